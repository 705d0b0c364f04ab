/-
  ArenaActs: the document's Move (fn 44).
-/
import Derived.Test.YtcdkcnegejhnhaaAaAppend
namespace Go.Proofs.Ytcdkcnegejhnhaa.Aa
open Go.RowKit Go.Proofs.Ytcdkcnegejhnhaa.PAr Go.Proofs.YtcdkcnegejhnhaaW.PrintWords Go.Proofs.YtcdkcnegejhnhaaW.PrintLast Go.Proofs.YtcdkcnegejhnhaaW.PrintMore
set_option linter.unusedVariables false
set_option linter.unusedSimpArgs false
/-- Where an item stands, written down. -/
def parTo (b : Nat) (par : List Int) (y : S115) : List Int := if 0 < y.f1 then par.set y.f1.toNat (b : Int) else par
/-- All that stands in a node stands in another one. -/
def Rm.move (R : Rm) (a b : Nat) : Rm := ⟨R.names, R.attrs, (R.inner.set a []).set b ((R.inner.set a []).getD b [] ++ R.inner.getD a []), (R.inner.getD a []).foldl (parTo b) R.par, R.copies⟩
theorem parTo_length (b : Nat) (par : List Int) (y : S115) : (parTo b par y).length = par.length := by
  unfold parTo
  split
  · rw [List.length_set]
  · rfl
theorem parTos_length (b : Nat) : ∀ (l : List S115) (par : List Int), (l.foldl (parTo b) par).length = par.length
  | [], _ => rfl
  | y :: l, par => by rw [List.foldl_cons, parTos_length b l, parTo_length]
theorem parTos_snoc {b : Nat} {l : List S115} {j : Nat} {y : S115} (h : l[j]? = some y) (par : List Int) : (l.take (j + 1)).foldl (parTo b) par = parTo b ((l.take j).foldl (parTo b) par) y := by
  rw [List.take_add_one, h, List.foldl_append]
  rfl
theorem rd115 {xs : List S115} {j : Nat} {y : S115} (h : xs[j]? = some y) : rd_T115 xs (j : Int) = y := by unfold rd_T115; rw [Int.toNat_natCast, List.getD_eq_getElem?_getD, h, Option.getD_some]
def move12.T5 : Bool × List (List Nat × List Nat) := (true, [([], []), ([0], [0]), ([], []), ([], []), ([], []), ([4], [4]), ([], []), ([5, 6], [5, 6]), ([7], [7]), ([3, 8], [3, 8]), ([], []), ([9, 10, 9], [9, 10]), ([1, 2, 0, 1, 2, 3, 4, 5, 6, 7, 8, 9, 10, 11], [1, 2]), ([12, 11, 11, 0, 1, 2, 3, 4, 5, 6, 7, 8, 9, 10, 11], [11, 12])])
def move12.B5 : List Nat := [0, 1, 0, 0, 0, 16, 0, 112, 240, 504, 0, 2040, 4095, 8191]
theorem move12.tab5 : rtab .any (opsOf Try.f44 5) = move12.T5 := by kernel_rfl
theorem move12.bits5 : waitsOk move12.T5.2 move12.B5 = true := by kernel_rfl
set_option maxRecDepth 100000 in
set_option maxHeartbeats 16000000 in
theorem move12_calls {W0 : World} {ok : Nat → Prop} {u0 u1 u2 u3 : Value} {R : Rm} (h : RA W0 ok u0 u1 u2 u3 R) (a b : Nat) (ha : a < R.inner.length) (hb : b < R.inner.length) (hpp : 0 < R.par.length) (hq : ∀ l ∈ R.inner, ∀ y ∈ l, y.f1 < R.par.length)
    (hn : R.inner.length ≤ 1000 ∧ R.par.length ≤ 1000) (hx : ∀ l ∈ R.inner, l.length ≤ 100000) :
    Calls Try.prog 44 #[.agg #[u0, u1, u2, u3, .int .i64 R.copies], .int .i64 (a : Int), .int .i64 (b : Int)] W0 fun e w' => ∃ v2 v3, e = .returned (.agg #[u0, u1, v2, v3, .int .i64 R.copies]) ∧
      RA w' (fun k => ok k ∨ W0.heap.size ≤ k) u0 u1 v2 v3 (R.move a b) ∧ Below W0.heap.size W0 w' := by
  have hr0 := h.r0.bound
  have hr1 := h.r1.bound
  have HR0 := Lib.hid hr0
  have HR1 := Lib.hid hr1
  obtain ⟨B2, d2, rfl, le2, f2⟩ := h.r2.bound
  obtain ⟨B3, d3, rfl, le3, f3⟩ := h.r3.bound
  obtain ⟨B0, d0, rfl, _, _⟩ := hr0
  obtain ⟨B1, d1, rfl, _, _⟩ := hr1
  have HF2 := Lib.hid f2
  have HF3 := Lib.hid f3
  have HN := Lib.hid hn
  have HX := Lib.hid hx
  obtain ⟨n2, n3⟩ := hn
  clear h f2 f3 le2 le3 hx
  go_enter Try.func44, Try.ntmps44
  go_upto_region 1 with (fail)
  have HB := Lib.hid (((Below.refl W0.heap.size W0).alloc (Nat.le_refl _) (.cells #[.slice B0 R.names.length d0, .slice B1 R.attrs.length d1, .slice B2 R.inner.length d2, .slice B3 R.par.length d3, .int .i64 R.copies] 62)).alloc (by simp) (.cells #[.slice none 0 0, .slice none 0 0, .slice none 0 0, .slice none 0 0, .int .i64 0] 62))
  have XB := Lib.hid (blk_alloc (blk_new W0 (.cells #[.slice B0 R.names.length d0, .slice B1 R.attrs.length d1, .slice B2 R.inner.length d2, .slice B3 R.par.length d3, .int .i64 R.copies] 62)) (.cells #[.slice none 0 0, .slice none 0 0, .slice none 0 0, .slice none 0 0, .int .i64 0] 62))
  have XR := Lib.hid (show ((W0.alloc (.cells #[.slice B0 R.names.length d0, .slice B1 R.attrs.length d1, .slice B2 R.inner.length d2, .slice B3 R.par.length d3, .int .i64 R.copies] 62)).alloc (.cells #[.slice none 0 0, .slice none 0 0, .slice none 0 0, .slice none 0 0, .int .i64 0] 62)).heap[W0.heap.size + 1]? = some (.cells #[.slice none 0 0, .slice none 0 0, .slice none 0 0, .slice none 0 0, .int .i64 0] 62 (0, 0)) by
    have := blk_new (W0.alloc (.cells #[.slice B0 R.names.length d0, .slice B1 R.attrs.length d1, .slice B2 R.inner.length d2, .slice B3 R.par.length d3, .int .i64 R.copies] 62)) (.cells #[.slice none 0 0, .slice none 0 0, .slice none 0 0, .slice none 0 0, .int .i64 0] 62)
    rwa [World.size_alloc] at this)
  generalize hw : (W0.alloc _).alloc _ = w1 at *
  clear hw
  have hs1 := Lib.hid (show W0.heap.size + 2 ≤ w1.heap.size from blk_lt XR.out)
  have NL := Lib.hid (Kd.N_mono (ok' := Ok ok W0) (Kd.N_lower (N_lit (Kd.slice 115 k115) 112 w1 (W0.heap.size + 2) hs1.out) (Nat.le_add_right _ 2)) (fun k hk => .inr hk))
  have BL := Lib.hid (HB.out.alloc HB.out.size (.cells #[] 112))
  have XL := Lib.hid (blk_alloc XB.out (.cells #[] 112))
  have gl := blk_cell XL.out 2
  try simp only [List.getElem?_toArray, List.getElem?_cons_zero, List.getElem?_cons_succ] at gl
  go_upto_region 2 with (refine Kd.N_append_rows (Kd.slice 115 k115) (w0 := W0) (W := w1.alloc (.cells #[] 112)) W0.heap.size rfl (.tmp 9) (.tmp 11) 60 112 (.slice none 0 0) 24 rfl Try.underlying60 info112 rfl (by decide) (by decide) (.slice (some ⟨w1.heap.size, 0, none⟩) 0 0) [] R.inner B2 R.inner.length d2 (Ok ok W0) (fun k => ok k ∧ k < W0.heap.size) rfl rfl NL.out (Kd.F_below HF2.out BL.out) (fun k hk => ⟨.inl hk, fun e => by have := Kd.N_base NL.out k e.symm; omega⟩) (fun k hk => .inr (Nat.le_trans hs1.out (Nat.le_trans (by simp) hk))) BL.out BL.out.size (by simp; omega) ?_; intro va wa hna hba hga hata; rw [List.nil_append] at hna; obtain ⟨A10, k10, rfl⟩ := Kd.N_slice hna; have NA := Lib.hid hna; have BA := Lib.hid hba; have XA := Lib.hid (blk_grown XL.out hga (Kd.N_ne NL.out XL.out (by decide))); have YA := Lib.hid (blk_grown (blk_alloc XR.out (.cells #[] 112)) hga (Kd.N_ne NL.out (blk_alloc XR.out (.cells #[] 112)) (by decide))); have gs := blk_cell XA.out 2; have gf := blk_frozen XA.out 2; clear hna hba hga hata)
  have HB2 := Lib.hid (BA.out.setCell (p := ⟨W0.heap.size, 2, none⟩) (Nat.le_refl _) (.slice A10 R.inner.length k10))
  have XB2 := Lib.hid (show (wa.setCell ⟨W0.heap.size, 2, none⟩ (.slice A10 R.inner.length k10)).heap[W0.heap.size]? = some (.cells #[(.slice B0 R.names.length d0), (.slice B1 R.attrs.length d1), (.slice A10 R.inner.length k10), (.slice B3 R.par.length d3), (.int .i64 R.copies)] 62 (0, 0)) from blk_put XA.out 2 (.slice A10 R.inner.length k10) rfl)
  have XR2 := Lib.hid ((Below.heap_setCell wa ⟨W0.heap.size, 2, none⟩ (.slice A10 R.inner.length k10) (W0.heap.size + 1) (by simp)).trans YA.out)
  have NI := Lib.hid (Kd.N_step (w1 := wa.setCell ⟨W0.heap.size, 2, none⟩ (.slice A10 R.inner.length k10)) NA.out fun k hk _ => Below.heap_setCell wa _ _ k (fun e => by simp only at e; rcases hk with ⟨_, hk⟩ | hk <;> omega))
  generalize hw2 : wa.setCell ⟨W0.heap.size, 2, none⟩ (.slice A10 R.inner.length k10) = w2 at *
  clear hw2 NA BA XA YA NL BL XL gl gs gf HB XB XR
  have hs2 := Lib.hid (show W0.heap.size + 2 ≤ w2.heap.size from blk_lt XR2.out)
  have NL := Lib.hid (Kd.N_lower (N_lit (Kd.int .i64) 3 w2 w2.heap.size (Nat.le_refl _)) HB2.out.size)
  have BL := Lib.hid (HB2.out.alloc HB2.out.size (.cells #[] 3))
  have XL := Lib.hid (blk_alloc XB2.out (.cells #[] 3))
  have gl := blk_cell XL.out 3
  try simp only [List.getElem?_toArray, List.getElem?_cons_zero, List.getElem?_cons_succ] at gl
  go_upto_region 3 with (refine Kd.N_append_rows (Kd.int .i64) (w0 := W0) (W := w2.alloc (.cells #[] 3)) W0.heap.size rfl (.tmp 14) (.tmp 16) 53 3 (.int .i64 0) 8 rfl Try.underlying53 info3 rfl (by decide) (by decide) (.slice (some ⟨w2.heap.size, 0, none⟩) 0 0) [] R.par B3 R.par.length d3 (fun k => w2.heap.size ≤ k ∨ (ok k ∧ k < W0.heap.size)) (fun k => ok k ∧ k < W0.heap.size) rfl rfl (Kd.N_mono NL.out fun k hk => .inl hk) (Kd.F_below HF3.out BL.out) (fun k hk => ⟨.inr hk, fun e => by have := NL.out.1 k e.symm; have := hs2.out; have := hk.2; omega⟩) (fun k hk => .inl (Nat.le_trans (by simp) hk)) BL.out BL.out.size (by simp; omega) ?_; intro va wa hna hba hga hata; rw [List.nil_append] at hna; obtain ⟨A11, k11, rfl⟩ := Kd.N_slice hna; have NA := Lib.hid hna; have BA := Lib.hid hba; have XA := Lib.hid (blk_grown XL.out hga (Kd.N_ne NL.out XL.out (by decide))); have YA := Lib.hid (blk_grown (blk_alloc XR2.out (.cells #[] 3)) hga (Kd.N_ne NL.out (blk_alloc XR2.out (.cells #[] 3)) (by decide))); have OA := Lib.hid (own_after hata); have NI2 := Lib.hid (N_after_lit NI.out hga); have gs := blk_cell XA.out 3; have gf := blk_frozen XA.out 3; clear hna hba hga hata)
  have MD := Lib.hid (show Mid W0 (wa.setCell ⟨W0.heap.size, 3, none⟩ (.slice A11 R.par.length k11)) ok (.slice B0 R.names.length d0) (.slice B1 R.attrs.length d1) (.slice A10 R.inner.length k10) (.slice A11 R.par.length k11) R.copies R.inner R.par from by
    have hsz := HB2.out.size
    have hs := hs2.out
    exact {
      bel := BA.out.setCell (p := ⟨W0.heap.size, 3, none⟩) (Nat.le_refl _) _
      box := blk_put XA.out 3 (.slice A11 R.par.length k11) rfl
      res := (Below.heap_setCell wa ⟨W0.heap.size, 3, none⟩ _ (W0.heap.size + 1) (by simp)).trans YA.out
      ni := Kd.N_mono (Kd.N_step NI2.out fun k hk _ => Below.heap_setCell wa _ _ k (fun e => by simp only at e; rcases hk.1 with ⟨_, hk1⟩ | hk1 <;> omega)) fun k hk => ⟨hk.1, fun e => by have := OA.out k e; have := hk.2; omega⟩
      np := Kd.N_mono (Kd.N_step (N_tight NA.out) fun k hk _ => Below.heap_setCell wa _ _ k (fun e => by simp only at e; have := OA.out k hk.1; omega)) fun k hk => ⟨hk.1, by have := OA.out k hk.1; omega⟩ })
  generalize hw3 : wa.setCell ⟨W0.heap.size, 3, none⟩ (.slice A11 R.par.length k11) = w3 at *
  clear hw3 NA BA XA YA NL BL XL gl gs gf HB2 XB2 XR2 NI NI2 OA hs1 hs2 HF2 HF3 n2 n3
  obtain ⟨gI, cI, hvI⟩ : ∃ g c, (Value.slice A10 R.inner.length k10) = .slice (some ⟨g, 0, none⟩) R.inner.length c := by
    obtain ⟨g, cap, hu, _⟩ := Kd.N_form MD.out.ni (by omega)
    exact ⟨g, cap, hu⟩
  injection hvI with hA10 _ hk10
  subst hA10 hk10
  obtain ⟨ls, hls⟩ : ∃ ls, R.inner[a]? = some ls := ⟨_, List.getElem?_eq_getElem ha⟩
  have HLS := Lib.hid hls
  have HLL := Lib.hid (HX.out ls (List.mem_of_getElem? hls))
  have HLQ := Lib.hid (hq ls (List.mem_of_getElem? hls))
  have HPF : Hid (∃ g c, (Value.slice A11 R.par.length k11) = .slice (some ⟨g, 0, none⟩) R.par.length c) := Lib.hid (by
    obtain ⟨g, cap, hu, _⟩ := Kd.N_form MD.out.np hpp
    exact ⟨g, cap, hu⟩)
  obtain ⟨gP, cP, hvP⟩ := HPF.out
  injection hvP with hA11 _ hk11
  subst hA11 hk11
  clear HPF
  have hgp : gI ≠ gP := fun e => by
    have h1 := MD.out.ni.1 gI rfl
    exact h1.2 (by rw [e]; rfl)
  have HGP := Lib.hid hgp
  have ha0 : (0 : Int) ≤ (a : Int) := by omega
  have ha1 : (a : Int) < (R.inner.length : Int) := by omega
  have hb0 : (0 : Int) ≤ (b : Int) := by omega
  have hb1 : (b : Int) < (R.inner.length : Int) := by omega
  have nl0 : (R.inner.length : Int) ≤ 1000 := by have := HN.out; omega
  have pl0 : (R.par.length : Int) ≤ 1000 := by have := HN.out; omega
  have b2 := blk_cell MD.out.box 2
  obtain ⟨Al, cl, lc, lf, lle, lF⟩ := MD.out.at_inner rfl ha hls
  have LLE := Lib.hid lle
  have LF0 := Lib.hid lF
  try simp only [List.getElem?_toArray, List.getElem?_cons_zero, List.getElem?_cons_succ] at b2
  clear lle lF hls
  have hgb : W0.heap.size ≠ gI := fun e => by have := MD.out.ni.1 gI rfl; rcases this.1 with ⟨_, h⟩ | h <;> omega
  have hgbp : W0.heap.size ≠ gP := fun e => by have := MD.out.np.1 gP rfl; omega
  go_upto_region 4 with fail
  go_upto_region 5 with fail
  have M4 := Lib.hid (MD.out.setInner (j := a) rfl ha (A := none) (c' := 0) (xs := []) (okx := fun _ => False) (Nat.le_refl _) (Kd.F_nil _ _ _) (fun k hk => hk.elim))
  have LF := Lib.hid (Kd.F_mono (Kd.F_step (W1 := w3.setCell ⟨gI, a, none⟩ (.slice none 0 0)) LF0.out (fun k hk _ => Below.heap_setCell w3 _ _ k hk.2)) (fun k hk => hk))
  generalize hw4 : w3.setCell ⟨gI, a, none⟩ _ = w4 at *
  clear hw4 LF0 MD b2 lc lf
  go_cut [] from 28 (fun wd => Hid (Mid W0 wd ok (.slice B0 R.names.length d0) (.slice B1 R.attrs.length d1) (.slice (some ⟨gI, 0, none⟩) R.inner.length k10) (.slice (some ⟨gP, 0, none⟩) R.par.length k11) R.copies ((R.inner.set a []).set b ((R.inner.set a []).getD b [] ++ ls)) R.par) ∧ Hid (Kd.F k115 wd (fun k => (Ok ok W0 k ∧ (Value.slice (some ⟨gP, 0, none⟩) R.par.length k11).ownBlock ≠ some k) ∧ k ≠ gI) Al ls.length ls))
  case first =>
    have hpl : b < (R.inner.set a []).length := by rw [List.length_set]; exact hb
    obtain ⟨zs, hzs⟩ : ∃ zs, (R.inner.set a [])[b]? = some zs := ⟨_, List.getElem?_eq_getElem hpl⟩
    have HZS := Lib.hid hzs
    have HZL : Hid (zs.length ≤ 100000) := Lib.hid (by
      rcases List.mem_or_eq_of_mem_set (List.mem_of_getElem? hzs) with h | h
      · exact HX.out zs h
      · subst h; simp)
    have M6 := Lib.hid (M4.out.below (w1 := w4.drew) ⟨rfl, rfl, rfl, Nat.le_refl _, fun _ _ => rfl⟩)
    obtain ⟨Az, cz, zc, zf, zle, zF⟩ := M6.out.at_inner (j := b) rfl (by omega) hzs
    have ZF := Lib.hid (Kd.F_bound zF)
    have ZL := Lib.hid zle
    have LG : Hid (Kd.F k115 w4.drew (fun k => (Ok ok W0 k ∧ (Value.slice (some ⟨gP, 0, none⟩) R.par.length k11).ownBlock ≠ some k) ∧ k ≠ gI) Al ls.length ls) := Lib.hid (Kd.F_drew LF.out)
    have HGI := Lib.hid (Kd.N_lt M6.out.ni gI rfl)
    have HGP2 := Lib.hid (Kd.N_lt M6.out.np gP rfl)
    have HLT := Lib.hid M6.out.lt
    have f2 : w4.drew.cell? ⟨W0.heap.size, 2, none⟩ = some (.slice (some ⟨gI, 0, none⟩) R.inner.length k10) := blk_cell M6.out.box 2
    have HB6 := Lib.hid (Below.refl w4.drew.heap.size w4.drew)
    clear zF zle zf hzs M4 LF
    refine start_ (n := 14) (S := fun w' => w'.cell? ⟨W0.heap.size, 2, none⟩ = some (.slice (some ⟨gI, 0, none⟩) R.inner.length k10) ∧ w'.cell? ⟨gI, b, none⟩ = some (.slice Az zs.length cz)) (ds := [13]) #[false, false, false, false, false, false, false, false, false, false, false, false, false, false] (by kernel_rfl) rfl rfl ⟨f2, zc⟩ (fun hHeld => ?_); refine with_tabW move12.tab5 move12.bits5 (fun HT_ HW_ => ?_)
    generalize hq6 : w4.drew = w6 at *
    clear hq6
    refine pure_ (i := 0) (N := (some 28)) (v := ?_) (a' := ?_) #[true, false, false, false, false, false, false, false, false, false, false, false, false, false] rfl rfl (any_of HT_.out (by kernel_rfl)) (fun _ _ _ h => h) (Or.inl ⟨by rfl, ?_⟩) ?_ ?_
    rotate_left
    · intro w'
      go_simp
      with_reducible rfl
    rotate_left
    · simp only [Act.put, List.setIfInBounds_toArray, List.set_cons_zero, List.set_cons_succ, i64_w, i32_w]
      rfl
    refine pure_ (i := 2) (N := (some 30)) (v := ?_) (a' := ?_) #[true, false, true, false, false, false, false, false, false, false, false, false, false, false] rfl rfl (any_of HT_.out (by kernel_rfl)) (fun _ _ _ h => h) (Or.inl ⟨by rfl, ?_⟩) ?_ ?_
    rotate_left
    · intro w'
      go_simp
      with_reducible rfl
    rotate_left
    · simp only [Act.put, List.setIfInBounds_toArray, List.set_cons_zero, List.set_cons_succ, i64_w, i32_w]
      rfl
    refine pure_ (i := 4) (N := (some 32)) (v := ?_) (a' := ?_) #[true, false, true, false, true, false, false, false, false, false, false, false, false, false] rfl rfl (any_of HT_.out (by kernel_rfl)) (fun _ _ _ h => h) (Or.inl ⟨by rfl, ?_⟩) ?_ ?_
    rotate_left
    · intro w'
      go_simp
      with_reducible rfl
    rotate_left
    · simp only [Act.put, List.setIfInBounds_toArray, List.set_cons_zero, List.set_cons_succ, i64_w, i32_w]
      rfl
    refine pure_ (i := 6) (N := (some 34)) (v := ?_) (a' := ?_) #[true, false, true, false, true, false, true, false, false, false, false, false, false, false] rfl rfl (any_of HT_.out (by kernel_rfl)) (fun _ _ _ h => h) (Or.inl ⟨by rfl, ?_⟩) ?_ ?_
    rotate_left
    · intro w'
      go_simp
      with_reducible rfl
    rotate_left
    · simp only [Act.put, List.setIfInBounds_toArray, List.set_cons_zero, List.set_cons_succ, i64_w, i32_w]
      rfl
    refine pure_ (i := 10) (N := (some 38)) (v := ?_) (a' := ?_) #[true, false, true, false, true, false, true, false, false, false, true, false, false, false] rfl rfl (any_of HT_.out (by kernel_rfl)) (fun _ _ _ h => h) (Or.inl ⟨by rfl, ?_⟩) ?_ ?_
    rotate_left
    · intro w'
      go_simp
      with_reducible rfl
    rotate_left
    · simp only [Act.put, List.setIfInBounds_toArray, List.set_cons_zero, List.set_cons_succ, i64_w, i32_w]
      rfl
    refine take_ (i := 1) (N := (some 29)) (v := ?_) (a' := ?_) #[true, true, true, false, true, false, true, false, false, false, true, false, false, false] rfl rfl (take_ofW HT_.out HW_.out (by kernel_rfl)) (fun _ _ _ h => h) (Or.inl ⟨by rfl, ?_⟩) hHeld ?_ ?_
    rotate_left
    · rintro w' ⟨s0, s1⟩
      go_simp
      with_reducible rfl
    rotate_left
    · simp only [Act.put, List.setIfInBounds_toArray, List.set_cons_zero, List.set_cons_succ, i64_w, i32_w]
      rfl
    refine take_ (i := 5) (N := (some 33)) (v := ?_) (a' := ?_) #[true, true, true, false, true, true, true, false, false, false, true, false, false, false] rfl rfl (take_ofW HT_.out HW_.out (by kernel_rfl)) (fun _ _ _ h => h) (Or.inl ⟨by rfl, ?_⟩) hHeld ?_ ?_
    rotate_left
    · rintro w' ⟨s0, s1⟩
      go_simp
      with_reducible rfl
    rotate_left
    · simp only [Act.put, List.setIfInBounds_toArray, List.set_cons_zero, List.set_cons_succ, i64_w, i32_w]
      rfl
    refine pure_ (i := 7) (N := (some 35)) (v := ?_) (a' := ?_) #[true, true, true, false, true, true, true, true, false, false, true, false, false, false] rfl rfl (any_of HT_.out (by kernel_rfl)) (fun _ _ _ h => h) (Or.inl ⟨by rfl, ?_⟩) ?_ ?_
    rotate_left
    · intro w'
      go_simp
      with_reducible rfl
    rotate_left
    · simp only [Act.put, List.setIfInBounds_toArray, List.set_cons_zero, List.set_cons_succ, i64_w, i32_w]
      rfl
    refine take_ (i := 8) (N := (some 36)) (v := ?_) (a' := ?_) #[true, true, true, false, true, true, true, true, true, false, true, false, false, false] rfl rfl (take_ofW HT_.out HW_.out (by kernel_rfl)) (fun _ _ _ h => h) (Or.inl ⟨by rfl, ?_⟩) hHeld ?_ ?_
    rotate_left
    · rintro w' ⟨s0, s1⟩
      go_simp
      with_reducible rfl
    rotate_left
    · simp only [Act.put, List.setIfInBounds_toArray, List.set_cons_zero, List.set_cons_succ, i64_w, i32_w]
      rfl
    refine one_ (i := 3) (N := (some 31)) #[true, true, true, true, true, true, true, true, true, false, true, false, false, false] rfl rfl (one_of HT_.out (by kernel_rfl)) (by decide) (fun K hK => ?_)
    go_simp
    have NL1 := Lib.hid (Kd.N_mono (ok' := (fun k => (Ok ok W0 k ∧ (Value.slice (some ⟨gP, 0, none⟩) R.par.length k11).ownBlock ≠ some k) ∧ k ≠ gI)) (Kd.N_lower (N_lit k115 115 w6 w6.heap.size (Nat.le_refl _)) HB6.out.size) (fun k hk => ⟨⟨.inr (by have h1 := HLT.out; have h5 := HB6.out.size; omega), fun e => by have h1 : gP = k := Option.some.inj e; have h2 := HGP2.out; have h5 := HB6.out.size; omega⟩, fun e => by have h2 := HGI.out; have h5 := HB6.out.size; omega⟩))
    have B1 := Lib.hid (HB6.out.alloc HB6.out.size (.cells #[] 115))
    generalize hq1 : w6.alloc (.cells #[] 115) = wn1 at *
    refine hK.out _ _ ⟨pw_cell_below B1.out f2, pw_cell_below B1.out zc⟩ (fun hHeld => ?_)
    clear hK K
    (try simp only [Act.put, List.setIfInBounds_toArray, List.set_cons_zero, List.set_cons_succ])
    refine one_ (i := 9) (N := (some 37)) #[true, true, true, true, true, true, true, true, true, true, true, false, false, false] rfl rfl (one_of HT_.out (by kernel_rfl)) (by decide) (fun K hK => ?_)
    refine Kd.N_append_rows_step k115 (w0 := w6) (W := wn1) w6.heap.size (by rfl) (.tmp 31) (.tmp 36) 112 115 (.agg #[(.string ⟨#[]⟩), (.int .i64 0)]) 24 ?_ Try.underlying112 info115 rfl (by decide) (by decide) (.slice (some ⟨w6.heap.size, 0, none⟩) 0 0) [] zs Az zs.length cz (fun k => (Ok ok W0 k ∧ (Value.slice (some ⟨gP, 0, none⟩) R.par.length k11).ownBlock ≠ some k) ∧ k ≠ gI) (fun k => ((Ok ok W0 k ∧ (Value.slice (some ⟨gP, 0, none⟩) R.par.length k11).ownBlock ≠ some k) ∧ k ≠ gI) ∧ k < w6.heap.size) ?_ ?_ NL1.out (Kd.F_below ZF.out B1.out) (fun k hk => ⟨hk.1, fun e => by have h5 := Kd.N_base NL1.out k e.symm; have h6 := hk.2; omega⟩) (fun k hk => ⟨⟨.inr (by have h1 := HLT.out; have h5 := B1.out.size; omega), fun e => by have h1 : gP = k := Option.some.inj e; have h2 := HGP2.out; have h5 := B1.out.size; omega⟩, fun e => by have h2 := HGI.out; have h5 := B1.out.size; omega⟩) B1.out B1.out.size (by have := HZL.out; simp; omega) ?_
    rfl
    rfl
    rfl
    intro u2 wn2 hn2 hb2 hg2 hat2
    rw [List.nil_append] at hn2
    have NL2 := Lib.hid hn2
    have B2 := Lib.hid hb2
    clear hn2 hb2 hg2 hat2
    refine hK.out _ _ ⟨pw_cell_below B2.out f2, pw_cell_below B2.out zc⟩ (fun hHeld => ?_)
    clear hK K
    (try simp only [Act.put, List.setIfInBounds_toArray, List.set_cons_zero, List.set_cons_succ])
    refine one_ (i := 11) (N := (some 39)) #[true, true, true, true, true, true, true, true, true, true, true, true, false, false] rfl rfl (one_of HT_.out (by kernel_rfl)) (by decide) (fun K hK => ?_)
    refine Kd.N_append_rows_step k115 (w0 := w6) (W := wn2) w6.heap.size (by rfl) (.tmp 37) (.tmp 38) 112 115 (.agg #[(.string ⟨#[]⟩), (.int .i64 0)]) 24 ?_ Try.underlying112 info115 rfl (by decide) (by decide) u2 zs ls Al ls.length cl (fun k => (Ok ok W0 k ∧ (Value.slice (some ⟨gP, 0, none⟩) R.par.length k11).ownBlock ≠ some k) ∧ k ≠ gI) (fun k => ((Ok ok W0 k ∧ (Value.slice (some ⟨gP, 0, none⟩) R.par.length k11).ownBlock ≠ some k) ∧ k ≠ gI) ∧ k < w6.heap.size) ?_ ?_ NL2.out (Kd.F_below (Kd.F_bound LG.out) B2.out) (fun k hk => ⟨hk.1, fun e => by have h5 := Kd.N_base NL2.out k e.symm; have h6 := hk.2; omega⟩) (fun k hk => ⟨⟨.inr (by have h1 := HLT.out; have h5 := B2.out.size; omega), fun e => by have h1 : gP = k := Option.some.inj e; have h2 := HGP2.out; have h5 := B2.out.size; omega⟩, fun e => by have h2 := HGI.out; have h5 := B2.out.size; omega⟩) B2.out B2.out.size (by have := HZL.out; have := HLL.out; omega) ?_
    rfl
    rfl
    rfl
    intro u3 wn3 hn3 hb3 hg3 hat3
    obtain ⟨Au3, ku3, rfl⟩ := Kd.N_slice hn3
    obtain ⟨yz, hyz⟩ : ∃ y, zs ++ ls = y := ⟨_, rfl⟩
    have HYZ := Lib.hid hyz
    rw [hyz] at hn3 ⊢
    obtain ⟨Av3, cv3, hv3, hle3, _⟩ := Kd.N_reads hn3
    injection hv3 with e1 e2 e3
    subst e1 e3
    have NL3 := Lib.hid hn3
    have VL3 := Lib.hid hle3
    have B3 := Lib.hid hb3
    have HM7 := Lib.hid (M6.out.below hb3)
    have g7 := pw_cell_below hb3 zc
    have fr7 := (HM7.out.at_inner (j := b) rfl (by omega) HZS.out).choose_spec.choose_spec.2.1
    clear hyz hn3 hb3 hg3 hat3 hle3 e2
    refine hK.out _ _ ⟨pw_cell_below B3.out f2, pw_cell_below B3.out zc⟩ (fun hHeld => ?_)
    clear hK K
    (try simp only [Act.put, List.setIfInBounds_toArray, List.set_cons_zero, List.set_cons_succ])
    refine pure_ (i := 12) (N := (some 40)) (v := ?_) (a' := ?_) #[true, true, true, true, true, true, true, true, true, true, true, true, true, false] rfl rfl (any_of HT_.out (by kernel_rfl)) (fun _ _ _ h => h) (Or.inl ⟨by rfl, ?_⟩) ?_ ?_
    rotate_left
    · intro w'
      go_simp
      with_reducible rfl
    rotate_left
    · simp only [Act.put, List.setIfInBounds_toArray, List.set_cons_zero, List.set_cons_succ, i64_w, i32_w]
      rfl
    refine last_ (i := 13) (N := none) #[true, true, true, true, true, true, true, true, true, true, true, true, true, true] rfl rfl (one_of HT_.out (by kernel_rfl)) (by decide) (fun K hK => ?_)
    go_simp
    refine hK.out _ _ ?_
    clear hK K
    refine done_ (done_of HT_.out (by kernel_rfl)) ?_
    have HM8 := Lib.hid (HM7.out.setInner (j := b) rfl (by omega) VL3.out (Kd.N_F NL3.out) (fun k hk => ⟨hk.1.1, hk.1.2, hk.2⟩))
    have LG8 := Lib.hid (Kd.F_step (W1 := wn3.setCell ⟨gI, b, none⟩ (.slice Au3 yz.length ku3)) (Kd.F_below LG.out B3.out) (fun k hk _ => Below.heap_setCell wn3 _ _ k hk.2))
    go_wp2_with fail
    go_meet
    exact ⟨Lib.hid (by rw [List.getD_eq_getElem?_getD, HZS.out, Option.getD_some, HYZ.out]; exact HM8.out), LG8⟩
  case rest =>
    obtain ⟨HM, LF⟩ := hcut
    clear M4
    have HM1 := HM
    go_wp2_with fail
    go_loopg [8] (ls.length + 1) (fun gg s8 wr => ∃ j : Nat, s8 = .int .i64 (j : Int) ∧ j ≤ ls.length ∧ j + gg = ls.length + 1 ∧ Hid (Mid W0 wr ok (.slice B0 R.names.length d0) (.slice B1 R.attrs.length d1) (.slice (some ⟨gI, 0, none⟩) R.inner.length k10) (.slice (some ⟨gP, 0, none⟩) R.par.length k11) R.copies ((R.inner.set a []).set b ((R.inner.set a []).getD b [] ++ ls)) ((ls.take j).foldl (parTo b) R.par)) ∧ Hid (Kd.F k115 wr (fun k => (Ok ok W0 k ∧ (Value.slice (some ⟨gP, 0, none⟩) R.par.length k11).ownBlock ≠ some k) ∧ k ≠ gI) Al ls.length ls))
    case atStart => exact ⟨0, rfl, Nat.zero_le _, by omega, HM, LF⟩
    case round =>
      clear HM LF HM1
      obtain ⟨j, rfl, hj, hgk, HM, LF⟩ := hrel
      have hj0 : (0 : Int) ≤ (j : Int) := by omega
      have ll0 : (ls.length : Int) ≤ 100000 := by have := HLL.out; omega
      by_cases hlt : j < ls.length
      · obtain ⟨y, hy⟩ : ∃ y, ls[j]? = some y := ⟨_, List.getElem?_eq_getElem hlt⟩
        have hltz : (j : Int) < (ls.length : Int) := by omega
        obtain ⟨ad, hAd, y0, y1⟩ := at_T115 (Kd.F_now LF.out) (j : Int) hj0 (by omega)
        subst hAd
        rw [rd115 hy, Int.toNat_natCast] at y0 y1
        have hyq := HLQ.out y (List.mem_of_getElem? hy)
        have hw1 : IntKind.i64.wrap ((j : Int) + 1) = ((j + 1 : Nat) : Int) := by rw [IntWalk.i64_in _ (by omega)]; rfl
        by_cases h0 : 0 < y.f1
        · obtain ⟨e, he⟩ : ∃ e : Nat, y.f1 = (e : Int) := ⟨y.f1.toNat, by omega⟩
          rw [he] at y1 h0 hyq
          have heP : e < R.par.length := by omega
          have he0 : (0 : Int) ≤ (e : Int) := by omega
          have heL : e < ((ls.take j).foldl (parTo b) R.par).length := by rw [parTos_length]; exact heP
          have hPT : parTo b ((ls.take j).foldl (parTo b) R.par) y = ((ls.take j).foldl (parTo b) R.par).set e (b : Int) := by unfold parTo; rw [he, if_pos h0, Int.toNat_natCast]
          have HPT := Lib.hid hPT
          have HY := Lib.hid hy
          obtain ⟨x, hx⟩ : ∃ x, ((ls.take j).foldl (parTo b) R.par)[e]? = some x := ⟨_, List.getElem?_eq_getElem heL⟩
          have MDd := Lib.hid (HM.out.below (w1 := wr.drew) ⟨rfl, rfl, rfl, Nat.le_refl _, fun _ _ => rfl⟩)
          have LFd := Lib.hid (Kd.F_drew LF.out)
          have LF1 := Lib.hid (Kd.F_step (W1 := wr.drew.setCell ⟨gP, e, none⟩ (.int .i64 (b : Int))) LFd.out (fun k hk _ => Below.heap_setCell wr.drew _ _ k (fun h => hk.1.2 (by rw [h]; rfl))))
          obtain ⟨ad2, hAd2, _, z1⟩ := at_T115 (Kd.F_now LF1.out) (j : Int) hj0 (by omega)
          cases hAd2
          rw [rd115 hy, Int.toNat_natCast, he] at z1
          have t3 : wr.drew.cell? ⟨W0.heap.size, 3, none⟩ = some (.slice (some ⟨gP, 0, none⟩) R.par.length k11) := blk_cell MDd.out.box 3
          have t1 : wr.drew.cell? ⟨(ad.add (j * 2)).block, (ad.add (j * 2)).off + 1, none⟩ = some (.int .i64 (e : Int)) := y1
          obtain ⟨tc, tf⟩ := MDd.out.at_par rfl heP hx
          have HM9 := Lib.hid (MDd.out.setPar rfl heP (b : Int))
          clear hPT hy hx hyq
          go_wp2_with fail
          clear y0 y1
          go_region_held3 (fun w' => w'.cell? ⟨W0.heap.size, 3, none⟩ = some (.slice (some ⟨gP, 0, none⟩) R.par.length k11) ∧ w'.cell? ⟨(ad.add (j * 2)).block, (ad.add (j * 2)).off + 1, none⟩ = some (.int .i64 (e : Int))) (first | assumption | exact ⟨t3, t1⟩ | exact ⟨(cell_far hgbp _).trans t3, z1⟩) (fail)
          clear t3 t1 tc tf z1
          go_wp2_with fail
          go_roundg (gk - 1)
          case measure => omega
          case rel => exact ⟨j + 1, by first | rfl | go_num, by omega, by omega, Lib.hid (by rw [parTos_snoc HY.out, HPT.out]; exact HM9.out), LF1⟩
        · have hPT : parTo b ((ls.take j).foldl (parTo b) R.par) y = (ls.take j).foldl (parTo b) R.par := by unfold parTo; rw [if_neg h0]
          have HPT := Lib.hid hPT
          have HY := Lib.hid hy
          clear hPT hy hyq
          go_wp2_with fail
          go_roundg (gk - 1)
          case measure => omega
          case rel => exact ⟨j + 1, by first | rfl | go_num, by omega, by omega, Lib.hid (by rw [parTos_snoc HY.out, HPT.out]; exact HM.out), LF⟩
      · obtain rfl : j = ls.length := by omega
        have hltz : ¬ ((ls.length : Int) < (ls.length : Int)) := by omega
        have HM8 := HM
        have hgd : R.inner.getD a [] = ls := by rw [List.getD_eq_getElem?_getD, HLS.out, Option.getD_some]
        have hmv : R.move a b = ⟨R.names, R.attrs, ((R.inner.set a []).set b ((R.inner.set a []).getD b [] ++ ls)), (ls.take ls.length).foldl (parTo b) R.par, R.copies⟩ := by unfold Rm.move; rw [hgd, List.take_length]
        have HMV := Lib.hid hmv
        clear hgd hmv
        clear HM
        have b0 := blk_cell HM8.out.box 0
        have b1 := blk_cell HM8.out.box 1
        have b2 := blk_cell HM8.out.box 2
        have b3 := blk_cell HM8.out.box 3
        have b4 := blk_cell HM8.out.box 4
        have q0 := blk_cell HM8.out.res 0
        have q1 := blk_cell HM8.out.res 1
        have q2 := blk_cell HM8.out.res 2
        have q3 := blk_cell HM8.out.res 3
        have q4 := blk_cell HM8.out.res 4
        have f0 := blk_frozen HM8.out.res 0
        have f1 := blk_frozen HM8.out.res 1
        have f2 := blk_frozen HM8.out.res 2
        have f3 := blk_frozen HM8.out.res 3
        have f4 := blk_frozen HM8.out.res 4
        try simp only [List.getElem?_toArray, List.getElem?_cons_zero, List.getElem?_cons_succ] at b0 b1 b2 b3 b4 q0 q1 q2 q3 q4
        have X9 := blk_put (blk_put (blk_put (blk_put (blk_put HM8.out.res 0 (.slice B0 R.names.length d0) rfl) 1 (.slice B1 R.attrs.length d1) rfl) 2 (.slice (some ⟨gI, 0, none⟩) R.inner.length k10) rfl) 3 (.slice (some ⟨gP, 0, none⟩) R.par.length k11) rfl) 4 (.int .i64 R.copies) rfl
        have e0 := blk_cell X9 0
        have e1 := blk_cell X9 1
        have e2 := blk_cell X9 2
        have e3 := blk_cell X9 3
        have e4 := blk_cell X9 4
        try simp only [List.getElem?_toArray, List.getElem?_cons_zero, List.getElem?_cons_succ] at e0 e1 e2 e3 e4
        go_wp2_with fail
        refine bodyPost_ret (v := .agg #[(.slice B0 R.names.length d0), (.slice B1 R.attrs.length d1), (.slice (some ⟨gI, 0, none⟩) R.inner.length k10), (.slice (some ⟨gP, 0, none⟩) R.par.length k11), .int .i64 R.copies]) ?_ rfl ?_
        · simp [results, Try.f44, go_sem, e0, e1, e2, e3, e4]
        · rw [HMV.out]
          exact ⟨_, _, rfl, RA.box (HM8.out.rows2 HR0.out HR1.out) [(.slice B0 R.names.length d0), (.slice B1 R.attrs.length d1), (.slice (some ⟨gI, 0, none⟩) R.inner.length k10), (.slice (some ⟨gP, 0, none⟩) R.par.length k11), .int .i64 R.copies], (((((HM8.out.bel.setCell (p := ⟨W0.heap.size + 1, 0, none⟩) (by simp) _).setCell (p := ⟨W0.heap.size + 1, 1, none⟩) (by simp) _).setCell (p := ⟨W0.heap.size + 1, 2, none⟩) (by simp) _).setCell (p := ⟨W0.heap.size + 1, 3, none⟩) (by simp) _).setCell (p := ⟨W0.heap.size + 1, 4, none⟩) (by simp) _)⟩
end Go.Proofs.Ytcdkcnegejhnhaa.Aa
