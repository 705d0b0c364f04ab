/-
  ArenaActs: the document's Append (fn 42).
-/
import Derived.Test.YtcdkcnegejhnhaaAaMid
import Derived.Test.YtcdkcnegejhnhaaWTab
import Derived.Deep.RegionHeld3
namespace Go.Proofs.Ytcdkcnegejhnhaa.Aa
open Go.RowKit Go.Proofs.Ytcdkcnegejhnhaa.PAr Go.Proofs.YtcdkcnegejhnhaaW.PrintWords Go.Proofs.YtcdkcnegejhnhaaW.PrintLast Go.Proofs.YtcdkcnegejhnhaaW.PrintMore
set_option linter.unusedVariables false
set_option linter.unusedSimpArgs false
/-- What stands where, without i where it stood. -/
def Rm.leave (R : Rm) (i : Nat) : List (List S115) := match R.par[i]? with
  | some x => if 0 ≤ x then R.inner.set x.toNat ((R.inner.getD x.toNat []).filter (fun y => y.f1 != (i : Int))) else R.inner
  | none => R.inner
/-- An element stands in a node, behind all others. -/
def Rm.append (R : Rm) (p i : Nat) : Rm := ⟨R.names, R.attrs, (R.leave i).set p ((R.leave i).getD p [] ++ [⟨⟨#[]⟩, (i : Int)⟩]), R.par.set i (p : Int), R.copies⟩
theorem Rm.leave_in {R : Rm} {i q : Nat} {ys : List S115} (h : R.par[i]? = some (q : Int)) (hy : R.inner[q]? = some ys) : R.leave i = R.inner.set q (ys.filter (fun y => y.f1 != (i : Int))) := by
  unfold Rm.leave
  rw [h]
  show (if 0 ≤ (q : Int) then _ else _) = _
  rw [if_pos (by omega), Int.toNat_natCast, List.getD_eq_getElem?_getD, hy, Option.getD_some]
theorem Rm.leave_out {R : Rm} {i : Nat} {x : Int} (h : R.par[i]? = some x) (hx : ¬ 0 ≤ x) : R.leave i = R.inner := by
  unfold Rm.leave
  rw [h]
  show (if 0 ≤ x then _ else _) = _
  rw [if_neg hx]
theorem Rm.leave_length (R : Rm) (i : Nat) : (R.leave i).length = R.inner.length := by
  unfold Rm.leave
  split
  · split
    · rw [List.length_set]
    · rfl
  · rfl
theorem Rm.leave_le {R : Rm} {i n : Nat} (h : ∀ l ∈ R.inner, l.length ≤ n) : ∀ l ∈ R.leave i, l.length ≤ n := by
  unfold Rm.leave
  split
  · split
    · intro l hl
      rcases List.mem_or_eq_of_mem_set hl with hl | rfl
      · exact h l hl
      · refine Nat.le_trans (List.length_filter_le _ _) ?_
        rename_i x _ _
        rw [List.getD_eq_getElem?_getD]
        cases hq : R.inner[x.toNat]? with
        | none => simp
        | some ys => exact h ys (List.mem_of_getElem? hq)
    · exact h
  · exact h
theorem cell_far {w : World} {b g o q : Nat} (h : b ≠ g) (u : Value) : (w.setCell ⟨g, q, none⟩ u).cell? ⟨b, o, none⟩ = w.cell? ⟨b, o, none⟩ := World.cell?_setCell_other _ _ _ _ (fun e => h (congrArg Addr.block e).symm)
theorem N_tight115 {w : World} {base : Nat} {ok : Nat → Prop} {v : Value} {xs : List S115} (h : Kd.N k115 115 w base ok v xs) : Kd.N k115 115 w base (fun k => v.ownBlock = some k ∧ ok k) v xs := by
  obtain ⟨h0, rows, hl, hR, hf⟩ := h
  exact ⟨fun k hk => ⟨hk, h0 k hk⟩, rows, hl, hR, fun j x c hx hc W' _ => show k115.K W' x c from (show k115.K w x c from Kd.FK_now (hf j x c hx hc))⟩
/-- A literal of one item. -/
theorem F_lit1 (w : World) (x : S115) : Kd.F k115 (w.alloc (.cells #[.string x.f0, .int .i64 x.f1] 115)) (fun k => k = w.heap.size) (some ⟨w.heap.size, 0, none⟩) 1 [x] := by
  have h : Kd.N k115 115 (w.alloc (.cells #[.string x.f0, .int .i64 x.f1] 115)) w.heap.size (fun k => w.heap.size ≤ k) (.slice (some ⟨w.heap.size, 0, none⟩) 1 1) [x] :=
    Kd.R_N (Kd.R_lower ⟨fun k hk => by cases hk; exact Nat.le_refl _, OwnRow.lit w w.heap.size (Reps.c2 (k115_mkM _ _ _ x) (Reps.none _ _)) (Nat.le_refl _) (by simp)⟩ (Nat.le_refl _))
  refine Kd.F_mono (Kd.N_F (N_tight115 h)) fun k hk => ?_
  have : some w.heap.size = some k := hk.1
  injection this with this
  exact this.symm
/-- The changed arena's rows, apart from the two boxes. -/
theorem Mid.rows2 {W0 w : World} {ok : Nat → Prop} {u0 u1 vi vp : Value} {cp : Int} {inner : List (List S115)} {par : List Int} (h : Mid W0 w ok u0 u1 vi vp cp inner par) {names : List ByteArray} {attrs : List (List S106)} (r0 : RowF Kd.string W0 (fun k => ok k ∧ k < W0.heap.size) u0 names) (r1 : RowF (Kd.slice 106 k106) W0 (fun k => ok k ∧ k < W0.heap.size) u1 attrs) :
    RA w (Ok ok W0) u0 u1 vi vp ⟨names, attrs, inner, par, cp⟩ where
  r0 := (r0.step fun k hk _ => h.bel.block k hk.2).mono fun k hk => .inl hk
  r1 := (r1.step fun k hk _ => h.bel.block k hk.2).mono fun k hk => .inl hk
  r2 := (RowF.of_N h.ni).mono fun k hk => hk.1
  r3 := (RowF.of_N h.np).mono fun k hk => .inr hk.2
theorem RA.box {W0 w : World} {ok : Nat → Prop} {u0 u1 u2 u3 : Value} {R : Rm} (h : RA w (Ok ok W0) u0 u1 u2 u3 R) (vs : List Value) : RA (w.setCells (W0.heap.size + 1) 0 vs) (fun k => ok k ∨ W0.heap.size ≤ k) u0 u1 u2 u3 R :=
  RA.mono (RA.step h fun k hk _ => setCells_far _ 0 k (fun e => by rcases hk with h | h <;> omega)) fun k hk => hk.elim (fun e => .inl e.1) (fun e => .inr (by omega))
def append12.T4 : Bool × List (List Nat × List Nat) := (true, [([], []), ([0], [0]), ([], []), ([2], [2]), ([], []), ([3, 4], [3, 4]), ([5], [5]), ([], []), ([7], [7]), ([], []), ([9], [9]), ([], []), ([10, 11], [10, 11]), ([12], [12]), ([8, 13], [8, 13]), ([14], [14]), ([], []), ([15, 16], [15, 16]), ([1, 6, 0, 1, 2, 3, 4, 5, 6, 7, 8, 9, 10, 11, 12, 13, 14, 15, 16, 17], [1, 6]), ([18, 17, 17, 0, 1, 2, 3, 4, 5, 6, 7, 8, 9, 10, 11, 12, 13, 14, 15, 16, 17], [17, 18])])
def append12.B4 : List Nat := [0, 1, 0, 4, 0, 28, 60, 0, 128, 0, 512, 0, 3584, 7680, 16256, 32640, 0, 130944, 262143, 524287]
theorem append12.tab4 : rtab .any (opsOf Try.f42 4) = append12.T4 := by kernel_rfl
theorem append12.bits4 : waitsOk append12.T4.2 append12.B4 = true := by kernel_rfl
def append12.T6 : Bool × List (List Nat × List Nat) := (true, [([], []), ([0], [0]), ([], []), ([], []), ([], []), ([4], [4]), ([], []), ([5, 6], [5, 6]), ([7], [7]), ([3, 8], [3, 8]), ([], []), ([10], [10]), ([11], [11]), ([9, 12, 9], [9, 12]), ([1, 2, 0, 1, 2, 3, 4, 5, 6, 7, 8, 9, 10, 11, 12, 13], [1, 2]), ([14, 13, 13, 0, 1, 2, 3, 4, 5, 6, 7, 8, 9, 10, 11, 12, 13], [13, 14])])
def append12.B6 : List Nat := [0, 1, 0, 0, 0, 16, 0, 112, 240, 504, 0, 1024, 3072, 8184, 16383, 32767]
theorem append12.tab6 : rtab .any (opsOf Try.f42 6) = append12.T6 := by kernel_rfl
theorem append12.bits6 : waitsOk append12.T6.2 append12.B6 = true := by kernel_rfl
theorem without_eq (l : List S115) (hl : l.length ≤ 100000) (x : Int) (k : Nat) (hk : l.length + 1 ≤ k) : decanterref12_without.f k l x = some (l.filter (fun y => y.f1 != x)) := by
  have loop : ∀ n i q : Nat, i + n = l.length → n + 1 ≤ q → decanterref12_without.l0 q l x ((l.take i).filter (fun y => y.f1 != x)) (i : Int) = some (l.filter (fun y => y.f1 != x)) := by
    intro n
    induction n with
    | zero =>
      intro i q hi hq
      obtain ⟨q, rfl⟩ : ∃ q', q = q' + 1 := ⟨q - 1, by omega⟩
      rw [decanterref12_without.l0, if_neg (by omega), List.take_of_length_le (by omega)]
    | succ n ih =>
      intro i q hi hq
      obtain ⟨q, rfl⟩ : ∃ q', q = q' + 1 := ⟨q - 1, by omega⟩
      obtain ⟨y, hy⟩ : ∃ y, l[i]? = some y := ⟨_, List.getElem?_eq_getElem (by omega)⟩
      have hrd : rd_T115 l (i : Int) = y := by unfold rd_T115; rw [Int.toNat_natCast, List.getD_eq_getElem?_getD, hy, Option.getD_some]
      have hw : wrap64 ((i : Int) + 1) = ((i + 1 : Nat) : Int) := by rw [IntWalk.wrap64_in _ (by omega)]; rfl
      have ht : l.take (i + 1) = l.take i ++ [y] := by rw [List.take_add_one, hy]; rfl
      have hfl := List.length_filter_le (fun y : S115 => y.f1 != x) (l.take i)
      rw [List.length_take] at hfl
      have h2 := ih (i + 1) q (by omega) (by omega)
      rw [ht, List.filter_append] at h2
      rw [decanterref12_without.l0, if_pos (by omega), if_pos (by omega), hrd, hw]
      by_cases e : y.f1 = x
      · rw [if_pos e]
        rw [List.filter_cons, if_neg (by simp [e]), List.filter_nil, List.append_nil] at h2
        exact h2
      · rw [if_neg e, if_pos (by omega)]
        rw [List.filter_cons, if_pos (by simp [e]), List.filter_nil] at h2
        exact h2
  have := loop l.length 0 k (by omega) (by omega)
  exact this
set_option maxRecDepth 100000 in
set_option maxHeartbeats 16000000 in
theorem append12_calls {W0 : World} {ok : Nat → Prop} {u0 u1 u2 u3 : Value} {R : Rm} (h : RA W0 ok u0 u1 u2 u3 R) (p i : Nat) (hp : p < R.inner.length) (hi : i < R.par.length) (hq : ∀ x ∈ R.par, x < R.inner.length)
    (hn : R.inner.length ≤ 1000 ∧ R.par.length ≤ 1000) (hx : ∀ l ∈ R.inner, l.length ≤ 100000) :
    Calls Try.prog 42 #[.agg #[u0, u1, u2, u3, .int .i64 R.copies], .int .i64 (p : Int), .int .i64 (i : Int)] W0 fun e w' => ∃ v2 v3, e = .returned (.agg #[u0, u1, v2, v3, .int .i64 R.copies]) ∧
      RA w' (fun k => ok k ∨ W0.heap.size ≤ k) u0 u1 v2 v3 (R.append p i) ∧ Below W0.heap.size W0 w' := by
  have hr0 := h.r0.bound
  have hr1 := h.r1.bound
  have HR0 := Lib.hid hr0
  have HR1 := Lib.hid hr1
  obtain ⟨B2, d2, rfl, le2, f2⟩ := h.r2.bound
  obtain ⟨B3, d3, rfl, le3, f3⟩ := h.r3.bound
  obtain ⟨B0, d0, rfl, _, _⟩ := hr0
  obtain ⟨B1, d1, rfl, _, _⟩ := hr1
  have HF2 := Lib.hid f2
  have HF3 := Lib.hid f3
  have HN := Lib.hid hn
  have HX := Lib.hid hx
  obtain ⟨n2, n3⟩ := hn
  clear h f2 f3 le2 le3 hx
  go_enter Try.func42, Try.ntmps42
  go_upto_region 1 with (fail)
  have HB := Lib.hid (((Below.refl W0.heap.size W0).alloc (Nat.le_refl _) (.cells #[.slice B0 R.names.length d0, .slice B1 R.attrs.length d1, .slice B2 R.inner.length d2, .slice B3 R.par.length d3, .int .i64 R.copies] 62)).alloc (by simp) (.cells #[.slice none 0 0, .slice none 0 0, .slice none 0 0, .slice none 0 0, .int .i64 0] 62))
  have XB := Lib.hid (blk_alloc (blk_new W0 (.cells #[.slice B0 R.names.length d0, .slice B1 R.attrs.length d1, .slice B2 R.inner.length d2, .slice B3 R.par.length d3, .int .i64 R.copies] 62)) (.cells #[.slice none 0 0, .slice none 0 0, .slice none 0 0, .slice none 0 0, .int .i64 0] 62))
  have XR := Lib.hid (show ((W0.alloc (.cells #[.slice B0 R.names.length d0, .slice B1 R.attrs.length d1, .slice B2 R.inner.length d2, .slice B3 R.par.length d3, .int .i64 R.copies] 62)).alloc (.cells #[.slice none 0 0, .slice none 0 0, .slice none 0 0, .slice none 0 0, .int .i64 0] 62)).heap[W0.heap.size + 1]? = some (.cells #[.slice none 0 0, .slice none 0 0, .slice none 0 0, .slice none 0 0, .int .i64 0] 62 (0, 0)) by
    have := blk_new (W0.alloc (.cells #[.slice B0 R.names.length d0, .slice B1 R.attrs.length d1, .slice B2 R.inner.length d2, .slice B3 R.par.length d3, .int .i64 R.copies] 62)) (.cells #[.slice none 0 0, .slice none 0 0, .slice none 0 0, .slice none 0 0, .int .i64 0] 62)
    rwa [World.size_alloc] at this)
  generalize hw : (W0.alloc _).alloc _ = w1 at *
  clear hw
  have hs1 := Lib.hid (show W0.heap.size + 2 ≤ w1.heap.size from blk_lt XR.out)
  have NL := Lib.hid (Kd.N_mono (ok' := Ok ok W0) (Kd.N_lower (N_lit (Kd.slice 115 k115) 112 w1 (W0.heap.size + 2) hs1.out) (Nat.le_add_right _ 2)) (fun k hk => .inr hk))
  have BL := Lib.hid (HB.out.alloc HB.out.size (.cells #[] 112))
  have XL := Lib.hid (blk_alloc XB.out (.cells #[] 112))
  have gl := blk_cell XL.out 2
  try simp only [List.getElem?_toArray, List.getElem?_cons_zero, List.getElem?_cons_succ] at gl
  go_upto_region 2 with (refine Kd.N_append_rows (Kd.slice 115 k115) (w0 := W0) (W := w1.alloc (.cells #[] 112)) W0.heap.size rfl (.tmp 7) (.tmp 9) 60 112 (.slice none 0 0) 24 rfl Try.underlying60 info112 rfl (by decide) (by decide) (.slice (some ⟨w1.heap.size, 0, none⟩) 0 0) [] R.inner B2 R.inner.length d2 (Ok ok W0) (fun k => ok k ∧ k < W0.heap.size) rfl rfl NL.out (Kd.F_below HF2.out BL.out) (fun k hk => ⟨.inl hk, fun e => by have := Kd.N_base NL.out k e.symm; omega⟩) (fun k hk => .inr (Nat.le_trans hs1.out (Nat.le_trans (by simp) hk))) BL.out BL.out.size (by simp; omega) ?_; intro va wa hna hba hga hata; rw [List.nil_append] at hna; obtain ⟨A10, k10, rfl⟩ := Kd.N_slice hna; have NA := Lib.hid hna; have BA := Lib.hid hba; have XA := Lib.hid (blk_grown XL.out hga (Kd.N_ne NL.out XL.out (by decide))); have YA := Lib.hid (blk_grown (blk_alloc XR.out (.cells #[] 112)) hga (Kd.N_ne NL.out (blk_alloc XR.out (.cells #[] 112)) (by decide))); have gs := blk_cell XA.out 2; have gf := blk_frozen XA.out 2; clear hna hba hga hata)
  have HB2 := Lib.hid (BA.out.setCell (p := ⟨W0.heap.size, 2, none⟩) (Nat.le_refl _) (.slice A10 R.inner.length k10))
  have XB2 := Lib.hid (show (wa.setCell ⟨W0.heap.size, 2, none⟩ (.slice A10 R.inner.length k10)).heap[W0.heap.size]? = some (.cells #[(.slice B0 R.names.length d0), (.slice B1 R.attrs.length d1), (.slice A10 R.inner.length k10), (.slice B3 R.par.length d3), (.int .i64 R.copies)] 62 (0, 0)) from blk_put XA.out 2 (.slice A10 R.inner.length k10) rfl)
  have XR2 := Lib.hid ((Below.heap_setCell wa ⟨W0.heap.size, 2, none⟩ (.slice A10 R.inner.length k10) (W0.heap.size + 1) (by simp)).trans YA.out)
  have NI := Lib.hid (Kd.N_step (w1 := wa.setCell ⟨W0.heap.size, 2, none⟩ (.slice A10 R.inner.length k10)) NA.out fun k hk _ => Below.heap_setCell wa _ _ k (fun e => by simp only at e; rcases hk with ⟨_, hk⟩ | hk <;> omega))
  generalize hw2 : wa.setCell ⟨W0.heap.size, 2, none⟩ (.slice A10 R.inner.length k10) = w2 at *
  clear hw2 NA BA XA YA NL BL XL gl gs gf HB XB XR
  have hs2 := Lib.hid (show W0.heap.size + 2 ≤ w2.heap.size from blk_lt XR2.out)
  have NL := Lib.hid (Kd.N_lower (N_lit (Kd.int .i64) 3 w2 w2.heap.size (Nat.le_refl _)) HB2.out.size)
  have BL := Lib.hid (HB2.out.alloc HB2.out.size (.cells #[] 3))
  have XL := Lib.hid (blk_alloc XB2.out (.cells #[] 3))
  have gl := blk_cell XL.out 3
  try simp only [List.getElem?_toArray, List.getElem?_cons_zero, List.getElem?_cons_succ] at gl
  go_upto_region 3 with (refine Kd.N_append_rows (Kd.int .i64) (w0 := W0) (W := w2.alloc (.cells #[] 3)) W0.heap.size rfl (.tmp 12) (.tmp 14) 53 3 (.int .i64 0) 8 rfl Try.underlying53 info3 rfl (by decide) (by decide) (.slice (some ⟨w2.heap.size, 0, none⟩) 0 0) [] R.par B3 R.par.length d3 (fun k => w2.heap.size ≤ k ∨ (ok k ∧ k < W0.heap.size)) (fun k => ok k ∧ k < W0.heap.size) rfl rfl (Kd.N_mono NL.out fun k hk => .inl hk) (Kd.F_below HF3.out BL.out) (fun k hk => ⟨.inr hk, fun e => by have := NL.out.1 k e.symm; have := hs2.out; have := hk.2; omega⟩) (fun k hk => .inl (Nat.le_trans (by simp) hk)) BL.out BL.out.size (by simp; omega) ?_; intro va wa hna hba hga hata; rw [List.nil_append] at hna; obtain ⟨A11, k11, rfl⟩ := Kd.N_slice hna; have NA := Lib.hid hna; have BA := Lib.hid hba; have XA := Lib.hid (blk_grown XL.out hga (Kd.N_ne NL.out XL.out (by decide))); have YA := Lib.hid (blk_grown (blk_alloc XR2.out (.cells #[] 3)) hga (Kd.N_ne NL.out (blk_alloc XR2.out (.cells #[] 3)) (by decide))); have OA := Lib.hid (own_after hata); have NI2 := Lib.hid (N_after_lit NI.out hga); have gs := blk_cell XA.out 3; have gf := blk_frozen XA.out 3; clear hna hba hga hata)
  have MD := Lib.hid (show Mid W0 (wa.setCell ⟨W0.heap.size, 3, none⟩ (.slice A11 R.par.length k11)) ok (.slice B0 R.names.length d0) (.slice B1 R.attrs.length d1) (.slice A10 R.inner.length k10) (.slice A11 R.par.length k11) R.copies R.inner R.par from by
    have hsz := HB2.out.size
    have hs := hs2.out
    exact {
      bel := BA.out.setCell (p := ⟨W0.heap.size, 3, none⟩) (Nat.le_refl _) _
      box := blk_put XA.out 3 (.slice A11 R.par.length k11) rfl
      res := (Below.heap_setCell wa ⟨W0.heap.size, 3, none⟩ _ (W0.heap.size + 1) (by simp)).trans YA.out
      ni := Kd.N_mono (Kd.N_step NI2.out fun k hk _ => Below.heap_setCell wa _ _ k (fun e => by simp only at e; rcases hk.1 with ⟨_, hk1⟩ | hk1 <;> omega)) fun k hk => ⟨hk.1, fun e => by have := OA.out k e; have := hk.2; omega⟩
      np := Kd.N_mono (Kd.N_step (N_tight NA.out) fun k hk _ => Below.heap_setCell wa _ _ k (fun e => by simp only at e; have := OA.out k hk.1; omega)) fun k hk => ⟨hk.1, by have := OA.out k hk.1; omega⟩ })
  generalize hw3 : wa.setCell ⟨W0.heap.size, 3, none⟩ (.slice A11 R.par.length k11) = w3 at *
  clear hw3 NA BA XA YA NL BL XL gl gs gf HB2 XB2 XR2 NI NI2 OA hs1 hs2 HF2 HF3 n2 n3
  obtain ⟨gI, cI, hvI⟩ : ∃ g c, (Value.slice A10 R.inner.length k10) = .slice (some ⟨g, 0, none⟩) R.inner.length c := by
    obtain ⟨g, cap, hu, _⟩ := Kd.N_form MD.out.ni (by omega)
    exact ⟨g, cap, hu⟩
  injection hvI with hA10 _ hk10
  subst hA10 hk10
  obtain ⟨gP, cP, hvP⟩ : ∃ g c, (Value.slice A11 R.par.length k11) = .slice (some ⟨g, 0, none⟩) R.par.length c := by
    obtain ⟨g, cap, hu, _⟩ := Kd.N_form MD.out.np (by omega)
    exact ⟨g, cap, hu⟩
  injection hvP with hA11 _ hk11
  subst hA11 hk11
  have hgp : gI ≠ gP := fun e => by
    have h1 := MD.out.ni.1 gI rfl
    exact h1.2 (by rw [e]; rfl)
  have HGP := Lib.hid hgp
  obtain ⟨x, hxi⟩ : ∃ x, R.par[i]? = some x := ⟨_, List.getElem?_eq_getElem hi⟩
  have hxlt := hq x (List.mem_of_getElem? hxi)
  have hi0 : (0 : Int) ≤ (i : Int) := by omega
  have hi1 : (i : Int) < (R.par.length : Int) := by omega
  have hp0 : (0 : Int) ≤ (p : Int) := by omega
  have hp1 : (p : Int) < (R.inner.length : Int) := by omega
  have nl0 : (R.inner.length : Int) ≤ 1000 := by have := HN.out; omega
  have pl0 : (R.par.length : Int) ≤ 1000 := by have := HN.out; omega
  have b2 := blk_cell MD.out.box 2
  have b3 := blk_cell MD.out.box 3
  obtain ⟨pc, pf⟩ := MD.out.at_par rfl hi hxi
  try simp only [List.getElem?_toArray, List.getElem?_cons_zero, List.getElem?_cons_succ] at b2 b3
  have hlt0 := MD.out.lt
  go_upto_if 22 with fail
  go_cut [] from 23 (fun wc => Hid (Mid W0 wc ok (.slice B0 R.names.length d0) (.slice B1 R.attrs.length d1) (.slice (some ⟨gI, 0, none⟩) R.inner.length k10) (.slice (some ⟨gP, 0, none⟩) R.par.length k11) R.copies (R.leave i) R.par))
  case first =>
    by_cases hx0 : 0 ≤ x
    · obtain ⟨q, rfl⟩ : ∃ q : Nat, x = (q : Int) := ⟨x.toNat, by omega⟩
      have hql : q < R.inner.length := by omega
      have q0 : (0 : Int) ≤ (q : Int) := by omega
      have q1 : (q : Int) < (R.inner.length : Int) := by omega
      obtain ⟨ys, hys⟩ : ∃ ys, R.inner[q]? = some ys := ⟨_, List.getElem?_eq_getElem hql⟩
      have hyl := HX.out ys (List.mem_of_getElem? hys)
      obtain ⟨Aq, cq, qc, qf, qle, qF⟩ := MD.out.at_inner rfl hql hys
      have QF := Lib.hid qF
      have QL := Lib.hid qle
      have C79 := Lib.hid (decanterref12_without.calls 100002 Aq cq ys (i : Int) (ys.filter (fun y => y.f1 != (i : Int))) w3.drew (Kd.F_now (Kd.F_drew qF)) qle (without_eq ys hyl (i : Int) 100002 (by omega)))
      have MDd := Lib.hid (MD.out.below (w1 := w3.drew) ⟨rfl, rfl, rfl, Nat.le_refl _, fun _ _ => rfl⟩)
      have HYS := Lib.hid hys
      have hgI := Kd.N_lt MDd.out.ni gI rfl
      have hgP := Kd.N_lt MDd.out.np gP rfl
      have HGL := Lib.hid (And.intro hgI hgP)
      have hfl := List.length_filter_le (fun y : S115 => y.f1 != (i : Int)) ys
      have HFL := Lib.hid (Nat.le_trans hfl hyl)
      clear qF qle hys hyl hgI hgP hfl
      have tb2 : w3.drew.cell? ⟨W0.heap.size, 2, none⟩ = some (.slice (some ⟨gI, 0, none⟩) R.inner.length k10) := b2
      have tb3 : w3.drew.cell? ⟨W0.heap.size, 3, none⟩ = some (.slice (some ⟨gP, 0, none⟩) R.par.length k11) := b3
      have tpc : w3.drew.cell? ⟨gP, i, none⟩ = some (.int .i64 (q : Int)) := pc
      have tqc : w3.drew.cell? ⟨gI, q, none⟩ = some (.slice Aq ys.length cq) := qc
      have hgb0 : W0.heap.size ≠ gI := fun e => by have := MDd.out.ni.1 gI rfl; rcases this.1 with ⟨_, h⟩ | h <;> omega
      go_wp2_with fail
      clear b2 b3 pc pf qc qf
      refine start_ (n := 20) (S := fun w' => w'.cell? ⟨W0.heap.size, 2, none⟩ = some (.slice (some ⟨gI, 0, none⟩) R.inner.length k10) ∧ w'.cell? ⟨W0.heap.size, 3, none⟩ = some (.slice (some ⟨gP, 0, none⟩) R.par.length k11) ∧ w'.cell? ⟨gP, i, none⟩ = some (.int .i64 (q : Int)) ∧ w'.cell? ⟨gI, q, none⟩ = some (.slice Aq ys.length cq)) (ds := [19]) #[false, false, false, false, false, false, false, false, false, false, false, false, false, false, false, false, false, false, false, false] (by kernel_rfl) rfl rfl ⟨tb2, tb3, tpc, tqc⟩ (fun hHeld => ?_); refine with_tabW append12.tab4 append12.bits4 (fun HT_ HW_ => ?_)
      refine pure_ (i := 0) (N := (some 23)) (v := ?_) (a' := ?_) #[true, false, false, false, false, false, false, false, false, false, false, false, false, false, false, false, false, false, false, false] rfl rfl (any_of HT_.out (by kernel_rfl)) (fun _ _ _ h => h) (Or.inl ⟨by rfl, ?_⟩) ?_ ?_
      rotate_left
      · intro w'
        go_simp
        with_reducible rfl
      rotate_left
      · simp only [Act.put, List.setIfInBounds_toArray, List.set_cons_zero, List.set_cons_succ, i64_w, i32_w]
        rfl
      refine pure_ (i := 2) (N := (some 25)) (v := ?_) (a' := ?_) #[true, false, true, false, false, false, false, false, false, false, false, false, false, false, false, false, false, false, false, false] rfl rfl (any_of HT_.out (by kernel_rfl)) (fun _ _ _ h => h) (Or.inl ⟨by rfl, ?_⟩) ?_ ?_
      rotate_left
      · intro w'
        go_simp
        with_reducible rfl
      rotate_left
      · simp only [Act.put, List.setIfInBounds_toArray, List.set_cons_zero, List.set_cons_succ, i64_w, i32_w]
        rfl
      refine pure_ (i := 4) (N := (some 27)) (v := ?_) (a' := ?_) #[true, false, true, false, true, false, false, false, false, false, false, false, false, false, false, false, false, false, false, false] rfl rfl (any_of HT_.out (by kernel_rfl)) (fun _ _ _ h => h) (Or.inl ⟨by rfl, ?_⟩) ?_ ?_
      rotate_left
      · intro w'
        go_simp
        with_reducible rfl
      rotate_left
      · simp only [Act.put, List.setIfInBounds_toArray, List.set_cons_zero, List.set_cons_succ, i64_w, i32_w]
        rfl
      refine pure_ (i := 7) (N := (some 30)) (v := ?_) (a' := ?_) #[true, false, true, false, true, false, false, true, false, false, false, false, false, false, false, false, false, false, false, false] rfl rfl (any_of HT_.out (by kernel_rfl)) (fun _ _ _ h => h) (Or.inl ⟨by rfl, ?_⟩) ?_ ?_
      rotate_left
      · intro w'
        go_simp
        with_reducible rfl
      rotate_left
      · simp only [Act.put, List.setIfInBounds_toArray, List.set_cons_zero, List.set_cons_succ, i64_w, i32_w]
        rfl
      refine pure_ (i := 9) (N := (some 32)) (v := ?_) (a' := ?_) #[true, false, true, false, true, false, false, true, false, true, false, false, false, false, false, false, false, false, false, false] rfl rfl (any_of HT_.out (by kernel_rfl)) (fun _ _ _ h => h) (Or.inl ⟨by rfl, ?_⟩) ?_ ?_
      rotate_left
      · intro w'
        go_simp
        with_reducible rfl
      rotate_left
      · simp only [Act.put, List.setIfInBounds_toArray, List.set_cons_zero, List.set_cons_succ, i64_w, i32_w]
        rfl
      refine pure_ (i := 11) (N := (some 34)) (v := ?_) (a' := ?_) #[true, false, true, false, true, false, false, true, false, true, false, true, false, false, false, false, false, false, false, false] rfl rfl (any_of HT_.out (by kernel_rfl)) (fun _ _ _ h => h) (Or.inl ⟨by rfl, ?_⟩) ?_ ?_
      rotate_left
      · intro w'
        go_simp
        with_reducible rfl
      rotate_left
      · simp only [Act.put, List.setIfInBounds_toArray, List.set_cons_zero, List.set_cons_succ, i64_w, i32_w]
        rfl
      refine pure_ (i := 16) (N := (some 39)) (v := ?_) (a' := ?_) #[true, false, true, false, true, false, false, true, false, true, false, true, false, false, false, false, true, false, false, false] rfl rfl (any_of HT_.out (by kernel_rfl)) (fun _ _ _ h => h) (Or.inl ⟨by rfl, ?_⟩) ?_ ?_
      rotate_left
      · intro w'
        go_simp
        with_reducible rfl
      rotate_left
      · simp only [Act.put, List.setIfInBounds_toArray, List.set_cons_zero, List.set_cons_succ, i64_w, i32_w]
        rfl
      refine take_ (i := 1) (N := (some 24)) (v := ?_) (a' := ?_) #[true, true, true, false, true, false, false, true, false, true, false, true, false, false, false, false, true, false, false, false] rfl rfl (take_ofW HT_.out HW_.out (by kernel_rfl)) (fun _ _ _ h => h) (Or.inl ⟨by rfl, ?_⟩) hHeld ?_ ?_
      rotate_left
      · rintro w' ⟨s0, s1, s2, s3⟩
        go_simp
        with_reducible rfl
      rotate_left
      · simp only [Act.put, List.setIfInBounds_toArray, List.set_cons_zero, List.set_cons_succ, i64_w, i32_w]
        rfl
      refine take_ (i := 3) (N := (some 26)) (v := ?_) (a' := ?_) #[true, true, true, true, true, false, false, true, false, true, false, true, false, false, false, false, true, false, false, false] rfl rfl (take_ofW HT_.out HW_.out (by kernel_rfl)) (fun _ _ _ h => h) (Or.inl ⟨by rfl, ?_⟩) hHeld ?_ ?_
      rotate_left
      · rintro w' ⟨s0, s1, s2, s3⟩
        go_simp
        with_reducible rfl
      rotate_left
      · simp only [Act.put, List.setIfInBounds_toArray, List.set_cons_zero, List.set_cons_succ, i64_w, i32_w]
        rfl
      refine pure_ (i := 5) (N := (some 28)) (v := ?_) (a' := ?_) #[true, true, true, true, true, true, false, true, false, true, false, true, false, false, false, false, true, false, false, false] rfl rfl (any_of HT_.out (by kernel_rfl)) (fun _ _ _ h => h) (Or.inl ⟨by rfl, ?_⟩) ?_ ?_
      rotate_left
      · intro w'
        go_simp
        with_reducible rfl
      rotate_left
      · simp only [Act.put, List.setIfInBounds_toArray, List.set_cons_zero, List.set_cons_succ, i64_w, i32_w]
        rfl
      refine take_ (i := 6) (N := (some 29)) (v := ?_) (a' := ?_) #[true, true, true, true, true, true, true, true, false, true, false, true, false, false, false, false, true, false, false, false] rfl rfl (take_ofW HT_.out HW_.out (by kernel_rfl)) (fun _ _ _ h => h) (Or.inl ⟨by rfl, ?_⟩) hHeld ?_ ?_
      rotate_left
      · rintro w' ⟨s0, s1, s2, s3⟩
        go_simp
        with_reducible rfl
      rotate_left
      · simp only [Act.put, List.setIfInBounds_toArray, List.set_cons_zero, List.set_cons_succ, i64_w, i32_w]
        rfl
      refine take_ (i := 8) (N := (some 31)) (v := ?_) (a' := ?_) #[true, true, true, true, true, true, true, true, true, true, false, true, false, false, false, false, true, false, false, false] rfl rfl (take_ofW HT_.out HW_.out (by kernel_rfl)) (fun _ _ _ h => h) (Or.inl ⟨by rfl, ?_⟩) hHeld ?_ ?_
      rotate_left
      · rintro w' ⟨s0, s1, s2, s3⟩
        go_simp
        with_reducible rfl
      rotate_left
      · simp only [Act.put, List.setIfInBounds_toArray, List.set_cons_zero, List.set_cons_succ, i64_w, i32_w]
        rfl
      refine take_ (i := 10) (N := (some 33)) (v := ?_) (a' := ?_) #[true, true, true, true, true, true, true, true, true, true, true, true, false, false, false, false, true, false, false, false] rfl rfl (take_ofW HT_.out HW_.out (by kernel_rfl)) (fun _ _ _ h => h) (Or.inl ⟨by rfl, ?_⟩) hHeld ?_ ?_
      rotate_left
      · rintro w' ⟨s0, s1, s2, s3⟩
        go_simp
        with_reducible rfl
      rotate_left
      · simp only [Act.put, List.setIfInBounds_toArray, List.set_cons_zero, List.set_cons_succ, i64_w, i32_w]
        rfl
      refine pure_ (i := 12) (N := (some 35)) (v := ?_) (a' := ?_) #[true, true, true, true, true, true, true, true, true, true, true, true, true, false, false, false, true, false, false, false] rfl rfl (any_of HT_.out (by kernel_rfl)) (fun _ _ _ h => h) (Or.inl ⟨by rfl, ?_⟩) ?_ ?_
      rotate_left
      · intro w'
        go_simp
        with_reducible rfl
      rotate_left
      · simp only [Act.put, List.setIfInBounds_toArray, List.set_cons_zero, List.set_cons_succ, i64_w, i32_w]
        rfl
      refine take_ (i := 13) (N := (some 36)) (v := ?_) (a' := ?_) #[true, true, true, true, true, true, true, true, true, true, true, true, true, true, false, false, true, false, false, false] rfl rfl (take_ofW HT_.out HW_.out (by kernel_rfl)) (fun _ _ _ h => h) (Or.inl ⟨by rfl, ?_⟩) hHeld ?_ ?_
      rotate_left
      · rintro w' ⟨s0, s1, s2, s3⟩
        go_simp
        with_reducible rfl
      rotate_left
      · simp only [Act.put, List.setIfInBounds_toArray, List.set_cons_zero, List.set_cons_succ, i64_w, i32_w]
        rfl
      refine pure_ (i := 14) (N := (some 37)) (v := ?_) (a' := ?_) #[true, true, true, true, true, true, true, true, true, true, true, true, true, true, true, false, true, false, false, false] rfl rfl (any_of HT_.out (by kernel_rfl)) (fun _ _ _ h => h) (Or.inl ⟨by rfl, ?_⟩) ?_ ?_
      rotate_left
      · intro w'
        go_simp
        with_reducible rfl
      rotate_left
      · simp only [Act.put, List.setIfInBounds_toArray, List.set_cons_zero, List.set_cons_succ, i64_w, i32_w]
        rfl
      refine take_ (i := 15) (N := (some 38)) (v := ?_) (a' := ?_) #[true, true, true, true, true, true, true, true, true, true, true, true, true, true, true, true, true, false, false, false] rfl rfl (take_ofW HT_.out HW_.out (by kernel_rfl)) (fun _ _ _ h => h) (Or.inl ⟨by rfl, ?_⟩) hHeld ?_ ?_
      rotate_left
      · rintro w' ⟨s0, s1, s2, s3⟩
        go_simp
        with_reducible rfl
      rotate_left
      · simp only [Act.put, List.setIfInBounds_toArray, List.set_cons_zero, List.set_cons_succ, i64_w, i32_w]
        rfl
      refine one_ (i := 17) (N := (some 40)) #[true, true, true, true, true, true, true, true, true, true, true, true, true, true, true, true, true, true, false, false] rfl rfl (one_of HT_.out (by kernel_rfl)) (by decide) (fun K hK => ?_)
      go_simp
      go_at_call 79
      refine C79.out.mono ?_
      rintro e w4 ⟨v7, rfl, hR7, hB7⟩
      obtain ⟨A7, k7, rfl, hle7, hC7⟩ := Kd.R_reads hR7
      have L7 := Lib.hid hle7
      have F7 := Lib.hid (Kd.N_F (Kd.R_N (Kd.R_bound hR7)))
      have M7 := Lib.hid (MDd.out.below hB7)
      have f7 : w4.frozen? ⟨gI, q, none⟩ = false := (M7.out.at_inner rfl hql HYS.out).choose_spec.choose_spec.2.1
      have hb7 := hB7
      have g7 := pw_cell_below hB7 tqc
      clear hR7 hle7 hC7 hB7
      refine hK.out _ _ ⟨pw_cell_below hb7 tb2, pw_cell_below hb7 tb3, pw_cell_below hb7 tpc, pw_cell_below hb7 tqc⟩ (fun hHeld => ?_)
      clear hK K
      (try simp only [Act.put, List.setIfInBounds_toArray, List.set_cons_zero, List.set_cons_succ])
      refine pure_ (i := 18) (N := (some 41)) (v := ?_) (a' := ?_) #[true, true, true, true, true, true, true, true, true, true, true, true, true, true, true, true, true, true, true, false] rfl rfl (any_of HT_.out (by kernel_rfl)) (fun _ _ _ h => h) (Or.inl ⟨by rfl, ?_⟩) ?_ ?_
      rotate_left
      · intro w'
        go_simp
        with_reducible rfl
      rotate_left
      · simp only [Act.put, List.setIfInBounds_toArray, List.set_cons_zero, List.set_cons_succ, i64_w, i32_w]
        rfl
      refine last_ (i := 19) (N := none) #[true, true, true, true, true, true, true, true, true, true, true, true, true, true, true, true, true, true, true, true] rfl rfl (one_of HT_.out (by kernel_rfl)) (by decide) (fun K hK => ?_)
      go_simp
      refine hK.out _ _ ?_
      clear hK K
      refine done_ (done_of HT_.out (by kernel_rfl)) ?_
      have HM4 := Lib.hid (M7.out.setInner rfl hql L7.out F7.out (fun k hk => ⟨.inr (by have := hk.2.1; have : w3.heap.size ≤ k := hk.2.1; omega), fun e => by have h1 : gP = k := Option.some.inj e; have h2 := HGL.out.2; have h3 : w3.heap.size ≤ k := hk.2.1; have h4 : w3.drew.heap.size = w3.heap.size := rfl; omega, fun e => by have h2 := HGL.out.1; have h3 : w3.heap.size ≤ k := hk.2.1; have h4 : w3.drew.heap.size = w3.heap.size := rfl; omega⟩))
      clear tqc
      go_wp2_with fail
      go_meet
      exact Lib.hid (by rw [Rm.leave_in hxi HYS.out]; exact HM4.out)
    · go_wp2_with fail
      go_meet
      exact Lib.hid (by rw [Rm.leave_out hxi (by omega)]; exact MD.out)
  case rest =>
    clear hlt0 b2 b3 pc pf MD
    have HM4 := hcut
    clear hcut
    have e2 := blk_cell HM4.out.box 2
    have e3 := blk_cell HM4.out.box 3
    obtain ⟨ec, ef⟩ := HM4.out.at_par rfl hi hxi
    try simp only [List.getElem?_toArray, List.getElem?_cons_zero, List.getElem?_cons_succ] at e2 e3
    go_upto_region 6 with fail
    have HM5 := Lib.hid (HM4.out.setPar rfl hi (p : Int))
    generalize hw5 : wc.setCell ⟨gP, i, none⟩ (.int .i64 (p : Int)) = w5 at *
    clear hw5 e2 e3 ec ef HM4
    have hpl : p < (R.leave i).length := by rw [Rm.leave_length]; exact hp
    obtain ⟨zs, hzs⟩ : ∃ zs, (R.leave i)[p]? = some zs := ⟨_, List.getElem?_eq_getElem hpl⟩
    have HZS := Lib.hid hzs
    have HZL := Lib.hid (Rm.leave_le HX.out zs (List.mem_of_getElem? hzs))
    have M6 := Lib.hid (HM5.out.below (w1 := w5.drew) ⟨rfl, rfl, rfl, Nat.le_refl _, fun _ _ => rfl⟩)
    obtain ⟨Az, cz, zc, zf, zle, zF⟩ := M6.out.at_inner (j := p) rfl (by omega) hzs
    have ZF := Lib.hid (Kd.F_bound zF)
    have ZL := Lib.hid zle
    have HGI := Lib.hid (Kd.N_lt M6.out.ni gI rfl)
    have HGP2 := Lib.hid (Kd.N_lt M6.out.np gP rfl)
    have HLT := Lib.hid M6.out.lt
    have f2 : w5.drew.cell? ⟨W0.heap.size, 2, none⟩ = some (.slice (some ⟨gI, 0, none⟩) R.inner.length k10) := blk_cell M6.out.box 2
    have HB6 := Lib.hid (Below.refl w5.drew.heap.size w5.drew)
    clear zF zle zf hzs HM5
    go_cut [] from 47 (fun wd => Hid (Mid W0 wd ok (.slice B0 R.names.length d0) (.slice B1 R.attrs.length d1) (.slice (some ⟨gI, 0, none⟩) R.inner.length k10) (.slice (some ⟨gP, 0, none⟩) R.par.length k11) R.copies (R.append p i).inner (R.append p i).par))
    case first =>
      refine start_ (n := 16) (S := fun w' => w'.cell? ⟨W0.heap.size, 2, none⟩ = some (.slice (some ⟨gI, 0, none⟩) R.inner.length k10) ∧ w'.cell? ⟨gI, p, none⟩ = some (.slice Az zs.length cz)) (ds := [15]) #[false, false, false, false, false, false, false, false, false, false, false, false, false, false, false, false] (by kernel_rfl) rfl rfl ⟨f2, zc⟩ (fun hHeld => ?_); refine with_tabW append12.tab6 append12.bits6 (fun HT_ HW_ => ?_)
      generalize hq6 : w5.drew = w6 at *
      clear hq6
      refine pure_ (i := 0) (N := (some 47)) (v := ?_) (a' := ?_) #[true, false, false, false, false, false, false, false, false, false, false, false, false, false, false, false] rfl rfl (any_of HT_.out (by kernel_rfl)) (fun _ _ _ h => h) (Or.inl ⟨by rfl, ?_⟩) ?_ ?_
      rotate_left
      · intro w'
        go_simp
        with_reducible rfl
      rotate_left
      · simp only [Act.put, List.setIfInBounds_toArray, List.set_cons_zero, List.set_cons_succ, i64_w, i32_w]
        rfl
      refine pure_ (i := 2) (N := (some 49)) (v := ?_) (a' := ?_) #[true, false, true, false, false, false, false, false, false, false, false, false, false, false, false, false] rfl rfl (any_of HT_.out (by kernel_rfl)) (fun _ _ _ h => h) (Or.inl ⟨by rfl, ?_⟩) ?_ ?_
      rotate_left
      · intro w'
        go_simp
        with_reducible rfl
      rotate_left
      · simp only [Act.put, List.setIfInBounds_toArray, List.set_cons_zero, List.set_cons_succ, i64_w, i32_w]
        rfl
      refine pure_ (i := 4) (N := (some 51)) (v := ?_) (a' := ?_) #[true, false, true, false, true, false, false, false, false, false, false, false, false, false, false, false] rfl rfl (any_of HT_.out (by kernel_rfl)) (fun _ _ _ h => h) (Or.inl ⟨by rfl, ?_⟩) ?_ ?_
      rotate_left
      · intro w'
        go_simp
        with_reducible rfl
      rotate_left
      · simp only [Act.put, List.setIfInBounds_toArray, List.set_cons_zero, List.set_cons_succ, i64_w, i32_w]
        rfl
      refine pure_ (i := 6) (N := (some 53)) (v := ?_) (a' := ?_) #[true, false, true, false, true, false, true, false, false, false, false, false, false, false, false, false] rfl rfl (any_of HT_.out (by kernel_rfl)) (fun _ _ _ h => h) (Or.inl ⟨by rfl, ?_⟩) ?_ ?_
      rotate_left
      · intro w'
        go_simp
        with_reducible rfl
      rotate_left
      · simp only [Act.put, List.setIfInBounds_toArray, List.set_cons_zero, List.set_cons_succ, i64_w, i32_w]
        rfl
      refine pure_ (i := 10) (N := (some 57)) (v := ?_) (a' := ?_) #[true, false, true, false, true, false, true, false, false, false, true, false, false, false, false, false] rfl rfl (any_of HT_.out (by kernel_rfl)) (fun _ _ _ h => h) (Or.inl ⟨by rfl, ?_⟩) ?_ ?_
      rotate_left
      · intro w'
        go_simp
        with_reducible rfl
      rotate_left
      · simp only [Act.put, List.setIfInBounds_toArray, List.set_cons_zero, List.set_cons_succ, i64_w, i32_w]
        rfl
      refine pure_ (i := 11) (N := (some 58)) (v := ?_) (a' := ?_) #[true, false, true, false, true, false, true, false, false, false, true, true, false, false, false, false] rfl rfl (any_of HT_.out (by kernel_rfl)) (fun _ _ _ h => h) (Or.inl ⟨by rfl, ?_⟩) ?_ ?_
      rotate_left
      · intro w'
        go_simp
        with_reducible rfl
      rotate_left
      · simp only [Act.put, List.setIfInBounds_toArray, List.set_cons_zero, List.set_cons_succ, i64_w, i32_w]
        rfl
      refine take_ (i := 1) (N := (some 48)) (v := ?_) (a' := ?_) #[true, true, true, false, true, false, true, false, false, false, true, true, false, false, false, false] rfl rfl (take_ofW HT_.out HW_.out (by kernel_rfl)) (fun _ _ _ h => h) (Or.inl ⟨by rfl, ?_⟩) hHeld ?_ ?_
      rotate_left
      · rintro w' ⟨s0, s1⟩
        go_simp
        with_reducible rfl
      rotate_left
      · simp only [Act.put, List.setIfInBounds_toArray, List.set_cons_zero, List.set_cons_succ, i64_w, i32_w]
        rfl
      refine take_ (i := 5) (N := (some 52)) (v := ?_) (a' := ?_) #[true, true, true, false, true, true, true, false, false, false, true, true, false, false, false, false] rfl rfl (take_ofW HT_.out HW_.out (by kernel_rfl)) (fun _ _ _ h => h) (Or.inl ⟨by rfl, ?_⟩) hHeld ?_ ?_
      rotate_left
      · rintro w' ⟨s0, s1⟩
        go_simp
        with_reducible rfl
      rotate_left
      · simp only [Act.put, List.setIfInBounds_toArray, List.set_cons_zero, List.set_cons_succ, i64_w, i32_w]
        rfl
      refine pure_ (i := 7) (N := (some 54)) (v := ?_) (a' := ?_) #[true, true, true, false, true, true, true, true, false, false, true, true, false, false, false, false] rfl rfl (any_of HT_.out (by kernel_rfl)) (fun _ _ _ h => h) (Or.inl ⟨by rfl, ?_⟩) ?_ ?_
      rotate_left
      · intro w'
        go_simp
        with_reducible rfl
      rotate_left
      · simp only [Act.put, List.setIfInBounds_toArray, List.set_cons_zero, List.set_cons_succ, i64_w, i32_w]
        rfl
      refine take_ (i := 8) (N := (some 55)) (v := ?_) (a' := ?_) #[true, true, true, false, true, true, true, true, true, false, true, true, false, false, false, false] rfl rfl (take_ofW HT_.out HW_.out (by kernel_rfl)) (fun _ _ _ h => h) (Or.inl ⟨by rfl, ?_⟩) hHeld ?_ ?_
      rotate_left
      · rintro w' ⟨s0, s1⟩
        go_simp
        with_reducible rfl
      rotate_left
      · simp only [Act.put, List.setIfInBounds_toArray, List.set_cons_zero, List.set_cons_succ, i64_w, i32_w]
        rfl
      refine two_ (i := 3) (j := 12) (Ni := (some 50)) (Nj := (some 59)) #[true, true, true, true, true, true, true, true, true, false, true, true, false, false, false, false] #[true, true, true, false, true, true, true, true, true, false, true, true, true, false, false, false] rfl rfl rfl rfl (two_of HT_.out (by kernel_rfl)) (by decide) (by decide) (fun K hK => ?_) (fun K hK => ?_) 
      · go_simp
        have NL1 := Lib.hid (Kd.N_mono (ok' := (fun k => (Ok ok W0 k ∧ (Value.slice (some ⟨gP, 0, none⟩) R.par.length k11).ownBlock ≠ some k) ∧ k ≠ gI)) (Kd.N_lower (N_lit k115 115 w6 w6.heap.size (Nat.le_refl _)) HB6.out.size) (fun k hk => ⟨⟨.inr (by have h1 := HLT.out; have h5 := HB6.out.size; omega), fun e => by have h1 : gP = k := Option.some.inj e; have h2 := HGP2.out; have h5 := HB6.out.size; omega⟩, fun e => by have h2 := HGI.out; have h5 := HB6.out.size; omega⟩))
        have B1 := Lib.hid (HB6.out.alloc HB6.out.size (.cells #[] 115))
        have hz1 := Lib.hid (show w6.heap.size < (w6.alloc (.cells #[] 115)).heap.size from by rw [World.size_alloc]; omega)
        generalize hq1 : w6.alloc (.cells #[] 115) = wn1 at *
        refine hK.out _ _ ⟨pw_cell_below B1.out f2, pw_cell_below B1.out zc⟩ (fun hHeld => ?_)
        clear hK K
        (try simp only [Act.put, List.setIfInBounds_toArray, List.set_cons_zero, List.set_cons_succ])
        refine two_ (i := 9) (j := 12) (Ni := (some 56)) (Nj := (some 59)) #[true, true, true, true, true, true, true, true, true, true, true, true, false, false, false, false] #[true, true, true, true, true, true, true, true, true, false, true, true, true, false, false, false] rfl rfl rfl rfl (two_of HT_.out (by kernel_rfl)) (by decide) (by decide) (fun K hK => ?_) (fun K hK => ?_) 
        · refine Kd.N_append_rows_step k115 (w0 := w6) (W := wn1) w6.heap.size (by rfl) (.tmp 50) (.tmp 55) 112 115 (.agg #[(.string ⟨#[]⟩), (.int .i64 0)]) 24 ?_ Try.underlying112 info115 rfl (by decide) (by decide) (.slice (some ⟨w6.heap.size, 0, none⟩) 0 0) [] zs Az zs.length cz (fun k => (Ok ok W0 k ∧ (Value.slice (some ⟨gP, 0, none⟩) R.par.length k11).ownBlock ≠ some k) ∧ k ≠ gI) (fun k => ((Ok ok W0 k ∧ (Value.slice (some ⟨gP, 0, none⟩) R.par.length k11).ownBlock ≠ some k) ∧ k ≠ gI) ∧ k < w6.heap.size) ?_ ?_ NL1.out (Kd.F_below ZF.out B1.out) (fun k hk => ⟨hk.1, fun e => by have h5 := Kd.N_base NL1.out k e.symm; have h6 := hk.2; omega⟩) (fun k hk => ⟨⟨.inr (by have h1 := HLT.out; have h5 := B1.out.size; omega), fun e => by have h1 : gP = k := Option.some.inj e; have h2 := HGP2.out; have h5 := B1.out.size; omega⟩, fun e => by have h2 := HGI.out; have h5 := B1.out.size; omega⟩) B1.out B1.out.size (by have := HZL.out; simp; omega) ?_
          rfl
          rfl
          rfl
          intro u2 wn2 hn2 hb2 hg2 hat2
          rw [List.nil_append] at hn2
          have NL2 := Lib.hid hn2
          have B2 := Lib.hid hb2
          clear hn2 hb2 hg2 hat2
          refine hK.out _ _ ⟨pw_cell_below B2.out f2, pw_cell_below B2.out zc⟩ (fun hHeld => ?_)
          clear hK K
          (try simp only [Act.put, List.setIfInBounds_toArray, List.set_cons_zero, List.set_cons_succ])
          refine one_ (i := 12) (N := (some 59)) #[true, true, true, true, true, true, true, true, true, true, true, true, true, false, false, false] rfl rfl (one_of HT_.out (by kernel_rfl)) (by decide) (fun K hK => ?_)
          go_simp
          have LF3 := Lib.hid (F_lit1 wn2 (⟨⟨#[]⟩, (i : Int)⟩ : S115))
          have B3 := Lib.hid (B2.out.alloc B2.out.size (.cells #[.string ⟨#[]⟩, .int .i64 (i : Int)] 115))
          have hl3 := Lib.hid (show wn2.heap.size < (wn2.alloc (.cells #[.string ⟨#[]⟩, .int .i64 (i : Int)] 115)).heap.size from by rw [World.size_alloc]; omega)
          have NL3 := Lib.hid (Kd.N_below NL2.out ((Below.refl wn2.heap.size wn2).alloc (Nat.le_refl _) (.cells #[.string ⟨#[]⟩, .int .i64 (i : Int)] 115)))
          have ne3 : Hid (∀ k, u2.ownBlock = some k → k ≠ wn2.heap.size) := Lib.hid (fun k hk => by have h5 := Kd.N_lt NL2.out k hk; omega)
          generalize hq3 : wn2.alloc (.cells #[.string ⟨#[]⟩, .int .i64 (i : Int)] 115) = wn3 at *
          refine hK.out _ _ ⟨pw_cell_below B3.out f2, pw_cell_below B3.out zc⟩ (fun hHeld => ?_)
          clear hK K
          (try simp only [Act.put, List.setIfInBounds_toArray, List.set_cons_zero, List.set_cons_succ])
          refine one_ (i := 13) (N := (some 60)) #[true, true, true, true, true, true, true, true, true, true, true, true, true, true, false, false] rfl rfl (one_of HT_.out (by kernel_rfl)) (by decide) (fun K hK => ?_)
          refine Kd.N_append_rows_step k115 (w0 := w6) (W := wn3) w6.heap.size (by rfl) (.tmp 56) (.tmp 59) 112 115 (.agg #[(.string ⟨#[]⟩), (.int .i64 0)]) 24 ?_ Try.underlying112 info115 rfl (by decide) (by decide) u2 zs [(⟨⟨#[]⟩, (i : Int)⟩ : S115)] (some ⟨wn2.heap.size, 0, none⟩) 1 1 (fun k => (Ok ok W0 k ∧ (Value.slice (some ⟨gP, 0, none⟩) R.par.length k11).ownBlock ≠ some k) ∧ k ≠ gI) (fun k => k = wn2.heap.size) ?_ ?_ NL3.out LF3.out (fun k hk => ⟨⟨⟨.inr (by have h1 := HLT.out; have h5 := B2.out.size; omega), fun e => by have h1 : gP = k := Option.some.inj e; have h2 := HGP2.out; have h5 := B2.out.size; omega⟩, fun e => by have h2 := HGI.out; have h5 := B2.out.size; omega⟩, fun e => ne3.out k e.symm hk⟩) (fun k hk => ⟨⟨.inr (by have h1 := HLT.out; have h5 := B3.out.size; omega), fun e => by have h1 : gP = k := Option.some.inj e; have h2 := HGP2.out; have h5 := B3.out.size; omega⟩, fun e => by have h2 := HGI.out; have h5 := B3.out.size; omega⟩) B3.out B3.out.size (by have := HZL.out; simp; omega) ?_
          rfl
          rfl
          rfl
          intro u4 wn4 hn4 hb4 hg4 hat4
          obtain ⟨Au4, ku4, rfl⟩ := Kd.N_slice hn4
          obtain ⟨yz, hyz⟩ : ∃ y, zs ++ [(⟨⟨#[]⟩, (i : Int)⟩ : S115)] = y := ⟨_, rfl⟩
          have HYZ := Lib.hid hyz
          rw [hyz] at hn4 ⊢
          obtain ⟨Av4, cv4, hv4, hle4, _⟩ := Kd.N_reads hn4
          injection hv4 with e1 e2 e3
          subst e1 e3
          have NL4 := Lib.hid hn4
          have VL4 := Lib.hid hle4
          have B4 := Lib.hid hb4
          have HM7 := Lib.hid (M6.out.below hb4)
          have g7 := pw_cell_below hb4 zc
          have fr7 := (HM7.out.at_inner (j := p) rfl (by omega) HZS.out).choose_spec.choose_spec.2.1
          clear hyz hn4 hb4 hg4 hat4 hle4 e2
          refine hK.out _ _ ⟨pw_cell_below B4.out f2, pw_cell_below B4.out zc⟩ (fun hHeld => ?_)
          clear hK K
          (try simp only [Act.put, List.setIfInBounds_toArray, List.set_cons_zero, List.set_cons_succ])
          refine pure_ (i := 14) (N := (some 61)) (v := ?_) (a' := ?_) #[true, true, true, true, true, true, true, true, true, true, true, true, true, true, true, false] rfl rfl (any_of HT_.out (by kernel_rfl)) (fun _ _ _ h => h) (Or.inl ⟨by rfl, ?_⟩) ?_ ?_
          rotate_left
          · intro w'
            go_simp
            with_reducible rfl
          rotate_left
          · simp only [Act.put, List.setIfInBounds_toArray, List.set_cons_zero, List.set_cons_succ, i64_w, i32_w]
            rfl
          refine last_ (i := 15) (N := none) #[true, true, true, true, true, true, true, true, true, true, true, true, true, true, true, true] rfl rfl (one_of HT_.out (by kernel_rfl)) (by decide) (fun K hK => ?_)
          go_simp
          refine hK.out _ _ ?_
          clear hK K
          refine done_ (done_of HT_.out (by kernel_rfl)) ?_
          have HM8 := Lib.hid (HM7.out.setInner (j := p) rfl (by omega) VL4.out (Kd.N_F NL4.out) (fun k hk => ⟨hk.1.1, hk.1.2, hk.2⟩))
          go_wp2_with fail
          go_meet
          exact Lib.hid (by show Mid _ _ _ _ _ _ _ _ ((R.leave i).set p ((R.leave i).getD p [] ++ [⟨⟨#[]⟩, (i : Int)⟩])) (R.par.set i (p : Int)); rw [List.getD_eq_getElem?_getD, HZS.out, Option.getD_some, HYZ.out]; exact HM8.out)
        · go_simp
          have LF6 := Lib.hid (F_lit1 wn1 (⟨⟨#[]⟩, (i : Int)⟩ : S115))
          have B6 := Lib.hid (B1.out.alloc B1.out.size (.cells #[.string ⟨#[]⟩, .int .i64 (i : Int)] 115))
          have hl6 := Lib.hid (show wn1.heap.size < (wn1.alloc (.cells #[.string ⟨#[]⟩, .int .i64 (i : Int)] 115)).heap.size from by rw [World.size_alloc]; omega)
          have NL6 := Lib.hid (Kd.N_below NL1.out ((Below.refl wn1.heap.size wn1).alloc (Nat.le_refl _) (.cells #[.string ⟨#[]⟩, .int .i64 (i : Int)] 115)))
          have ne6 : Hid (∀ k, (Value.slice (some ⟨w6.heap.size, 0, none⟩) 0 0).ownBlock = some k → k ≠ wn1.heap.size) := Lib.hid (fun k hk => by have h5 := Kd.N_lt NL1.out k hk; omega)
          generalize hq6 : wn1.alloc (.cells #[.string ⟨#[]⟩, .int .i64 (i : Int)] 115) = wn6 at *
          refine hK.out _ _ ⟨pw_cell_below B6.out f2, pw_cell_below B6.out zc⟩ (fun hHeld => ?_)
          clear hK K
          (try simp only [Act.put, List.setIfInBounds_toArray, List.set_cons_zero, List.set_cons_succ])
          refine one_ (i := 9) (N := (some 56)) #[true, true, true, true, true, true, true, true, true, true, true, true, true, false, false, false] rfl rfl (one_of HT_.out (by kernel_rfl)) (by decide) (fun K hK => ?_)
          refine Kd.N_append_rows_step k115 (w0 := w6) (W := wn6) w6.heap.size (by rfl) (.tmp 50) (.tmp 55) 112 115 (.agg #[(.string ⟨#[]⟩), (.int .i64 0)]) 24 ?_ Try.underlying112 info115 rfl (by decide) (by decide) (.slice (some ⟨w6.heap.size, 0, none⟩) 0 0) [] zs Az zs.length cz (fun k => (Ok ok W0 k ∧ (Value.slice (some ⟨gP, 0, none⟩) R.par.length k11).ownBlock ≠ some k) ∧ k ≠ gI) (fun k => ((Ok ok W0 k ∧ (Value.slice (some ⟨gP, 0, none⟩) R.par.length k11).ownBlock ≠ some k) ∧ k ≠ gI) ∧ k < w6.heap.size) ?_ ?_ NL6.out (Kd.F_below ZF.out B6.out) (fun k hk => ⟨hk.1, fun e => by have h5 := Kd.N_base NL6.out k e.symm; have h6 := hk.2; omega⟩) (fun k hk => ⟨⟨.inr (by have h1 := HLT.out; have h5 := B6.out.size; omega), fun e => by have h1 : gP = k := Option.some.inj e; have h2 := HGP2.out; have h5 := B6.out.size; omega⟩, fun e => by have h2 := HGI.out; have h5 := B6.out.size; omega⟩) B6.out B6.out.size (by have := HZL.out; simp; omega) ?_
          rfl
          rfl
          rfl
          intro u7 wn7 hn7 hb7 hg7 hat7
          rw [List.nil_append] at hn7
          have NL7 := Lib.hid hn7
          have B7 := Lib.hid hb7
          have LF7 := Lib.hid (Kd.F_step LF6.out (fun k hk hlt => hg7.block k hlt (fun e => ne6.out k e.symm hk)))
          have ne7 : Hid (∀ k, u7.ownBlock = some k → k ≠ wn1.heap.size) := Lib.hid (fun k hk => by rcases hat7 with e | ⟨b, e, hb⟩; exact ne6.out k (e.symm.trans hk); have h5 : b = k := Option.some.inj (e.symm.trans hk); have h6 := hl6.out; omega)
          have hl7 := Lib.hid (Nat.lt_of_lt_of_le hl6.out hg7.size)
          clear hn7 hb7 hg7 hat7
          refine hK.out _ _ ⟨pw_cell_below B7.out f2, pw_cell_below B7.out zc⟩ (fun hHeld => ?_)
          clear hK K
          (try simp only [Act.put, List.setIfInBounds_toArray, List.set_cons_zero, List.set_cons_succ])
          refine one_ (i := 13) (N := (some 60)) #[true, true, true, true, true, true, true, true, true, true, true, true, true, true, false, false] rfl rfl (one_of HT_.out (by kernel_rfl)) (by decide) (fun K hK => ?_)
          refine Kd.N_append_rows_step k115 (w0 := w6) (W := wn7) w6.heap.size (by rfl) (.tmp 56) (.tmp 59) 112 115 (.agg #[(.string ⟨#[]⟩), (.int .i64 0)]) 24 ?_ Try.underlying112 info115 rfl (by decide) (by decide) u7 zs [(⟨⟨#[]⟩, (i : Int)⟩ : S115)] (some ⟨wn1.heap.size, 0, none⟩) 1 1 (fun k => (Ok ok W0 k ∧ (Value.slice (some ⟨gP, 0, none⟩) R.par.length k11).ownBlock ≠ some k) ∧ k ≠ gI) (fun k => k = wn1.heap.size) ?_ ?_ NL7.out LF7.out (fun k hk => ⟨⟨⟨.inr (by have h1 := HLT.out; have h5 := B1.out.size; omega), fun e => by have h1 : gP = k := Option.some.inj e; have h2 := HGP2.out; have h5 := B1.out.size; omega⟩, fun e => by have h2 := HGI.out; have h5 := B1.out.size; omega⟩, fun e => ne7.out k e.symm hk⟩) (fun k hk => ⟨⟨.inr (by have h1 := HLT.out; have h5 := B7.out.size; omega), fun e => by have h1 : gP = k := Option.some.inj e; have h2 := HGP2.out; have h5 := B7.out.size; omega⟩, fun e => by have h2 := HGI.out; have h5 := B7.out.size; omega⟩) B7.out B7.out.size (by have := HZL.out; simp; omega) ?_
          rfl
          rfl
          rfl
          intro u8 wn8 hn8 hb8 hg8 hat8
          obtain ⟨Au8, ku8, rfl⟩ := Kd.N_slice hn8
          obtain ⟨yz, hyz⟩ : ∃ y, zs ++ [(⟨⟨#[]⟩, (i : Int)⟩ : S115)] = y := ⟨_, rfl⟩
          have HYZ := Lib.hid hyz
          rw [hyz] at hn8 ⊢
          obtain ⟨Av8, cv8, hv8, hle8, _⟩ := Kd.N_reads hn8
          injection hv8 with e1 e2 e3
          subst e1 e3
          have NL8 := Lib.hid hn8
          have VL8 := Lib.hid hle8
          have B8 := Lib.hid hb8
          have HM7 := Lib.hid (M6.out.below hb8)
          have g7 := pw_cell_below hb8 zc
          have fr7 := (HM7.out.at_inner (j := p) rfl (by omega) HZS.out).choose_spec.choose_spec.2.1
          clear hyz hn8 hb8 hg8 hat8 hle8 e2
          refine hK.out _ _ ⟨pw_cell_below B8.out f2, pw_cell_below B8.out zc⟩ (fun hHeld => ?_)
          clear hK K
          (try simp only [Act.put, List.setIfInBounds_toArray, List.set_cons_zero, List.set_cons_succ])
          refine pure_ (i := 14) (N := (some 61)) (v := ?_) (a' := ?_) #[true, true, true, true, true, true, true, true, true, true, true, true, true, true, true, false] rfl rfl (any_of HT_.out (by kernel_rfl)) (fun _ _ _ h => h) (Or.inl ⟨by rfl, ?_⟩) ?_ ?_
          rotate_left
          · intro w'
            go_simp
            with_reducible rfl
          rotate_left
          · simp only [Act.put, List.setIfInBounds_toArray, List.set_cons_zero, List.set_cons_succ, i64_w, i32_w]
            rfl
          refine last_ (i := 15) (N := none) #[true, true, true, true, true, true, true, true, true, true, true, true, true, true, true, true] rfl rfl (one_of HT_.out (by kernel_rfl)) (by decide) (fun K hK => ?_)
          go_simp
          refine hK.out _ _ ?_
          clear hK K
          refine done_ (done_of HT_.out (by kernel_rfl)) ?_
          have HM8 := Lib.hid (HM7.out.setInner (j := p) rfl (by omega) VL8.out (Kd.N_F NL8.out) (fun k hk => ⟨hk.1.1, hk.1.2, hk.2⟩))
          go_wp2_with fail
          go_meet
          exact Lib.hid (by show Mid _ _ _ _ _ _ _ _ ((R.leave i).set p ((R.leave i).getD p [] ++ [⟨⟨#[]⟩, (i : Int)⟩])) (R.par.set i (p : Int)); rw [List.getD_eq_getElem?_getD, HZS.out, Option.getD_some, HYZ.out]; exact HM8.out)
      · go_simp
        have LF10 := Lib.hid (F_lit1 w6 (⟨⟨#[]⟩, (i : Int)⟩ : S115))
        have B10 := Lib.hid (HB6.out.alloc HB6.out.size (.cells #[.string ⟨#[]⟩, .int .i64 (i : Int)] 115))
        have hl10 := Lib.hid (show w6.heap.size < (w6.alloc (.cells #[.string ⟨#[]⟩, .int .i64 (i : Int)] 115)).heap.size from by rw [World.size_alloc]; omega)
        generalize hq10 : w6.alloc (.cells #[.string ⟨#[]⟩, .int .i64 (i : Int)] 115) = wn10 at *
        refine hK.out _ _ ⟨pw_cell_below B10.out f2, pw_cell_below B10.out zc⟩ (fun hHeld => ?_)
        clear hK K
        (try simp only [Act.put, List.setIfInBounds_toArray, List.set_cons_zero, List.set_cons_succ])
        refine one_ (i := 3) (N := (some 50)) #[true, true, true, true, true, true, true, true, true, false, true, true, true, false, false, false] rfl rfl (one_of HT_.out (by kernel_rfl)) (by decide) (fun K hK => ?_)
        go_simp
        have NL11 := Lib.hid (Kd.N_mono (ok' := (fun k => (Ok ok W0 k ∧ (Value.slice (some ⟨gP, 0, none⟩) R.par.length k11).ownBlock ≠ some k) ∧ k ≠ gI)) (Kd.N_lower (N_lit k115 115 wn10 wn10.heap.size (Nat.le_refl _)) B10.out.size) (fun k hk => ⟨⟨.inr (by have h1 := HLT.out; have h5 := B10.out.size; omega), fun e => by have h1 : gP = k := Option.some.inj e; have h2 := HGP2.out; have h5 := B10.out.size; omega⟩, fun e => by have h2 := HGI.out; have h5 := B10.out.size; omega⟩))
        have B11 := Lib.hid (B10.out.alloc B10.out.size (.cells #[] 115))
        have hz11 := Lib.hid (show wn10.heap.size < (wn10.alloc (.cells #[] 115)).heap.size from by rw [World.size_alloc]; omega)
        have LF11 := Lib.hid (Kd.F_below LF10.out ((Below.refl wn10.heap.size wn10).alloc (Nat.le_refl _) (.cells #[] 115)))
        have ne11 : Hid (∀ k, (Value.slice (some ⟨wn10.heap.size, 0, none⟩) 0 0).ownBlock = some k → k ≠ w6.heap.size) := Lib.hid (fun k hk => by have h5 : wn10.heap.size = k := Option.some.inj hk; have h6 := hl10.out; omega)
        have hl11 := Lib.hid (Nat.lt_trans hl10.out hz11.out)
        generalize hq11 : wn10.alloc (.cells #[] 115) = wn11 at *
        refine hK.out _ _ ⟨pw_cell_below B11.out f2, pw_cell_below B11.out zc⟩ (fun hHeld => ?_)
        clear hK K
        (try simp only [Act.put, List.setIfInBounds_toArray, List.set_cons_zero, List.set_cons_succ])
        refine one_ (i := 9) (N := (some 56)) #[true, true, true, true, true, true, true, true, true, true, true, true, true, false, false, false] rfl rfl (one_of HT_.out (by kernel_rfl)) (by decide) (fun K hK => ?_)
        refine Kd.N_append_rows_step k115 (w0 := w6) (W := wn11) w6.heap.size (by rfl) (.tmp 50) (.tmp 55) 112 115 (.agg #[(.string ⟨#[]⟩), (.int .i64 0)]) 24 ?_ Try.underlying112 info115 rfl (by decide) (by decide) (.slice (some ⟨wn10.heap.size, 0, none⟩) 0 0) [] zs Az zs.length cz (fun k => (Ok ok W0 k ∧ (Value.slice (some ⟨gP, 0, none⟩) R.par.length k11).ownBlock ≠ some k) ∧ k ≠ gI) (fun k => ((Ok ok W0 k ∧ (Value.slice (some ⟨gP, 0, none⟩) R.par.length k11).ownBlock ≠ some k) ∧ k ≠ gI) ∧ k < w6.heap.size) ?_ ?_ NL11.out (Kd.F_below ZF.out B11.out) (fun k hk => ⟨hk.1, fun e => by have h5 := Kd.N_base NL11.out k e.symm; have h6 := hk.2; omega⟩) (fun k hk => ⟨⟨.inr (by have h1 := HLT.out; have h5 := B11.out.size; omega), fun e => by have h1 : gP = k := Option.some.inj e; have h2 := HGP2.out; have h5 := B11.out.size; omega⟩, fun e => by have h2 := HGI.out; have h5 := B11.out.size; omega⟩) B11.out B11.out.size (by have := HZL.out; simp; omega) ?_
        rfl
        rfl
        rfl
        intro u12 wn12 hn12 hb12 hg12 hat12
        rw [List.nil_append] at hn12
        have NL12 := Lib.hid hn12
        have B12 := Lib.hid hb12
        have LF12 := Lib.hid (Kd.F_step LF11.out (fun k hk hlt => hg12.block k hlt (fun e => ne11.out k e.symm hk)))
        have ne12 : Hid (∀ k, u12.ownBlock = some k → k ≠ w6.heap.size) := Lib.hid (fun k hk => by rcases hat12 with e | ⟨b, e, hb⟩; exact ne11.out k (e.symm.trans hk); have h5 : b = k := Option.some.inj (e.symm.trans hk); have h6 := hl11.out; omega)
        have hl12 := Lib.hid (Nat.lt_of_lt_of_le hl11.out hg12.size)
        clear hn12 hb12 hg12 hat12
        refine hK.out _ _ ⟨pw_cell_below B12.out f2, pw_cell_below B12.out zc⟩ (fun hHeld => ?_)
        clear hK K
        (try simp only [Act.put, List.setIfInBounds_toArray, List.set_cons_zero, List.set_cons_succ])
        refine one_ (i := 13) (N := (some 60)) #[true, true, true, true, true, true, true, true, true, true, true, true, true, true, false, false] rfl rfl (one_of HT_.out (by kernel_rfl)) (by decide) (fun K hK => ?_)
        refine Kd.N_append_rows_step k115 (w0 := w6) (W := wn12) w6.heap.size (by rfl) (.tmp 56) (.tmp 59) 112 115 (.agg #[(.string ⟨#[]⟩), (.int .i64 0)]) 24 ?_ Try.underlying112 info115 rfl (by decide) (by decide) u12 zs [(⟨⟨#[]⟩, (i : Int)⟩ : S115)] (some ⟨w6.heap.size, 0, none⟩) 1 1 (fun k => (Ok ok W0 k ∧ (Value.slice (some ⟨gP, 0, none⟩) R.par.length k11).ownBlock ≠ some k) ∧ k ≠ gI) (fun k => k = w6.heap.size) ?_ ?_ NL12.out LF12.out (fun k hk => ⟨⟨⟨.inr (by have h1 := HLT.out; have h5 := HB6.out.size; omega), fun e => by have h1 : gP = k := Option.some.inj e; have h2 := HGP2.out; have h5 := HB6.out.size; omega⟩, fun e => by have h2 := HGI.out; have h5 := HB6.out.size; omega⟩, fun e => ne12.out k e.symm hk⟩) (fun k hk => ⟨⟨.inr (by have h1 := HLT.out; have h5 := B12.out.size; omega), fun e => by have h1 : gP = k := Option.some.inj e; have h2 := HGP2.out; have h5 := B12.out.size; omega⟩, fun e => by have h2 := HGI.out; have h5 := B12.out.size; omega⟩) B12.out B12.out.size (by have := HZL.out; simp; omega) ?_
        rfl
        rfl
        rfl
        intro u13 wn13 hn13 hb13 hg13 hat13
        obtain ⟨Au13, ku13, rfl⟩ := Kd.N_slice hn13
        obtain ⟨yz, hyz⟩ : ∃ y, zs ++ [(⟨⟨#[]⟩, (i : Int)⟩ : S115)] = y := ⟨_, rfl⟩
        have HYZ := Lib.hid hyz
        rw [hyz] at hn13 ⊢
        obtain ⟨Av13, cv13, hv13, hle13, _⟩ := Kd.N_reads hn13
        injection hv13 with e1 e2 e3
        subst e1 e3
        have NL13 := Lib.hid hn13
        have VL13 := Lib.hid hle13
        have B13 := Lib.hid hb13
        have HM7 := Lib.hid (M6.out.below hb13)
        have g7 := pw_cell_below hb13 zc
        have fr7 := (HM7.out.at_inner (j := p) rfl (by omega) HZS.out).choose_spec.choose_spec.2.1
        clear hyz hn13 hb13 hg13 hat13 hle13 e2
        refine hK.out _ _ ⟨pw_cell_below B13.out f2, pw_cell_below B13.out zc⟩ (fun hHeld => ?_)
        clear hK K
        (try simp only [Act.put, List.setIfInBounds_toArray, List.set_cons_zero, List.set_cons_succ])
        refine pure_ (i := 14) (N := (some 61)) (v := ?_) (a' := ?_) #[true, true, true, true, true, true, true, true, true, true, true, true, true, true, true, false] rfl rfl (any_of HT_.out (by kernel_rfl)) (fun _ _ _ h => h) (Or.inl ⟨by rfl, ?_⟩) ?_ ?_
        rotate_left
        · intro w'
          go_simp
          with_reducible rfl
        rotate_left
        · simp only [Act.put, List.setIfInBounds_toArray, List.set_cons_zero, List.set_cons_succ, i64_w, i32_w]
          rfl
        refine last_ (i := 15) (N := none) #[true, true, true, true, true, true, true, true, true, true, true, true, true, true, true, true] rfl rfl (one_of HT_.out (by kernel_rfl)) (by decide) (fun K hK => ?_)
        go_simp
        refine hK.out _ _ ?_
        clear hK K
        refine done_ (done_of HT_.out (by kernel_rfl)) ?_
        have HM8 := Lib.hid (HM7.out.setInner (j := p) rfl (by omega) VL13.out (Kd.N_F NL13.out) (fun k hk => ⟨hk.1.1, hk.1.2, hk.2⟩))
        go_wp2_with fail
        go_meet
        exact Lib.hid (by show Mid _ _ _ _ _ _ _ _ ((R.leave i).set p ((R.leave i).getD p [] ++ [⟨⟨#[]⟩, (i : Int)⟩])) (R.par.set i (p : Int)); rw [List.getD_eq_getElem?_getD, HZS.out, Option.getD_some, HYZ.out]; exact HM8.out)
    case rest =>
      clear hpl zc f2 HB6 ZF ZL HGI HGP2 HLT M6 HGP hgp hxi
      have HM8 := hcut
      clear hcut
      have b0 := blk_cell HM8.out.box 0
      have b1 := blk_cell HM8.out.box 1
      have b2 := blk_cell HM8.out.box 2
      have b3 := blk_cell HM8.out.box 3
      have b4 := blk_cell HM8.out.box 4
      have q0 := blk_cell HM8.out.res 0
      have q1 := blk_cell HM8.out.res 1
      have q2 := blk_cell HM8.out.res 2
      have q3 := blk_cell HM8.out.res 3
      have q4 := blk_cell HM8.out.res 4
      have f0 := blk_frozen HM8.out.res 0
      have f1 := blk_frozen HM8.out.res 1
      have f2 := blk_frozen HM8.out.res 2
      have f3 := blk_frozen HM8.out.res 3
      have f4 := blk_frozen HM8.out.res 4
      try simp only [List.getElem?_toArray, List.getElem?_cons_zero, List.getElem?_cons_succ] at b0 b1 b2 b3 b4 q0 q1 q2 q3 q4
      have X9 := blk_put (blk_put (blk_put (blk_put (blk_put HM8.out.res 0 (.slice B0 R.names.length d0) rfl) 1 (.slice B1 R.attrs.length d1) rfl) 2 (.slice (some ⟨gI, 0, none⟩) R.inner.length k10) rfl) 3 (.slice (some ⟨gP, 0, none⟩) R.par.length k11) rfl) 4 (.int .i64 R.copies) rfl
      have e0 := blk_cell X9 0
      have e1 := blk_cell X9 1
      have e2 := blk_cell X9 2
      have e3 := blk_cell X9 3
      have e4 := blk_cell X9 4
      try simp only [List.getElem?_toArray, List.getElem?_cons_zero, List.getElem?_cons_succ] at e0 e1 e2 e3 e4
      go_wp2_with fail
      refine bodyPost_ret (v := .agg #[(.slice B0 R.names.length d0), (.slice B1 R.attrs.length d1), (.slice (some ⟨gI, 0, none⟩) R.inner.length k10), (.slice (some ⟨gP, 0, none⟩) R.par.length k11), .int .i64 R.copies]) ?_ rfl ?_
      · simp [results, Try.f42, go_sem, e0, e1, e2, e3, e4]
      · exact ⟨_, _, rfl, RA.box (HM8.out.rows2 HR0.out HR1.out) [(.slice B0 R.names.length d0), (.slice B1 R.attrs.length d1), (.slice (some ⟨gI, 0, none⟩) R.inner.length k10), (.slice (some ⟨gP, 0, none⟩) R.par.length k11), .int .i64 R.copies], (((((HM8.out.bel.setCell (p := ⟨W0.heap.size + 1, 0, none⟩) (by simp) _).setCell (p := ⟨W0.heap.size + 1, 1, none⟩) (by simp) _).setCell (p := ⟨W0.heap.size + 1, 2, none⟩) (by simp) _).setCell (p := ⟨W0.heap.size + 1, 3, none⟩) (by simp) _).setCell (p := ⟨W0.heap.size + 1, 4, none⟩) (by simp) _)⟩
end Go.Proofs.Ytcdkcnegejhnhaa.Aa
