/-
  ArenaActs: the document's Text (fn 43).
-/
import Derived.Test.YtcdkcnegejhnhaaAaAppend
namespace Go.Proofs.Ytcdkcnegejhnhaa.Aa
open Go.RowKit Go.Proofs.Ytcdkcnegejhnhaa.PAr Go.Proofs.YtcdkcnegejhnhaaW.PrintWords Go.Proofs.YtcdkcnegejhnhaaW.PrintLast Go.Proofs.YtcdkcnegejhnhaaW.PrintMore
set_option linter.unusedVariables false
set_option linter.unusedSimpArgs false
/-- A text behind items. -/
def textTo (l : List S115) (s : ByteArray) : List S115 := match l.getLast? with
  | some y => if y.f1 = 0 then l.dropLast ++ [⟨y.f0 ++ s, y.f1⟩] else l ++ [⟨s, 0⟩]
  | none => [⟨s, 0⟩]
/-- A text stands in a node, behind all others. -/
def Rm.text (R : Rm) (p : Nat) (s : ByteArray) : Rm := if s.toList = [] then R else ⟨R.names, R.attrs, R.inner.set p (textTo (R.inner.getD p []) s), R.par, R.copies⟩
structure MidT (W0 w : World) (ok : Nat → Prop) (u0 u1 vi u3 : Value) (cp : Int) (inner : List (List S115)) : Prop where
  bel : Below W0.heap.size W0 w
  box : w.heap[W0.heap.size]? = some (.cells #[u0, u1, vi, u3, .int .i64 cp] 62 (0, 0))
  res : w.heap[W0.heap.size + 1]? = some (.cells #[.slice none 0 0, .slice none 0 0, .slice none 0 0, .slice none 0 0, .int .i64 0] 62 (0, 0))
  ni : Kd.N (Kd.slice 115 k115) 112 w W0.heap.size (Ok ok W0) vi inner
section
variable {W0 w w1 : World} {ok : Nat → Prop} {u0 u1 vi u3 : Value} {cp : Int} {inner : List (List S115)}
theorem MidT.below (h : MidT W0 w ok u0 u1 vi u3 cp inner) (hb : Below w.heap.size w w1) : MidT W0 w1 ok u0 u1 vi u3 cp inner where
  bel := h.bel.trans (hb.mono h.bel.size)
  box := blk_below h.box hb
  res := blk_below h.res hb
  ni := Kd.N_below h.ni hb
theorem MidT.lt (h : MidT W0 w ok u0 u1 vi u3 cp inner) : W0.heap.size + 2 ≤ w.heap.size := blk_lt h.res
theorem MidT.g2 (h : MidT W0 w ok u0 u1 vi u3 cp inner) {g n c : Nat} (hv : vi = .slice (some ⟨g, 0, none⟩) n c) : W0.heap.size + 2 ≤ g := by
  subst hv
  have hg : Ok ok W0 g := h.ni.1 g rfl
  have hgb := Kd.N_base h.ni g rfl
  rcases hg with ⟨_, e⟩ | e
  · omega
  · exact e
/-- A row of inner items is replaced. -/
theorem MidT.setInner (h : MidT W0 w ok u0 u1 vi u3 cp inner) {g n c : Nat} (hv : vi = .slice (some ⟨g, 0, none⟩) n c) {j : Nat} (hj : j < n) {A : Option Addr} {c' : Nat} {xs : List S115} {okx : Nat → Prop} (hl : xs.length ≤ c') (hF : Kd.F k115 w okx A xs.length xs)
    (hok : ∀ k, okx k → Ok ok W0 k ∧ k ≠ g) : MidT W0 (w.setCell ⟨g, j, none⟩ (.slice A xs.length c')) ok u0 u1 vi u3 cp (inner.set j xs) := by
  have hg2 := h.g2 hv
  subst hv
  obtain ⟨c0, hcl, hK, hcc, _⟩ := Kd.N_elem h.ni ([] : List S115) (j : Int) (by omega) (by omega)
  rw [Int.toNat_natCast] at hcc
  have hseg := (Kd.N_seg h.ni (j : Int) (by omega) (by omega) (c := c0) (seg := [.slice A xs.length c']) (j := 0) hcl (fun i u hu => by rw [Int.toNat_natCast]; exact hcc i u hu) (show 0 + 1 ≤ 1 by decide) (x' := xs) (okp := okx) (by
    have hc1 : c0.length = 1 := hcl
    match c0, hc1 with
    | [_], _ => exact slice_mkF hl hF) (fun k hk => hok k hk)).1
  rw [Int.toNat_natCast] at hseg
  have e1 : w.setCells g (j * (Kd.slice 115 k115).sz + 0) [.slice A xs.length c'] = w.setCell ⟨g, j, none⟩ (.slice A xs.length c') := by
    show w.setCells g (j * 1 + 0) _ = _
    rw [Nat.mul_one, Nat.add_zero]
    rfl
  rw [e1] at hseg
  exact {
    bel := h.bel.setCell (p := ⟨g, j, none⟩) (by show W0.heap.size ≤ g; omega) _
    box := (Below.heap_setCell w _ _ _ (by show W0.heap.size ≠ g; omega)).trans h.box
    res := (Below.heap_setCell w _ _ _ (by show W0.heap.size + 1 ≠ g; omega)).trans h.res
    ni := hseg }
/-- An inner row of items: where it lies, its cell. -/
theorem MidT.at_inner (h : MidT W0 w ok u0 u1 vi u3 cp inner) {g n c : Nat} (hv : vi = .slice (some ⟨g, 0, none⟩) n c) {j : Nat} (hj : j < n) {xs : List S115} (hx : inner[j]? = some xs) :
    ∃ A c', w.cell? ⟨g, j, none⟩ = some (.slice A xs.length c') ∧ w.frozen? ⟨g, j, none⟩ = false ∧ xs.length ≤ c' ∧ Kd.F k115 w (fun k => Ok ok W0 k ∧ k ≠ g) A xs.length xs := by
  subst hv
  obtain ⟨c0, hcl, hK, hcc, hfr⟩ := Kd.N_elem h.ni ([] : List S115) (j : Int) (by omega) (by omega)
  rw [Int.toNat_natCast] at hK hcc hfr
  rw [List.getD_eq_getElem?_getD, hx, Option.getD_some] at hK
  obtain ⟨A, c', rfl, hl, hF⟩ := slice_openF hK
  have h1 := hcc 0 _ rfl
  have h2 := hfr 0
  rw [show j * (Kd.slice 115 k115).sz + 0 = j from Nat.mul_one j] at h1 h2
  exact ⟨A, c', h1, h2, hl, hF⟩
/-- The changed arena's rows, apart from the two boxes. -/
theorem MidT.rows2 (h : MidT W0 w ok u0 u1 vi u3 cp inner) {names : List ByteArray} {attrs : List (List S106)} {par : List Int} (r0 : RowF Kd.string W0 (fun k => ok k ∧ k < W0.heap.size) u0 names) (r1 : RowF (Kd.slice 106 k106) W0 (fun k => ok k ∧ k < W0.heap.size) u1 attrs)
    (r3 : RowF (Kd.int .i64) W0 (fun k => ok k ∧ k < W0.heap.size) u3 par) : RA w (Ok ok W0) u0 u1 vi u3 ⟨names, attrs, inner, par, cp⟩ where
  r0 := (r0.step fun k hk _ => h.bel.block k hk.2).mono fun k hk => .inl hk
  r1 := (r1.step fun k hk _ => h.bel.block k hk.2).mono fun k hk => .inl hk
  r2 := RowF.of_N h.ni
  r3 := (r3.step fun k hk _ => h.bel.block k hk.2).mono fun k hk => .inl hk
end
theorem rdT {xs : List S115} {j : Nat} {y : S115} (h : xs[j]? = some y) : rd_T115 xs (j : Int) = y := by unfold rd_T115; rw [Int.toNat_natCast, List.getD_eq_getElem?_getD, h, Option.getD_some]
theorem RA.bound2 {W : World} {ok : Nat → Prop} {u0 u1 u2 u3 : Value} {R : Rm} (h : RA W ok u0 u1 u2 u3 R) : RA W (fun k => ok k ∧ k < W.heap.size) u0 u1 u2 u3 R := ⟨h.r0.bound, h.r1.bound, h.r2.bound, h.r3.bound⟩
set_option maxRecDepth 100000 in
set_option maxHeartbeats 16000000 in
theorem text12_calls {W0 : World} {ok : Nat → Prop} {u0 u1 u2 u3 : Value} {R : Rm} (h : RA W0 ok u0 u1 u2 u3 R) (p : Nat) (hp : p < R.inner.length) (s : ByteArray) (hs : s.size ≤ 2000000000) (ht : ∀ l ∈ R.inner, ∀ y ∈ l, y.f1 = 0 → y.f0.size ≤ 2000000000)
    (hn : R.inner.length ≤ 1000) (hx : ∀ l ∈ R.inner, l.length ≤ 100000) :
    Calls Try.prog 43 #[.agg #[u0, u1, u2, u3, .int .i64 R.copies], .int .i64 (p : Int), .string s] W0 fun e w' => ∃ v2, e = .returned (.agg #[u0, u1, v2, u3, .int .i64 R.copies]) ∧
      RA w' (fun k => ok k ∨ W0.heap.size ≤ k) u0 u1 v2 u3 (R.text p s) ∧ Below W0.heap.size W0 w' := by
  have hr0 := h.r0.bound
  have hr1 := h.r1.bound
  have hr3 := h.r3.bound
  have HR0 := Lib.hid hr0
  have HR1 := Lib.hid hr1
  have HR3 := Lib.hid hr3
  have HRA := Lib.hid h
  obtain ⟨B2, d2, rfl, le2, f2⟩ := h.r2.bound
  obtain ⟨B0, d0, rfl, _, _⟩ := hr0
  obtain ⟨B1, d1, rfl, _, _⟩ := hr1
  obtain ⟨B3, d3, rfl, _, _⟩ := hr3
  have HF2 := Lib.hid f2
  have HN := Lib.hid hn
  have HX := Lib.hid hx
  have HT := Lib.hid ht
  have HS := Lib.hid hs
  clear h f2 le2 hx ht hs
  have HB := Lib.hid (((Below.refl W0.heap.size W0).alloc (Nat.le_refl _) (.cells #[.slice B0 R.names.length d0, .slice B1 R.attrs.length d1, .slice B2 R.inner.length d2, .slice B3 R.par.length d3, .int .i64 R.copies] 62)).alloc (by simp) (.cells #[.slice none 0 0, .slice none 0 0, .slice none 0 0, .slice none 0 0, .int .i64 0] 62))
  have XB := Lib.hid (blk_alloc (blk_new W0 (.cells #[.slice B0 R.names.length d0, .slice B1 R.attrs.length d1, .slice B2 R.inner.length d2, .slice B3 R.par.length d3, .int .i64 R.copies] 62)) (.cells #[.slice none 0 0, .slice none 0 0, .slice none 0 0, .slice none 0 0, .int .i64 0] 62))
  have XR := Lib.hid (show ((W0.alloc (.cells #[.slice B0 R.names.length d0, .slice B1 R.attrs.length d1, .slice B2 R.inner.length d2, .slice B3 R.par.length d3, .int .i64 R.copies] 62)).alloc (.cells #[.slice none 0 0, .slice none 0 0, .slice none 0 0, .slice none 0 0, .int .i64 0] 62)).heap[W0.heap.size + 1]? = some (.cells #[.slice none 0 0, .slice none 0 0, .slice none 0 0, .slice none 0 0, .int .i64 0] 62 (0, 0)) by
    have := blk_new (W0.alloc (.cells #[.slice B0 R.names.length d0, .slice B1 R.attrs.length d1, .slice B2 R.inner.length d2, .slice B3 R.par.length d3, .int .i64 R.copies] 62)) (.cells #[.slice none 0 0, .slice none 0 0, .slice none 0 0, .slice none 0 0, .int .i64 0] 62)
    rwa [World.size_alloc] at this)
  by_cases hS : s.toList = []
  · have x1 : (s.toList == []) = true := by rw [hS]; rfl
    have hR : R.text p s = R := by unfold Rm.text; rw [if_pos hS]
    rw [hR]
    clear hR
    go_enter Try.func43, Try.ntmps43
    go_upto_region 1 with (fail)
    generalize hw : (W0.alloc _).alloc _ = w1 at *
    clear hw
    have b0 := blk_cell XB.out 0
    have b1 := blk_cell XB.out 1
    have b2 := blk_cell XB.out 2
    have b3 := blk_cell XB.out 3
    have b4 := blk_cell XB.out 4
    have q0 := blk_cell XR.out 0
    have q1 := blk_cell XR.out 1
    have q2 := blk_cell XR.out 2
    have q3 := blk_cell XR.out 3
    have q4 := blk_cell XR.out 4
    have f0 := blk_frozen XR.out 0
    have f1 := blk_frozen XR.out 1
    have f2 := blk_frozen XR.out 2
    have f3 := blk_frozen XR.out 3
    have f4 := blk_frozen XR.out 4
    try simp only [List.getElem?_toArray, List.getElem?_cons_zero, List.getElem?_cons_succ] at b0 b1 b2 b3 b4 q0 q1 q2 q3 q4
    have X9 := blk_put (blk_put (blk_put (blk_put (blk_put XR.out 0 (.slice B0 R.names.length d0) rfl) 1 (.slice B1 R.attrs.length d1) rfl) 2 (.slice B2 R.inner.length d2) rfl) 3 (.slice B3 R.par.length d3) rfl) 4 (.int .i64 R.copies) rfl
    have e0 := blk_cell X9 0
    have e1 := blk_cell X9 1
    have e2 := blk_cell X9 2
    have e3 := blk_cell X9 3
    have e4 := blk_cell X9 4
    try simp only [List.getElem?_toArray, List.getElem?_cons_zero, List.getElem?_cons_succ] at e0 e1 e2 e3 e4
    go_wp2_with fail
    refine bodyPost_ret (v := .agg #[(.slice B0 R.names.length d0), (.slice B1 R.attrs.length d1), (.slice B2 R.inner.length d2), (.slice B3 R.par.length d3), .int .i64 R.copies]) ?_ rfl ?_
    · simp [results, Try.f43, go_sem, e0, e1, e2, e3, e4]
    · exact ⟨_, rfl, RA.mono (RA.step HRA.out.bound2 fun k hk _ => (setCells_far (w := w1) [(.slice B0 R.names.length d0), (.slice B1 R.attrs.length d1), (.slice B2 R.inner.length d2), (.slice B3 R.par.length d3), .int .i64 R.copies] 0 k (by have := hk.2; omega)).trans (HB.out.block k hk.2)) fun k hk => .inl hk.1, (((((HB.out.setCell (p := ⟨W0.heap.size + 1, 0, none⟩) (by simp) _).setCell (p := ⟨W0.heap.size + 1, 1, none⟩) (by simp) _).setCell (p := ⟨W0.heap.size + 1, 2, none⟩) (by simp) _).setCell (p := ⟨W0.heap.size + 1, 3, none⟩) (by simp) _).setCell (p := ⟨W0.heap.size + 1, 4, none⟩) (by simp) _)⟩
  · have x1 : (s.toList == []) = false := by
      cases e : s.toList with
      | nil => exact absurd e hS
      | cons _ _ => rfl
    have HSN := Lib.hid hS
    go_enter Try.func43, Try.ntmps43
    go_upto_region 1 with (fail)
    generalize hw : (W0.alloc _).alloc _ = w1 at *
    clear hw hS HRA
    have hs1 := Lib.hid (show W0.heap.size + 2 ≤ w1.heap.size from blk_lt XR.out)
    have NL := Lib.hid (Kd.N_mono (ok' := Ok ok W0) (Kd.N_lower (N_lit (Kd.slice 115 k115) 112 w1 (W0.heap.size + 2) hs1.out) (Nat.le_add_right _ 2)) (fun k hk => .inr hk))
    have BL := Lib.hid (HB.out.alloc HB.out.size (.cells #[] 112))
    have XL := Lib.hid (blk_alloc XB.out (.cells #[] 112))
    have gl := blk_cell XL.out 2
    try simp only [List.getElem?_toArray, List.getElem?_cons_zero, List.getElem?_cons_succ] at gl
    go_upto_region 4 with (refine Kd.N_append_rows (Kd.slice 115 k115) (w0 := W0) (W := w1.alloc (.cells #[] 112)) W0.heap.size rfl (.tmp 11) (.tmp 13) 60 112 (.slice none 0 0) 24 rfl Try.underlying60 info112 rfl (by decide) (by decide) (.slice (some ⟨w1.heap.size, 0, none⟩) 0 0) [] R.inner B2 R.inner.length d2 (Ok ok W0) (fun k => ok k ∧ k < W0.heap.size) rfl rfl NL.out (Kd.F_below HF2.out BL.out) (fun k hk => ⟨.inl hk, fun e => by have := Kd.N_base NL.out k e.symm; omega⟩) (fun k hk => .inr (Nat.le_trans hs1.out (Nat.le_trans (by simp) hk))) BL.out BL.out.size (by simp; omega) ?_; intro va wa hna hba hga hata; rw [List.nil_append] at hna; obtain ⟨A10, k10, rfl⟩ := Kd.N_slice hna; have NA := Lib.hid hna; have BA := Lib.hid hba; have XA := Lib.hid (blk_grown XL.out hga (Kd.N_ne NL.out XL.out (by decide))); have YA := Lib.hid (blk_grown (blk_alloc XR.out (.cells #[] 112)) hga (Kd.N_ne NL.out (blk_alloc XR.out (.cells #[] 112)) (by decide))); have gs := blk_cell XA.out 2; have gf := blk_frozen XA.out 2; clear hna hba hga hata)
    have MD := Lib.hid (show MidT W0 (wa.setCell ⟨W0.heap.size, 2, none⟩ (.slice A10 R.inner.length k10)) ok (.slice B0 R.names.length d0) (.slice B1 R.attrs.length d1) (.slice A10 R.inner.length k10) (.slice B3 R.par.length d3) R.copies R.inner from {
      bel := BA.out.setCell (p := ⟨W0.heap.size, 2, none⟩) (Nat.le_refl _) (.slice A10 R.inner.length k10)
      box := blk_put XA.out 2 (.slice A10 R.inner.length k10) rfl
      res := (Below.heap_setCell wa ⟨W0.heap.size, 2, none⟩ (.slice A10 R.inner.length k10) (W0.heap.size + 1) (by simp)).trans YA.out
      ni := Kd.N_step (w1 := wa.setCell ⟨W0.heap.size, 2, none⟩ (.slice A10 R.inner.length k10)) NA.out fun k hk _ => Below.heap_setCell wa _ _ k (fun e => by simp only at e; rcases hk with ⟨_, hk⟩ | hk <;> omega) })
    generalize hw2 : wa.setCell ⟨W0.heap.size, 2, none⟩ (.slice A10 R.inner.length k10) = w3 at *
    clear hw2 NA BA XA YA NL BL XL gl gs gf HB XB XR hs1 HF2
    obtain ⟨gI, cI, hvI⟩ : ∃ g c, (Value.slice A10 R.inner.length k10) = .slice (some ⟨g, 0, none⟩) R.inner.length c := by
      obtain ⟨g, cap, hu, _⟩ := Kd.N_form MD.out.ni (by omega)
      exact ⟨g, cap, hu⟩
    injection hvI with hA10 _ hk10
    subst hA10 hk10
    obtain ⟨zs, hzs⟩ : ∃ zs, R.inner[p]? = some zs := ⟨_, List.getElem?_eq_getElem hp⟩
    have HZS := Lib.hid hzs
    have HZL := Lib.hid (HX.out zs (List.mem_of_getElem? hzs))
    have HZT := Lib.hid (HT.out zs (List.mem_of_getElem? hzs))
    have hp0 : (0 : Int) ≤ (p : Int) := by omega
    have hp1 : (p : Int) < (R.inner.length : Int) := by omega
    have nl0 : (R.inner.length : Int) ≤ 1000 := by have := HN.out; omega
    have HG2 := Lib.hid (MD.out.g2 rfl)
    obtain ⟨Az, cz, zc, zf, zle, zF⟩ := MD.out.at_inner (j := p) rfl hp hzs
    have b2 := blk_cell MD.out.box 2
    try simp only [List.getElem?_toArray, List.getElem?_cons_zero, List.getElem?_cons_succ] at b2
    have HGI := Lib.hid (Kd.N_lt MD.out.ni gI rfl)
    have NL := Lib.hid (Kd.N_mono (ok' := (fun k => Ok ok W0 k ∧ k ≠ gI)) (N_lit k115 115 w3 w3.heap.size (Nat.le_refl _)) (fun k hk => ⟨.inr (by have := MD.out.lt; omega), by have := HGI.out; omega⟩))
    have BL := Lib.hid (show Below w3.heap.size w3 (w3.alloc (.cells #[] 115)) from (Below.refl _ _).alloc (Nat.le_refl _) _)
    have ZF := Lib.hid (Kd.F_bound zF)
    have ZL := Lib.hid zle
    have c2 := pw_cell_below BL.out b2
    have cz' := pw_cell_below BL.out zc
    clear zF zle zf hzs
    go_upto_region 5 with (refine Kd.N_append_rows k115 (w0 := w3) (W := w3.alloc (.cells #[] 115)) w3.heap.size rfl (.tmp 16) (.tmp 21) 112 115 (.agg #[(.string ⟨#[]⟩), (.int .i64 0)]) 24 rfl Try.underlying112 info115 rfl (by decide) (by decide) (.slice (some ⟨w3.heap.size, 0, none⟩) 0 0) [] zs Az zs.length cz (fun k => Ok ok W0 k ∧ k ≠ gI) (fun k => (Ok ok W0 k ∧ k ≠ gI) ∧ k < w3.heap.size) rfl rfl NL.out (Kd.F_below ZF.out BL.out) (fun k hk => ⟨hk.1, fun e => by have h5 := Kd.N_base NL.out k e.symm; have h6 := hk.2; omega⟩) (fun k hk => ⟨.inr (by have h1 := MD.out.lt; have h5 := BL.out.size; omega), by have h2 := HGI.out; have h5 := BL.out.size; omega⟩) BL.out BL.out.size (by have := HZL.out; simp; omega) ?_; intro va wa hna hba hga hata; rw [List.nil_append] at hna; obtain ⟨A11, k11, rfl⟩ := Kd.N_slice hna; have NA := Lib.hid hna; have BA := Lib.hid hba; clear hna hba hga hata)
    have M5 := Lib.hid (MD.out.below BA.out)
    have HLE := Lib.hid (Kd.N_reads' NA.out).2.1
    obtain ⟨bb, hbb⟩ : ∃ b, (match zs.getLast? with | some y => decide (y.f1 = 0) | none => false) = b := ⟨_, rfl⟩
    have zl0 : (zs.length : Int) ≤ 100000 := by have := HZL.out; omega
    clear NL BL c2 cz' b2 zc
    go_cut [35] from 23 (fun v35 wc => v35 = .bool bb ∧ wc = wa)
    case first =>
      rcases hL : zs.getLast? with _ | y
      · rw [hL] at hbb
        subst hbb
        have hz0 : ¬ ((zs.length : Int) > 0) := by
          have : zs = [] := by simpa using hL
          rw [this]
          decide
        go_wp2_with fail
        go_meet
        exact ⟨rfl, rfl⟩
      · rw [hL] at hbb
        have hz0 : (zs.length : Int) > 0 := by
          cases zs with
          | nil => cases hL
          | cons => rw [List.length_cons]; omega
        obtain ⟨n, hn⟩ : ∃ n, zs.length = n + 1 := ⟨zs.length - 1, by omega⟩
        have hy : zs[n]? = some y := by rw [List.getLast?_eq_getElem?, hn] at hL; exact hL
        obtain ⟨ad, hAd, y0, y1⟩ := at_T115 (Kd.F_now (Kd.N_F NA.out)) (n : Int) (by omega) (by omega)
        subst hAd
        rw [rdT hy, Int.toNat_natCast] at y0 y1
        have hwl : IntKind.i64.wrap ((zs.length : Int) - 1) = (n : Int) := by rw [IntWalk.i64_in _ (by omega)]; omega
        have n0 : (0 : Int) ≤ (n : Int) := by omega
        have n1 : (n : Int) < (zs.length : Int) := by omega
        have hfb : (y.f1 == 0) = bb := by rw [← hbb]; rfl
        clear hn
        go_wp2_with fail
        go_meet
        exact ⟨rfl, rfl⟩
    case rest =>
      obtain ⟨rfl, rfl⟩ := hcut
      go_upto_if 35 with fail
      go_cut [7] from 36 (fun v7 wd => ∃ A12 k12, v7 = .slice A12 (textTo zs s).length k12 ∧ Hid ((textTo zs s).length ≤ k12) ∧ Hid (MidT W0 wd ok (.slice B0 R.names.length d0) (.slice B1 R.attrs.length d1) (.slice (some ⟨gI, 0, none⟩) R.inner.length k10) (.slice B3 R.par.length d3) R.copies R.inner) ∧ Hid (Kd.F k115 wd (fun k => Ok ok W0 k ∧ k ≠ gI) A12 (textTo zs s).length (textTo zs s)))
      case first =>
        cases bb
        · have hT : textTo zs s = zs ++ [⟨s, 0⟩] := by
            unfold textTo
            rcases hL : zs.getLast? with _ | y
            · have : zs = [] := by simpa using hL
              rw [this]
              rfl
            · rw [hL] at hbb
              dsimp only at hbb ⊢
              rw [if_neg (of_decide_eq_false hbb)]
          have HT2 := Lib.hid hT
          clear hT hbb
          go_upto_region 7 with fail
          go_wp2_with (first | (refine Kd.N_append k115 (w0 := w3) (W := wc) w3.heap.size rfl (.tmp 51) (.tmp 54) 112 115 (.agg #[(.string ⟨#[]⟩), (.int .i64 0)]) 24 rfl Try.underlying112 info115 rfl (by decide) (by decide) (.slice A11 zs.length k11) zs (⟨s, 0⟩ : S115) [.string s, .int .i64 0] (fun k => Ok ok W0 k ∧ k ≠ gI) (fun _ => False) rfl (by first | (go_simp; done) | (go_simp; rfl)) (k115_mkF _ _ _) (fun _ hk => hk.elim) (fun k hk => ⟨.inr (by have h1 := MD.out.lt; have h5 := BA.out.size; omega), by have h2 := HGI.out; have h5 := BA.out.size; omega⟩) NA.out BA.out BA.out.size (by omega) ?_; intro vb wb hnb hbb2 hgb hatb; obtain ⟨A12, k12, rfl⟩ := Kd.N_slice hnb; have NB := Lib.hid hnb; have BB := Lib.hid hbb2; clear hnb hbb2 hgb hatb))
          go_meet
          rw [HT2.out]
          exact ⟨_, _, congrArg (fun n => Value.slice A12 n k12) (by rw [List.length_append, List.length_singleton]), Lib.hid (Kd.N_reads' NB.out).2.1, Lib.hid (MD.out.below BB.out), Lib.hid (Kd.N_F NB.out)⟩
        · obtain ⟨y, hL, hy0⟩ : ∃ y, zs.getLast? = some y ∧ y.f1 = 0 := by
            rcases hL : zs.getLast? with _ | y
            · rw [hL] at hbb
              cases hbb
            · rw [hL] at hbb
              exact ⟨y, rfl, of_decide_eq_true hbb⟩
          have hz0 : 0 < zs.length := by
            cases zs with
            | nil => cases hL
            | cons => rw [List.length_cons]; omega
          obtain ⟨n, hn1⟩ : ∃ n, zs.length = n + 1 := ⟨zs.length - 1, by omega⟩
          have hy : zs[n]? = some y := by rw [List.getLast?_eq_getElem?, hn1] at hL; exact hL
          have hT : textTo zs s = zs.set n ⟨y.f0 ++ s, y.f1⟩ := by
            obtain ⟨ls, hls⟩ := List.getLast?_eq_some_iff.1 hL
            unfold textTo
            rw [hL]
            dsimp only
            rw [if_pos hy0]
            have hn2 : n = ls.length := by rw [hls, List.length_append, List.length_singleton] at hn1; omega
            rw [hls, List.dropLast_concat, hn2, List.set_append_right _ _ (Nat.le_refl _), Nat.sub_self]
            rfl
          obtain ⟨gL, cL, hvL, hgL, hgL2, _⟩ := Kd.N_form NA.out hz0
          injection hvL with hA11 _ hk11
          subst hA11 hk11
          obtain ⟨c0, hcl, hK, hcc, hfr⟩ := Kd.N_elem NA.out (⟨⟨#[]⟩, 0⟩ : S115) (n : Int) (by omega) (by omega)
          rw [Int.toNat_natCast] at hK hcc hfr
          rw [List.getD_eq_getElem?_getD, hy, Option.getD_some] at hK
          obtain rfl := k115_open (Kd.FK_now hK)
          have y0 : wc.cell? ⟨gL, n * 2, none⟩ = some (.string y.f0) := hcc 0 _ rfl
          have yf : wc.frozen? ⟨gL, n * 2, none⟩ = false := hfr 0
          have hseg := (Kd.N_seg NA.out (n : Int) (by omega) (by omega) (c := [.string y.f0, .int .i64 y.f1]) (seg := [.string (y.f0 ++ s)]) (j := 0) hcl (fun i u hu => by rw [Int.toNat_natCast]; exact hcc i u hu) (show 0 + 1 ≤ 2 by decide) (x' := (⟨y.f0 ++ s, y.f1⟩ : S115)) (okp := fun _ => False) (k115_mkF _ _ (⟨y.f0 ++ s, y.f1⟩ : S115)) (fun _ hk => hk.elim)).1
          rw [Int.toNat_natCast] at hseg
          have HSEG := Lib.hid (show Kd.N k115 115 (wc.setCell ⟨gL, n * 2, none⟩ (.string (y.f0 ++ s))) w3.heap.size (fun k => Ok ok W0 k ∧ k ≠ gI) (.slice (some ⟨gL, 0, none⟩) zs.length k11) (zs.set n ⟨y.f0 ++ s, y.f1⟩) from hseg)
          have HB6 := Lib.hid (BA.out.setCell (p := ⟨gL, n * 2, none⟩) hgL (.string (y.f0 ++ s)))
          have hsz1 := HZT.out y (List.mem_of_getElem? hy) hy0
          have hsz2 := HS.out
          have sz : (y.f0.size : Int) + (s.size : Int) ≤ 9223372036854775807 := by omega
          have sz2 : decide (y.f0.size + s.size ≤ 9223372036854775807) = true := decide_eq_true (by omega)
          have hwl : IntKind.i64.wrap ((zs.length : Int) - 1) = (n : Int) := by rw [IntWalk.i64_in _ (by omega)]; omega
          have n0 : (0 : Int) ≤ (n : Int) := by omega
          have n1 : (n : Int) < (zs.length : Int) := by omega
          have HT2 := Lib.hid hT
          clear hT hbb hn1 hL hy0 hz0 hcc hfr hK hcl hseg hsz1 hsz2 hy hgL hgL2
          go_wp2_with fail
          go_meet
          rw [HT2.out]
          exact ⟨_, _, congrArg (fun n => Value.slice (some ⟨gL, 0, none⟩) n k11) List.length_set.symm, Lib.hid (by rw [List.length_set]; exact HLE.out), Lib.hid (MD.out.below HB6.out), Lib.hid (by have := Kd.N_F HSEG.out; rwa [show (zs.set n (⟨y.f0 ++ s, y.f1⟩ : S115)).length = zs.length from List.length_set])⟩
      case rest =>
        obtain ⟨A12, k12, rfl, HL12, HM, HF12⟩ := hcut
        have HM9 := HM
        have b2 := blk_cell HM.out.box 2
        try simp only [List.getElem?_toArray, List.getElem?_cons_zero, List.getElem?_cons_succ] at b2
        obtain ⟨Ay, cy, yc, yf, _, _⟩ := HM.out.at_inner (j := p) rfl hp HZS.out
        generalize hyl : (textTo zs s).length = yl at *
        go_upto_region 9 with fail
        subst hyl
        have HM8 := Lib.hid (HM9.out.setInner (j := p) rfl hp HL12.out HF12.out (fun k hk => hk))
        have HMV := Lib.hid (show R.text p s = ⟨R.names, R.attrs, R.inner.set p (textTo zs s), R.par, R.copies⟩ by unfold Rm.text; rw [if_neg HSN.out, List.getD_eq_getElem?_getD, HZS.out, Option.getD_some])
        generalize hw8 : wc.setCell ⟨gI, p, none⟩ _ = w8 at *
        clear hw8 HM9 b2 yc yf
        have b0 := blk_cell HM8.out.box 0
        have b1 := blk_cell HM8.out.box 1
        have b2 := blk_cell HM8.out.box 2
        have b3 := blk_cell HM8.out.box 3
        have b4 := blk_cell HM8.out.box 4
        have q0 := blk_cell HM8.out.res 0
        have q1 := blk_cell HM8.out.res 1
        have q2 := blk_cell HM8.out.res 2
        have q3 := blk_cell HM8.out.res 3
        have q4 := blk_cell HM8.out.res 4
        have f0 := blk_frozen HM8.out.res 0
        have f1 := blk_frozen HM8.out.res 1
        have f2 := blk_frozen HM8.out.res 2
        have f3 := blk_frozen HM8.out.res 3
        have f4 := blk_frozen HM8.out.res 4
        try simp only [List.getElem?_toArray, List.getElem?_cons_zero, List.getElem?_cons_succ] at b0 b1 b2 b3 b4 q0 q1 q2 q3 q4
        have X9 := blk_put (blk_put (blk_put (blk_put (blk_put HM8.out.res 0 (.slice B0 R.names.length d0) rfl) 1 (.slice B1 R.attrs.length d1) rfl) 2 (.slice (some ⟨gI, 0, none⟩) R.inner.length k10) rfl) 3 (.slice B3 R.par.length d3) rfl) 4 (.int .i64 R.copies) rfl
        have e0 := blk_cell X9 0
        have e1 := blk_cell X9 1
        have e2 := blk_cell X9 2
        have e3 := blk_cell X9 3
        have e4 := blk_cell X9 4
        try simp only [List.getElem?_toArray, List.getElem?_cons_zero, List.getElem?_cons_succ] at e0 e1 e2 e3 e4
        go_wp2_with fail
        refine bodyPost_ret (v := .agg #[(.slice B0 R.names.length d0), (.slice B1 R.attrs.length d1), (.slice (some ⟨gI, 0, none⟩) R.inner.length k10), (.slice B3 R.par.length d3), .int .i64 R.copies]) ?_ rfl ?_
        · simp [results, Try.f43, go_sem, e0, e1, e2, e3, e4]
        · rw [HMV.out]
          exact ⟨_, rfl, RA.box (HM8.out.rows2 HR0.out HR1.out HR3.out) [(.slice B0 R.names.length d0), (.slice B1 R.attrs.length d1), (.slice (some ⟨gI, 0, none⟩) R.inner.length k10), (.slice B3 R.par.length d3), .int .i64 R.copies], (((((HM8.out.bel.setCell (p := ⟨W0.heap.size + 1, 0, none⟩) (by simp) _).setCell (p := ⟨W0.heap.size + 1, 1, none⟩) (by simp) _).setCell (p := ⟨W0.heap.size + 1, 2, none⟩) (by simp) _).setCell (p := ⟨W0.heap.size + 1, 3, none⟩) (by simp) _).setCell (p := ⟨W0.heap.size + 1, 4, none⟩) (by simp) _)⟩
end Go.Proofs.Ytcdkcnegejhnhaa.Aa
