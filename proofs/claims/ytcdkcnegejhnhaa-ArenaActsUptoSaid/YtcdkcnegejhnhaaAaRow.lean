/-
  ArenaActs: the document's arena as rows of footprints; one element more (fn 38). (Out of AcAll, for texts that want no list.)
-/
import Derived.Test.YtcdkcnegejhnhaaArText
import Derived.Test.YtcdkcnegejhnhaaAaP
import Derived.Deep.RegionLaw
namespace Go.Proofs.Ytcdkcnegejhnhaa.Aa
open Go.RowKit Go.Proofs.Ytcdkcnegejhnhaa.PAr Go.Proofs.YtcdkcnegejhnhaaW.PrintWords Go.Proofs.YtcdkcnegejhnhaaW.PrintLast Go.Proofs.YtcdkcnegejhnhaaW.PrintMore
set_option linter.unusedVariables false
set_option linter.unusedSimpArgs false
theorem bd1 {B : Nat} {w w1 : World} (h : Below B w w1) : Below B w w1.drew := h.trans ⟨rfl, rfl, rfl, Nat.le_refl _, fun _ _ => rfl⟩
/-- A row that is read as long as some blocks stay. -/
def RowF {α : Type} (d : Kd α) (W : World) (ok : Nat → Prop) (v : Value) (xs : List α) : Prop := ∃ A c, v = .slice A xs.length c ∧ xs.length ≤ c ∧ Kd.F d W ok A xs.length xs
section
variable {α : Type} {d : Kd α} {W W1 : World} {ok ok' : Nat → Prop} {v : Value} {xs : List α} {e base : Nat}
theorem RowF.step (h : RowF d W ok v xs) (hm : ∀ k, ok k → k < W.heap.size → W1.heap[k]? = W.heap[k]?) : RowF d W1 ok v xs := by
  obtain ⟨A, c, h1, h2, h3⟩ := h
  exact ⟨A, c, h1, h2, Kd.F_step h3 hm⟩
theorem RowF.mono (h : RowF d W ok v xs) (hok : ∀ k, ok k → ok' k) : RowF d W ok' v xs := by
  obtain ⟨A, c, h1, h2, h3⟩ := h
  exact ⟨A, c, h1, h2, Kd.F_mono h3 hok⟩
theorem RowF.bound (h : RowF d W ok v xs) : RowF d W (fun k => ok k ∧ k < W.heap.size) v xs := by
  obtain ⟨A, c, h1, h2, h3⟩ := h
  exact ⟨A, c, h1, h2, Kd.F_bound h3⟩
theorem RowF.below (h : RowF d W ok v xs) (hb : Below W.heap.size W W1) : RowF d W1 ok v xs := h.step fun k _ hk => hb.block k hk
theorem RowF.of_N (h : Kd.N d e W base ok v xs) : RowF d W ok v xs := by
  obtain ⟨A, c, h1, h2, _⟩ := Kd.N_reads h
  subst h1
  exact ⟨A, c, rfl, h2, Kd.N_F h⟩
theorem RowF.of_R (h : Kd.R d e W base ok v xs) : RowF d W ok v xs := by
  obtain ⟨A, c, h1, h2, _⟩ := Kd.R_reads h
  subst h1
  exact ⟨A, c, rfl, h2, Kd.R_F h⟩
theorem RowF.of_S (h : Kd.S d e W base ok v xs) : RowF d W ok v xs := RowF.of_N (Kd.S_N h)
theorem RowF.of_C {A : Option Addr} {c : Nat} (hd : Kd.Heap d) (h : Kd.C d W A xs.length xs) (hc : xs.length ≤ c) : RowF d W (fun k => k < W.heap.size) (.slice A xs.length c) xs := ⟨A, c, rfl, hc, Kd.C_F hd h⟩
theorem RowF.now (h : RowF d W ok v xs) : ∃ A c, v = .slice A xs.length c ∧ xs.length ≤ c ∧ Kd.C d W A xs.length xs := by
  obtain ⟨A, c, h1, h2, h3⟩ := h
  exact ⟨A, c, h1, h2, Kd.F_now h3⟩
end
theorem heap106 : Kd.Heap k106 := Kd.heap_iso _ (Kd.heap_pair Kd.heap_string Kd.heap_string)
/-- The document's arena. -/
structure Rm where
  names : List ByteArray
  attrs : List (List S106)
  inner : List (List S115)
  par : List Int
  copies : Int
def Rm.element (R : Rm) (name : ByteArray) (a : List S106) : Rm := ⟨R.names ++ [name], R.attrs ++ [a], R.inner ++ [[]], R.par ++ [-1], R.copies⟩
/-- Its rows. -/
structure RA (W : World) (ok : Nat → Prop) (u0 u1 u2 u3 : Value) (R : Rm) : Prop where
  r0 : RowF Kd.string W ok u0 R.names
  r1 : RowF (Kd.slice 106 k106) W ok u1 R.attrs
  r2 : RowF (Kd.slice 115 k115) W ok u2 R.inner
  r3 : RowF (Kd.int .i64) W ok u3 R.par
theorem RA.step {W W1 : World} {ok : Nat → Prop} {u0 u1 u2 u3 : Value} {R : Rm} (h : RA W ok u0 u1 u2 u3 R) (hm : ∀ k, ok k → k < W.heap.size → W1.heap[k]? = W.heap[k]?) : RA W1 ok u0 u1 u2 u3 R := ⟨h.r0.step hm, h.r1.step hm, h.r2.step hm, h.r3.step hm⟩
theorem RA.mono {W : World} {ok ok' : Nat → Prop} {u0 u1 u2 u3 : Value} {R : Rm} (h : RA W ok u0 u1 u2 u3 R) (hok : ∀ k, ok k → ok' k) : RA W ok' u0 u1 u2 u3 R := ⟨h.r0.mono hok, h.r1.mono hok, h.r2.mono hok, h.r3.mono hok⟩
theorem infoS : (Try.prog.info? 9).map (fun i => (i.zero, i.size, i.bytes)) = some (some (.string ⟨#[]⟩), 1, 16) := by kernel_rfl
theorem info36 : (Try.prog.info? 36).map (fun i => (i.zero, i.size, i.bytes)) = some (some (.slice none 0 0), 1, 24) := by kernel_rfl
theorem info112 : (Try.prog.info? 112).map (fun i => (i.zero, i.size, i.bytes)) = some (some (.slice none 0 0), 1, 24) := by kernel_rfl
theorem N_lit {α : Type} (d : Kd α) (e : Nat) (w : World) (base : Nat) (hb : base ≤ w.heap.size) : Kd.N d e (w.alloc (.cells #[] e)) base (fun k => base ≤ k) (.slice (some ⟨w.heap.size, 0, none⟩) 0 0) [] :=
  Kd.R_N (Kd.R_lower ⟨fun k hk => by cases hk; exact hb, OwnRow.lit w w.heap.size (Reps.none _ _) (Nat.le_refl _) (by simp)⟩ hb)
theorem keep_two {w wa wb : World} {o : Obj} {va : Value} (hga : (w.alloc o).grownBy wa (some w.heap.size)) (hata : va.ownBlock = some w.heap.size ∨ ∃ b, va.ownBlock = some b ∧ (w.alloc o).heap.size ≤ b) (hgb : wa.grownBy wb va.ownBlock) (p : Addr) (u : Value) :
    ∀ k, k < w.heap.size → k ≠ p.block → (wb.setCell p u).heap[k]? = w.heap[k]? := fun k hk hp => by
  have h1 : k < (w.alloc o).heap.size := by rw [World.size_alloc]; omega
  have h2 : some k ≠ va.ownBlock := by
    rcases hata with e | ⟨b, e, hb⟩
    · rw [e]; intro e'; injection e' with e'; omega
    · rw [e]; intro e'; injection e' with e'; omega
  rw [Below.heap_setCell wb p u k hp, hgb.block k (Nat.lt_of_lt_of_le h1 hga.size) h2, hga.block k h1 (by intro e'; injection e' with e'; omega)]
  exact Below.heap_alloc w o k hk
set_option maxRecDepth 100000 in
set_option maxHeartbeats 8000000 in
theorem elem12_calls {W0 : World} {ok : Nat → Prop} {u0 u1 u2 u3 : Value} {R : Rm} (h : RA W0 ok u0 u1 u2 u3 R) (name : ByteArray) (A5 : Option Addr) (c5 : Nat) (a : List S106) (ha : Kd.F k106 W0 ok A5 a.length a) (hc5 : a.length ≤ c5)
    (hn : R.names.length ≤ 1000 ∧ R.attrs.length ≤ 1000 ∧ R.inner.length ≤ 1000 ∧ R.par.length ≤ 1000) :
    Calls Try.prog 38 #[.agg #[u0, u1, u2, u3, .int .i64 R.copies], .string name, .slice A5 a.length c5] W0 fun e w' => ∃ v0 v1 v2 v3, e = .returned (.tuple #[.agg #[v0, v1, v2, v3, .int .i64 R.copies], .int .i64 (R.names.length : Int)]) ∧
      RA w' (fun k => ok k ∨ W0.heap.size ≤ k) v0 v1 v2 v3 (R.element name a) ∧ Below W0.heap.size W0 w' := by
  obtain ⟨B0, d0, rfl, le0, f0⟩ := h.r0.bound
  obtain ⟨B1, d1, rfl, le1, f1⟩ := h.r1.bound
  obtain ⟨B2, d2, rfl, le2, f2⟩ := h.r2.bound
  obtain ⟨B3, d3, rfl, le3, f3⟩ := h.r3.bound
  have ha2 := Kd.F_bound ha
  have HF0 := Lib.hid f0
  have HF1 := Lib.hid f1
  have HF2 := Lib.hid f2
  have HF3 := Lib.hid f3
  have HFa := Lib.hid ha2
  have HN := Lib.hid hn
  obtain ⟨n0, n1, n2, n3⟩ := hn
  have hc5' := Lib.hid hc5
  clear h f0 f1 f2 f3 ha ha2 le0 le1 le2 le3 hc5
  go_enter Try.func38, Try.ntmps38
  go_upto_region 1 with (fail)
  have HB := Lib.hid (((Below.refl W0.heap.size W0).alloc (Nat.le_refl _) (.cells #[.slice B0 R.names.length d0, .slice B1 R.attrs.length d1, .slice B2 R.inner.length d2, .slice B3 R.par.length d3, .int .i64 R.copies] 62)).alloc (by simp) (.cells #[.slice none 0 0, .slice none 0 0, .slice none 0 0, .slice none 0 0, .int .i64 0] 62))
  have XB := Lib.hid (blk_alloc (blk_new W0 (.cells #[.slice B0 R.names.length d0, .slice B1 R.attrs.length d1, .slice B2 R.inner.length d2, .slice B3 R.par.length d3, .int .i64 R.copies] 62)) (.cells #[.slice none 0 0, .slice none 0 0, .slice none 0 0, .slice none 0 0, .int .i64 0] 62))
  have XR := Lib.hid (show ((W0.alloc (.cells #[.slice B0 R.names.length d0, .slice B1 R.attrs.length d1, .slice B2 R.inner.length d2, .slice B3 R.par.length d3, .int .i64 R.copies] 62)).alloc (.cells #[.slice none 0 0, .slice none 0 0, .slice none 0 0, .slice none 0 0, .int .i64 0] 62)).heap[W0.heap.size + 1]? = some (.cells #[.slice none 0 0, .slice none 0 0, .slice none 0 0, .slice none 0 0, .int .i64 0] 62 (0, 0)) by
    have := blk_new (W0.alloc (.cells #[.slice B0 R.names.length d0, .slice B1 R.attrs.length d1, .slice B2 R.inner.length d2, .slice B3 R.par.length d3, .int .i64 R.copies] 62)) (.cells #[.slice none 0 0, .slice none 0 0, .slice none 0 0, .slice none 0 0, .int .i64 0] 62)
    rwa [World.size_alloc] at this)
  generalize hw : (W0.alloc _).alloc _ = w1 at *
  clear hw
  have hs1 := Lib.hid (show W0.heap.size + 2 ≤ w1.heap.size from blk_lt XR.out)
  obtain ⟨y0, hy0⟩ : ∃ y, R.names ++ [name] = y := ⟨_, rfl⟩
  have HY0 := Lib.hid hy0
  clear hy0
  have NL := Lib.hid (Kd.N_mono (ok' := (fun k => (ok k ∧ k < W0.heap.size) ∨ W0.heap.size + 2 ≤ k)) (Kd.N_lower (N_lit Kd.string 9 w1 (W0.heap.size + 2) hs1.out) (Nat.le_add_right _ 2)) (fun k hk => .inr hk))
  have BL := Lib.hid (HB.out.alloc HB.out.size (.cells #[] 9))
  have XL := Lib.hid (blk_alloc XB.out (.cells #[] 9))
  have gl := blk_cell XL.out 0
  try simp only [List.getElem?_toArray, List.getElem?_cons_zero, List.getElem?_cons_succ] at gl
  go_upto_region 2 with (first
    | (refine Kd.N_append_rows Kd.string (w0 := W0) (W := w1.alloc (.cells #[] 9)) W0.heap.size rfl (.tmp 8) (.tmp 10) 49 9 (.string ⟨#[]⟩) 16 rfl Try.underlying49 infoS rfl (by decide) (by decide) (.slice (some ⟨w1.heap.size, 0, none⟩) 0 0) [] R.names B0 R.names.length d0 (fun k => (ok k ∧ k < W0.heap.size) ∨ W0.heap.size + 2 ≤ k) (fun k => ok k ∧ k < W0.heap.size) rfl rfl NL.out (Kd.F_below HF0.out BL.out) (fun k hk => ⟨.inl hk, fun e => by have := Kd.N_base NL.out k e.symm; omega⟩) (fun k hk => .inr (Nat.le_trans hs1.out (Nat.le_trans (by simp) hk))) BL.out BL.out.size (by simp; omega) ?_; intro va wa hna hba hga hata; rw [List.nil_append] at hna; have NA := Lib.hid hna; have BA := Lib.hid hba; have XA := Lib.hid (blk_grown XL.out hga (Kd.N_ne NL.out XL.out (by decide))); have GA := Lib.hid (And.intro hga hata); clear hna hba hga hata)
    | (refine Kd.N_append Kd.string (w0 := W0) (W := wa) W0.heap.size rfl (.tmp 11) (.tmp 13) 49 9 (.string ⟨#[]⟩) 16 rfl Try.underlying49 infoS rfl (by decide) (by decide) va R.names name [.string name] (fun k => (ok k ∧ k < W0.heap.size) ∨ W0.heap.size + 2 ≤ k) (fun _ => False) rfl (by first | (go_simp; done) | (go_simp; rfl)) (Kd.FK_of_M (base := 0) (ok := fun _ => False) rfl) (fun _ hk => hk.elim) (fun k hk => .inr (Nat.le_trans hs1.out (Nat.le_trans (by simp) (Nat.le_trans GA.out.1.size hk)))) NA.out BA.out BA.out.size (by omega) ?_; intro v1 wb hnb hbb hgb _; rw [HY0.out] at hnb; obtain ⟨A10, k10, rfl⟩ := Kd.N_slice hnb; have NB := Lib.hid hnb; have BB := Lib.hid hbb; have XBB := Lib.hid (blk_grown XA.out hgb (Kd.N_ne NA.out XA.out (by decide))); have GB := Lib.hid hgb; have gs := blk_cell XBB.out 0; have gf := blk_frozen XBB.out 0; clear hnb hbb hgb))
  have KP := Lib.hid (keep_two GA.out.1 GA.out.2 GB.out ⟨W0.heap.size, 0, none⟩ (.slice A10 y0.length k10))
  have HB2 := Lib.hid (BB.out.setCell (p := ⟨W0.heap.size, 0, none⟩) (Nat.le_refl _) (.slice A10 y0.length k10))
  have XB2 := Lib.hid (show (wb.setCell ⟨W0.heap.size, 0, none⟩ (.slice A10 y0.length k10)).heap[W0.heap.size]? = some (.cells #[(.slice A10 y0.length k10), (.slice B1 R.attrs.length d1), (.slice B2 R.inner.length d2), (.slice B3 R.par.length d3), (.int .i64 R.copies)] 62 (0, 0)) from blk_put XBB.out 0 (.slice A10 y0.length k10) rfl)
  have XR2 := Lib.hid ((KP.out (W0.heap.size + 1) (blk_lt XR.out) (by simp)).trans XR.out)
  have PR0 := Lib.hid (RowF.step (W1 := wb.setCell ⟨W0.heap.size, 0, none⟩ (.slice A10 y0.length k10)) (RowF.of_N NB.out) fun k hk _ => Below.heap_setCell wb _ _ k (fun e => by simp only at e; rcases hk with hk | hk <;> omega))
  have hs2 := Lib.hid (show W0.heap.size + 2 ≤ (wb.setCell ⟨W0.heap.size, 0, none⟩ (.slice A10 y0.length k10)).heap.size from blk_lt XR2.out)
  generalize hw2 : wb.setCell ⟨W0.heap.size, 0, none⟩ (.slice A10 y0.length k10) = w2 at *
  clear hw2 KP NB BB XBB GA GB NA BA XA NL BL XL gl gs gf HB XB XR
  have HB := HB2
  have XB := XB2
  have XR := XR2
  clear HB2 XB2 XR2
  obtain ⟨y1, hy1⟩ : ∃ y, R.attrs ++ [a] = y := ⟨_, rfl⟩
  have HY1 := Lib.hid hy1
  clear hy1
  have NL := Lib.hid (Kd.N_mono (ok' := (fun k => (ok k ∧ k < W0.heap.size) ∨ W0.heap.size + 2 ≤ k)) (Kd.N_lower (N_lit (Kd.slice 106 k106) 36 w2 (W0.heap.size + 2) hs2.out) (Nat.le_add_right _ 2)) (fun k hk => .inr hk))
  have BL := Lib.hid (HB.out.alloc HB.out.size (.cells #[] 36))
  have XL := Lib.hid (blk_alloc XB.out (.cells #[] 36))
  have gl := blk_cell XL.out 1
  try simp only [List.getElem?_toArray, List.getElem?_cons_zero, List.getElem?_cons_succ] at gl
  go_upto_region 3 with (first
    | (refine Kd.N_append_rows (Kd.slice 106 k106) (w0 := W0) (W := w2.alloc (.cells #[] 36)) W0.heap.size rfl (.tmp 16) (.tmp 18) 59 36 (.slice none 0 0) 24 rfl Try.underlying59 info36 rfl (by decide) (by decide) (.slice (some ⟨w2.heap.size, 0, none⟩) 0 0) [] R.attrs B1 R.attrs.length d1 (fun k => (ok k ∧ k < W0.heap.size) ∨ W0.heap.size + 2 ≤ k) (fun k => ok k ∧ k < W0.heap.size) rfl rfl NL.out (Kd.F_below HF1.out BL.out) (fun k hk => ⟨.inl hk, fun e => by have := Kd.N_base NL.out k e.symm; omega⟩) (fun k hk => .inr (Nat.le_trans hs2.out (Nat.le_trans (by simp) hk))) BL.out BL.out.size (by simp; omega) ?_; intro va wa hna hba hga hata; rw [List.nil_append] at hna; have NA := Lib.hid hna; have BA := Lib.hid hba; have XA := Lib.hid (blk_grown XL.out hga (Kd.N_ne NL.out XL.out (by decide))); have GA := Lib.hid (And.intro hga hata); clear hna hba hga hata)
    | (refine Kd.N_append (Kd.slice 106 k106) (w0 := W0) (W := wa) W0.heap.size rfl (.tmp 19) (.tmp 21) 59 36 (.slice none 0 0) 24 rfl Try.underlying59 info36 rfl (by decide) (by decide) va R.attrs a [.slice A5 a.length c5] (fun k => (ok k ∧ k < W0.heap.size) ∨ W0.heap.size + 2 ≤ k) (fun k => ok k ∧ k < W0.heap.size) rfl (by first | (go_simp; done) | (go_simp; rfl)) (Foot.imp (Kd.F_below HFa.out BA.out) fun W' hC => ⟨A5, c5, rfl, hc5'.out, hC⟩) (fun k hk => ⟨.inl hk, fun e => by have := Kd.N_base NA.out k e.symm; omega⟩) (fun k hk => .inr (Nat.le_trans hs2.out (Nat.le_trans (by simp) (Nat.le_trans GA.out.1.size hk)))) NA.out BA.out BA.out.size (by omega) ?_; intro v2 wb hnb hbb hgb _; rw [HY1.out] at hnb; obtain ⟨A11, k11, rfl⟩ := Kd.N_slice hnb; have NB := Lib.hid hnb; have BB := Lib.hid hbb; have XBB := Lib.hid (blk_grown XA.out hgb (Kd.N_ne NA.out XA.out (by decide))); have GB := Lib.hid hgb; have gs := blk_cell XBB.out 1; have gf := blk_frozen XBB.out 1; clear hnb hbb hgb))
  have KP := Lib.hid (keep_two GA.out.1 GA.out.2 GB.out ⟨W0.heap.size, 1, none⟩ (.slice A11 y1.length k11))
  have HB2 := Lib.hid (BB.out.setCell (p := ⟨W0.heap.size, 1, none⟩) (Nat.le_refl _) (.slice A11 y1.length k11))
  have XB2 := Lib.hid (show (wb.setCell ⟨W0.heap.size, 1, none⟩ (.slice A11 y1.length k11)).heap[W0.heap.size]? = some (.cells #[(.slice A10 y0.length k10), (.slice A11 y1.length k11), (.slice B2 R.inner.length d2), (.slice B3 R.par.length d3), (.int .i64 R.copies)] 62 (0, 0)) from blk_put XBB.out 1 (.slice A11 y1.length k11) rfl)
  have XR2 := Lib.hid ((KP.out (W0.heap.size + 1) (blk_lt XR.out) (by simp)).trans XR.out)
  replace PR0 := Lib.hid (PR0.out.bound.step fun k hk _ => KP.out k hk.2 (fun e => by simp only at e; rcases hk.1 with h | h <;> omega))
  have PR1 := Lib.hid (RowF.step (W1 := wb.setCell ⟨W0.heap.size, 1, none⟩ (.slice A11 y1.length k11)) (RowF.of_N NB.out) fun k hk _ => Below.heap_setCell wb _ _ k (fun e => by simp only at e; rcases hk with hk | hk <;> omega))
  have hs3 := Lib.hid (show W0.heap.size + 2 ≤ (wb.setCell ⟨W0.heap.size, 1, none⟩ (.slice A11 y1.length k11)).heap.size from blk_lt XR2.out)
  generalize hw3 : wb.setCell ⟨W0.heap.size, 1, none⟩ (.slice A11 y1.length k11) = w3 at *
  clear hw3 KP NB BB XBB GA GB NA BA XA NL BL XL gl gs gf HB XB XR
  have HB := HB2
  have XB := XB2
  have XR := XR2
  clear HB2 XB2 XR2
  obtain ⟨y2, hy2⟩ : ∃ y, R.inner ++ [([] : List S115)] = y := ⟨_, rfl⟩
  have HY2 := Lib.hid hy2
  clear hy2
  have NL := Lib.hid (Kd.N_mono (ok' := (fun k => (ok k ∧ k < W0.heap.size) ∨ W0.heap.size + 2 ≤ k)) (Kd.N_lower (N_lit (Kd.slice 115 k115) 112 w3 (W0.heap.size + 2) hs3.out) (Nat.le_add_right _ 2)) (fun k hk => .inr hk))
  have BL := Lib.hid (HB.out.alloc HB.out.size (.cells #[] 112))
  have XL := Lib.hid (blk_alloc XB.out (.cells #[] 112))
  have gl := blk_cell XL.out 2
  try simp only [List.getElem?_toArray, List.getElem?_cons_zero, List.getElem?_cons_succ] at gl
  go_upto_region 4 with (first
    | (refine Kd.N_append_rows (Kd.slice 115 k115) (w0 := W0) (W := w3.alloc (.cells #[] 112)) W0.heap.size rfl (.tmp 24) (.tmp 26) 60 112 (.slice none 0 0) 24 rfl Try.underlying60 info112 rfl (by decide) (by decide) (.slice (some ⟨w3.heap.size, 0, none⟩) 0 0) [] R.inner B2 R.inner.length d2 (fun k => (ok k ∧ k < W0.heap.size) ∨ W0.heap.size + 2 ≤ k) (fun k => ok k ∧ k < W0.heap.size) rfl rfl NL.out (Kd.F_below HF2.out BL.out) (fun k hk => ⟨.inl hk, fun e => by have := Kd.N_base NL.out k e.symm; omega⟩) (fun k hk => .inr (Nat.le_trans hs3.out (Nat.le_trans (by simp) hk))) BL.out BL.out.size (by simp; omega) ?_; intro va wa hna hba hga hata; rw [List.nil_append] at hna; have NA := Lib.hid hna; have BA := Lib.hid hba; have XA := Lib.hid (blk_grown XL.out hga (Kd.N_ne NL.out XL.out (by decide))); have GA := Lib.hid (And.intro hga hata); clear hna hba hga hata)
    | (refine Kd.N_append (Kd.slice 115 k115) (w0 := W0) (W := wa) W0.heap.size rfl (.tmp 27) (.tmp 28) 60 112 (.slice none 0 0) 24 rfl Try.underlying60 info112 rfl (by decide) (by decide) va R.inner ([] : List S115) [.slice none 0 0] (fun k => (ok k ∧ k < W0.heap.size) ∨ W0.heap.size + 2 ≤ k) (fun _ => False) rfl (by first | (go_simp; done) | (go_simp; rfl)) (fun W' _ => ⟨none, 0, rfl, Nat.le_refl _, Kd.C_nil _ _⟩) (fun _ hk => hk.elim) (fun k hk => .inr (Nat.le_trans hs3.out (Nat.le_trans (by simp) (Nat.le_trans GA.out.1.size hk)))) NA.out BA.out BA.out.size (by omega) ?_; intro v3 wb hnb hbb hgb _; rw [HY2.out] at hnb; obtain ⟨A12, k12, rfl⟩ := Kd.N_slice hnb; have NB := Lib.hid hnb; have BB := Lib.hid hbb; have XBB := Lib.hid (blk_grown XA.out hgb (Kd.N_ne NA.out XA.out (by decide))); have GB := Lib.hid hgb; have gs := blk_cell XBB.out 2; have gf := blk_frozen XBB.out 2; clear hnb hbb hgb))
  have KP := Lib.hid (keep_two GA.out.1 GA.out.2 GB.out ⟨W0.heap.size, 2, none⟩ (.slice A12 y2.length k12))
  have HB2 := Lib.hid (BB.out.setCell (p := ⟨W0.heap.size, 2, none⟩) (Nat.le_refl _) (.slice A12 y2.length k12))
  have XB2 := Lib.hid (show (wb.setCell ⟨W0.heap.size, 2, none⟩ (.slice A12 y2.length k12)).heap[W0.heap.size]? = some (.cells #[(.slice A10 y0.length k10), (.slice A11 y1.length k11), (.slice A12 y2.length k12), (.slice B3 R.par.length d3), (.int .i64 R.copies)] 62 (0, 0)) from blk_put XBB.out 2 (.slice A12 y2.length k12) rfl)
  have XR2 := Lib.hid ((KP.out (W0.heap.size + 1) (blk_lt XR.out) (by simp)).trans XR.out)
  replace PR0 := Lib.hid (PR0.out.bound.step fun k hk _ => KP.out k hk.2 (fun e => by simp only at e; rcases hk.1 with h | h <;> omega))
  replace PR1 := Lib.hid (PR1.out.bound.step fun k hk _ => KP.out k hk.2 (fun e => by simp only at e; rcases hk.1 with h | h <;> omega))
  have PR2 := Lib.hid (RowF.step (W1 := wb.setCell ⟨W0.heap.size, 2, none⟩ (.slice A12 y2.length k12)) (RowF.of_N NB.out) fun k hk _ => Below.heap_setCell wb _ _ k (fun e => by simp only at e; rcases hk with hk | hk <;> omega))
  have hs4 := Lib.hid (show W0.heap.size + 2 ≤ (wb.setCell ⟨W0.heap.size, 2, none⟩ (.slice A12 y2.length k12)).heap.size from blk_lt XR2.out)
  generalize hw4 : wb.setCell ⟨W0.heap.size, 2, none⟩ (.slice A12 y2.length k12) = w4 at *
  clear hw4 KP NB BB XBB GA GB NA BA XA NL BL XL gl gs gf HB XB XR
  have HB := HB2
  have XB := XB2
  have XR := XR2
  clear HB2 XB2 XR2
  obtain ⟨y3, hy3⟩ : ∃ y, R.par ++ [(-1 : Int)] = y := ⟨_, rfl⟩
  have HY3 := Lib.hid hy3
  clear hy3
  have NL := Lib.hid (Kd.N_mono (ok' := (fun k => (ok k ∧ k < W0.heap.size) ∨ W0.heap.size + 2 ≤ k)) (Kd.N_lower (N_lit (Kd.int .i64) 3 w4 (W0.heap.size + 2) hs4.out) (Nat.le_add_right _ 2)) (fun k hk => .inr hk))
  have BL := Lib.hid (HB.out.alloc HB.out.size (.cells #[] 3))
  have XL := Lib.hid (blk_alloc XB.out (.cells #[] 3))
  have gl := blk_cell XL.out 3
  try simp only [List.getElem?_toArray, List.getElem?_cons_zero, List.getElem?_cons_succ] at gl
  go_upto_region 5 with (first
    | (refine Kd.N_append_rows (Kd.int .i64) (w0 := W0) (W := w4.alloc (.cells #[] 3)) W0.heap.size rfl (.tmp 31) (.tmp 33) 53 3 (.int .i64 0) 8 rfl Try.underlying53 info3 rfl (by decide) (by decide) (.slice (some ⟨w4.heap.size, 0, none⟩) 0 0) [] R.par B3 R.par.length d3 (fun k => (ok k ∧ k < W0.heap.size) ∨ W0.heap.size + 2 ≤ k) (fun k => ok k ∧ k < W0.heap.size) rfl rfl NL.out (Kd.F_below HF3.out BL.out) (fun k hk => ⟨.inl hk, fun e => by have := Kd.N_base NL.out k e.symm; omega⟩) (fun k hk => .inr (Nat.le_trans hs4.out (Nat.le_trans (by simp) hk))) BL.out BL.out.size (by simp; omega) ?_; intro va wa hna hba hga hata; rw [List.nil_append] at hna; have NA := Lib.hid hna; have BA := Lib.hid hba; have XA := Lib.hid (blk_grown XL.out hga (Kd.N_ne NL.out XL.out (by decide))); have GA := Lib.hid (And.intro hga hata); clear hna hba hga hata)
    | (refine Kd.N_append (Kd.int .i64) (w0 := W0) (W := wa) W0.heap.size rfl (.tmp 34) (.tmp 35) 53 3 (.int .i64 0) 8 rfl Try.underlying53 info3 rfl (by decide) (by decide) va R.par (-1 : Int) [.int .i64 (-1)] (fun k => (ok k ∧ k < W0.heap.size) ∨ W0.heap.size + 2 ≤ k) (fun _ => False) rfl (by first | (go_simp; done) | (go_simp; rfl)) (Kd.FK_of_M (base := 0) (ok := fun _ => False) rfl) (fun _ hk => hk.elim) (fun k hk => .inr (Nat.le_trans hs4.out (Nat.le_trans (by simp) (Nat.le_trans GA.out.1.size hk)))) NA.out BA.out BA.out.size (by omega) ?_; intro v4 wb hnb hbb hgb _; rw [HY3.out] at hnb; obtain ⟨A13, k13, rfl⟩ := Kd.N_slice hnb; have NB := Lib.hid hnb; have BB := Lib.hid hbb; have XBB := Lib.hid (blk_grown XA.out hgb (Kd.N_ne NA.out XA.out (by decide))); have GB := Lib.hid hgb; have gs := blk_cell XBB.out 3; have gf := blk_frozen XBB.out 3; clear hnb hbb hgb))
  have KP := Lib.hid (keep_two GA.out.1 GA.out.2 GB.out ⟨W0.heap.size, 3, none⟩ (.slice A13 y3.length k13))
  have HB2 := Lib.hid (BB.out.setCell (p := ⟨W0.heap.size, 3, none⟩) (Nat.le_refl _) (.slice A13 y3.length k13))
  have XB2 := Lib.hid (show (wb.setCell ⟨W0.heap.size, 3, none⟩ (.slice A13 y3.length k13)).heap[W0.heap.size]? = some (.cells #[(.slice A10 y0.length k10), (.slice A11 y1.length k11), (.slice A12 y2.length k12), (.slice A13 y3.length k13), (.int .i64 R.copies)] 62 (0, 0)) from blk_put XBB.out 3 (.slice A13 y3.length k13) rfl)
  have XR2 := Lib.hid ((KP.out (W0.heap.size + 1) (blk_lt XR.out) (by simp)).trans XR.out)
  replace PR0 := Lib.hid (PR0.out.bound.step fun k hk _ => KP.out k hk.2 (fun e => by simp only at e; rcases hk.1 with h | h <;> omega))
  replace PR1 := Lib.hid (PR1.out.bound.step fun k hk _ => KP.out k hk.2 (fun e => by simp only at e; rcases hk.1 with h | h <;> omega))
  replace PR2 := Lib.hid (PR2.out.bound.step fun k hk _ => KP.out k hk.2 (fun e => by simp only at e; rcases hk.1 with h | h <;> omega))
  have PR3 := Lib.hid (RowF.step (W1 := wb.setCell ⟨W0.heap.size, 3, none⟩ (.slice A13 y3.length k13)) (RowF.of_N NB.out) fun k hk _ => Below.heap_setCell wb _ _ k (fun e => by simp only at e; rcases hk with hk | hk <;> omega))
  have hs5 := Lib.hid (show W0.heap.size + 2 ≤ (wb.setCell ⟨W0.heap.size, 3, none⟩ (.slice A13 y3.length k13)).heap.size from blk_lt XR2.out)
  generalize hw5 : wb.setCell ⟨W0.heap.size, 3, none⟩ (.slice A13 y3.length k13) = w5 at *
  clear hw5 KP NB BB XBB GA GB NA BA XA NL BL XL gl gs gf HB XB XR
  have HB := HB2
  have XB := XB2
  have XR := XR2
  clear HB2 XB2 XR2
  have hyl : y0.length = R.names.length + 1 := by rw [← HY0.out, List.length_append, List.length_singleton]
  have hwl : IntKind.i64.wrap ((y0.length : Int) - 1) = (R.names.length : Int) := by rw [hyl, IntWalk.i64_in _ (by omega)]; omega
  have b0 := blk_cell XB.out 0
  have b1 := blk_cell XB.out 1
  have b2 := blk_cell XB.out 2
  have b3 := blk_cell XB.out 3
  have b4 := blk_cell XB.out 4
  have q0 := blk_cell XR.out 0
  have q1 := blk_cell XR.out 1
  have q2 := blk_cell XR.out 2
  have q3 := blk_cell XR.out 3
  have q4 := blk_cell XR.out 4
  have f0 := blk_frozen XR.out 0
  have f1 := blk_frozen XR.out 1
  have f2 := blk_frozen XR.out 2
  have f3 := blk_frozen XR.out 3
  have f4 := blk_frozen XR.out 4
  try simp only [List.getElem?_toArray, List.getElem?_cons_zero, List.getElem?_cons_succ] at b0 b1 b2 b3 b4 q0 q1 q2 q3 q4
  have HRA := Lib.hid (show RA w5 (fun k => (ok k ∧ k < W0.heap.size) ∨ W0.heap.size + 2 ≤ k) (.slice A10 y0.length k10) (.slice A11 y1.length k11) (.slice A12 y2.length k12) (.slice A13 y3.length k13) (R.element name a) from by
    refine ⟨?_, ?_, ?_, ?_⟩
    · show RowF _ _ _ _ (R.names ++ [name])
      rw [HY0.out]
      exact PR0.out.mono fun k hk => hk.1.1.1
    · show RowF _ _ _ _ (R.attrs ++ [a])
      rw [HY1.out]
      exact PR1.out.mono fun k hk => hk.1.1
    · show RowF _ _ _ _ (R.inner ++ [[]])
      rw [HY2.out]
      exact PR2.out.mono fun k hk => hk.1
    · show RowF _ _ _ _ (R.par ++ [-1])
      rw [HY3.out]
      exact PR3.out)
  clear PR0 PR1 PR2 PR3 n0 n1 n2 n3 hyl HN HF0 HF1 HF2 HF3 HFa hs1 hs2 hs3 hs4 hs5
  go_cut [7] (fun v7 wc => v7 = .int .i64 (R.names.length : Int) ∧ Hid (RA wc (fun k => ok k ∨ W0.heap.size ≤ k) (.slice A10 y0.length k10) (.slice A11 y1.length k11) (.slice A12 y2.length k12) (.slice A13 y3.length k13) (R.element name a)) ∧ Hid (Below W0.heap.size W0 wc) ∧ Hid (wc.heap[W0.heap.size + 1]? = some (.cells #[.slice A10 y0.length k10, .slice A11 y1.length k11, .slice A12 y2.length k12, .slice A13 y3.length k13, .int .i64 R.copies] 62 (0, 0))))
  case first =>
    go_region_with (fail)
    all_goals
      go_wp2_with fail
      go_meet
      refine ⟨rfl, Lib.hid ?_, Lib.hid ?_, Lib.hid ?_⟩
      · refine RA.mono (RA.step (W1 := (w5.setCells (W0.heap.size + 1) 0 [.slice A10 y0.length k10, .slice A11 y1.length k11, .slice A12 y2.length k12, .slice A13 y3.length k13, .int .i64 R.copies]).drew) HRA.out fun k hk _ => setCells_far _ 0 k (fun e => by rcases hk with h | h <;> omega)) fun k hk => ?_
        rcases hk with h | h
        · exact .inl h.1
        · exact .inr (by omega)
      · exact bd1 (((((HB.out.setCell (p := ⟨W0.heap.size + 1, 0, none⟩) (by simp) _).setCell (p := ⟨W0.heap.size + 1, 1, none⟩) (by simp) _).setCell (p := ⟨W0.heap.size + 1, 2, none⟩) (by simp) _).setCell (p := ⟨W0.heap.size + 1, 3, none⟩) (by simp) _).setCell (p := ⟨W0.heap.size + 1, 4, none⟩) (by simp) _)
      · exact blk_drew (blk_put (blk_put (blk_put (blk_put (blk_put XR.out 0 (.slice A10 y0.length k10) rfl) 1 (.slice A11 y1.length k11) rfl) 2 (.slice A12 y2.length k12) rfl) 3 (.slice A13 y3.length k13) rfl) 4 (.int .i64 R.copies) rfl)
  case rest =>
    obtain ⟨rfl, HA, HC, HX⟩ := hcut
    have e0 := blk_cell HX.out 0
    have e1 := blk_cell HX.out 1
    have e2 := blk_cell HX.out 2
    have e3 := blk_cell HX.out 3
    have e4 := blk_cell HX.out 4
    try simp only [List.getElem?_toArray, List.getElem?_cons_zero, List.getElem?_cons_succ] at e0 e1 e2 e3 e4
    go_wp2_with fail
    refine bodyPost_ret (v := .tuple #[.agg #[.slice A10 y0.length k10, .slice A11 y1.length k11, .slice A12 y2.length k12, .slice A13 y3.length k13, .int .i64 R.copies], .int .i64 (R.names.length : Int)]) ?_ rfl ?_
    · simp [results, Try.f38, go_sem, e0, e1, e2, e3, e4]
    · exact ⟨_, _, _, _, rfl, HA.out, HC.out⟩
end Go.Proofs.Ytcdkcnegejhnhaa.Aa
