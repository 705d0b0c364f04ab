/-
  ArenaActs: the document's Copy (fn 39).
-/
import Derived.Test.YtcdkcnegejhnhaaAaTree
namespace Go.Proofs.Ytcdkcnegejhnhaa.Aa
open Go.RowKit Go.Proofs.Ytcdkcnegejhnhaa.PAr Go.Proofs.YtcdkcnegejhnhaaW.PrintWords Go.Proofs.YtcdkcnegejhnhaaW.PrintLast Go.Proofs.YtcdkcnegejhnhaaW.PrintMore
set_option linter.unusedVariables false
set_option linter.unusedSimpArgs false
/-- One copy more. -/
def Rm.more (R : Rm) : Rm := ⟨R.names, R.attrs, R.inner, R.par, R.copies + 1⟩
theorem RA.more {W : World} {ok : Nat → Prop} {u0 u1 u2 u3 : Value} {R : Rm} (h : RA W ok u0 u1 u2 u3 R) : RA W ok u0 u1 u2 u3 R.more := ⟨h.r0, h.r1, h.r2, h.r3⟩
def copy12.T2 : Bool × List (List Nat × List Nat) := (true, [([], []), ([], []), ([1], [1]), ([], []), ([2, 3], [2, 3]), ([4], [4]), ([], []), ([6], [6]), ([], []), ([7, 8], [7, 8]), ([9], [9]), ([0, 5, 10], [0, 5, 10]), ([11], [11]), ([11], [11]), ([12, 11, 0, 1, 2, 3, 4, 5, 6, 7, 8, 9, 10, 11, 12, 13], [12]), ([13, 14, 0, 1, 2, 3, 4, 5, 6, 7, 8, 9, 10, 11, 12, 13, 14], [13])])
def copy12.B2 : List Nat := [0, 0, 2, 0, 14, 30, 0, 64, 0, 448, 960, 2047, 4095, 4095, 16383, 32767]
theorem copy12.tab2 : rtab .any (opsOf Try.f39 2) = copy12.T2 := by kernel_rfl
theorem copy12.bits2 : waitsOk copy12.T2.2 copy12.B2 = true := by kernel_rfl
set_option maxRecDepth 100000 in
set_option maxHeartbeats 16000000 in
theorem copy12_calls {W0 : World} {ok : Nat → Prop} {u0 u1 u2 u3 : Value} {R : Rm} (h : RA W0 ok u0 u1 u2 u3 R) {i : Nat} {nm : ByteArray} {a : List S106} (hnm : R.names[i]? = some nm) (ha : R.attrs[i]? = some a)
    (hn : R.names.length ≤ 1000 ∧ R.attrs.length ≤ 1000 ∧ R.inner.length ≤ 1000 ∧ R.par.length ≤ 1000) (hc : 0 ≤ R.copies ∧ R.copies ≤ 1000) :
    Calls Try.prog 39 #[.agg #[u0, u1, u2, u3, .int .i64 R.copies], .int .i64 (i : Int)] W0 fun e w' => ∃ v0 v1 v2 v3, e = .returned (.tuple #[.agg #[v0, v1, v2, v3, .int .i64 (R.copies + 1)], .int .i64 (R.names.length : Int)]) ∧
      RA w' (fun k => ok k ∨ W0.heap.size ≤ k) v0 v1 v2 v3 (R.more.element nm a) ∧ Below W0.heap.size W0 w' := by
  have hra := h.bound2
  obtain ⟨B0, d0, rfl, le0, f0⟩ := hra.r0
  obtain ⟨B1, d1, rfl, le1, f1⟩ := hra.r1
  obtain ⟨B2, d2, rfl, le2, f2⟩ := hra.r2
  obtain ⟨B3, d3, rfl, le3, f3⟩ := hra.r3
  have HB := Lib.hid (((Below.refl W0.heap.size W0).alloc (Nat.le_refl _) (.cells #[.slice B0 R.names.length d0, .slice B1 R.attrs.length d1, .slice B2 R.inner.length d2, .slice B3 R.par.length d3, .int .i64 R.copies] 62)).alloc (by simp) (.cells #[.slice none 0 0, .slice none 0 0, .slice none 0 0, .slice none 0 0, .int .i64 0] 62))
  have XB := Lib.hid (blk_alloc (blk_new W0 (.cells #[.slice B0 R.names.length d0, .slice B1 R.attrs.length d1, .slice B2 R.inner.length d2, .slice B3 R.par.length d3, .int .i64 R.copies] 62)) (.cells #[.slice none 0 0, .slice none 0 0, .slice none 0 0, .slice none 0 0, .int .i64 0] 62))
  have XR := Lib.hid (show ((W0.alloc (.cells #[.slice B0 R.names.length d0, .slice B1 R.attrs.length d1, .slice B2 R.inner.length d2, .slice B3 R.par.length d3, .int .i64 R.copies] 62)).alloc (.cells #[.slice none 0 0, .slice none 0 0, .slice none 0 0, .slice none 0 0, .int .i64 0] 62)).heap[W0.heap.size + 1]? = some (.cells #[.slice none 0 0, .slice none 0 0, .slice none 0 0, .slice none 0 0, .int .i64 0] 62 (0, 0)) by
    have := blk_new (W0.alloc (.cells #[.slice B0 R.names.length d0, .slice B1 R.attrs.length d1, .slice B2 R.inner.length d2, .slice B3 R.par.length d3, .int .i64 R.copies] 62)) (.cells #[.slice none 0 0, .slice none 0 0, .slice none 0 0, .slice none 0 0, .int .i64 0] 62)
    rwa [World.size_alloc] at this)
  have HRA := Lib.hid hra
  have HN := Lib.hid hn
  have HNM := Lib.hid hnm
  have HAT := Lib.hid ha
  have hil := (List.getElem?_eq_some_iff.1 hnm).1
  have hal := (List.getElem?_eq_some_iff.1 ha).1
  have i0 : (0 : Int) ≤ (i : Int) := by omega
  have i1 : (i : Int) < (R.names.length : Int) := by omega
  have i2 : (i : Int) < (R.attrs.length : Int) := by omega
  have hwc : IntKind.i64.wrap (R.copies + 1) = R.copies + 1 := IntWalk.i64_in _ (by omega)
  clear h hra hn hnm ha f0 f1 f2 f3 le0 le1 le2 le3
  go_enter Try.func39, Try.ntmps39
  go_upto_region 1 with (fail)
  generalize hw : (W0.alloc _).alloc _ = w1 at *
  clear hw
  have b4 := blk_cell XB.out 4
  have bf4 := blk_frozen XB.out 4
  try simp only [List.getElem?_toArray, List.getElem?_cons_zero, List.getElem?_cons_succ] at b4
  go_upto_region 2 with (fail)
  have HB2 := Lib.hid (HB.out.setCell (p := ⟨W0.heap.size, 4, none⟩) (Nat.le_refl _) (.int .i64 (R.copies + 1)))
  have XB2 := Lib.hid (show (w1.setCell ⟨W0.heap.size, 4, none⟩ (.int .i64 (R.copies + 1))).heap[W0.heap.size]? = some (.cells #[.slice B0 R.names.length d0, .slice B1 R.attrs.length d1, .slice B2 R.inner.length d2, .slice B3 R.par.length d3, .int .i64 (R.copies + 1)] 62 (0, 0)) from blk_put XB.out 4 (.int .i64 (R.copies + 1)) rfl)
  have XR2 := Lib.hid ((Below.heap_setCell w1 ⟨W0.heap.size, 4, none⟩ (.int .i64 (R.copies + 1)) (W0.heap.size + 1) (by simp)).trans XR.out)
  generalize hw2 : w1.setCell ⟨W0.heap.size, 4, none⟩ (.int .i64 (R.copies + 1)) = w2 at *
  clear hw2 HB XB XR b4 bf4
  have HA := Lib.hid (HRA.out.step (W1 := w2) fun k hk _ => HB2.out.block k hk.2)
  obtain ⟨an, hAn, n0, kn⟩ := HA.out.r0.string_at HNM.out
  obtain ⟨aa, A5, c5, hAa, n1, le5, F5, ka⟩ := HA.out.r1.rows_at HAT.out
  subst hAn hAa
  have HKA := Lib.hid (And.intro kn.2 ka.2)
  have C38 := Lib.hid (show Calls Try.prog 38 #[.agg #[.slice (some an) R.names.length d0, .slice (some aa) R.attrs.length d1, .slice B2 R.inner.length d2, .slice B3 R.par.length d3, .int .i64 (R.copies + 1)], .string nm, .slice A5 a.length c5] w2.drew fun e w' => ∃ v0 v1 v2 v3, e = .returned (.tuple #[.agg #[v0, v1, v2, v3, .int .i64 (R.copies + 1)], .int .i64 (R.names.length : Int)]) ∧ RA w' (fun k => (ok k ∧ k < W0.heap.size) ∨ w2.drew.heap.size ≤ k) v0 v1 v2 v3 (R.more.element nm a) ∧ Below w2.drew.heap.size w2.drew w' from elem12_calls (R := R.more) (RA.more (RA.step HA.out (W1 := w2.drew) fun k _ _ => rfl)) nm A5 c5 a (Kd.F_drew F5) le5 HN.out)
  have b0 := blk_cell XB2.out 0
  have b1 := blk_cell XB2.out 1
  have b2 := blk_cell XB2.out 2
  have b3 := blk_cell XB2.out 3
  have b4 := blk_cell XB2.out 4
  have q0 := blk_cell XR2.out 0
  have q1 := blk_cell XR2.out 1
  have q2 := blk_cell XR2.out 2
  have q3 := blk_cell XR2.out 3
  have q4 := blk_cell XR2.out 4
  have f0 := blk_frozen XR2.out 0
  have f1 := blk_frozen XR2.out 1
  have f2 := blk_frozen XR2.out 2
  have f3 := blk_frozen XR2.out 3
  have f4 := blk_frozen XR2.out 4
  try simp only [List.getElem?_toArray, List.getElem?_cons_zero, List.getElem?_cons_succ] at b0 b1 b2 b3 b4 q0 q1 q2 q3 q4
  have XRd := Lib.hid (show w2.drew.heap[W0.heap.size + 1]? = some (.cells #[.slice none 0 0, .slice none 0 0, .slice none 0 0, .slice none 0 0, .int .i64 0] 62 (0, 0)) from XR2.out)
  have h0 : w2.drew.cell? ⟨W0.heap.size, 0, none⟩ = some (.slice (some an) R.names.length d0) := b0
  have h1 : w2.drew.cell? ⟨W0.heap.size, 1, none⟩ = some (.slice (some aa) R.attrs.length d1) := b1
  have h2 : w2.drew.cell? ⟨W0.heap.size, 2, none⟩ = some (.slice B2 R.inner.length d2) := b2
  have h3 : w2.drew.cell? ⟨W0.heap.size, 3, none⟩ = some (.slice B3 R.par.length d3) := b3
  have h4 : w2.drew.cell? ⟨W0.heap.size, 4, none⟩ = some (.int .i64 (R.copies + 1)) := b4
  have h5 : w2.drew.cell? (an.add i) = some (.string nm) := n0
  have h6 : w2.drew.cell? (aa.add i) = some (.slice A5 a.length c5) := n1
  clear b0 b1 b2 b3 b4 n0 n1 le5 F5 q0 q1 q2 q3 q4 f0 f1 f2 f3 f4
  refine start_ (n := 16) (S := fun w' => w'.cell? ⟨W0.heap.size, 0, none⟩ = some (.slice (some an) R.names.length d0) ∧ w'.cell? ⟨W0.heap.size, 1, none⟩ = some (.slice (some aa) R.attrs.length d1) ∧ w'.cell? ⟨W0.heap.size, 2, none⟩ = some (.slice B2 R.inner.length d2) ∧ w'.cell? ⟨W0.heap.size, 3, none⟩ = some (.slice B3 R.par.length d3) ∧ w'.cell? ⟨W0.heap.size, 4, none⟩ = some (.int .i64 (R.copies + 1)) ∧ w'.cell? (an.add i) = some (.string nm) ∧ w'.cell? (aa.add i) = some (.slice A5 a.length c5)) (ds := [99]) #[false, false, false, false, false, false, false, false, false, false, false, false, false, false, false, false] (by kernel_rfl) rfl rfl ⟨h0, h1, h2, h3, h4, h5, h6⟩ (fun hHeld => ?_); refine with_tabW copy12.tab2 copy12.bits2 (fun HT_ HW_ => ?_)
  refine pure_ (i := 1) (N := (some 11)) (v := ?_) (a' := ?_) #[false, true, false, false, false, false, false, false, false, false, false, false, false, false, false, false] rfl rfl (any_of HT_.out (by kernel_rfl)) (fun _ _ _ h => h) (Or.inl ⟨by rfl, ?_⟩) ?_ ?_
  rotate_left
  · intro w'
    go_simp
    with_reducible rfl
  rotate_left
  · simp only [Act.put, List.setIfInBounds_toArray, List.set_cons_zero, List.set_cons_succ, i64_w, i32_w]
    rfl
  refine pure_ (i := 3) (N := (some 13)) (v := ?_) (a' := ?_) #[false, true, false, true, false, false, false, false, false, false, false, false, false, false, false, false] rfl rfl (any_of HT_.out (by kernel_rfl)) (fun _ _ _ h => h) (Or.inl ⟨by rfl, ?_⟩) ?_ ?_
  rotate_left
  · intro w'
    go_simp
    with_reducible rfl
  rotate_left
  · simp only [Act.put, List.setIfInBounds_toArray, List.set_cons_zero, List.set_cons_succ, i64_w, i32_w]
    rfl
  refine pure_ (i := 6) (N := (some 16)) (v := ?_) (a' := ?_) #[false, true, false, true, false, false, true, false, false, false, false, false, false, false, false, false] rfl rfl (any_of HT_.out (by kernel_rfl)) (fun _ _ _ h => h) (Or.inl ⟨by rfl, ?_⟩) ?_ ?_
  rotate_left
  · intro w'
    go_simp
    with_reducible rfl
  rotate_left
  · simp only [Act.put, List.setIfInBounds_toArray, List.set_cons_zero, List.set_cons_succ, i64_w, i32_w]
    rfl
  refine pure_ (i := 8) (N := (some 18)) (v := ?_) (a' := ?_) #[false, true, false, true, false, false, true, false, true, false, false, false, false, false, false, false] rfl rfl (any_of HT_.out (by kernel_rfl)) (fun _ _ _ h => h) (Or.inl ⟨by rfl, ?_⟩) ?_ ?_
  rotate_left
  · intro w'
    go_simp
    with_reducible rfl
  rotate_left
  · simp only [Act.put, List.setIfInBounds_toArray, List.set_cons_zero, List.set_cons_succ, i64_w, i32_w]
    rfl
  refine take_ (i := 0) (N := (some 10)) (v := ?_) (a' := ?_) #[true, true, false, true, false, false, true, false, true, false, false, false, false, false, false, false] rfl rfl (take_ofW HT_.out HW_.out (by kernel_rfl)) (fun _ _ _ h => h) (Or.inl ⟨by rfl, ?_⟩) hHeld ?_ ?_
  rotate_left
  · rintro w' ⟨s0, s1, s2, s3, s4, s5, s6⟩
    go_simp
    with_reducible rfl
  rotate_left
  · simp only [Act.put, List.setIfInBounds_toArray, List.set_cons_zero, List.set_cons_succ, i64_w, i32_w]
    rfl
  refine take_ (i := 2) (N := (some 12)) (v := ?_) (a' := ?_) #[true, true, true, true, false, false, true, false, true, false, false, false, false, false, false, false] rfl rfl (take_ofW HT_.out HW_.out (by kernel_rfl)) (fun _ _ _ h => h) (Or.inl ⟨by rfl, ?_⟩) hHeld ?_ ?_
  rotate_left
  · rintro w' ⟨s0, s1, s2, s3, s4, s5, s6⟩
    go_simp
    with_reducible rfl
  rotate_left
  · simp only [Act.put, List.setIfInBounds_toArray, List.set_cons_zero, List.set_cons_succ, i64_w, i32_w]
    rfl
  refine pure_ (i := 4) (N := (some 14)) (v := ?_) (a' := ?_) #[true, true, true, true, true, false, true, false, true, false, false, false, false, false, false, false] rfl rfl (any_of HT_.out (by kernel_rfl)) (fun _ _ _ h => h) (Or.inl ⟨by rfl, ?_⟩) ?_ ?_
  rotate_left
  · intro w'
    go_simp
    with_reducible rfl
  rotate_left
  · simp only [Act.put, List.setIfInBounds_toArray, List.set_cons_zero, List.set_cons_succ, i64_w, i32_w]
    rfl
  refine take_ (i := 5) (N := (some 15)) (v := ?_) (a' := ?_) #[true, true, true, true, true, true, true, false, true, false, false, false, false, false, false, false] rfl rfl (take_ofW HT_.out HW_.out (by kernel_rfl)) (fun _ _ _ h => h) (Or.inl ⟨by rfl, ?_⟩) hHeld ?_ ?_
  rotate_left
  · rintro w' ⟨s0, s1, s2, s3, s4, s5, s6⟩
    go_simp
    with_reducible rfl
  rotate_left
  · simp only [Act.put, List.setIfInBounds_toArray, List.set_cons_zero, List.set_cons_succ, i64_w, i32_w]
    rfl
  refine take_ (i := 7) (N := (some 17)) (v := ?_) (a' := ?_) #[true, true, true, true, true, true, true, true, true, false, false, false, false, false, false, false] rfl rfl (take_ofW HT_.out HW_.out (by kernel_rfl)) (fun _ _ _ h => h) (Or.inl ⟨by rfl, ?_⟩) hHeld ?_ ?_
  rotate_left
  · rintro w' ⟨s0, s1, s2, s3, s4, s5, s6⟩
    go_simp
    with_reducible rfl
  rotate_left
  · simp only [Act.put, List.setIfInBounds_toArray, List.set_cons_zero, List.set_cons_succ, i64_w, i32_w]
    rfl
  refine pure_ (i := 9) (N := (some 19)) (v := ?_) (a' := ?_) #[true, true, true, true, true, true, true, true, true, true, false, false, false, false, false, false] rfl rfl (any_of HT_.out (by kernel_rfl)) (fun _ _ _ h => h) (Or.inl ⟨by rfl, ?_⟩) ?_ ?_
  rotate_left
  · intro w'
    go_simp
    with_reducible rfl
  rotate_left
  · simp only [Act.put, List.setIfInBounds_toArray, List.set_cons_zero, List.set_cons_succ, i64_w, i32_w]
    rfl
  refine take_ (i := 10) (N := (some 20)) (v := ?_) (a' := ?_) #[true, true, true, true, true, true, true, true, true, true, true, false, false, false, false, false] rfl rfl (take_ofW HT_.out HW_.out (by kernel_rfl)) (fun _ _ _ h => h) (Or.inl ⟨by rfl, ?_⟩) hHeld ?_ ?_
  rotate_left
  · rintro w' ⟨s0, s1, s2, s3, s4, s5, s6⟩
    go_simp
    with_reducible rfl
  rotate_left
  · simp only [Act.put, List.setIfInBounds_toArray, List.set_cons_zero, List.set_cons_succ, i64_w, i32_w]
    rfl
  refine one_ (i := 11) (N := (some 21)) #[true, true, true, true, true, true, true, true, true, true, true, true, false, false, false, false] rfl rfl (one_of HT_.out (by kernel_rfl)) (by decide) (fun K hK => ?_)
  go_simp
  go_at_call 38
  refine C38.out.mono ?_
  rintro e w3 ⟨v0, v1, v2, v3, rfl, hR, hB⟩
  have HR3 := Lib.hid hR
  obtain ⟨N0, n0, k0, rfl⟩ := hR.r0.form
  obtain ⟨N1, n1, k1, rfl⟩ := hR.r1.form
  obtain ⟨N2, n2, k2, rfl⟩ := hR.r2.form
  obtain ⟨N3, n3, k3, rfl⟩ := hR.r3.form
  have HB3 := Lib.hid hB
  have XR3 := Lib.hid (blk_below XRd.out hB)
  have hb3 := hB
  have q0 := blk_cell XR3.out 0
  have q1 := blk_cell XR3.out 1
  have q2 := blk_cell XR3.out 2
  have q3 := blk_cell XR3.out 3
  have q4 := blk_cell XR3.out 4
  have f0 := blk_frozen XR3.out 0
  have f1 := blk_frozen XR3.out 1
  have f2 := blk_frozen XR3.out 2
  have f3 := blk_frozen XR3.out 3
  have f4 := blk_frozen XR3.out 4
  (try simp only [List.getElem?_toArray, List.getElem?_cons_zero, List.getElem?_cons_succ] at q0 q1 q2 q3 q4)
  clear hR hB
  refine hK.out _ _ ⟨pw_cell_below hb3 h0, pw_cell_below hb3 h1, pw_cell_below hb3 h2, pw_cell_below hb3 h3, pw_cell_below hb3 h4, pw_cell_below hb3 h5, pw_cell_below hb3 h6⟩ (fun hHeld => ?_)
  clear hK K
  (try simp only [Act.put, List.setIfInBounds_toArray, List.set_cons_zero, List.set_cons_succ])
  refine pure_ (i := 12) (N := (some 22)) (v := ?_) (a' := ?_) #[true, true, true, true, true, true, true, true, true, true, true, true, true, false, false, false] rfl rfl (any_of HT_.out (by kernel_rfl)) (fun _ _ _ h => h) (Or.inl ⟨by rfl, ?_⟩) ?_ ?_
  rotate_left
  · intro w'
    go_simp
    with_reducible rfl
  rotate_left
  · simp only [Act.put, List.setIfInBounds_toArray, List.set_cons_zero, List.set_cons_succ, i64_w, i32_w]
    rfl
  refine pure_ (i := 13) (N := (some 23)) (v := ?_) (a' := ?_) #[true, true, true, true, true, true, true, true, true, true, true, true, true, true, false, false] rfl rfl (any_of HT_.out (by kernel_rfl)) (fun _ _ _ h => h) (Or.inl ⟨by rfl, ?_⟩) ?_ ?_
  rotate_left
  · intro w'
    go_simp
    with_reducible rfl
  rotate_left
  · simp only [Act.put, List.setIfInBounds_toArray, List.set_cons_zero, List.set_cons_succ, i64_w, i32_w]
    rfl
  refine one_ (i := 14) (N := none) #[true, true, true, true, true, true, true, true, true, true, true, true, true, true, true, false] rfl rfl (one_of HT_.out (by kernel_rfl)) (by decide) (fun K hK => ?_)
  go_simp
  have X9 := blk_put (blk_put (blk_put (blk_put (blk_put XR3.out 0 (.slice N0 n0 k0) rfl) 1 (.slice N1 n1 k1) rfl) 2 (.slice N2 n2 k2) rfl) 3 (.slice N3 n3 k3) rfl) 4 (.int .i64 (R.copies + 1)) rfl
  have e0 := blk_cell X9 0
  have e1 := blk_cell X9 1
  have e2 := blk_cell X9 2
  have e3 := blk_cell X9 3
  have e4 := blk_cell X9 4
  try simp only [List.getElem?_toArray, List.getElem?_cons_zero, List.getElem?_cons_succ] at e0 e1 e2 e3 e4
  have hsz : W0.heap.size + 2 ≤ w2.drew.heap.size := blk_lt XRd.out
  have HF := Lib.hid (show RA (((((w3.setCell ⟨W0.heap.size + 1, 0, none⟩ (.slice N0 n0 k0)).setCell ⟨W0.heap.size + 1, 1, none⟩ (.slice N1 n1 k1)).setCell ⟨W0.heap.size + 1, 2, none⟩ (.slice N2 n2 k2)).setCell ⟨W0.heap.size + 1, 3, none⟩ (.slice N3 n3 k3)).setCell ⟨W0.heap.size + 1, 4, none⟩ (.int .i64 (R.copies + 1))) (fun k => ok k ∨ W0.heap.size ≤ k) (.slice N0 n0 k0) (.slice N1 n1 k1) (.slice N2 n2 k2) (.slice N3 n3 k3) (R.more.element nm a) from RA.mono (RA.step (W1 := w3.setCells (W0.heap.size + 1) 0 [(.slice N0 n0 k0), (.slice N1 n1 k1), (.slice N2 n2 k2), (.slice N3 n3 k3), (.int .i64 (R.copies + 1))]) HR3.out fun k hk _ => setCells_far _ 0 k (fun e => by rcases hk with h | h <;> omega)) fun k hk => hk.elim (fun h => .inl h.1) (fun h => .inr (by omega)))
  have HBF := Lib.hid (((((((HB2.out.drew.trans (HB3.out.mono HB2.out.size)).setCell (p := ⟨W0.heap.size + 1, 0, none⟩) (by simp) (.slice N0 n0 k0)).setCell (p := ⟨W0.heap.size + 1, 1, none⟩) (by simp) (.slice N1 n1 k1)).setCell (p := ⟨W0.heap.size + 1, 2, none⟩) (by simp) (.slice N2 n2 k2)).setCell (p := ⟨W0.heap.size + 1, 3, none⟩) (by simp) (.slice N3 n3 k3)).setCell (p := ⟨W0.heap.size + 1, 4, none⟩) (by simp) (.int .i64 (R.copies + 1))))
  have FAR := Lib.hid (show ∀ (a : Addr) (v : Value), a.block ≠ W0.heap.size + 1 → w3.cell? a = some v → (((((w3.setCell ⟨W0.heap.size + 1, 0, none⟩ (.slice N0 n0 k0)).setCell ⟨W0.heap.size + 1, 1, none⟩ (.slice N1 n1 k1)).setCell ⟨W0.heap.size + 1, 2, none⟩ (.slice N2 n2 k2)).setCell ⟨W0.heap.size + 1, 3, none⟩ (.slice N3 n3 k3)).setCell ⟨W0.heap.size + 1, 4, none⟩ (.int .i64 (R.copies + 1))).cell? a = some v from fun a v hne h => by have ne : ∀ o, (⟨W0.heap.size + 1, o, none⟩ : Addr) ≠ a := fun o e => hne (by rw [← e]); rw [World.cell?_setCell_other _ _ _ _ (ne 4), World.cell?_setCell_other _ _ _ _ (ne 3), World.cell?_setCell_other _ _ _ _ (ne 2), World.cell?_setCell_other _ _ _ _ (ne 1), World.cell?_setCell_other _ _ _ _ (ne 0)]; exact h)
  clear X9 hsz
  generalize hw5 : (((((w3.setCell ⟨W0.heap.size + 1, 0, none⟩ (.slice N0 n0 k0)).setCell ⟨W0.heap.size + 1, 1, none⟩ (.slice N1 n1 k1)).setCell ⟨W0.heap.size + 1, 2, none⟩ (.slice N2 n2 k2)).setCell ⟨W0.heap.size + 1, 3, none⟩ (.slice N3 n3 k3)).setCell ⟨W0.heap.size + 1, 4, none⟩ (.int .i64 (R.copies + 1))) = w5 at *
  clear hw5 q0 q1 q2 q3 q4 f0 f1 f2 f3 f4
  refine hK.out _ _ ⟨FAR.out _ _ (by simp) (pw_cell_below hb3 h0), FAR.out _ _ (by simp) (pw_cell_below hb3 h1), FAR.out _ _ (by simp) (pw_cell_below hb3 h2), FAR.out _ _ (by simp) (pw_cell_below hb3 h3), FAR.out _ _ (by simp) (pw_cell_below hb3 h4), FAR.out _ _ (by rw [add_block]; have := HKA.out.1; omega) (pw_cell_below hb3 h5), FAR.out _ _ (by rw [add_block]; have := HKA.out.2; omega) (pw_cell_below hb3 h6)⟩ (fun hHeld => ?_)
  clear hK K
  (try simp only [Act.put, List.setIfInBounds_toArray, List.set_cons_zero, List.set_cons_succ])
  refine pure_ (i := 15) (N := (some 5)) (v := ?_) (a' := ?_) #[true, true, true, true, true, true, true, true, true, true, true, true, true, true, true, true] rfl rfl (any_of HT_.out (by kernel_rfl)) (fun _ _ _ h => h) (Or.inl ⟨by rfl, ?_⟩) ?_ ?_
  rotate_left
  · intro w'
    go_simp
    with_reducible rfl
  rotate_left
  · simp only [Act.put, List.setIfInBounds_toArray, List.set_cons_zero, List.set_cons_succ, i64_w, i32_w]
    rfl
  refine done_ (done_of HT_.out (by kernel_rfl)) ?_
  go_wp2_with fail
  refine bodyPost_ret (v := .tuple #[.agg #[(.slice N0 n0 k0), (.slice N1 n1 k1), (.slice N2 n2 k2), (.slice N3 n3 k3), (.int .i64 (R.copies + 1))], .int .i64 (R.names.length : Int)]) ?_ rfl ?_
  · simp [results, Try.f39, go_sem, e0, e1, e2, e3, e4]
  · exact ⟨_, _, _, _, rfl, HF.out, HBF.out⟩
end Go.Proofs.Ytcdkcnegejhnhaa.Aa
