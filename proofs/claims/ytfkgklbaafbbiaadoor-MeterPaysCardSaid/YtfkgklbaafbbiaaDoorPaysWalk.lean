/-
  MeterPays: the walk of its parts.
-/
import Derived.Test.YtfkgklbaafbbiaaDoorShorts
import Derived.Test.YtfkgklbaafbbiaaDoorMErr
import Derived.Test.YtfkgklbaafbbiaaDoorMIs
import Derived.OneCell
import Derived.Laws.ResultCell
import Derived.Laws.Rows
namespace Go.Proofs.YtfkgklbaafbbiaaDoor.PaysWalk
open Go.RowKit Go.Proofs.YtfkgklbaafbbiaaDoor.PMeter Go.Proofs.YtfkgklbaafbbiaaDoorW.PrintWords Go.Proofs.YtfkgklbaafbbiaaDoorW.PrintLast Go.Proofs.YtfkgklbaafbbiaaDoorW.PrintMore Go.Proofs.YtfkgklbaafbbiaaDoor.Shorts
attribute [local go_sem] max2_int min2_int max_two min_two max_three min_three max_four min_four
set_option linter.unusedVariables false

theorem heapk {W w1 : World} {g : Nat} {o : Obj} (h : Below W.heap.size W w1) (hc : W.heap[g]? = some o) : w1.heap[g]? = some o := (h.block g (Array.getElem?_eq_some_iff.1 hc).1).trans hc
/-- What the walk asks of a world. -/
structure PW (w : World) : Prop where
  pow : Wok w
  out : ∃ b, w.cell? ⟨0, 0, none⟩ = some (.iface 127 (.pointer (some b)))
  ety : w.cell? ⟨2, 0, none⟩ = some (.iface 94 (.agg #[.pointer (some ⟨6, 54, none⟩)]))
theorem PW.below {w w' : World} (h : PW w) (hb : Below w.heap.size w w') : PW w' := by
  obtain ⟨h1, ⟨b, h2⟩, h3⟩ := h
  exact ⟨Wok_below h1 hb, ⟨b, cellk hb h2⟩, cellk hb h3⟩
/-- The two meters, in a world that grew out of b. -/
structure Two (b : World) (M R : Nat) (L S L' S' : Int) (w : World) : Prop where
  bel : Below b.heap.size b w
  hM : w.heap[M]? = some (.cells #[.int .i64 L, .int .i64 S] 74 (0, 0))
  hR : w.heap[R]? = some (.cells #[.int .i64 L', .int .i64 S'] 49 (0, 0))
theorem frozen_of_two {w : World} {g k : Nat} {t : TypeId} {u v : Value} (h : w.heap[g]? = some (.cells #[u, v] t (0, 0))) : w.frozen? ⟨g, k, none⟩ = false := by simp [World.frozen?, h]
theorem Two.grow {b : World} {M R : Nat} {L S L' S' : Int} {w w' : World} (h : Two b M R L S L' S' w) (hb : Below w.heap.size w w') : Two b M R L S L' S' w' :=
  ⟨below_all h.bel hb, heapk hb h.hM, heapk hb h.hR⟩
theorem two_set0 {w : World} {g : Nat} {t : TypeId} {u v x : Value} (h : w.heap[g]? = some (.cells #[u, v] t (0, 0))) : (w.setCell ⟨g, 0, none⟩ x).heap[g]? = some (.cells #[x, v] t (0, 0)) := by
  have hlt := lt_of_block h
  have h' : w.heap[g] = .cells #[u, v] t (0, 0) := by simpa [Array.getElem?_eq_getElem hlt] using h
  show (w.heap.modify g _)[g]? = _
  rw [Array.getElem?_eq_getElem (by simpa using hlt), Array.getElem_modify_self, h']
  rfl
theorem two_set1 {w : World} {g : Nat} {t : TypeId} {u v x : Value} (h : w.heap[g]? = some (.cells #[u, v] t (0, 0))) : (w.setCell ⟨g, 1, none⟩ x).heap[g]? = some (.cells #[u, x] t (0, 0)) := by
  have hlt := lt_of_block h
  have h' : w.heap[g] = .cells #[u, v] t (0, 0) := by simpa [Array.getElem?_eq_getElem hlt] using h
  show (w.heap.modify g _)[g]? = _
  rw [Array.getElem?_eq_getElem (by simpa using hlt), Array.getElem_modify_self, h']
  rfl
theorem Two.setM {b : World} {M R : Nat} {L S L' S' : Int} {w : World} (hMR : M ≠ R) (hbM : b.heap.size ≤ M) (h : Two b M R L S L' S' w) (x y : Int) :
    Two b M R x y L' S' ((w.setCell ⟨M, 0, none⟩ (.int .i64 x)).setCell ⟨M, 1, none⟩ (.int .i64 y)) :=
  ⟨(h.bel.setCell hbM _).setCell hbM _, two_set1 (two_set0 h.hM), by
    rw [Below.heap_setCell _ _ _ _ (Ne.symm hMR), Below.heap_setCell _ _ _ _ (Ne.symm hMR)]
    exact h.hR⟩
theorem Two.setR {b : World} {M R : Nat} {L S L' S' : Int} {w : World} (hMR : M ≠ R) (hbR : b.heap.size ≤ R) (h : Two b M R L S L' S' w) (x y : Int) :
    Two b M R L S x y ((w.setCell ⟨R, 0, none⟩ (.int .i64 x)).setCell ⟨R, 1, none⟩ (.int .i64 y)) :=
  ⟨(h.bel.setCell hbR _).setCell hbR _, by
    rw [Below.heap_setCell _ _ _ _ hMR, Below.heap_setCell _ _ _ _ hMR]
    exact h.hM, two_set1 (two_set0 h.hR)⟩

theorem results_two {fn : Func} {p u : Tmp} {ty : TypeId} (h : fn.results = #[.cell p ty, .tmp u]) (tmps : Array Value) (w : World) (g : Nat) (t : TypeId) (cs : Array Value) (fr : Nat × Nat) (fs : _)
    (hp : tmps.getD p undef = .pointer (some ⟨g, 0, none⟩)) (hg : w.heap[g]? = some (.cells cs t fr))
    (hu : Tryd.prog.underlying ty = some (.struct fs)) (hi : (Tryd.prog.info? ty).map (·.size) = some cs.size) :
    (results fn tmps).run Tryd.prog w = .ok (.tuple #[.agg cs, tmps.getD u undef]) w := by
  rw [results_cell_tmp h, hp]
  simp [asAddr, run_loadVar_row w g t ty cs fr (.struct fs) hg hu rfl hi, Result.andThen]
theorem new_calls (a : Int) (w : World) : Calls Tryd.prog 16 #[.int .i64 a] w fun e w' => e = .returned (.pointer (some ⟨w.heap.size, 0, none⟩)) ∧ w' = w.alloc (.cells #[.int .i64 (max a 0), .int .i64 0] 74) := by
  go_enter Tryd.func16, Tryd.ntmps16
  go_wp2
  all_goals (go_ret; refine ⟨rfl, ?_⟩; congr 6; omega)
theorem refnew_calls (a : Int) (w : World) : Calls Tryd.prog 17 #[.int .i64 a] w fun e w' => e = .returned (.agg #[.int .i64 (max a 0), .int .i64 0]) ∧ Below w.heap.size w w' := by
  by_cases h : a < 0
  · have c : decide (a < 0) = true := decide_eq_true h
    have e : max a 0 = 0 := by omega
    go_enter Tryd.func17, Tryd.ntmps17
    go_wp2
    (try simp only [Exit.inBlock, Exit.then])
    refine bodyPost_ret (results_cell_row rfl _ _ w.heap.size 49 #[.int .i64 0, .int .i64 0] (0, 0) _ rfl (heap_alloc_new _ _) Tryd.underlying49 rfl (by kernel_rfl)) rfl ?_
    exact ⟨by rw [e], by go_grown⟩
  · have c : decide (a < 0) = false := decide_eq_false h
    have e : max a 0 = a := by omega
    go_enter Tryd.func17, Tryd.ntmps17
    go_wp2
    (try simp only [Exit.inBlock, Exit.then])
    refine bodyPost_ret (results_cell_row rfl _ _ w.heap.size 49 #[.int .i64 a, .int .i64 0] (0, 0) _ rfl (heap_alloc_new _ _) Tryd.underlying49 rfl (by kernel_rfl)) rfl ?_
    exact ⟨rfl, by go_grown⟩
theorem refpay_no (L S n : Int) (w : World) (hL : 0 ≤ L) (hn : L < n) :
    Calls Tryd.prog 18 #[.agg #[.int .i64 L, .int .i64 S], .int .i64 n] w fun e w' => e = .returned (.tuple #[.agg #[.int .i64 L, .int .i64 S], .bool false]) ∧ Below w.heap.size w w' := by
  have c : decide (n < 0) = false := decide_eq_false (by omega)
  have c2 : decide (L < n) = true := decide_eq_true hn
  go_enter Tryd.func18, Tryd.ntmps18
  go_wp2
  (try simp only [Exit.inBlock, Exit.then])
  refine bodyPost_ret (results_two rfl _ _ (w.heap.size + 1) 49 #[.int .i64 L, .int .i64 S] (0, 0) _ rfl (heap_alloc2_new _ _ _) Tryd.underlying49 (by kernel_rfl)) rfl ?_
  exact ⟨rfl, by go_grown⟩
theorem refpay_ok (L S n m : Int) (w : World) (hm : max n 0 = m) (hn : m ≤ L) :
    Calls Tryd.prog 18 #[.agg #[.int .i64 L, .int .i64 S], .int .i64 n] w fun e w' => e = .returned (.tuple #[.agg #[.int .i64 (wrap64 (L - m)), .int .i64 (wrap64 (S + m))], .bool true]) ∧ Below w.heap.size w w' := by
  by_cases h : n < 0
  · obtain rfl : m = 0 := by omega
    have c : decide (n < 0) = true := decide_eq_true h
    have c2 : decide (L < 0) = false := decide_eq_false (by omega)
    have e1 : L - 0 = L := by omega
    have e2 : S + 0 = S := by omega
    rw [e1, e2]
    clear e1 e2
    go_enter Tryd.func18, Tryd.ntmps18
    go_wp2
    (try simp only [Exit.inBlock, Exit.then])
    refine bodyPost_ret (results_two rfl _ _ (w.heap.size + 1) 49 #[.int .i64 (wrap64 L), .int .i64 (wrap64 S)] (0, 0) _ rfl (heap_alloc2_new _ _ _) Tryd.underlying49 (by kernel_rfl)) rfl ?_
    exact ⟨rfl, by go_grown⟩
  · obtain rfl : n = m := by omega
    have c : decide (n < 0) = false := decide_eq_false h
    have c2 : decide (L < n) = false := decide_eq_false (by omega)
    clear hm
    go_enter Tryd.func18, Tryd.ntmps18
    go_wp2
    (try simp only [Exit.inBlock, Exit.then])
    refine bodyPost_ret (results_two rfl _ _ (w.heap.size + 1) 49 #[.int .i64 (wrap64 (L - n)), .int .i64 (wrap64 (S + n))] (0, 0) _ rfl (heap_alloc2_new _ _ _) Tryd.underlying49 (by kernel_rfl)) rfl ?_
    exact ⟨rfl, by go_grown⟩
theorem pay_no (M : Nat) (L S n : Int) (w : World) (h0 : w.cell? ⟨M, 0, none⟩ = some (.int .i64 L)) (hL : 0 ≤ L) (hn : L < n) :
    Calls Tryd.prog 19 #[.pointer (some ⟨M, 0, none⟩), .int .i64 n] w fun e w' => e = .returned (.iface 56 (.pointer (some ⟨w.heap.size, 0, none⟩))) ∧ w' = w.alloc (.cells #[.int .i64 n, .int .i64 L] 61) := by
  have e : max n 0 = n := by omega
  have c : decide (L < n) = true := decide_eq_true hn
  go_enter Tryd.func19, Tryd.ntmps19
  go_wp2
  go_ret
  exact ⟨rfl, rfl⟩
theorem pay_ok (M : Nat) (L S n m : Int) (w : World) (h0 : w.cell? ⟨M, 0, none⟩ = some (.int .i64 L)) (h1 : w.cell? ⟨M, 1, none⟩ = some (.int .i64 S)) (f0 : w.frozen? ⟨M, 0, none⟩ = false) (f1 : w.frozen? ⟨M, 1, none⟩ = false) (hm : max n 0 = m) (hn : m ≤ L) :
    Calls Tryd.prog 19 #[.pointer (some ⟨M, 0, none⟩), .int .i64 n] w fun e w' => e = .returned .nilIface ∧ w' = (w.setCell ⟨M, 0, none⟩ (.int .i64 (wrap64 (L - m)))).setCell ⟨M, 1, none⟩ (.int .i64 (wrap64 (S + m))) := by
  by_cases h : n < 0
  · obtain rfl : m = 0 := by omega
    have c2 : decide (L < 0) = false := decide_eq_false (by omega)
    have e1 : L - 0 = L := by omega
    have e2 : S + 0 = S := by omega
    rw [e1, e2]
    clear e1 e2
    go_enter Tryd.func19, Tryd.ntmps19
    go_wp2
    go_ret
    exact ⟨rfl, rfl⟩
  · obtain rfl : n = m := by omega
    have c2 : decide (L < n) = false := decide_eq_false (by omega)
    go_enter Tryd.func19, Tryd.ntmps19
    go_wp2
    go_ret
    exact ⟨rfl, rfl⟩
/-- The two meters and a Short, behind Pay that can't. -/
theorem pay_no_two {b : World} {M R : Nat} {L S L' S' : Int} {w : World} (h : Two b M R L S L' S' w) (n : Int) (hL : 0 ≤ L) (hn : L < n) :
    Calls Tryd.prog 19 #[.pointer (some ⟨M, 0, none⟩), .int .i64 n] w fun e w' => ∃ g : Nat, e = .returned (.iface 56 (.pointer (some ⟨g, 0, none⟩))) ∧ Two b M R L S L' S' w' ∧ w'.heap[g]? = some (.cells #[.int .i64 n, .int .i64 L] 61 (0, 0)) ∧ Below w.heap.size w w' := by
  refine (pay_no M L S n w (cell_of_row w _ 0 _ _ _ h.hM) hL hn).mono ?_
  rintro e w' ⟨rfl, rfl⟩
  exact ⟨_, rfl, h.grow ((Below.refl _ _).alloc (Nat.le_refl _) _), heap_alloc_new _ _, (Below.refl _ _).alloc (Nat.le_refl _) _⟩
theorem pay_ok_two {b : World} {M R : Nat} {L S L' S' : Int} {w : World} (h : Two b M R L S L' S' w) (hMR : M ≠ R) (hbM : b.heap.size ≤ M) (n m : Int) (hm : max n 0 = m) (hn : m ≤ L) :
    Calls Tryd.prog 19 #[.pointer (some ⟨M, 0, none⟩), .int .i64 n] w fun e w' => e = .returned .nilIface ∧ Two b M R (wrap64 (L - m)) (wrap64 (S + m)) L' S' w' ∧ ∀ k o, k ≠ M → w.heap[k]? = some o → w'.heap[k]? = some o := by
  refine (pay_ok M L S n m w (cell_of_row w _ 0 _ _ _ h.hM) (cell_of_row w _ 1 _ _ _ h.hM) (frozen_of_two h.hM) (frozen_of_two h.hM) hm hn).mono ?_
  rintro e w' ⟨rfl, rfl⟩
  refine ⟨rfl, h.setM hMR hbM _ _, fun k o hk ho => ?_⟩
  rw [Below.heap_setCell _ _ _ _ hk, Below.heap_setCell _ _ _ _ hk]
  exact ho
/-- errors.As at a Short: the variable points to it. -/
theorem as_two {b : World} {M R : Nat} {L S L' S' : Int} {w : World} (h : Two b M R L S L' S' w) (hPW : PW w) (g t : Nat) (hMt : M ≠ t) (hRt : R ≠ t) (hbt : b.heap.size ≤ t)
    (ht : w.heap[t]? = some (.cells #[.pointer none] 56 (0, 0))) :
    Calls Tryd.prog 21 #[.iface 56 (.pointer (some ⟨g, 0, none⟩)), .iface 59 (.pointer (some ⟨t, 0, none⟩))] w fun e w' => e = .returned (.bool true) ∧ Two b M R L S L' S' w' ∧ w'.heap[t]? = some (.cells #[.pointer (some ⟨g, 0, none⟩)] 56 (0, 0)) ∧ ∀ k o, k ≠ t → w.heap[k]? = some o → w'.heap[k]? = some o := by
  refine (MErr.as_hit ⟨g, 0, none⟩ ⟨t, 0, none⟩ (.pointer none) w hPW.ety (cell_of_one ht) (free_of_one ht)).mono ?_
  rintro e w' ⟨rfl, rfl⟩
  generalize hw1 : w.alloc (.cells #[.pointer (some ⟨t, 0, none⟩)] 59) = w1
  have b1 : Below w.heap.size w w1 := by rw [← hw1]; exact (Below.refl _ _).alloc (Nat.le_refl _) _
  generalize hw2 : w1.alloc _ = w2
  have b2 : Below w.heap.size w w2 := by rw [← hw2]; exact b1.alloc b1.size _
  generalize hw3 : w2.alloc _ = w3
  have b3 : Below w.heap.size w w3 := by rw [← hw3]; exact b2.alloc b2.size _
  generalize hw4 : w3.alloc _ = w4
  have b4 : Below w.heap.size w w4 := by rw [← hw4]; exact b3.alloc b3.size _
  have T := h.grow b4
  refine ⟨rfl, ⟨T.bel.setCell hbt _, ?_, ?_⟩, one_setCell (heapk b4 ht), fun k o hgt hg => ?_⟩
  · rw [Below.heap_setCell _ _ _ _ hMt]; exact T.hM
  · rw [Below.heap_setCell _ _ _ _ hRt]; exact T.hR
  · rw [Below.heap_setCell _ _ _ _ hgt]; exact heapk b4 hg
theorem left_two {b : World} {M R : Nat} {L S L' S' : Int} {w : World} (h : Two b M R L S L' S' w) :
    Calls Tryd.prog 24 #[.pointer (some ⟨M, 0, none⟩)] w fun e w' => e = .returned (.int .i64 L) ∧ w' = w := by
  have h0 := cell_of_row w _ 0 _ _ _ h.hM
  go_enter Tryd.func24, Tryd.ntmps24
  go_wp2
  go_ret
  exact ⟨rfl, rfl⟩
theorem spent_two {b : World} {M R : Nat} {L S L' S' : Int} {w : World} (h : Two b M R L S L' S' w) :
    Calls Tryd.prog 25 #[.pointer (some ⟨M, 0, none⟩)] w fun e w' => e = .returned (.int .i64 S) ∧ w' = w := by
  have h0 := cell_of_row w _ 1 _ _ _ h.hM
  go_enter Tryd.func25, Tryd.ntmps25
  go_wp2
  go_ret
  exact ⟨rfl, rfl⟩
/-- What holds all along the region that looks at the error. -/
abbrev St (bw : World) (M R V g : Nat) (b : Addr) (L S n : Int) (w : World) : Prop :=
  w.cell? ⟨0, 0, none⟩ = some (.iface 127 (.pointer (some b))) ∧ w.cell? ⟨R, 0, none⟩ = some (.int .i64 L) ∧ w.cell? ⟨g, 0, none⟩ = some (.int .i64 n) ∧ w.cell? ⟨g, 1, none⟩ = some (.int .i64 L) ∧
  Hid (Two bw M R L S L S w) ∧ Hid (w.heap[g]? = some (.cells #[.int .i64 n, .int .i64 L] 61 (0, 0))) ∧ Hid (w.heap[V]? = some (.cells #[.int .i64 L, .int .i64 S] 49 (0, 0)))
theorem St.of {bw : World} {M R V g : Nat} {b : Addr} {L S n : Int} {w : World} (h0 : w.cell? ⟨0, 0, none⟩ = some (.iface 127 (.pointer (some b)))) (hT : Two bw M R L S L S w)
    (hg : w.heap[g]? = some (.cells #[.int .i64 n, .int .i64 L] 61 (0, 0))) (hV : w.heap[V]? = some (.cells #[.int .i64 L, .int .i64 S] 49 (0, 0))) : St bw M R V g b L S n w :=
  ⟨h0, cell_of_row w _ 0 _ _ _ hT.hR, cell_of_row w _ 0 _ _ _ hg, cell_of_row w _ 1 _ _ _ hg, hT, hg, hV⟩
theorem St.below {bw : World} {M R V g : Nat} {b : Addr} {L S n : Int} {w w' : World} (h : St bw M R V g b L S n w) (hb : Below w.heap.size w w') : St bw M R V g b L S n w' :=
  St.of (cellk hb h.1) (h.2.2.2.2.1.out.grow hb) (heapk hb h.2.2.2.2.2.1.out) (heapk hb h.2.2.2.2.2.2.out)
theorem c21 {bw : World} {M R V g : Nat} {b : Addr} {L S n : Int} {w : World} (hPW : PW bw) (t : Nat) (hne : M ≠ t ∧ R ≠ t ∧ g ≠ t ∧ V ≠ t) (h0 : 0 < bw.heap.size) (hbt : bw.heap.size ≤ t) (h : St bw M R V g b L S n w)
    (ht : w.heap[t]? = some (.cells #[.pointer none] 56 (0, 0))) :
    Calls Tryd.prog 21 #[.iface 56 (.pointer (some ⟨g, 0, none⟩)), .iface 59 (.pointer (some ⟨t, 0, none⟩))] w fun e w' => e = .returned (.bool true) ∧ St bw M R V g b L S n w' ∧ w'.cell? ⟨t, 0, none⟩ = some (.pointer (some ⟨g, 0, none⟩)) := by
  have hT := h.2.2.2.2.1.out
  refine (as_two hT (hPW.below hT.bel) g t hne.1 hne.2.1 hbt ht).mono ?_
  rintro e w' ⟨rfl, hT', ht', hk⟩
  refine ⟨rfl, St.of ?_ hT' (hk _ _ hne.2.2.1 h.2.2.2.2.2.1.out) (hk _ _ hne.2.2.2 h.2.2.2.2.2.2.out), cell_of_one ht'⟩
  have e0 := hT'.bel.cell (p := ⟨0, 0, none⟩) h0
  have e1 := hT.bel.cell (p := ⟨0, 0, none⟩) h0
  rw [e0, ← e1]
  exact h.1
theorem c22 {bw : World} {M R V g : Nat} {b : Addr} {L S n : Int} {w : World} (hPW : PW bw) (hn : I64 n) (hL : I64 L) (h : St bw M R V g b L S n w) :
    Calls Tryd.prog 22 #[.pointer (some ⟨g, 0, none⟩)] w fun e w' => e = .returned (.string (tx n ++ of_ ++ tx L)) ∧ St bw M R V g b L S n w' := by
  refine (error_any n L hn hL g w (hPW.below h.2.2.2.2.1.out.bel).pow h.2.2.1 h.2.2.2.1).mono ?_
  rintro e w' ⟨rfl, hb⟩
  exact ⟨rfl, h.below hb⟩
theorem c23 {bw : World} {M R V g : Nat} {b : Addr} {L S n : Int} {w : World} (x : Int) (k : Nat) (hk : decanterref01_Decimal.f k x = some (tx x)) (h : St bw M R V g b L S n w) :
    Calls Tryd.prog 23 #[.int .i64 x] w fun e w' => e = .returned (.string (tx x)) ∧ St bw M R V g b L S n w' := by
  refine (decanterref01_Decimal.calls k x (tx x) w hk).mono ?_
  rintro e w' ⟨rfl, hb⟩
  exact ⟨rfl, h.below hb⟩
end Go.Proofs.YtfkgklbaafbbiaaDoor.PaysWalk
