/-
  attr.Keep with a closure that tells what it was asked: the state, and the closures' walks.
-/
import Derived.Test.YtfkgklbaafbbiaaPAKeepx
import Derived.Laws.IdiomCopy
import Derived.IntWalk
import Derived.Shelf.Abstract
import Derived.Deep.LoopGhost
import Derived.Handy
import Derived.Laws.Cover3
namespace Go.Proofs.Ytfkgklbaafbbiaa.Keep
open Go.RowKit Go.Proofs.Ytfkgklbaafbbiaa.PAKeep Go.Proofs.YtfkgklbaafbbiaaW.PrintWords Go.Proofs.YtfkgklbaafbbiaaW.PrintLast Go.Proofs.YtfkgklbaafbbiaaW.PrintMore
set_option linter.unusedVariables false
/-- All that lay there lies as it lay, but one block. -/
structure Fr (ab : Nat) (w w' : World) : Prop where
  os : w'.os = w.os
  tape : w'.tape = w.tape
  output : w'.output = w.output
  size : w.heap.size ≤ w'.heap.size
  block : ∀ k, k < w.heap.size → k ≠ ab → w'.heap[k]? = w.heap[k]?
theorem Fr.refl (ab : Nat) (w : World) : Fr ab w w := ⟨rfl, rfl, rfl, Nat.le_refl _, fun _ _ _ => rfl⟩
theorem Fr.below {ab : Nat} {w w1 w2 : World} (h : Fr ab w w1) (hb : Below w1.heap.size w1 w2) : Fr ab w w2 :=
  ⟨hb.os.trans h.os, hb.tape.trans h.tape, hb.output.trans h.output, Nat.le_trans h.size hb.size, fun k hk hne => (hb.block k (Nat.lt_of_lt_of_le hk h.size)).trans (h.block k hk hne)⟩
theorem Fr.grown {ab : Nat} {w w1 w2 : World} (h : Fr ab w w1) {g : Nat} (hg : w1.grownBy w2 (some g)) (hw : w.heap.size ≤ g) : Fr ab w w2 :=
  ⟨hg.os.trans h.os, hg.tape.trans h.tape, hg.output.trans h.output, Nat.le_trans h.size hg.size, fun k hk hne => (hg.block k (Nat.lt_of_lt_of_le hk h.size) (by simp; omega)).trans (h.block k hk hne)⟩
theorem Fr.setBox {ab : Nat} {w w1 : World} (h : Fr ab w w1) (u : Value) : Fr ab w (w1.setCell ⟨ab, 0, none⟩ u) := by
  have hs := Below.setCell (B := 0) (Below.refl 0 w1) (p := ⟨ab, 0, none⟩) (Nat.zero_le _) u
  exact ⟨hs.os.trans h.os, hs.tape.trans h.tape, hs.output.trans h.output, Nat.le_trans h.size hs.size, fun k hk hne => (Below.heap_setCell w1 ⟨ab, 0, none⟩ u k hne).trans (h.block k hk hne)⟩
theorem Fr.old {ab B : Nat} {w0 w w' : World} (h : Fr ab w w') (hb : Below B w0 w) (hB : B ≤ ab) (hw : B ≤ w.heap.size) : Below B w0 w' :=
  hb.trans ⟨h.os, h.tape, h.output, h.size, fun k hk => h.block k (by omega) (by omega)⟩
/-- A row's own block alone. -/
def own (v : Value) (k : Nat) : Prop := v.ownBlock = some k
theorem only37 {w : World} {base : Nat} {ok : Nat → Prop} {v : Value} {xs : List S37} (h : Kd.R k37 37 w base ok v xs) : Kd.R k37 37 w base (own v) v xs :=
  ⟨fun k hk => hk, h.2.imp_ (fun x cs hp => by rw [k37_openM hp]; exact k37_mkM _ _ _ _)⟩
theorem only38 {w : World} {base : Nat} {ok : Nat → Prop} {v : Value} {xs : List S38} (h : Kd.R k38 38 w base ok v xs) : Kd.R k38 38 w base (own v) v xs :=
  ⟨fun k hk => hk, h.2.imp_ (fun x cs hp => by rw [k38_openM hp]; exact k38_mkM _ _ _ _)⟩
theorem any38 {w : World} {base : Nat} {v : Value} {xs : List S38} (h : Kd.R k38 38 w base (own v) v xs) : Kd.R k38 38 w base (fun _ => True) v xs := Kd.R_mono h (fun _ _ => trivial)
theorem any37 {w : World} {base : Nat} {v : Value} {xs : List S37} (h : Kd.R k37 37 w base (own v) v xs) : Kd.R k37 37 w base (fun _ => True) v xs := Kd.R_mono h (fun _ _ => trivial)
/-- What was asked so far, the row that is cut, and all else as it lay. -/
structure JJ (Wk : World) (ab fb : Nat) (Fv sv : Value) (q : List S38) (X : List S37) (W : World) : Prop where
  fr : Fr ab Wk W
  asked : ∃ v, W.heap[ab]? = some (.cells #[v] 33 (0, 0)) ∧ Kd.R k38 38 W Wk.heap.size (own v) v q
  fbx : W.heap[fb]? = some (.cells #[Fv] 49 (0, 0))
  row : Kd.R k37 37 W Wk.heap.size (own sv) sv X
theorem blk_lt' {w : World} {k : Nat} {o : Obj} (h : w.heap[k]? = some o) : k < w.heap.size := (Array.getElem?_eq_some_iff.1 h).1
variable {Wk W W' : World} {ab fb : Nat} {Fv sv : Value} {q : List S38} {X : List S37}
theorem JJ.below (h : JJ Wk ab fb Fv sv q X W) (hb : Below W.heap.size W W') : JJ Wk ab fb Fv sv q X W' := by
  obtain ⟨h1, ⟨v, h2, h3⟩, h4, h5⟩ := h
  exact ⟨h1.below hb, ⟨v, (hb.block _ (blk_lt' h2)).trans h2, Kd.R_below h3 hb⟩, (hb.block _ (blk_lt' h4)).trans h4, Kd.R_below h5 hb⟩
theorem types_ne {w : World} {k j : Nat} {c1 c2 : Array Value} {t1 t2 : TypeId} (h1 : w.heap[k]? = some (.cells c1 t1 (0, 0))) (h2 : w.heap[j]? = some (.cells c2 t2 (0, 0))) (hne : t1 ≠ t2) : k ≠ j := by
  rintro rfl
  rw [h1] at h2
  cases h2
  exact hne rfl
/-- The row that is cut is written. -/
theorem JJ.stored (h : JJ Wk ab fb Fv sv q X W) {g : Nat} {Y : List S37} (hs : sv.ownBlock = some g) (hg : W.grownBy W' (some g)) (hr : Kd.R k37 37 W' Wk.heap.size (own sv) sv Y) : JJ Wk ab fb Fv sv q Y W' := by
  obtain ⟨h1, ⟨v, h2, h3⟩, h4, h5⟩ := h
  obtain ⟨cs, hcs⟩ := Kd.R_typed h5 g hs
  refine ⟨h1.grown hg (Kd.R_base h5 g hs), ⟨v, (hg.block _ (blk_lt' h2) ?_).trans h2, Kd.R_grown h3 hg fun k hk e => ?_⟩, (hg.block _ (blk_lt' h4) ?_).trans h4, hr⟩
  · intro e
    injection e with e
    exact types_ne h2 hcs (by decide) e
  · injection e with e
    obtain ⟨c2, hc2⟩ := Kd.R_typed h3 k hk
    exact types_ne hc2 hcs (by decide) e
  · intro e
    injection e with e
    exact types_ne h4 hcs (by decide) e
/-- What was asked is written. -/
theorem JJ.asks {v v1 : Value} {q' : List S38} (h1 : Fr ab Wk W) (hab : ab < Wk.heap.size) (h2 : W.heap[ab]? = some (.cells #[v] 33 (0, 0))) (h3 : Kd.R k38 38 W Wk.heap.size (own v) v q) (h4 : W.heap[fb]? = some (.cells #[Fv] 49 (0, 0))) (h5 : Kd.R k37 37 W Wk.heap.size (own sv) sv X)
    (hg : W.grownBy W' v.ownBlock) (hr : Kd.R k38 38 W' Wk.heap.size (own v1) v1 q') : JJ Wk ab fb Fv sv q' X (W'.setCell ⟨ab, 0, none⟩ v1) := by
  have hne : ∀ k, v.ownBlock = some k → ∃ cs, W.heap[k]? = some (.cells cs 38 (0, 0)) := Kd.R_typed h3
  have k1 : ∀ {j : Nat} {cs : Array Value} {t : TypeId}, W.heap[j]? = some (.cells cs t (0, 0)) → t ≠ 38 → W'.heap[j]? = some (.cells cs t (0, 0)) := fun hj ht =>
    (hg.block _ (blk_lt' hj) fun e => by
      obtain ⟨c2, hc2⟩ := hne _ e.symm
      exact types_ne hj hc2 ht rfl).trans hj
  have hab' := k1 h2 (by decide)
  have hfb' := k1 h4 (by decide)
  have fW : Fr ab Wk W' := by
    cases hv : v.ownBlock with
    | none =>
      rw [hv] at hg
      exact ⟨hg.os.trans h1.os, hg.tape.trans h1.tape, hg.output.trans h1.output, Nat.le_trans h1.size hg.size, fun k hk hne => (hg.block k (Nat.lt_of_lt_of_le hk h1.size) (by simp)).trans (h1.block k hk hne)⟩
    | some g =>
      rw [hv] at hg
      exact h1.grown hg (Kd.R_base h3 g hv)
  have hs5 : Kd.R k37 37 W' Wk.heap.size (own sv) sv X := Kd.R_step h5 fun k hk hlt => by
    obtain ⟨c2, hc2⟩ := Kd.R_typed h5 k hk
    rw [k1 hc2 (by decide), hc2]
  refine ⟨fW.setBox v1, ⟨v1, ?_, Kd.R_step hr fun k hk hlt => Below.heap_setCell W' _ v1 k ?_⟩, (Below.heap_setCell W' ⟨ab, 0, none⟩ v1 fb (types_ne h4 h2 (by decide))).trans hfb', Kd.R_step hs5 fun k hk hlt => Below.heap_setCell W' _ v1 k ?_⟩
  · exact blk_put hab' 0 v1 rfl
  · obtain ⟨c2, hc2⟩ := Kd.R_typed hr k hk
    exact types_ne hc2 hab' (by decide)
  · obtain ⟨c2, hc2⟩ := Kd.R_typed hs5 k hk
    exact types_ne hc2 hab' (by decide)
/-- All blocks but one, and but rows of a type, lie as they lay. -/
def Ke (ab : Nat) (w w' : World) : Prop := ∀ k o, w.heap[k]? = some o → k ≠ ab → (∀ cs, o ≠ .cells cs 38 (0, 0)) → w'.heap[k]? = some o
theorem Ke.mk {w w1 : World} {base ab : Nat} {o : Obj} {v v1 : Value} {q : List S38} (h3 : Kd.R k38 38 (w.alloc o) base (own v) v q) (hg : (w.alloc o).grownBy w1 v.ownBlock) : Ke ab w (w1.setCell ⟨ab, 0, none⟩ v1) := fun k ob hk hne ht => by
  refine (Below.heap_setCell w1 ⟨ab, 0, none⟩ v1 k hne).trans ((hg.block k (blk_lt' (blk_alloc hk o)) fun e => ?_).trans (blk_alloc hk o))
  obtain ⟨cs, hcs⟩ := Kd.R_typed h3 k e.symm
  rw [blk_alloc hk o] at hcs
  injection hcs with hcs
  exact ht cs hcs
def kb (ms : List Bool) (j : Nat) : Bool := decide (j < ms.length) && ms.getD j false
def to38 (x : S37) : S38 := ⟨x.f0, x.f1⟩
def askF (ab mb : Nat) : Value := .func (.func 20) #[] #[.pointer (some ⟨ab, 0, none⟩), .pointer (some ⟨mb, 0, none⟩)]
set_option maxRecDepth 100000 in
set_option maxHeartbeats 2000000 in
theorem asks_calls {W0 : World} {mb : Nat} {Am : Option Addr} {cm : Nat} {ms : List Bool} (h : JJ Wk ab fb Fv sv q X W) (hab : ab < Wk.heap.size) (hmb : mb < Wk.heap.size) (hne : mb ≠ ab) (hm : Wk.heap[mb]? = some (.cells #[.slice Am ms.length cm] 47 (0, 0)))
    (hB : Below W0.heap.size W0 Wk) (hB0 : W0.heap.size ≤ ab) (hms : ReadsOf Value.bool false W0 Am ms.length ms) (hq : q.length ≤ 1000) (x0 x1 : ByteArray) :
    Calls Try.prog 20 #[.agg #[.string x0, .string x1], .pointer (some ⟨ab, 0, none⟩), .pointer (some ⟨mb, 0, none⟩)] W fun e w' => e = .returned (.bool (kb ms q.length)) ∧ JJ Wk ab fb Fv sv (q ++ [⟨x0, x1⟩]) X w' ∧ Ke ab W w' := by
  obtain ⟨hf, ⟨v, h2, h3⟩, h4, h5⟩ := h
  have M0 := (hf.block mb hmb hne).trans hm
  have BW := hf.old hB hB0 (by omega)
  have F1 := Lib.hid hf
  have F3 := Lib.hid h3
  have F5 := Lib.hid h5
  have F2 := Lib.hid h2
  have F4 := Lib.hid h4
  have c2 : W.cell? ⟨ab, 0, none⟩ = some v := blk_cell h2 0
  have c3 : W.cell? ⟨mb, 0, none⟩ = some (.slice Am ms.length cm) := blk_cell M0 0
  have BA := Lib.hid ((Below.refl W.heap.size W).alloc (Nat.le_refl _) (.cells #[.string x0, .string x1] 37))
  have e2 : (W.alloc (.cells #[.string x0, .string x1] 37)).cell? ⟨ab, 0, none⟩ = some v := (BA.out.cell (p := ⟨ab, 0, none⟩) (blk_lt' h2)).trans c2
  have HO := Lib.hid (any38 (Kd.R_below h3 BA.out))
  have HS := Lib.hid (Nat.le_trans hf.size BA.out.size)
  have HQ := Lib.hid hq
  have HK := Lib.hid (And.intro hB (And.intro hB0 (And.intro hms (And.intro hm (And.intro hmb (And.intro hne hab))))))
  clear hf h2 h3 h4 h5 M0 BW c2 c3 hq hB hB0 hms hm hmb hne hab
  go_enter Try.func20, Try.ntmps20
  have AF := Lib.hid (fun (w2 : World) (hJ : JJ Wk ab fb Fv sv (q ++ [(⟨x0, x1⟩ : S38)]) X w2) => show w2.cell? ⟨mb, 0, none⟩ = some (.slice Am ms.length cm) ∧ ReadsOf Value.bool false w2 Am ms.length ms by
    have M2 := (hJ.fr.block mb HK.out.2.2.2.2.1 HK.out.2.2.2.2.2.1).trans HK.out.2.2.2.1
    exact ⟨blk_cell M2 0, HK.out.2.2.1.below (hJ.fr.old HK.out.1 HK.out.2.1 HK.out.1.size)⟩)
  have hq := HQ.out
  have hw1 : IntKind.i64.wrap (((q.length + 1 : Nat) : Int) - 1) = (q.length : Int) := by rw [IntWalk.i64_in _ (by omega)]; omega
  have hw3 : IntKind.i64.wrap ((q.length : Int) + 1 - 1) = (q.length : Int) := by rw [IntWalk.i64_in _ (by omega)]; omega
  have q0 : (0 : Int) ≤ (q.length : Int) := by omega
  by_cases hlt : q.length < ms.length
  · have i1 : (q.length : Int) < (ms.length : Int) := by omega
    have i2 : ((q.length + 1 : Nat) : Int) ≤ (ms.length : Int) := by omega
    have i3 : (q.length : Int) + 1 ≤ (ms.length : Int) := by omega
    have hkb : kb ms q.length = ms.getD q.length false := by unfold kb; rw [decide_eq_true hlt, Bool.true_and]
    have HL := Lib.hid hlt
    rw [hkb]
    clear hkb hlt
    go_wp2_with (refine Kd.R_append k38 (w0 := W.alloc (.cells #[.string x0, .string x1] 37)) (W := W.alloc (.cells #[.string x0, .string x1] 37)) Wk.heap.size rfl (.tmp 5) (.tmp 7) 33 38 (.agg #[.string ⟨#[]⟩, .string ⟨#[]⟩]) 32 rfl Try.underlying33 info38 rfl (by decide) (by decide) v q (⟨x0, x1⟩ : S38) [.string x0, .string x1] (fun _ => True) (fun _ => False) rfl (by first | (go_simp; done) | (go_simp; rfl)) (k38_mkM _ _ _ (⟨x0, x1⟩ : S38)) (fun _ hk => hk.elim) (fun _ _ => trivial) HO.out (Below.refl _ _) HS.out (by have := HQ.out; omega) ?_; intro v1 w1 hr1 hb1 hg1 hat1; obtain ⟨A1, k1, rfl, _, _⟩ := Kd.R_reads hr1; have hA : w1.heap[ab]? = some (.cells #[v] 33 (0, 0)) := blk_grown (blk_alloc F2.out _) hg1 (Kd.R_ne HO.out (blk_alloc F2.out _) (by decide)); have c5 := blk_cell hA 0; have f5 := blk_frozen hA 0; have J2 := Lib.hid (JJ.asks (F1.out.below BA.out) HK.out.2.2.2.2.2.2 (blk_alloc F2.out _) (Kd.R_below F3.out BA.out) (blk_alloc F4.out _) (Kd.R_below F5.out BA.out) hg1 (only38 hr1)); have KE := Lib.hid (Ke.mk (ab := ab) (v1 := .slice A1 (q ++ [(⟨x0, x1⟩ : S38)]).length k1) (Kd.R_below F3.out BA.out) hg1); have c6 := blk_cell (blk_put hA 0 (.slice A1 (q ++ [(⟨x0, x1⟩ : S38)]).length k1) rfl) 0; rw [List.length_append, List.length_singleton] at J2 KE c6 ⊢; obtain ⟨d3, d4⟩ := AF.out _ J2.out; obtain ⟨ad, rfl, d5⟩ := d4.2.2 (by have := HL.out; omega); replace d5 := d5 _ HL.out; clear d4 hr1 hb1 hg1 hat1 hA)
    go_ret
    exact ⟨rfl, J2.out, KE.out⟩
  · have i2 : ¬ ((q.length + 1 : Nat) : Int) ≤ (ms.length : Int) := by omega
    have i3 : ¬ (q.length : Int) + 1 ≤ (ms.length : Int) := by omega
    have hkb : kb ms q.length = false := by unfold kb; rw [decide_eq_false hlt, Bool.false_and]
    rw [hkb]
    clear hkb hlt
    go_wp2_with (refine Kd.R_append k38 (w0 := W.alloc (.cells #[.string x0, .string x1] 37)) (W := W.alloc (.cells #[.string x0, .string x1] 37)) Wk.heap.size rfl (.tmp 5) (.tmp 7) 33 38 (.agg #[.string ⟨#[]⟩, .string ⟨#[]⟩]) 32 rfl Try.underlying33 info38 rfl (by decide) (by decide) v q (⟨x0, x1⟩ : S38) [.string x0, .string x1] (fun _ => True) (fun _ => False) rfl (by first | (go_simp; done) | (go_simp; rfl)) (k38_mkM _ _ _ (⟨x0, x1⟩ : S38)) (fun _ hk => hk.elim) (fun _ _ => trivial) HO.out (Below.refl _ _) HS.out (by have := HQ.out; omega) ?_; intro v1 w1 hr1 hb1 hg1 hat1; obtain ⟨A1, k1, rfl, _, _⟩ := Kd.R_reads hr1; have hA : w1.heap[ab]? = some (.cells #[v] 33 (0, 0)) := blk_grown (blk_alloc F2.out _) hg1 (Kd.R_ne HO.out (blk_alloc F2.out _) (by decide)); have c5 := blk_cell hA 0; have f5 := blk_frozen hA 0; have J2 := Lib.hid (JJ.asks (F1.out.below BA.out) HK.out.2.2.2.2.2.2 (blk_alloc F2.out _) (Kd.R_below F3.out BA.out) (blk_alloc F4.out _) (Kd.R_below F5.out BA.out) hg1 (only38 hr1)); have KE := Lib.hid (Ke.mk (ab := ab) (v1 := .slice A1 (q ++ [(⟨x0, x1⟩ : S38)]).length k1) (Kd.R_below F3.out BA.out) hg1); have c6 := blk_cell (blk_put hA 0 (.slice A1 (q ++ [(⟨x0, x1⟩ : S38)]).length k1) rfl) 0; rw [List.length_append, List.length_singleton] at J2 KE c6 ⊢; obtain ⟨d3, d4⟩ := AF.out _ J2.out; clear d4 hr1 hb1 hg1 hat1 hA)
    go_ret
    exact ⟨rfl, J2.out, KE.out⟩
end Go.Proofs.Ytfkgklbaafbbiaa.Keep
