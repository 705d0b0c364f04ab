/-
  An arena, a list over it, and a row beside them that stays; what is put in at a place, and out again.
-/
import Derived.Test.YtcdkcnegejhnhaaLsInsert
import Derived.Test.YtcdkcnegejhnhaaLsSpeaks
namespace Go.Proofs.Ytcdkcnegejhnhaa.Ar
open Go.RowKit Go.Proofs.Ytcdkcnegejhnhaa.PAr Go.Proofs.YtcdkcnegejhnhaaW.PrintWords Go.Proofs.YtcdkcnegejhnhaaW.PrintLast Go.Proofs.YtcdkcnegejhnhaaW.PrintMore
set_option linter.unusedVariables false
def StK (w : World) (base g b : Nat) (m : M) (xs : List Int) (kv : Value) (ks : List Int) : Prop := ∃ nv ev vs lv, At w base g m nv ev vs ∧ LsAt w base b g lv xs ∧ (∀ k, Foot g nv ev vs k → k ≠ b ∧ lv.ownBlock ≠ some k) ∧
  IR w base kv ks ∧ ∀ k, kv.ownBlock = some k → ¬ Foot g nv ev vs k ∧ k ≠ b ∧ lv.ownBlock ≠ some k
theorem StK.st {w : World} {base g b : Nat} {m : M} {xs ks : List Int} {kv : Value} (h : StK w base g b m xs kv ks) : St w base g b m xs := by
  obtain ⟨nv, ev, vs, lv, h1, h2, h3, h4, h5⟩ := h
  exact ⟨nv, ev, vs, lv, h1, h2, h3⟩
theorem StK.row {w : World} {base g b : Nat} {m : M} {xs ks : List Int} {kv : Value} (h : StK w base g b m xs kv ks) : IR w base kv ks := by
  obtain ⟨nv, ev, vs, lv, h1, h2, h3, h4, h5⟩ := h
  exact h4
theorem IR.lower {w : World} {b0 base : Nat} {v : Value} {xs : List Int} (h : IR w b0 v xs) (hb : base ≤ b0) : IR w base v xs := by
  rcases h.split with ⟨rfl, rfl⟩ | ⟨b, cap, cur, rfl, h2, h3, h4, h5, h6, h7⟩
  · exact IR.nil _ _
  · exact IR.mk (Nat.le_trans hb h2) h3 h4 h5 h6 h7
theorem StK.of {w w' : World} {base g b : Nat} {m : M} {xs ks : List Int} {kv : Value} (h : St w base g b m xs) (hb : Below w.heap.size w w') (hr : IR w' w.heap.size kv ks) : StK w' base g b m xs kv ks := by
  have hle := h.base_le
  obtain ⟨nv, ev, vs, lv, h1, h2, h3⟩ := h
  refine ⟨nv, ev, vs, lv, h1.below hb, h2.below hb, h3, hr.lower hle, fun k hk => ?_⟩
  have := (hr.lt k hk).1
  exact ⟨fun e => by have := (h1.foot_lt k e).2; omega, fun e => by have := h2.lt; omega, fun e => by have := (h2.row.lt k e).2; omega⟩
theorem StK.below {w w1 : World} {base g b : Nat} {m : M} {xs ks : List Int} {kv : Value} (h : StK w base g b m xs kv ks) (hb : Below w.heap.size w w1) : StK w1 base g b m xs kv ks := by
  obtain ⟨nv, ev, vs, lv, h1, h2, h3, h4, h5⟩ := h
  exact ⟨nv, ev, vs, lv, h1.below hb, h2.below hb, h3, h4.move fun k hk => hb.block k (h4.lt k hk).2, h5⟩
theorem StK.left {w w' : World} {base g b : Nat} {m m' : M} {nv ev lv kv : Value} {vs : List NV} {xs ks : List Int} (h1 : At w base g m nv ev vs) (h2 : LsAt w base b g lv xs) (h3 : ∀ k, Foot g nv ev vs k → k ≠ b ∧ lv.ownBlock ≠ some k)
    (h4 : IR w base kv ks) (h5 : ∀ k, kv.ownBlock = some k → ¬ Foot g nv ev vs k ∧ k ≠ b ∧ lv.ownBlock ≠ some k) (hL : Left w base g m' nv ev vs w') : StK w' base g b m' xs kv ks ∧ Below base w w' := by
  obtain ⟨nv', ev', vs', a1, a2, a3⟩ := hL
  refine ⟨⟨nv', ev', vs', lv, a1, ⟨(a3.block b h2.lt (fun e => (h3 b e).1 rfl)).trans h2.hb, h2.le, h2.row.move fun k hk => a3.block k (h2.row.lt k hk).2 (fun e => (h3 k e).2 hk)⟩, fun k hk => ?_,
    h4.move fun k hk => a3.block k (h4.lt k hk).2 (h5 k hk).1, fun k hk => ⟨fun e => ?_, (h5 k hk).2⟩⟩,
    a3.below (Nat.le_trans h2.le (Nat.le_of_lt h2.lt)) fun k hk => (h1.foot_lt k hk).1⟩
  · rcases a2 k hk with e | e
    · exact h3 k e
    · exact ⟨fun e' => by have := h2.lt; omega, fun e' => by have := (h2.row.lt k e').2; omega⟩
  · rcases a2 k e with e | e
    · exact (h5 k hk).1 e
    · have := (h4.lt k hk).2
      omega
theorem StK.post {w w' : World} {base g b : Nat} {m : M} {nv ev lv kv : Value} {vs : List NV} {xs ys ks : List Int} (h1 : At w base g m nv ev vs) (h2 : LsAt w base b g lv xs) (h3 : ∀ k, Foot g nv ev vs k → k ≠ b ∧ lv.ownBlock ≠ some k)
    (h4 : IR w base kv ks) (h5 : ∀ k, kv.ownBlock = some k → ¬ Foot g nv ev vs k ∧ k ≠ b ∧ lv.ownBlock ≠ some k) (hL : LsPost w base b g lv ys w') : StK w' base g b m ys kv ks ∧ Below base w w' := by
  obtain ⟨⟨nv', ev', vs', lv1, b1, b2, b3⟩, hB⟩ := St.post h1 h2 h3 hL
  clear b1 b2 b3
  obtain ⟨lv', a1, a2, a3⟩ := hL
  refine ⟨⟨nv, ev, vs, lv', h1.keep a3 (fun k hk => ⟨fun e => ?_, h2.typed k hk⟩), a1, fun k hk => ⟨(h3 k hk).1, fun e => ?_⟩, h4.move fun k hk => a3.block k (h4.lt k hk).2 (fun e => ?_), fun k hk => ⟨(h5 k hk).1, (h5 k hk).2.1, fun e => ?_⟩⟩, hB⟩
  · rcases hk with e' | e'
    · exact (h3 k e).1 e'
    · exact (h3 k e).2 e'
  · rcases a2 k e with e' | e'
    · exact (h3 k hk).2 e'
    · have := (h1.foot_lt k hk).2
      omega
  · rcases e with e | e
    · exact (h5 k hk).2.1 e
    · exact (h5 k hk).2.2 e
  · rcases a2 k e with e' | e'
    · exact (h5 k hk).2.2 e'
    · have := (h4.lt k hk).2
      omega
section
variable {w : World} {base g b n : Nat} {m : M} {xs ks : List Int} {kv : Value}
theorem stk_element (h : StK w base g b m xs kv ks) (gd : Gd m xs n) (hn : n ≤ 99999) (name : ByteArray) (A0 : Option Addr) (c0 : Nat) (attrs : List S105) (hC : Kd.C k105 w A0 attrs.length attrs) (hc : attrs.length ≤ c0) (hl : attrs.length < 1000000) :
    Calls Try.prog 19 #[.pointer (some ⟨g, 0, none⟩), .string name, .slice A0 attrs.length c0] w fun e w' => e = .returned (.int .i64 (m.elems.length : Int)) ∧ StK w' base g b (m.element name attrs) xs kv ks ∧ Below base w w' := by
  obtain ⟨nv, ev, vs, lv, h1, h2, h3, h4, h5⟩ := h
  refine (element_calls h1 name A0 c0 attrs hC hc (by omega) (Nat.le_trans h2.le (Nat.le_of_lt h2.lt)) (by have := gd.nodes; omega) (by have := gd.elems; omega)).mono ?_
  rintro e w' ⟨rfl, hL⟩
  exact ⟨rfl, StK.left h1 h2 h3 h4 h5 hL⟩
theorem stk_insert (h : StK w base g b m xs kv ks) (gd : Gd m xs n) (hn : n ≤ 99999) (i : Nat) (hi : i ≤ xs.length) (y : Int) :
    Calls Try.prog 57 #[.pointer (some ⟨b, 0, none⟩), .int .i64 (i : Int), .int .i64 y] w fun en w' => en = .returned (.tuple #[]) ∧ StK w' base g b m (insL xs i y) kv ks ∧ Below base w w' := by
  obtain ⟨nv, ev, vs, lv, h1, h2, h3, h4, h5⟩ := h
  refine (insert_calls h2 (by have := gd.len; omega) (Nat.le_trans h2.le (Nat.le_of_lt h2.lt)) i hi y).mono ?_
  rintro en w' ⟨rfl, hL⟩
  exact ⟨rfl, StK.post h1 h2 h3 h4 h5 hL⟩
theorem stk_replace (h : StK w base g b m xs kv ks) (hn : xs.length ≤ 99999) (x y : Int) :
    Calls Try.prog 58 #[.pointer (some ⟨b, 0, none⟩), .int .i64 x, .int .i64 y] w fun en w' => en = .returned (.tuple #[]) ∧ StK w' base g b m (putL xs x y) kv ks ∧ Below base w w' := by
  obtain ⟨nv, ev, vs, lv, h1, h2, h3, h4, h5⟩ := h
  refine (replace_calls h2 (by omega) x y).mono ?_
  rintro en w' ⟨rfl, hL⟩
  exact ⟨rfl, StK.post h1 h2 h3 h4 h5 hL⟩
theorem stk_remove (h : StK w base g b m xs kv ks) (hn : xs.length ≤ 99999) (x : Int) :
    Calls Try.prog 59 #[.pointer (some ⟨b, 0, none⟩), .int .i64 x] w fun en w' => en = .returned (.tuple #[]) ∧ StK w' base g b m (outL xs x) kv ks ∧ Below base w w' := by
  obtain ⟨nv, ev, vs, lv, h1, h2, h3, h4, h5⟩ := h
  refine (remove_calls h2 (by omega) x).mono ?_
  rintro en w' ⟨rfl, hL⟩
  exact ⟨rfl, StK.post h1 h2 h3 h4 h5 hL⟩
theorem stk_find (h : StK w base g b m xs kv ks) (hn : xs.length ≤ 99999) (x : Int) :
    Calls Try.prog 55 #[.pointer (some ⟨b, 0, none⟩), .int .i64 x] w fun e w' => e = .returned (.int .i64 (findL xs x)) ∧ ∃ n, w' = w.drewN n := by
  obtain ⟨nv, ev, vs, lv, h1, h2, h3, h4, h5⟩ := h
  exact find_calls h2 (by omega) x
theorem stk_all (h : StK w base g b m xs kv ks) (hn : xs.length ≤ 99999) :
    Calls Try.prog 35 #[.pointer (some ⟨b, 0, none⟩)] w fun e w' => ∃ v', e = .returned v' ∧ IR w' w.heap.size v' xs ∧ Below w.heap.size w w' := by
  obtain ⟨nv, ev, vs, lv, h1, h2, h3, h4, h5⟩ := h
  exact all_calls h2 (by omega)
end
theorem getD_mem {l : List Int} {j : Nat} (hj : j < l.length) : l.getD j 0 ∈ l := by
  rw [List.getD_eq_getElem?_getD, List.getElem?_eq_getElem hj]
  exact List.getElem_mem hj
theorem findL_miss {xs : List Int} {x : Int} (h : x ∉ xs) : findL xs x = -1 := by
  unfold findL
  split
  · rfl
  · exact Lib.idxFrom_miss x xs 0 fun j hj e => h (e ▸ getD_mem hj)
theorem insL_len (xs : List Int) (i : Nat) (y : Int) (hi : i ≤ xs.length) : (insL xs i y).length = xs.length + 1 := by
  unfold insL
  rw [List.length_append, List.length_cons, List.length_take, List.length_drop]
  omega
theorem insL_mem {xs : List Int} {i : Nat} {y z : Int} (h : z ∈ insL xs i y) : z ∈ xs ∨ z = y := by
  rcases List.mem_append.1 h with h | h
  · exact .inl (List.mem_of_mem_take h)
  · rcases List.mem_cons.1 h with h | h
    · exact .inr h
    · exact .inl (List.mem_of_mem_drop h)
theorem findL_ins {xs : List Int} {i : Nat} {y : Int} (hi : i ≤ xs.length) (hy : y ∉ xs) (h1 : y ≠ -1) : findL (insL xs i y) y = (i : Int) := by
  unfold findL
  rw [if_neg h1]
  have tl : (xs.take i).length = i := by rw [List.length_take]; omega
  have := Lib.idxFrom_hit y (insL xs i y) i 0 (by rw [insL_len _ _ _ hi]; omega) (by
    unfold insL
    rw [List.getD_eq_getElem?_getD, List.getElem?_append_right (by omega), tl, Nat.sub_self]
    rfl) (fun j hj e => by
    unfold insL at e
    rw [List.getD_eq_getElem?_getD, List.getElem?_append_left (by omega), ← List.getD_eq_getElem?_getD] at e
    exact hy (List.mem_of_mem_take (e ▸ getD_mem (l := xs.take i) (j := j) (by omega))))
  rw [Nat.zero_add] at this
  exact this
theorem putL_ins {xs : List Int} {i : Nat} {y z : Int} (hi : i ≤ xs.length) (hy : y ∉ xs) (h1 : y ≠ -1) : putL (insL xs i y) y z = insL xs i z := by
  unfold putL
  rw [findL_ins hi hy h1, if_pos (by omega), Int.toNat_natCast]
  unfold insL
  have tl : (xs.take i).length = i := by rw [List.length_take]; omega
  rw [List.set_append_right _ _ (by omega), tl, Nat.sub_self]
  rfl
theorem outL_ins {xs : List Int} {i : Nat} {y : Int} (hi : i ≤ xs.length) (hy : y ∉ xs) (h1 : y ≠ -1) : outL (insL xs i y) y = xs := by
  unfold outL
  rw [findL_ins hi hy h1, if_pos (by omega), Int.toNat_natCast]
  unfold insL
  have tl : (xs.take i).length = i := by rw [List.length_take]; omega
  rw [take_app _ _ _ tl.symm, List.drop_append, List.drop_of_length_le (by omega), tl, show i + 1 - i = 1 by omega]
  simp
theorem outL_miss {xs : List Int} {x : Int} (h : x ∉ xs) : outL xs x = xs := by
  unfold outL
  rw [findL_miss h, if_neg (by omega)]
end Go.Proofs.Ytcdkcnegejhnhaa.Ar
