/-
  Lists of entries: one put in at a place.
-/
import Derived.Test.YtcdkcnegejhnhaaLsMore
import Derived.Test.YtcdkcnegejhnhaaShelf2
namespace Go.Proofs.Ytcdkcnegejhnhaa.Ar
open Go.RowKit Go.Lib Go.Proofs.Ytcdkcnegejhnhaa.PAr Go.Proofs.YtcdkcnegejhnhaaW.PrintWords Go.Proofs.YtcdkcnegejhnhaaW.PrintLast Go.Proofs.YtcdkcnegejhnhaaW.PrintMore
set_option linter.unusedVariables false
theorem shiftL {α : Type} (P S R : List α) (s v : α) : ((((P ++ s :: S ++ R).take (P.length + 1) ++ s :: S ++ (P ++ s :: S ++ R).drop (P.length + 1 + (s :: S).length)).take P.length ++ [v] ++
    ((P ++ s :: S ++ R).take (P.length + 1) ++ s :: S ++ (P ++ s :: S ++ R).drop (P.length + 1 + (s :: S).length)).drop (P.length + 1))).take (P.length + (s :: S).length + 1) = P ++ v :: s :: S := by
  have e1 : (P ++ s :: S ++ R).take (P.length + 1) = P ++ [s] := by simp [List.take_append, List.take_of_length_le]
  generalize hX : (P ++ s :: S ++ R).drop (P.length + 1 + (s :: S).length) = X
  rw [e1]
  have e2 : (P ++ [s] ++ s :: S ++ X).take P.length = P := by simp
  have e3 : (P ++ [s] ++ s :: S ++ X).drop (P.length + 1) = s :: S ++ X := by simp [List.drop_append]
  rw [e2, e3, show P ++ [v] ++ (s :: S ++ X) = (P ++ v :: s :: S) ++ X by simp]
  exact take_app _ _ _ (by simp; omega)
theorem growL {α : Type} (P S Z X : List α) (z v : α) (hZ : Z.length = S.length) : ((((P ++ z :: Z ++ X).take P.length ++ [v] ++ (P ++ z :: Z ++ X).drop (P.length + 1)).take (P.length + 1) ++ S ++
    ((P ++ z :: Z ++ X).take P.length ++ [v] ++ (P ++ z :: Z ++ X).drop (P.length + 1)).drop (P.length + 1 + S.length))).take (P.length + S.length + 1) = P ++ v :: S := by
  have e1 : (P ++ z :: Z ++ X).take P.length = P := by simp
  have e2 : (P ++ z :: Z ++ X).drop (P.length + 1) = Z ++ X := by simp [List.drop_append]
  rw [e1, e2]
  have e3 : (P ++ [v] ++ (Z ++ X)).take (P.length + 1) = P ++ [v] := by simp [List.take_append, List.take_of_length_le]
  rw [e3]
  generalize (P ++ [v] ++ (Z ++ X)).drop (P.length + 1 + S.length) = Y
  rw [show P ++ [v] ++ S ++ Y = (P ++ v :: S) ++ Y by simp]
  exact take_app _ _ _ (by simp; omega)
theorem zeros_size (n : Nat) : (Builtin.zeroCells (Value.int .i64 0).cells n).size = n := by simp [Builtin.zeroCells, Value.cells]
theorem nums_one (xs : List Int) : ∀ v ∈ xs.map (Value.int .i64), v.oneCell' = true := fun v hv => by
  obtain ⟨x, _, rfl⟩ := List.mem_map.1 hv
  rfl
set_option maxHeartbeats 1000000 in
theorem insert84 {W : World} {base vb i : Nat} {lv : Value} {xs : List Int} {y : Int} (h : IR W base lv xs) (hv : W.heap[vb]? = some (.cells #[.int .i64 y] 3 (0, 0))) (hne : lv.ownBlock ≠ some vb) (hi : i ≤ xs.length) (hl : xs.length ≤ 100000) (hb : base ≤ W.heap.size) :
    Calls Try.prog 84 #[lv, .int .i64 (i : Int), .slice (some ⟨vb, 0, none⟩) 1 1] W fun e w' => ∃ v', e = .returned v' ∧ IR w' base v' (xs.take i ++ y :: xs.drop i) ∧ (v'.ownBlock = lv.ownBlock ∨ ∃ b, v'.ownBlock = some b ∧ W.heap.size ≤ b) ∧ W.grownBy w' lv.ownBlock := by
  have hvs : ∀ (j : Nat) (v : Value), [Value.int .i64 y][j]? = some v → W.cell? ⟨vb, 0 + j, none⟩ = some v := fun j v hj => by
    rw [Nat.zero_add, blk_cell hv j]
    simpa using hj
  have h1v : ∀ v ∈ [Value.int .i64 y], v.oneCell' = true := fun v hv => by
    obtain rfl := List.mem_singleton.1 hv
    rfl
  have h1c := nums_one xs
  have hlen : (xs.take i ++ y :: xs.drop i).length = xs.length + 1 := by
    rw [List.length_append, List.length_cons, List.length_take, List.length_drop]
    omega
  have hmap : (xs.take i ++ y :: xs.drop i).map (Value.int .i64) = (xs.map (Value.int .i64)).take i ++ Value.int .i64 y :: (xs.map (Value.int .i64)).drop i := by
    rw [List.map_append, List.map_cons, List.map_take, List.map_drop]
  -- a new row
  have NEW : ∀ (w' : World) (cur : Array Value) (cap : Nat), w'.heap[W.heap.size]? = some (.cells cur 3 (0, 0)) → xs.length + 1 ≤ cap → cap ≤ maxLen → cur.size = cap → cur.toList.take (xs.length + 1) = (xs.map (Value.int .i64)).take i ++ Value.int .i64 y :: (xs.map (Value.int .i64)).drop i → W.grownBy w' lv.ownBlock →
      ∃ v', Ending.returned (Value.slice (some ⟨W.heap.size, 0, none⟩) (xs.length + 1) cap) = .returned v' ∧ IR w' base v' (xs.take i ++ y :: xs.drop i) ∧ (v'.ownBlock = lv.ownBlock ∨ ∃ b, v'.ownBlock = some b ∧ W.heap.size ≤ b) ∧ W.grownBy w' lv.ownBlock := by
    intro w' cur cap h1 h2 h3 h4 h5 h6
    refine ⟨_, rfl, ?_, .inr ⟨_, rfl, Nat.le_refl _⟩, h6⟩
    rw [← hlen] at h2 h5 ⊢
    exact IR.mk hb h1 h2 h3 h4 (by rw [h5, hmap])
  rcases h.split with ⟨rfl, rfl⟩ | ⟨b, cap, cur, rfl, q1, q2, q3, q4, q5, q6⟩
  · obtain rfl : i = 0 := by simpa using hi
    refine (Any2.slices_Insert_int_end_grow Try.insert_lays none 0 0 vb 0 1 1 [] [.int .i64 y] W (by omega) (by omega) (by omega) (by omega) rfl rfl (fun _ => rfl) (fun a ha => by cases ha) hvs h1v).mono ?_
    rintro e w' ⟨rfl, rfl⟩
    have g1 := grownCap_ge W (0 + 1) 0 3
    refine NEW _ _ _ (heap_alloc_new W.drew _) g1 (grownCap_le_maxLen _ _ _ _ (by simp [maxLen])) ?_ ?_ ?_
    · rw [Array.size_append, zeros_size]
      show 1 + (grownCap W (0 + 1) 0 3 - (0 + 1)) = grownCap W (0 + 1) 0 3
      omega
    · simp
    · exact ⟨rfl, rfl, rfl, by rw [World.size_alloc]; exact Nat.le_succ _, fun k hk _ => ((Below.refl W.heap.size W).drew.alloc (Nat.le_refl _) _).block k hk⟩
  · have hcs : ∀ (j : Nat) (v : Value), (xs.map (Value.int .i64))[j]? = some v → W.cell? ⟨b, 0 + j, none⟩ = some v := fun j v hj => by
      rw [List.getElem?_map, Option.map_eq_some_iff] at hj
      obtain ⟨x, hx, rfl⟩ := hj
      obtain ⟨hj1, rfl⟩ := List.getElem?_eq_some_iff.1 hx
      rw [h.cells j hj1, List.getD_eq_getElem?_getD, List.getElem?_eq_getElem hj1, Option.getD_some]
    have hsome : ∀ j, j < cap → (W.cell? ⟨b, j, none⟩).isSome = true := fun j hj => by
      rw [blk_cell q2 j, Array.getElem?_eq_getElem (by omega)]
      rfl
    have hmx : cap ≤ 9223372036854775807 := by simp only [maxLen] at q4; omega
    have hbv : vb ≠ b := fun e => hne (by rw [e]; rfl)
    have hcl : (xs.map (Value.int .i64)).length = xs.length := List.length_map _
    have hcur : cur.toList = xs.map (Value.int .i64) ++ cur.toList.drop xs.length := by rw [← q6, List.take_append_drop]
    -- in place
    have PUT : ∀ (w' : World) (cur' : Array Value), w'.heap[b]? = some (.cells cur' 3 (0, 0)) → xs.length + 1 ≤ cap → cur'.size = cap → cur'.toList.take (xs.length + 1) = (xs.map (Value.int .i64)).take i ++ Value.int .i64 y :: (xs.map (Value.int .i64)).drop i → W.grownBy w' (some b) →
        ∃ v', Ending.returned (Value.slice (some ⟨b, 0, none⟩) (xs.length + 1) cap) = .returned v' ∧ IR w' base v' (xs.take i ++ y :: xs.drop i) ∧ (v'.ownBlock = (Value.slice (some ⟨b, 0, none⟩) xs.length cap).ownBlock ∨ ∃ b, v'.ownBlock = some b ∧ W.heap.size ≤ b) ∧ W.grownBy w' (Value.slice (some ⟨b, 0, none⟩) xs.length cap).ownBlock := by
      intro w' cur' h1 h2 h4 h5 h6
      refine ⟨_, rfl, ?_, .inl rfl, h6⟩
      rw [← hlen] at h2 h5 ⊢
      exact IR.mk q1 h1 h2 q4 h4 (by rw [h5, hmap])
    by_cases hin : i = xs.length
    · subst hin
      by_cases hroom : xs.length + 1 ≤ cap
      · refine (Any2.slices_Insert_int_end_room Try.insert_lays b 0 xs.length cap vb 0 1 1 [.int .i64 y] W (by omega) hroom hmx rfl (fun j hj => hsome _ (by omega)) (fun j hj => blk_frozen q2 _) hvs h1v).mono ?_
        rintro e w' ⟨rfl, rfl⟩
        obtain ⟨cur', r1, r2, r3⟩ := setCells_row [.int .i64 y] (0 + xs.length) W cur q2 (by simp; omega)
        obtain ⟨s1, s2, s3, s4⟩ := setCells_same b [.int .i64 y] (0 + xs.length) W
        refine PUT _ cur' r1 hroom (by omega) ?_ ⟨s1, s2, s3, by omega, fun k hk hn => setCells_far _ _ k (fun e => hn (by rw [e]))⟩
        rw [r3, Nat.zero_add, q6]
        simp [List.take_append, List.take_of_length_le]
      · refine (Any2.slices_Insert_int_end_grow Try.insert_lays (some ⟨b, 0, none⟩) xs.length cap vb 0 1 1 (xs.map (Value.int .i64)) [.int .i64 y] W (by omega) q3 (by omega) (by omega) hcl rfl (fun e => by cases e) (fun a ha j v hj => by
          cases ha
          rw [Addr.add_lit]
          exact hcs j v hj) hvs h1v).mono ?_
        rintro e w' ⟨rfl, rfl⟩
        have g1 := grownCap_ge W (xs.length + 1) cap (Try.insert_ren.t 3)
        refine NEW _ _ _ (heap_alloc_new W.drew _) g1 (grownCap_le_maxLen _ _ _ _ (by simp only [maxLen]; omega)) ?_ ?_ ?_
        · rw [Array.size_append, zeros_size]
          simp
          omega
        · simp [List.take_append, List.take_of_length_le]
        · exact ⟨rfl, rfl, rfl, by rw [World.size_alloc]; exact Nat.le_succ _, fun k hk _ => ((Below.refl W.heap.size W).drew.alloc (Nat.le_refl _) _).block k hk⟩
    · obtain ⟨P, s, S, hP, hps, hpl⟩ : ∃ P s S, (xs.map (Value.int .i64)).take i = P ∧ (xs.map (Value.int .i64)).drop i = s :: S ∧ P.length = i := by
        refine ⟨_, _, _, rfl, List.drop_eq_getElem_cons (by rw [hcl]; omega), by rw [List.length_take, hcl]; omega⟩
      have hall : xs.map (Value.int .i64) = P ++ s :: S := by rw [← hP, ← hps, List.take_append_drop]
      have hsl : P.length + (s :: S).length = xs.length := by rw [← hcl, hall, List.length_append]
      by_cases hroom : xs.length + 1 ≤ cap
      · refine (Any2.slices_Insert_int_shift Try.insert_lays b 0 xs.length cap i vb 0 1 1 (xs.map (Value.int .i64)) [.int .i64 y] W (by omega) (by omega) hroom hmx hbv hcl rfl hcs (fun j hj => hsome _ (by omega)) (fun j hj => blk_frozen q2 _) hvs h1c h1v
          3 3 1 cap (by simp [World.shape?, hv]) (by simp [World.shape?, q2, q5]) (by omega) (blk_frozen hv _) (blk_frozen hv _)).mono ?_
        rintro e w' ⟨rfl, rfl⟩
        obtain ⟨cur1, r1, r2, r3⟩ := setCells_row (s :: S) (0 + (i + 1)) W.drew cur q2 (by omega)
        rw [hps]
        obtain ⟨cur2, t1, t2, t3⟩ := setCells_row [.int .i64 y] (0 + i) _ cur1 r1 (by simp; omega)
        obtain ⟨s1, s2, s3, s4⟩ := setCells_same b (s :: S) (0 + (i + 1)) W.drew
        obtain ⟨u1, u2, u3, u4⟩ := setCells_same b [.int .i64 y] (0 + i) (W.drew.setCells b (0 + (i + 1)) (s :: S))
        refine PUT _ cur2 t1 hroom (by omega) ?_ ⟨u1.trans s1, u2.trans s2, u3.trans s3, by rw [u4, s4]; exact Nat.le_refl _, fun k hk hn => (setCells_far _ _ k (fun e => hn (by rw [e]))).trans (setCells_far _ _ k (fun e => hn (by rw [e])))⟩
        rw [t3, r3, hcur, hP, hps, hall, ← hpl, ← hsl]
        simp only [Nat.zero_add, List.length_singleton]
        exact shiftL P S _ s _
      · refine (Any2.slices_Insert_int_grow Try.insert_lays b 0 xs.length cap i vb 0 1 1 (xs.map (Value.int .i64)) [.int .i64 y] W (by omega) (by omega) q3 (by omega) (by omega) hcl rfl hcs hvs h1c h1v).mono ?_
        rintro e w' ⟨rfl, rfl⟩
        have g1 := grownCap_ge W (xs.length + 1) cap (Try.insert_ren.t 3)
        have g2 := grownCap_le_maxLen W (xs.length + 1) cap (Try.insert_ren.t 3) (by simp only [maxLen]; omega)
        generalize grownCap W (xs.length + 1) cap (Try.insert_ren.t 3) = gc at *
        rw [hP, hps]
        obtain ⟨cur0, hc0⟩ : ∃ cur0, P.toArray ++ Builtin.zeroCells (Value.int .i64 0).cells (xs.length + 1 - i) ++ Builtin.zeroCells (Value.int .i64 0).cells (gc - (xs.length + 1)) = cur0 := ⟨_, rfl⟩
        have hs0 : cur0.size = gc := by
          rw [← hc0, Array.size_append, Array.size_append, zeros_size, zeros_size, List.size_toArray]
          omega
        obtain ⟨z, Z, X, hc0l, hZ⟩ : ∃ z Z X, cur0.toList = P ++ z :: Z ++ X ∧ Z.length = (s :: S).length := by
          have e1 : (Builtin.zeroCells (Value.int .i64 0).cells (xs.length + 1 - i)).toList.length = (s :: S).length + 1 := by rw [Array.length_toList, zeros_size]; omega
          cases hz : (Builtin.zeroCells (Value.int .i64 0).cells (xs.length + 1 - i)).toList with
          | nil => rw [hz] at e1; simp at e1
          | cons z Z =>
            rw [hz] at e1
            exact ⟨z, Z, (Builtin.zeroCells (Value.int .i64 0).cells (gc - (xs.length + 1))).toList, by rw [← hc0, Array.toList_append, Array.toList_append, hz], by simpa using e1⟩
        rw [hc0]
        have hn0 : (W.alloc (.cells cur0 3)).drew.heap[W.heap.size]? = some (.cells cur0 3 (0, 0)) := heap_alloc_new W _
        obtain ⟨cur1, r1, r2, r3⟩ := setCells_row [.int .i64 y] i (W.alloc (.cells cur0 3)).drew cur0 hn0 (by simp; omega)
        obtain ⟨cur2, t1, t2, t3⟩ := setCells_row (s :: S) (i + 1) ((W.alloc (.cells cur0 3)).drew.setCells W.heap.size i [.int .i64 y]).drew cur1 r1 (by omega)
        obtain ⟨s1, s2, s3, s4⟩ := setCells_same W.heap.size [.int .i64 y] i (W.alloc (.cells cur0 3)).drew
        obtain ⟨u1, u2, u3, u4⟩ := setCells_same W.heap.size (s :: S) (i + 1) ((W.alloc (.cells cur0 3)).drew.setCells W.heap.size i [.int .i64 y]).drew
        refine NEW _ cur2 gc t1 g1 g2 (by omega) ?_ ⟨u1.trans s1, u2.trans s2, u3.trans s3, ?_, fun k hk _ => ?_⟩
        · rw [t3, r3, hc0l, hP, hps, ← hpl, ← hsl]
          exact growL P (s :: S) Z X z _ hZ
        · refine Nat.le_trans ?_ (Nat.le_of_eq u4.symm)
          show W.heap.size ≤ ((W.alloc (.cells cur0 3)).drew.setCells W.heap.size i [.int .i64 y]).heap.size
          rw [s4]
          show W.heap.size ≤ (W.alloc (.cells cur0 3)).heap.size
          rw [World.size_alloc]
          exact Nat.le_succ _
        · exact (setCells_far _ _ k (Nat.ne_of_lt hk)).trans ((setCells_far (w := (W.alloc (.cells cur0 3)).drew) _ _ k (Nat.ne_of_lt hk)).trans (((Below.refl W.heap.size W).alloc (Nat.le_refl _) _).block k hk))
def insL (xs : List Int) (i : Nat) (y : Int) : List Int := xs.take i ++ y :: xs.drop i
set_option maxRecDepth 100000 in
set_option maxHeartbeats 2000000 in
theorem insert_calls {w : World} {base b g : Nat} {lv : Value} {xs : List Int} (h : LsAt w base b g lv xs) (hl : xs.length ≤ 100000) (hb : base ≤ w.heap.size) (i : Nat) (hi : i ≤ xs.length) (y : Int) :
    Calls Try.prog 57 #[.pointer (some ⟨b, 0, none⟩), .int .i64 (i : Int), .int .i64 y] w fun e w' => e = .returned (.tuple #[]) ∧ LsPost w base b g lv (insL xs i y) w' := by
  have hB : Below w.heap.size w (w.alloc (.cells #[.int .i64 y] 3)) := (Below.refl _ _).alloc (Nat.le_refl _) _
  have L1 := Lib.hid (h.below hB)
  have HI := Lib.hid (show Calls Try.prog 84 #[lv, .int .i64 (i : Int), .slice (some ⟨w.heap.size, 0, none⟩) 1 1] (w.alloc (.cells #[.int .i64 y] 3)) fun e w' => ∃ v', e = .returned v' ∧ IR w' base v' (insL xs i y) ∧ (v'.ownBlock = lv.ownBlock ∨ ∃ b, v'.ownBlock = some b ∧ (w.alloc (.cells #[.int .i64 y] 3)).heap.size ≤ b) ∧ (w.alloc (.cells #[.int .i64 y] 3)).grownBy w' lv.ownBlock from
    insert84 L1.out.row (heap_alloc_new w _) (fun e => by have := (h.row.lt _ e).2; omega) hi hl (Nat.le_trans hb hB.size))
  obtain ⟨C0, C1⟩ := h.cells
  have C3 : (w.alloc (.cells #[.int .i64 y] 3)).cell? ⟨b, 1, none⟩ = some lv := L1.out.cells.2
  have HB := Lib.hid hB
  generalize hys : insL xs i y = ys at *
  obtain ⟨A, nn, c, rfl⟩ : ∃ A n c, lv = .slice A n c := by
    rcases h.row.split with ⟨rfl, _⟩ | ⟨b', cap, cur, rfl, _⟩
    · exact ⟨_, _, _, rfl⟩
    · exact ⟨_, _, _, rfl⟩
  clear h hl hb hi hB hys
  go_enter Try.func57, Try.ntmps57
  go_wp2_with (go_at_call 84; refine HI.out.mono ?_; rintro en w3 ⟨v3, rfl, h1, h2, h3⟩; obtain ⟨A3, k3, rfl, g3, f3, FF3⟩ := ls_facts L1.out h3 rfl h1 h2; clear h1 h2 h3)
  go_end0
  exact ⟨rfl, LsPost.of_below HB.out ⟨_, FF3.out⟩⟩
theorem st_insert {w : World} {base g b n : Nat} {m : M} {xs : List Int} (h : St w base g b m xs) (gd : Gd m xs n) (hn : n ≤ 99999) (i : Nat) (hi : i ≤ xs.length) (y : Int) :
    Calls Try.prog 57 #[.pointer (some ⟨b, 0, none⟩), .int .i64 (i : Int), .int .i64 y] w fun en w' => en = .returned (.tuple #[]) ∧ St w' base g b m (insL xs i y) ∧ Below base w w' := by
  obtain ⟨nv, ev, vs, lv, h1, h2, h3⟩ := h
  refine (insert_calls h2 (by have := gd.len; omega) (Nat.le_trans h2.le (Nat.le_of_lt h2.lt)) i hi y).mono ?_
  rintro en w' ⟨rfl, hL⟩
  exact ⟨rfl, St.post h1 h2 h3 hL⟩
end Go.Proofs.Ytcdkcnegejhnhaa.Ar
