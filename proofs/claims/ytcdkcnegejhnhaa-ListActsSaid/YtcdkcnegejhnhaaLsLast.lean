/-
  Lists of entries: the last element of a name behind the last mark.
-/
import Derived.Test.YtcdkcnegejhnhaaLsPure
namespace Go.Proofs.Ytcdkcnegejhnhaa.Ar
open Go.RowKit Go.Shelf Go.Proofs.Ytcdkcnegejhnhaa.PAr Go.Proofs.YtcdkcnegejhnhaaW.PrintWords Go.Proofs.YtcdkcnegejhnhaaW.PrintLast Go.Proofs.YtcdkcnegejhnhaaW.PrintMore
set_option linter.unusedVariables false
attribute [local go_sem] Oper.semAt_some
/-- The rounds from behind, by their numbers alone; beyond them a mark. -/
def fr (zs : List Int) (j : Nat) : Nat × Int := (zs.length - 1 - j, zs.reverse.getD j (-1))
theorem fr_at (zs : List Int) (q : Nat) (h : q < zs.length) : fr zs (zs.length - (q + 1)) = (q, zs[q]?.getD 0) := by
  have h1 : zs.length - (q + 1) < zs.reverse.length := by rw [List.length_reverse]; omega
  unfold fr
  rw [List.getD_eq_getElem?_getD, List.getElem?_eq_getElem h1, Option.getD_some, List.getElem_reverse, List.getElem?_eq_getElem h, Option.getD_some]
  congr 1
  · omega
  · congr 1
    omega
theorem fr_mem (zs : List Int) (j : Nat) : (fr zs j).2 = -1 ∨ (fr zs j).2 ∈ zs := by
  unfold fr
  by_cases h : j < zs.reverse.length
  · refine .inr ?_
    rw [List.getD_eq_getElem?_getD, List.getElem?_eq_getElem h, Option.getD_some]
    exact List.mem_reverse.1 (List.getElem_mem h)
  · refine .inl ?_
    rw [List.getD_eq_getElem?_getD, List.getElem?_eq_none (by omega), Option.getD_none]
theorem fr_map (zs : List Int) (k : Nat) (hk : k ≤ zs.length) : (List.range k).map (fun j => (fr zs j).2) = zs.reverse.take k := by
  apply List.ext_getElem
  · rw [List.length_map, List.length_range, List.length_take, List.length_reverse]; omega
  · intro j h1 h2
    rw [List.length_map, List.length_range] at h1
    have hj : j < zs.reverse.length := by rw [List.length_reverse]; omega
    simp only [List.getElem_map, List.getElem_range, List.getElem_take, fr]
    rw [List.getD_eq_getElem?_getD, List.getElem?_eq_getElem hj, Option.getD_some]
set_option maxRecDepth 100000 in
set_option maxHeartbeats 2000000 in
theorem back2_in (F : Fence) (n : Nat) (h88 : F.fn 88) (hro : F.round = none) (hn : 1 ≤ n) (l Bs n₀ b cap : Nat) (zs : List Int) (hreach : zs.length ≤ 9223372036854775807) (hb : b < n₀) (J Jx : List Nat → World → Prop)
    (hY : ∀ pre (x : Nat) W, J pre W → pre.length < zs.length → YieldAt F (n - 1) Try.prog l #[.int .i64 ((fr zs x).1 : Int), .int .i64 (fr zs x).2] W fun e W' =>
      (e = .returned (.bool true) ∧ J (pre ++ [x]) W' ∧ Below n₀ W W') ∨ (e = .returned (.bool false) ∧ Jx (pre ++ [x]) W'))
    (W : World) (hBn : Bs < n₀) (hBs : W.cell? ⟨Bs, 0, none⟩ = some (.slice (some ⟨b, 0, none⟩) zs.length cap)) (hc : ∀ j, j < zs.length → W.cell? ⟨b, 0 + j, none⟩ = some (.int .i64 (zs[j]?.getD 0))) (h0 : J [] W) :
    CallsIn F n Try.prog 88 #[.func (.yield l) #[] #[], .pointer (some ⟨Bs, 0, none⟩)] W fun e W' => (∃ v, e = .returned v) ∧
      ((∃ ys, ys = List.range zs.length ∧ J ys W') ∨ (∃ pre, (∃ k, k ≤ zs.length ∧ pre = List.range k) ∧ Jx pre W')) := by
  have hw0 := wrapm zs.length hreach
  refine callsIn_of_wp Try.func88 rfl h88 ?_ hro
  simp only [Try.ntmps88, List.size_toArray, List.length_cons, List.length_nil, Nat.reduceAdd, Nat.reduceSub, Array.replicate_succ, Array.replicate_zero, List.push_toArray, List.append_toArray, List.nil_append, List.cons_append]
  gi_wp2
  gi_loopw [3] (fun i wr => ∃ m : Nat, m ≤ zs.length ∧ i = .int .i64 ((m : Int) - 1) ∧ J (List.range (zs.length - m)) wr ∧ Below n₀ W wr)
    (fun i _ => (intOf i + 1).toNat)
  case atStart => exact ⟨zs.length, Nat.le_refl _, rfl, by rw [Nat.sub_self]; exact h0, Below.refl _ _⟩
  case round =>
    obtain ⟨m, hm, rfl, hJs, hnx⟩ := hrel
    have hBs' : wr.cell? ⟨Bs, 0, none⟩ = some (.slice (some ⟨b, 0, none⟩) zs.length cap) := (hnx.cell (p := ⟨Bs, 0, none⟩) hBn).trans hBs
    cases m with
    | zero =>
      rw [Nat.sub_zero] at hJs
      gi_wp2
      go_end0
      exact ⟨⟨_, rfl⟩, .inl ⟨_, rfl, hJs⟩⟩
    | succ q =>
      have eq1 : ((q + 1 : Nat) : Int) - 1 = (q : Int) := by omega
      rw [eq1]
      have hcx' : wr.cell? ⟨b, q, none⟩ = some (.int .i64 (zs[q]?.getD 0)) := by
        have := (hnx.cell (p := ⟨b, 0 + q, none⟩) hb).trans (hc q (by omega))
        rwa [Nat.zero_add] at this
      have hYq := hY _ (zs.length - (q + 1)) wr hJs (by rw [List.length_range]; omega)
      rw [fr_at zs q (by omega)] at hYq
      obtain ⟨fn, tmps, assign, body, hy, hR⟩ := hYq
      dsimp only at hy
      have hwq := wrapm q (by omega)
      have hq0 : (0 : Int) ≤ (q : Int) := by omega
      have hql : (q : Int) < (zs.length : Int) := by omega
      gi_wp2
      refine hR.mono ?_
      have es : List.range (zs.length - (q + 1)) ++ [zs.length - (q + 1)] = List.range (zs.length - q) := by
        rw [← List.range_succ]
        congr 1
        omega
      rintro e W3 (⟨rfl, hJ3, hk3⟩ | ⟨rfl, hJx3⟩)
      · have hBs3 : W3.cell? ⟨Bs, 0, none⟩ = some (.slice (some ⟨b, 0, none⟩) zs.length cap) := (hk3.cell (p := ⟨Bs, 0, none⟩) hBn).trans hBs'
        rw [es] at hJ3
        gi_wp2
        go_roundw
        case rel => exact ⟨q, by omega, rfl, hJ3, hnx.trans hk3⟩
        case measure => simp [intOf]
      · rw [es] at hJx3
        gi_wp2
        refine bodyPost_ret (results_none rfl _ _ _) rfl ?_
        exact ⟨⟨_, rfl⟩, .inr ⟨_, ⟨zs.length - q, by omega, rfl⟩, hJx3⟩⟩
set_option maxRecDepth 100000 in
set_option maxHeartbeats 1000000 in
theorem back2_nil_in (F : Fence) (n : Nat) (h88 : F.fn 88) (hro : F.round = none) (l Bs : Nat) (J : List Nat → World → Prop) (W : World) (hBs : W.cell? ⟨Bs, 0, none⟩ = some (.slice none 0 0)) (h0 : J [] W) :
    CallsIn F n Try.prog 88 #[.func (.yield l) #[] #[], .pointer (some ⟨Bs, 0, none⟩)] W fun e W' => (∃ v, e = .returned v) ∧ J [] W' := by
  refine callsIn_of_wp Try.func88 rfl h88 ?_ hro
  simp only [Try.ntmps88, List.size_toArray, List.length_cons, List.length_nil, Nat.reduceAdd, Nat.reduceSub, Array.replicate_succ, Array.replicate_zero, List.push_toArray, List.append_toArray, List.nil_append, List.cons_append]
  gi_wp2
  gi_loopw [3] (fun i wr => i = .int .i64 (-1) ∧ J [] wr) (fun _ _ => 0)
  case atStart => exact ⟨rfl, h0⟩
  case round =>
    obtain ⟨rfl, hJs⟩ := hrel
    gi_wp2
    go_end0
    exact ⟨⟨_, rfl⟩, hJs⟩
theorem back2_stops (F : Fence) (n : Nat) (h88 : F.fn 88) (hro : F.round = none) (hn : 1 ≤ n) (Bs base : Nat) (sv : Value) (zs : List Int) (hreach : zs.length ≤ 9223372036854775807) (w : World) (hBs : Bs < w.heap.size)
    (hc : w.cell? ⟨Bs, 0, none⟩ = some sv) (n₀ : Nat) (hn₀ : n₀ ≤ w.heap.size) (hBn : Bs < n₀) (hI : IR w base sv zs) (hlt : ∀ k, sv.ownBlock = some k → k < n₀) :
    SeqStopsK F n Try.prog 88 #[.pointer (some ⟨Bs, 0, none⟩)] (fun x : Nat => #[Value.int .i64 ((fr zs x).1 : Int), Value.int .i64 (fr zs x).2]) (Below n₀) (fun ys => ys = List.range zs.length)
      (fun pre => ∃ k, k ≤ zs.length ∧ pre = List.range k) zs.length w := fun l J Jx W hW _ _ hY h0 => by
  have hc' := (hW.cell (p := ⟨Bs, 0, none⟩) hBs).trans hc
  rcases hI.split with ⟨rfl, rfl⟩ | ⟨b, cap, cur, rfl, h2, h3⟩
  · exact (back2_nil_in F n h88 hro l Bs J W hc' h0).mono fun e W' ⟨he, hj⟩ => ⟨he, .inl ⟨_, rfl, hj⟩⟩
  · exact back2_in F n h88 hro hn l Bs n₀ b cap zs hreach (hlt b rfl) J Jx hY W hBn hc' (fun j hj => (hW.cell (p := ⟨b, 0 + j, none⟩) (Nat.lt_of_lt_of_le (hlt b rfl) hn₀)).trans (by rw [hI.cells j hj, List.getD_eq_getElem?_getD])) h0
def lastV (m : M) (nm : ByteArray) (xs : List Int) : Int := (lastL m nm xs).getD 0
def lastB (m : M) (nm : ByteArray) (xs : List Int) : Bool := (lastL m nm xs).isSome
theorem keeps_drewN (W : World) (n : Nat) : KeepsOthers W (W.drewN n) := ⟨Nat.le_refl _, fun _ _ h _ => h⟩
theorem Boxed_kept {W W' : World} {row : Option Nat} {B : Nat} {t : TypeId} {v : Value} (h : Boxed W B t v) (hg : W.grownBy W' row) (hr : ∀ r, row = some r → ∃ o : Obj, W.heap[r]? = some o ∧ o.isCells = false) : Boxed W' B t v :=
  h.kept hg fun e => by
    obtain ⟨o, h1, h2⟩ := hr B e.symm
    rw [show W.heap[B]? = _ from h] at h1
    cases h1
    cases h2
/-- This round goes on. -/
def goesOn (m : M) (nm : ByteArray) (xs : List Int) (j : Nat) : Prop := (fr xs j).2 ≠ -1 ∧ (m.el (fr xs j).2.toNat).name.toList ≠ nm.toList
theorem lastL_all {m : M} {nm : ByteArray} {xs : List Int} (h : ∀ j ∈ List.range xs.length, goesOn m nm xs j) : lastV m nm xs = 0 ∧ lastB m nm xs = false := by
  have e : lastL m nm xs = none := by
    unfold lastL
    have := fr_map xs xs.length (Nat.le_refl _)
    rw [List.take_of_length_le (by rw [List.length_reverse]; exact Nat.le_refl _)] at this
    rw [← this]
    refine lastR_none fun x hx => ?_
    obtain ⟨j, hj, rfl⟩ := List.mem_map.1 hx
    exact h j hj
  unfold lastV lastB
  rw [e]
  exact ⟨rfl, rfl⟩
theorem lastL_stop {m : M} {nm : ByteArray} {xs : List Int} {k : Nat} {v : Int} {ok : Bool} (hk : k < xs.length) (h : ∀ j ∈ List.range k, goesOn m nm xs j) (hs : ∀ r, lastR m nm ((fr xs k).2 :: r) = if ok = true then some v else none) (h0 : ok = false → v = 0) :
    lastV m nm xs = v ∧ lastB m nm xs = ok := by
  have e : lastL m nm xs = if ok = true then some v else none := by
    unfold lastL
    rw [← List.take_append_drop (k + 1) xs.reverse, ← fr_map xs (k + 1) (by omega), List.range_succ, List.map_append, List.append_assoc]
    refine (lastR_stop fun x hx => ?_).trans (hs _)
    obtain ⟨j, hj, rfl⟩ := List.mem_map.1 hx
    exact h j hj
  unfold lastV lastB
  rw [e]
  cases ok
  · exact ⟨(h0 rfl).symm, rfl⟩
  · exact ⟨rfl, rfl⟩
theorem Boxed_far {W : World} {B : Nat} {t : TypeId} {v : Value} (h : Boxed W B t v) (p : Addr) (u : Value) (hp : B ≠ p.block) : Boxed (W.setCell p u) B t v := (Below.heap_setCell W p u B hp).trans h
set_option maxRecDepth 100000 in
set_option maxHeartbeats 4000000 in
theorem last_in (n : Nat) (hn : 3 ≤ n) {w : World} {base b g : Nat} {m : M} {nv ev : Value} {vs : List NV} {lv : Value} {xs : List Int} (hA : At w base g m nv ev vs) (hE : Els m) (h : LsAt w base b g lv xs)
    (hX : ∀ x ∈ xs, x = -1 ∨ ∃ i : Nat, x = (i : Int) ∧ i < m.elems.length) (hl : xs.length ≤ 9223372036854775807) (nm : ByteArray) :
    CallsIn Fence.wide n Try.prog 54 #[.pointer (some ⟨b, 0, none⟩), .string nm] w fun e W' => e = .returned (.tuple #[.int .i64 (lastV m nm xs), .bool (lastB m nm xs)]) ∧ Below w.heap.size w W' := by
  have h1 : 1 ≤ n := by omega
  have hlt := h.lt
  have hI := h.row
  obtain ⟨C0, C1⟩ := h.cells
  obtain ⟨a, len, cap, rfl⟩ : ∃ a len cap, lv = .slice a len cap := by
    rcases hI.split with ⟨rfl, _⟩ | ⟨b', cap, cur, rfl, _⟩
    · exact ⟨_, _, _, rfl⟩
    · exact ⟨_, _, _, rfl⟩
  have hob := IR.lt hI
  have CN := Lib.hid (fun (i : Nat) (hi : i < m.elems.length) (W : World) (hW : Below w.heap.size w W) => by
    obtain ⟨p, h1, h2⟩ := hE.at_ i hi
    exact name_calls (hA.below hW) h1 h2)
  clear h hA hE
  have HB4 : Below w.heap.size w ((((w.alloc (.cells #[.pointer (some ⟨b, 0, none⟩)] 50)).alloc (.cells #[.string nm] 9)).alloc (.cells #[.int .i64 0] 3)).alloc (.cells #[.bool false] 4)) :=
    ((((Below.refl _ w).alloc (Nat.le_refl _) _).alloc (by simp) _).alloc (by simp; omega) _).alloc (by simp; omega) _
  have C1' := (HB4.cell (p := ⟨b, 1, none⟩) hlt).trans C1
  refine callsIn_of_wp_marks Try.func54 rfl trivial ?_ rfl
  simp only [Try.ntmps54, List.size_toArray, List.length_cons, List.length_nil, Nat.reduceAdd, Nat.reduceSub, Array.replicate_succ, Array.replicate_zero, List.push_toArray, List.append_toArray, List.nil_append, List.cons_append]
  gi_wp2_with (refine ⟨trivial, ?_⟩; gi_at_call 83; refine (back_in _ (n - 1) trivial rfl _ _ _ _).mono ?_; rintro e w' ⟨rfl, rfl⟩)
  have bL := (((Boxed.new w 50 (.pointer (some ⟨b, 0, none⟩))).alloc (.cells #[.string nm] 9)).alloc (.cells #[.int .i64 0] 3)).alloc (.cells #[.bool false] 4)
  have bM := ((Boxed.new (w.alloc (.cells #[.pointer (some ⟨b, 0, none⟩)] 50)) 9 (.string nm)).alloc (.cells #[.int .i64 0] 3)).alloc (.cells #[.bool false] 4)
  have bR := (Boxed.new ((w.alloc (.cells #[.pointer (some ⟨b, 0, none⟩)] 50)).alloc (.cells #[.string nm] 9)) 3 (.int .i64 0)).alloc (.cells #[.bool false] 4)
  have bT := Boxed.new (((w.alloc (.cells #[.pointer (some ⟨b, 0, none⟩)] 50)).alloc (.cells #[.string nm] 9)).alloc (.cells #[.int .i64 0] 3)) 4 (.bool false)
  generalize hw4 : ((((w.alloc (.cells #[.pointer (some ⟨b, 0, none⟩)] 50)).alloc (.cells #[.string nm] 9)).alloc (.cells #[.int .i64 0] 3)).alloc (.cells #[.bool false] 4)) = w4 at *
  have hs4 : w4.heap.size = w.heap.size + 1 + 1 + 1 + 1 := by rw [← hw4]; simp only [World.size_alloc]
  simp only [World.size_alloc] at bM bR bT
  have bN := Boxed.new w4 53 (.slice a len cap)
  rw [hs4] at bN
  clear hw4
  have hB0 : Below w.heap.size w (w4.alloc (.cells #[.slice a len cap] 53)) := HB4.alloc HB4.size _
  refine wpIn_rangeFunc_ownG rfl h1 (gf := 88) (lb := #[.pointer (some ⟨w.heap.size + 1 + 1 + 1 + 1, 0, none⟩)]) rfl trivial (enters_of Try.func88 (by kernel_rfl) rfl)
    (back2_stops Fence.wide (n - 1) trivial rfl (by omega) (w.heap.size + 1 + 1 + 1 + 1) base _ xs hl _ (by rw [World.size_alloc, hs4]; omega) bN.cell (w.heap.size + 1 + 1 + 1 + 1 + 1) (by rw [World.size_alloc, hs4]; omega) (by omega) (hI.move fun k hk => hB0.block k (hob k hk).2) (fun k hk => by have := (hob k hk).2; omega)) belowK_t (belowK_b (by rw [World.size_alloc, hs4]; omega)) (Below.refl _ _) (fun _ => rfl)
    (fun pre W => ((∀ j ∈ pre, goesOn m nm xs j) ∧ Boxed W w.heap.size 50 (.pointer (some ⟨b, 0, none⟩)) ∧ Boxed W (w.heap.size + 1) 9 (.string nm) ∧ Boxed W (w.heap.size + 1 + 1) 3 (.int .i64 0) ∧ Boxed W (w.heap.size + 1 + 1 + 1) 4 (.bool false)) ∧ Below w.heap.size w W)
    (fun c pre W => (c = .ret ∧ ∃ ini last, pre = ini ++ [last] ∧ (∀ j ∈ ini, goesOn m nm xs j) ∧ ∃ v ok, (∀ r, lastR m nm ((fr xs last).2 :: r) = if ok = true then some v else none) ∧ (ok = false → v = 0) ∧ Boxed W (w.heap.size + 1 + 1) 3 (.int .i64 v) ∧ Boxed W (w.heap.size + 1 + 1 + 1) 4 (.bool ok)) ∧ Below w.heap.size w W)
    (OwnFrom.and (Own.from (fun s A B row hs hg hr => ⟨hs.1, Boxed_kept hs.2.1 hg hr, Boxed_kept hs.2.2.1 hg hr, Boxed_kept hs.2.2.2.1 hg hr, Boxed_kept hs.2.2.2.2 hg hr⟩) _) (ownFrom_below (Nat.le_refl _) (by rw [World.size_alloc, hs4]; omega)))
    (fun c => OwnFrom.and (Own.from (fun s A B row hs hg hr => by obtain ⟨hc, ini, last, e1, e2, v, ok, e3, e4, e5, e6⟩ := hs; exact ⟨hc, ini, last, e1, e2, v, ok, e3, e4, Boxed_kept e5 hg hr, Boxed_kept e6 hg hr⟩) _) (ownFrom_below (Nat.le_refl _) (by rw [World.size_alloc, hs4]; omega)))
    ⟨⟨by simp, bL.alloc _, bM.alloc _, bR.alloc _, bT.alloc _⟩, hB0⟩
    (fun x => { tmps := #[.pointer (some ⟨b, 0, none⟩), .string nm, .pointer (some ⟨w.heap.size, 0, none⟩), .pointer (some ⟨w.heap.size + 1, 0, none⟩), .pointer (some ⟨w.heap.size + 1 + 1, 0, none⟩), .pointer (some ⟨w.heap.size + 1 + 1 + 1, 0, none⟩), undef, .int .i64 (fr xs x).2, .pointer (some ⟨b, 0, none⟩), .pointer (some ⟨b, 0, none⟩), .pointer (some ⟨b, 1, none⟩), .slice a len cap, .func (.func 88) #[] #[.pointer (some ⟨w.heap.size + 1 + 1 + 1 + 1, 0, none⟩)], .int .i64 ((fr xs x).1 : Int), .int .i64 (fr xs x).2, undef, undef, undef, undef, undef, undef, undef, undef, undef, undef, undef, undef, undef], defers := [] }) ?assign ?body ?done ?stop
  case assign =>
    intro l x W K hK
    gi_wp2
    exact hK
  case body =>
    rintro l pre x W ⟨⟨hp, d0, d1, d2, d3⟩, hB⟩ _
    have e0 := d0.cell
    have e1 := d1.cell
    have e2 := d2.cell
    have e3 := d3.cell
    have f2 := d2.frozen
    have f3 := d3.frozen
    have E0 : W.cell? ⟨b, 0, none⟩ = some (.pointer (some ⟨g, 0, none⟩)) := (hB.cell (p := ⟨b, 0, none⟩) hlt).trans C0
    by_cases hx : (fr xs x).2 = -1
    · have hxb : ((fr xs x).2 == -1) = true := beq_iff_eq.2 hx
      gi_wp2
      exact ⟨((KeepsOthers.setCell _ _ _).trans (KeepsOthers.setCell _ _ _)).from _, ⟨rfl, pre, x, rfl, hp, 0, false, fun r => by rw [lastR, if_pos hx]; rfl, fun _ => rfl, Boxed_far (d2.set _) _ _ (by simp), (Boxed_far d3 _ _ (by simp)).set _⟩, (hB.setCell (p := ⟨w.heap.size + 1 + 1, 0, none⟩) (by simp; omega) _).setCell (p := ⟨w.heap.size + 1 + 1 + 1, 0, none⟩) (by simp; omega) _⟩
    · have hxb : ((fr xs x).2 == -1) = false := beq_eq_false_iff_ne.2 hx
      obtain ⟨i, hi, hie⟩ : ∃ i : Nat, (fr xs x).2 = (i : Int) ∧ i < m.elems.length := ((fr_mem xs x).resolve_left hx |> hX _).resolve_left hx
      rw [hi] at hxb ⊢
      have hmx : Try.prog.follows .mixedOrders = true := by kernel_rfl
      have hd : 1 ≤ n - 1 - 1 := by omega
      by_cases hn2 : (m.el i).name.toList = nm.toList
      · have hnb : ((m.el i).name.toList == nm.toList) = true := beq_iff_eq.2 hn2
        gi_wp2
        gi_region_with_o (refine ⟨trivial, ?_⟩; gi_at_call 45; refine (CallsIn.inRound l (callsIn_wide.2 (CN.out i hie _ (by first | exact bd1 hB | exact hB)))).mono ?_; rintro e w1 ⟨rfl, n1, rfl⟩)
        all_goals gi_wp2
        all_goals
          refine ⟨KeepsOthers.from (KeepsOthers.trans ?_ (KeepsOthers.trans (KeepsOthers.setCell _ _ _) (KeepsOthers.setCell _ _ _))) _, ⟨rfl, pre, x, rfl, hp, (i : Int), true, fun r => ?_, (fun e => by cases e), Boxed_far (Boxed.set (v := .int .i64 0) _ ?_) _ _ (by simp), Boxed.set (v := .bool false) _ (Boxed_far ?_ _ _ (by simp))⟩, Below.setCell (Below.setCell ?_ (by simp; omega) _) (by simp; omega) _⟩
          · exact ⟨Nat.le_refl _, fun _ _ h _ => h⟩
          · rw [hi, lastR, if_neg (by omega), Int.toNat_natCast, if_pos hn2, if_pos rfl]
          · exact d2
          · exact d3
          · exact hB.trans ⟨rfl, rfl, rfl, Nat.le_refl _, fun _ _ => rfl⟩
      · have hnb : ((m.el i).name.toList == nm.toList) = false := beq_eq_false_iff_ne.2 hn2
        gi_wp2
        gi_region_with_o (refine ⟨trivial, ?_⟩; gi_at_call 45; refine (CallsIn.inRound l (callsIn_wide.2 (CN.out i hie _ (by first | exact bd1 hB | exact hB)))).mono ?_; rintro e w1 ⟨rfl, n1, rfl⟩)
        all_goals gi_wp2
        all_goals
          refine ⟨KeepsOthers.from (keeps_drewN W _) _, ⟨rfl, rfl, rfl, Nat.le_refl _, fun _ _ => rfl⟩, ⟨fun j hj => (List.mem_append.1 hj).elim (hp j) (fun e => ?_), d0, d1, d2, d3⟩, hB.trans ⟨rfl, rfl, rfl, Nat.le_refl _, fun _ _ => rfl⟩⟩
          obtain rfl := List.mem_singleton.1 e
          exact ⟨hx, by rw [hi, Int.toNat_natCast]; exact hn2⟩
  case done =>
    rintro D ys W hD rfl ⟨⟨hne, d0, d1, d2, d3⟩, hB⟩ hK
    have e2 := d2.cell
    have e3 := d3.cell
    have f2 := d2.frozen
    have f3 := d3.frozen
    gi_wp2
    have hK' := ((KeepsOthers.setCell W ⟨w.heap.size + 1 + 1, 0, none⟩ (.int .i64 0)).trans (KeepsOthers.setCell _ ⟨w.heap.size + 1 + 1 + 1, 0, none⟩ (.bool false))).same D _ hK rfl
    refine ⟨by simp, .inl ⟨_, _, rfl, run_takeDeferred hK', ?_⟩⟩
    have hc5 := cell_kept (Boxed_far (d2.set (.int .i64 0)) ⟨w.heap.size + 1 + 1 + 1, 0, none⟩ (.bool false) (by simp)).cell (grownBy_putObj' _ D (.deferred none)) (fun r e => by cases e; exact ⟨_, hK', rfl⟩)
    have hc6 := cell_kept ((Boxed_far d3 ⟨w.heap.size + 1 + 1, 0, none⟩ (.int .i64 0) (by simp)).set (.bool false)).cell (grownBy_putObj' _ D (.deferred none)) (fun r e => by cases e; exact ⟨_, hK', rfl⟩)
    obtain ⟨e5, e6⟩ := lastL_all hne
    refine ⟨.tuple #[.int .i64 0, .bool false], ?_, by rw [e5, e6], ((hB.setCell (p := ⟨w.heap.size + 1 + 1, 0, none⟩) (by simp; omega) _).setCell (p := ⟨w.heap.size + 1 + 1 + 1, 0, none⟩) (by simp; omega) _).trans (belowK_b (w := w) (Nat.le_refl _) _ D _ _ (by rw [World.size_alloc] at hD; omega) hK' rfl rfl)⟩
    simp [results, Try.f54, go_sem, hc5, hc6]
  case stop =>
    rintro D c pre W hD ⟨k, hk, rfl⟩ ⟨⟨rfl, ini, last, q1, q2, v, ok, q3, q4, q5, q6⟩, hB⟩ hK
    gi_wp2
    refine ⟨by simp, .inl ⟨_, _, rfl, run_takeDeferred hK, ?_⟩⟩
    have hc5 := cell_kept q5.cell (grownBy_putObj' _ D (.deferred none)) (fun r e => by cases e; exact ⟨_, hK, rfl⟩)
    have hc6 := cell_kept q6.cell (grownBy_putObj' _ D (.deferred none)) (fun r e => by cases e; exact ⟨_, hK, rfl⟩)
    obtain ⟨k', rfl⟩ : ∃ k', k = k' + 1 := by
      cases k with
      | zero => simp at q1
      | succ k' => exact ⟨k', rfl⟩
    rw [List.range_succ] at q1
    obtain ⟨rfl, e5⟩ := List.append_inj' q1 rfl
    obtain rfl : k' = last := by simpa using e5
    obtain ⟨e5, e6⟩ := lastL_stop (by omega) q2 q3 q4
    refine ⟨.tuple #[.int .i64 v, .bool ok], ?_, by rw [e5, e6], hB.trans (belowK_b (w := w) (Nat.le_refl _) W D _ _ (by rw [World.size_alloc] at hD; omega) hK rfl rfl)⟩
    simp [results, Try.f54, go_sem, hc5, hc6]
theorem last_calls {w : World} {base b g : Nat} {m : M} {nv ev : Value} {vs : List NV} {lv : Value} {xs : List Int} (hA : At w base g m nv ev vs) (hE : Els m) (h : LsAt w base b g lv xs)
    (hX : ∀ x ∈ xs, x = -1 ∨ ∃ i : Nat, x = (i : Int) ∧ i < m.elems.length) (hl : xs.length ≤ 9223372036854775807) (nm : ByteArray) :
    Calls Try.prog 54 #[.pointer (some ⟨b, 0, none⟩), .string nm] w fun e W' => e = .returned (.tuple #[.int .i64 (lastV m nm xs), .bool (lastB m nm xs)]) ∧ Below w.heap.size w W' :=
  (callsIn_wide (n := 3)).1 (last_in 3 (Nat.le_refl _) hA hE h hX hl nm)
section
variable {w : World} {base g b n : Nat} {m : M} {xs ks : List Int} {kv : Value}
theorem stk_last (h : StK w base g b m xs kv ks) (gd : Gd m xs n) (hn : n ≤ 99999) (nm : ByteArray) :
    Calls Try.prog 54 #[.pointer (some ⟨b, 0, none⟩), .string nm] w fun e w' => e = .returned (.tuple #[.int .i64 (lastV m nm xs), .bool (lastB m nm xs)]) ∧ Below w.heap.size w w' := by
  obtain ⟨nv, ev, vs, lv, h1, h2, h3, h4, h5⟩ := h
  exact last_calls h1 gd.els h2 gd.ent (by have := gd.len; omega) nm
theorem stk_push (h : StK w base g b m xs kv ks) (gd : Gd m xs n) (hn : n ≤ 99999) (e : Nat) (he : e < m.elems.length) :
    Calls Try.prog 32 #[.pointer (some ⟨b, 0, none⟩), .int .i64 (e : Int)] w fun en w' => en = .returned (.tuple #[]) ∧ StK w' base g b m (pushL m xs e) kv ks ∧ Below base w w' := by
  obtain ⟨nv, ev, vs, lv, h1, h2, h3, h4, h5⟩ := h
  refine (push_calls h1 gd.els h2 gd.ent (by have := gd.len; omega) (Nat.le_trans h2.le (Nat.le_of_lt h2.lt)) e he).mono ?_
  rintro en w' ⟨rfl, hL⟩
  exact ⟨rfl, StK.post h1 h2 h3 h4 h5 hL⟩
theorem stk_mark (h : StK w base g b m xs kv ks) (gd : Gd m xs n) (hn : n ≤ 99999) :
    Calls Try.prog 53 #[.pointer (some ⟨b, 0, none⟩)] w fun en w' => en = .returned (.tuple #[]) ∧ StK w' base g b m (xs ++ [-1]) kv ks ∧ Below base w w' := by
  obtain ⟨nv, ev, vs, lv, h1, h2, h3, h4, h5⟩ := h
  refine (lmark_calls h2 (Nat.le_trans h2.le (Nat.le_of_lt h2.lt)) (by have := gd.len; omega)).mono ?_
  rintro en w' ⟨rfl, hL⟩
  exact ⟨rfl, StK.post h1 h2 h3 h4 h5 hL⟩
theorem stk_clear (h : StK w base g b m xs kv ks) (gd : Gd m xs n) (hn : n ≤ 99999) :
    Calls Try.prog 56 #[.pointer (some ⟨b, 0, none⟩)] w fun en w' => en = .returned (.tuple #[]) ∧ StK w' base g b m (xs.take (clearN xs)) kv ks ∧ Below base w w' := by
  obtain ⟨nv, ev, vs, lv, h1, h2, h3, h4, h5⟩ := h
  refine (clear_calls h2 (by have := gd.len; omega)).mono ?_
  rintro en w' ⟨rfl, hL⟩
  exact ⟨rfl, StK.post h1 h2 h3 h4 h5 hL⟩
end
end Go.Proofs.Ytcdkcnegejhnhaa.Ar
