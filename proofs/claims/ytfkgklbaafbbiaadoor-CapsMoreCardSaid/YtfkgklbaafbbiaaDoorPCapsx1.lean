-- Laid by a program of this session (tools/patch_print.py) out of the translation. Not trusted: Lean checks it.
import Derived.Test.YtfkgklbaafbbiaaDoorPCapsx0
namespace Go.Proofs.YtfkgklbaafbbiaaDoor.PCaps
open Go.RowKit Go.Proofs.YtfkgklbaafbbiaaDoorW.PrintWords Go.Proofs.YtfkgklbaafbbiaaDoorW.PrintLast Go.Proofs.YtfkgklbaafbbiaaDoorW.PrintMore
attribute [local go_sem] max2_int min2_int max_two min_two max_three min_three max_four min_four   -- for this text's walks alone
set_option linter.unusedVariables false
set_option linter.unusedSimpArgs false

theorem below_all {W w1 w2 : World} (h : Below W.heap.size W w1) (k : Below w1.heap.size w1 w2) : Below W.heap.size W w2 := h.trans (k.mono h.size)
theorem cellk {W w1 : World} {p : Addr} {v : Value} (h : Below W.heap.size W w1) (hc : W.cell? p = some v) : w1.cell? p = some v := (h.cell (World.block_lt_of_cell? _ _ hc)).trans hc
theorem heapk {W w1 : World} {g : Nat} {o : Obj} (h : Below W.heap.size W w1) (hc : W.heap[g]? = some o) : w1.heap[g]? = some o := (h.block g (Array.getElem?_eq_some_iff.1 hc).1).trans hc
/-- The rules' table, as its initialiser lays it. -/
def rulesTab : Array Value := #[.func (.func 84) #[] #[], .func (.func 85) #[] #[], .int .i64 9, .func (.func 86) #[] #[], .func (.func 87) #[] #[], .int .i64 8, .func (.func 88) #[] #[], .func (.func 89) #[] #[], .int .i64 10, .func (.func 90) #[] #[], .func (.func 91) #[] #[], .int .i64 11]
/-- What the walks ask of a world: the rules' table lies in it. -/
def Wok (w : World) : Prop := ∃ t fz, w.heap[1]? = some (.cells rulesTab t fz)
theorem Wok_below {w w1 : World} (h : Wok w) (hb : Below w.heap.size w w1) : Wok w1 := by
  obtain ⟨t, fz, h⟩ := h
  exact ⟨t, fz, heapk hb h⟩
set_option maxRecDepth 100000 in
theorem rule_at {W : World} {m : Nat} {ds : List Value} {x : DataW (List UInt8) × List MemPlace} {b1 b2 : UInt8} {r1 r2 : List UInt8} {f1 f2 : FuncId} {c : Int}
    (h1 : ((List.range Tryd.prog.funcs.size).filter fun f => (Tryd.prog.funcs[f]?).any (·.name.toUTF8.data.toList == b1 :: r1)) = [f1])
    (h2 : ((List.range Tryd.prog.funcs.size).filter fun f => (Tryd.prog.funcs[f]?).any (·.name.toUTF8.data.toList == b2 :: r2)) = [f2])
    (h : DataW.trod (funcToken Tryd.prog) Tryd.prog W 0 (fun _ => true) true m 71 ds = some x) (hx : x.1 = .agg [.held (b1 :: r1), .held (b2 :: r2), .lit (.int .i64 c)]) :
    ds = [.func (.func f1) #[] #[], .func (.func f2) #[] #[], .int .i64 c] := by
  have c71 : Tryd.prog.cellsOf 71 = 3 := by kernel_rfl
  have c39 : Tryd.prog.cellsOf 39 = 1 := by kernel_rfl
  have c69 : Tryd.prog.cellsOf 69 = 1 := by kernel_rfl
  have c30 : Tryd.prog.cellsOf 30 = 1 := by kernel_rfl
  obtain ⟨xs, n, rfl, rfl, hl, hlen, hf⟩ := DataW.trod_struct Tryd.underlying71 h
  rw [c71] at hl
  match ds, hl with
  | [v0, v1, v2], _ =>
    match xs, hlen with
    | [y0, y1, y2], _ =>
      simp only [List.map_cons, List.map_nil, DataW.agg.injEq, List.cons.injEq, and_true] at hx
      obtain ⟨hx0, hx1, hx2⟩ := hx
      have e0 : DataW.trod (funcToken Tryd.prog) Tryd.prog W 0 (fun _ => true) true n 39 ((List.drop 0 [v0, v1, v2]).take (Tryd.prog.cellsOf 39)) = some y0 := hf 0 _ rfl
      rw [c39] at e0
      change DataW.trod (funcToken Tryd.prog) Tryd.prog W 0 (fun _ => true) true n 39 [v0] = some y0 at e0
      have e1 : DataW.trod (funcToken Tryd.prog) Tryd.prog W 0 (fun _ => true) true n 69 ((List.drop 1 [v0, v1, v2]).take (Tryd.prog.cellsOf 69)) = some y1 := hf 1 _ rfl
      rw [c69] at e1
      change DataW.trod (funcToken Tryd.prog) Tryd.prog W 0 (fun _ => true) true n 69 [v1] = some y1 at e1
      have e2 : DataW.trod (funcToken Tryd.prog) Tryd.prog W 0 (fun _ => true) true n 30 ((List.drop 2 [v0, v1, v2]).take (Tryd.prog.cellsOf 30)) = some y2 := hf 2 _ rfl
      rw [c30] at e2
      change DataW.trod (funcToken Tryd.prog) Tryd.prog W 0 (fun _ => true) true n 30 [v2] = some y2 at e2
      obtain ⟨y0a, y0b⟩ := y0
      obtain ⟨y1a, y1b⟩ := y1
      obtain ⟨y2a, y2b⟩ := y2
      dsimp only at hx0 hx1 hx2
      subst hx0 hx1 hx2
      obtain rfl := func_of_trod Tryd.underlying39 h1 e0
      obtain rfl := func_of_trod Tryd.underlying69 h2 e1
      obtain ⟨k, e3, e4, _⟩ := DataW.trod_int Tryd.underlying30 e2
      obtain rfl := (List.cons.inj e3).1
      have e5 : DataW.lit (.int .i64 c) = (DataW.lit (.int .i64 k) : DataW (List UInt8)) := congrArg Prod.fst e4
      injection e5 with e5
      injection e5 with _ e5
      rw [e5]
set_option maxRecDepth 100000 in
theorem Wok_of_laid {W : World} (h : laidMetH Tryd.prog Rows.capsTellsRow.laid W) : Wok W := by
  obtain ⟨g, t, cs, fuel, p, hg, ht, hv, hd⟩ := h.funcs (List.mem_singleton.2 rfl)
  obtain rfl := Option.some.inj ((show Tryd.prog.globalNamed "decanter/caps.rules" = some 1 by kernel_rfl).symm.trans hg)
  obtain rfl := Option.some.inj ((show (Tryd.prog.globals[1]?).map (·.type) = some 72 by kernel_rfl).symm.trans ht)
  obtain ⟨xs, m, rfl, hx, hlen, hn, hel⟩ := DataW.trod_array Tryd.underlying72 hd
  have c71 : Tryd.prog.cellsOf 71 = 3 := by kernel_rfl
  have c72 : Tryd.prog.cellsOf 72 = 12 := by kernel_rfl
  rw [c72] at hlen
  match xs, hn with
  | [x0, x1, x2, x3], _ =>
    have hx' := congrArg Prod.fst hx
    simp only [DataW.funcsOut, DataW.funcsOutAll, List.map_cons, List.map_nil, DataW.agg.injEq] at hx'
    have hx2 := hx'
    simp only [List.cons.injEq, and_true] at hx2
    obtain ⟨h0, h1, h2, h3⟩ := hx2
    have e0 := rule_at (f1 := 84) (f2 := 85) (by kernel_rfl) (by kernel_rfl) (hel 0 (by decide)) h0.symm
    have e1 := rule_at (f1 := 86) (f2 := 87) (by kernel_rfl) (by kernel_rfl) (hel 1 (by decide)) h1.symm
    have e2 := rule_at (f1 := 88) (f2 := 89) (by kernel_rfl) (by kernel_rfl) (hel 2 (by decide)) h2.symm
    have e3 := rule_at (f1 := 90) (f2 := 91) (by kernel_rfl) (by kernel_rfl) (hel 3 (by decide)) h3.symm
    rw [c71] at e0 e1 e2 e3
    obtain ⟨l⟩ := cs
    dsimp only at e0 e1 e2 e3 hlen
    have hl : l = rulesTab.toList := by
      match l, hlen with
      | [a0, a1, a2, a3, a4, a5, a6, a7, a8, a9, a10, a11], _ =>
        simp only [List.drop, List.take, List.cons.injEq, and_true] at e0 e1 e2 e3
        obtain ⟨rfl, rfl, rfl⟩ := e0
        obtain ⟨rfl, rfl, rfl⟩ := e1
        obtain ⟨rfl, rfl, rfl⟩ := e2
        obtain ⟨rfl, rfl, rfl⟩ := e3
        rfl
    subst hl
    unfold World.var? at hv
    rw [hg, Option.bind_some] at hv
    split at hv
    · rename_i cs t fz hh
      exact ⟨t, fz, hh.trans (congrArg (fun z => some (Obj.cells z t fz)) (Option.some.inj hv))⟩
    · cases hv

/-! ### caps_Check: function 8 -/
section
open Go.ChangeShapes Go.WideShapes Go.ChangeAt Go.RowKit
theorem caps_Check.ret_int {k : IntKind} {a b : Int} (h : a = b) : Ending.returned (.int k a) = .returned (.int k b) := by rw [h]
def caps_Check.badI (n : Int) : Prop := n < 1 ∨ 1048576 < n
instance (n : Int) : Decidable (caps_Check.badI n) := by unfold caps_Check.badI; infer_instance
def caps_Check.checkI (lf ld la lo lc : Int) : Int := if lf < 1 then 7 else if caps_Check.badI ld then 7 else if caps_Check.badI la then 7 else if caps_Check.badI lo then 7 else if caps_Check.badI lc then 7 else 0
section
variable (lf ld la lo lc : Int)
theorem caps_Check.jx0 (a b c d : Value) (w : World) : (Instr.index 67 (.agg #[a, b, c, d]) (.int .i64 0)).run Tryd.prog w = .ok a w := by kernel_rfl
theorem caps_Check.jx1 (a b c d : Value) (w : World) : (Instr.index 67 (.agg #[a, b, c, d]) (.int .i64 1)).run Tryd.prog w = .ok b w := by kernel_rfl
theorem caps_Check.jx2 (a b c d : Value) (w : World) : (Instr.index 67 (.agg #[a, b, c, d]) (.int .i64 2)).run Tryd.prog w = .ok c w := by kernel_rfl
theorem caps_Check.jx3 (a b c d : Value) (w : World) : (Instr.index 67 (.agg #[a, b, c, d]) (.int .i64 3)).run Tryd.prog w = .ok d w := by kernel_rfl
set_option maxRecDepth 100000 in
set_option maxHeartbeats 4000000 in
theorem caps_Check.check_any (w : World) :
    Calls Tryd.prog 8 #[.agg #[.int .i64 lf, .int .i64 ld, .int .i64 la, .int .i64 lo, .int .i64 lc]] w fun e w' => e = .returned (.int .i64 (caps_Check.checkI lf ld la lo lc)) ∧ Below w.heap.size w w' := by
  by_cases h1 : lf < 1
  · go_enter Tryd.func8, Tryd.ntmps8
    go_wp2
    go_ret
    refine ⟨caps_Check.ret_int ?_, by go_grown⟩
    unfold caps_Check.checkI
    rw [if_pos h1]
  · have H1 := Lib.hid h1
    go_enter Tryd.func8, Tryd.ntmps8
    go_wp2
    generalize hW : w.alloc _ = W0
    have hb : Below w.heap.size w W0 := hW ▸ (Below.refl _ _).alloc (Nat.le_refl _) _
    clear hW
    go_loopg [17] 4 (fun gg s17 wr => ∃ (k : Nat), k ≤ 4 ∧ 4 - k ≤ gg ∧ s17 = .int .i64 k ∧ Below w.heap.size w wr ∧
      Aside (0 < k → ¬ caps_Check.badI ld) ∧ Aside (1 < k → ¬ caps_Check.badI la) ∧ Aside (2 < k → ¬ caps_Check.badI lo) ∧ Aside (3 < k → ¬ caps_Check.badI lc))
    case atStart =>
      exact ⟨0, by omega, by omega, rfl, hb, fun h => absurd h (by omega), fun h => absurd h (by omega), fun h => absurd h (by omega), fun h => absurd h (by omega)⟩
    case round =>
      clear hb
      obtain ⟨k, hk, hgg, rfl, hb, a0, a1, a2, a3⟩ := hrel
      obtain rfl | rfl | rfl | rfl | rfl : k = 0 ∨ k = 1 ∨ k = 2 ∨ k = 3 ∨ k = 4 := by omega
      · have ix := fun a b c d w => caps_Check.jx0 a b c d w
        have hq : ld < 1 ∨ (1 ≤ ld ∧ 1048576 < ld) ∨ (1 ≤ ld ∧ ld ≤ 1048576) := by omega
        rcases hq with hq | ⟨hq, hr⟩ | ⟨hq, hr⟩
        · go_wp2
          go_ret
          refine ⟨caps_Check.ret_int ?_, hb⟩
          unfold caps_Check.checkI
          rw [if_neg (by have := H1.out; omega), if_pos (show caps_Check.badI ld from Or.inl hq)]
        · go_wp2
          go_ret
          refine ⟨caps_Check.ret_int ?_, hb⟩
          unfold caps_Check.checkI
          rw [if_neg (by have := H1.out; omega), if_pos (show caps_Check.badI ld from Or.inr hr)]
        · go_wp2
          go_roundg (4 - (0 + 1))
          case measure => omega
          case rel =>
            refine ⟨0 + 1, by omega, by omega, by go_num, hb, ?_, ?_, ?_, ?_⟩
            · exact fun _ h => by unfold caps_Check.badI at h; omega
            · exact fun h => absurd h (by omega)
            · exact fun h => absurd h (by omega)
            · exact fun h => absurd h (by omega)
      · have ix := fun a b c d w => caps_Check.jx1 a b c d w
        have hq : la < 1 ∨ (1 ≤ la ∧ 1048576 < la) ∨ (1 ≤ la ∧ la ≤ 1048576) := by omega
        rcases hq with hq | ⟨hq, hr⟩ | ⟨hq, hr⟩
        · go_wp2
          go_ret
          refine ⟨caps_Check.ret_int ?_, hb⟩
          unfold caps_Check.checkI
          rw [if_neg (by have := H1.out; omega), if_neg (a0.out (by omega)), if_pos (show caps_Check.badI la from Or.inl hq)]
        · go_wp2
          go_ret
          refine ⟨caps_Check.ret_int ?_, hb⟩
          unfold caps_Check.checkI
          rw [if_neg (by have := H1.out; omega), if_neg (a0.out (by omega)), if_pos (show caps_Check.badI la from Or.inr hr)]
        · go_wp2
          go_roundg (4 - (1 + 1))
          case measure => omega
          case rel =>
            refine ⟨1 + 1, by omega, by omega, by go_num, hb, ?_, ?_, ?_, ?_⟩
            · exact fun _ => a0.out (by omega)
            · exact fun _ h => by unfold caps_Check.badI at h; omega
            · exact fun h => absurd h (by omega)
            · exact fun h => absurd h (by omega)
      · have ix := fun a b c d w => caps_Check.jx2 a b c d w
        have hq : lo < 1 ∨ (1 ≤ lo ∧ 1048576 < lo) ∨ (1 ≤ lo ∧ lo ≤ 1048576) := by omega
        rcases hq with hq | ⟨hq, hr⟩ | ⟨hq, hr⟩
        · go_wp2
          go_ret
          refine ⟨caps_Check.ret_int ?_, hb⟩
          unfold caps_Check.checkI
          rw [if_neg (by have := H1.out; omega), if_neg (a0.out (by omega)), if_neg (a1.out (by omega)), if_pos (show caps_Check.badI lo from Or.inl hq)]
        · go_wp2
          go_ret
          refine ⟨caps_Check.ret_int ?_, hb⟩
          unfold caps_Check.checkI
          rw [if_neg (by have := H1.out; omega), if_neg (a0.out (by omega)), if_neg (a1.out (by omega)), if_pos (show caps_Check.badI lo from Or.inr hr)]
        · go_wp2
          go_roundg (4 - (2 + 1))
          case measure => omega
          case rel =>
            refine ⟨2 + 1, by omega, by omega, by go_num, hb, ?_, ?_, ?_, ?_⟩
            · exact fun _ => a0.out (by omega)
            · exact fun _ => a1.out (by omega)
            · exact fun _ h => by unfold caps_Check.badI at h; omega
            · exact fun h => absurd h (by omega)
      · have ix := fun a b c d w => caps_Check.jx3 a b c d w
        have hq : lc < 1 ∨ (1 ≤ lc ∧ 1048576 < lc) ∨ (1 ≤ lc ∧ lc ≤ 1048576) := by omega
        rcases hq with hq | ⟨hq, hr⟩ | ⟨hq, hr⟩
        · go_wp2
          go_ret
          refine ⟨caps_Check.ret_int ?_, hb⟩
          unfold caps_Check.checkI
          rw [if_neg (by have := H1.out; omega), if_neg (a0.out (by omega)), if_neg (a1.out (by omega)), if_neg (a2.out (by omega)), if_pos (show caps_Check.badI lc from Or.inl hq)]
        · go_wp2
          go_ret
          refine ⟨caps_Check.ret_int ?_, hb⟩
          unfold caps_Check.checkI
          rw [if_neg (by have := H1.out; omega), if_neg (a0.out (by omega)), if_neg (a1.out (by omega)), if_neg (a2.out (by omega)), if_pos (show caps_Check.badI lc from Or.inr hr)]
        · go_wp2
          go_roundg (4 - (3 + 1))
          case measure => omega
          case rel =>
            refine ⟨3 + 1, by omega, by omega, by go_num, hb, ?_, ?_, ?_, ?_⟩
            · exact fun _ => a0.out (by omega)
            · exact fun _ => a1.out (by omega)
            · exact fun _ => a2.out (by omega)
            · exact fun _ h => by unfold caps_Check.badI at h; omega
      · go_wp2
        go_ret
        refine ⟨caps_Check.ret_int ?_, hb⟩
        unfold caps_Check.checkI
        rw [if_neg (by have := H1.out; omega), if_neg (a0.out (by omega)), if_neg (a1.out (by omega)), if_neg (a2.out (by omega)), if_neg (a3.out (by omega))]
end
def caps_Check.f (a0_0 a0_1 a0_2 a0_3 a0_4 : Int) : Option Int := some (caps_Check.checkI a0_0 a0_1 a0_2 a0_3 a0_4)
theorem caps_Check.calls (a0_0 a0_1 a0_2 a0_3 a0_4 : Int) (r : Int) (w : World) (h : caps_Check.f a0_0 a0_1 a0_2 a0_3 a0_4 = some r) :
    Calls Tryd.prog 8 #[.agg #[.int .i64 a0_0, .int .i64 a0_1, .int .i64 a0_2, .int .i64 a0_3, .int .i64 a0_4]] w fun e w' => e = .returned (.int .i64 r) ∧ Below w.heap.size w w' := by
  obtain rfl := Option.some.inj h
  exact caps_Check.check_any a0_0 a0_1 a0_2 a0_3 a0_4 w
end

/-! ### caps_Price: function 11 -/
def caps_Price.f (a0_0 : Int) (a0_1 : Int) (a0_2 : Int) (a1_0 : Int) (a1_1 : ByteArray) (l1_2 : List (S92)) (a1_3 : ByteArray) (a1_4 : Int) (a1_5 : Int) : Option (Int) := some (wrap64 ((wrap64 ((wrap64 ((wrap64 ((wrap64 (1 + a1_5)) - a1_4)) + (l1_2.length : Int))) + a0_0)) + a0_1))
set_option maxHeartbeats 8000000 in
set_option maxRecDepth 100000 in
theorem caps_Price.calls (a0_0 : Int) (a0_1 : Int) (a0_2 : Int) (a1_0 : Int) (a1_1 : ByteArray) (A1_2 : Option Addr) (c1_2 : Nat) (l1_2 : List (S92)) (a1_3 : ByteArray) (a1_4 : Int) (a1_5 : Int) (r : Int) (w : World) (hr1_2 : Kd.C k92 w A1_2 l1_2.length l1_2) (hc1_2 : l1_2.length ≤ c1_2) (h : caps_Price.f a0_0 a0_1 a0_2 a1_0 a1_1 l1_2 a1_3 a1_4 a1_5 = some r) :
    Calls Tryd.prog 11 #[.agg #[.int .i64 a0_0, .int .i64 a0_1, .int .i64 a0_2], .agg #[.int .i64 a1_0, .string a1_1, .slice A1_2 l1_2.length c1_2, .string a1_3, .int .i64 a1_4, .int .i64 a1_5]] w fun e w' => e = .returned (.int .i64 r) ∧ Below w.heap.size w w' := by
  have hu40 := Tryd.underlying40
  have hu37 := Tryd.underlying37
  have HR1_2 := Aside0.mk hr1_2
  have HC1_2 := Aside0.mk hc1_2
  clear hr1_2 hc1_2
  have HB := Aside0.mk (Below.refl w.heap.size w)
  have H : (some (wrap64 ((wrap64 ((wrap64 ((wrap64 ((wrap64 (1 + a1_5)) - a1_4)) + (l1_2.length : Int))) + a0_0)) + a0_1))) = some r := h
  clear h
  obtain rfl := Option.some.inj H
  go_enter Tryd.func11, Tryd.ntmps11
  go_wp2_with (first | ((with_reducible refine gate_dst (N := 2) rfl ?_); refine box_event ?hg (N := 2) ?hd (cs := #[.int .i64 a0_0, .int .i64 a0_1, .int .i64 a0_2]) (t := 40) ?hr ?_; (case hd => rfl); (case hg => rfl); (case hr => first | (go_simp; done) | (go_simp; rfl)); intro gb101 hg w3 hbox hb; have n0_ := Aside0.mk (below_step (by repeat (first | (with_reducible first | exact HB.out | apply below_alloc | apply pw_below_drewN | apply below_drew1) | exact HB.out)) hb); have n1_ := Aside0.mk (hbox); have n2_ := Aside0.mk ((by rw [hg]; exact (below_size (by repeat (first | (with_reducible first | exact HB.out | apply below_alloc | apply pw_below_drewN | apply below_drew1) | exact HB.out))) : w.heap.size ≤ gb101)); have n3_ := Aside0.mk ((by rw [hg]; exact (below_size (by repeat (first | (with_reducible first | exact HB.out | apply below_alloc | apply pw_below_drewN | apply below_drew1) | exact HB.out))) : w.heap.size ≤ gb101)); clear HB; have HB := n0_; have BK101 := n1_; have GW101 := n2_; have GE101 := n3_; clear n0_ n1_ n2_ n3_; clear hb hbox hg) | ((with_reducible refine gate_dst (N := 3) rfl ?_); refine box_event ?hg (N := 3) ?hd (cs := #[.int .i64 a1_0, .string a1_1, .slice A1_2 l1_2.length c1_2, .string a1_3, .int .i64 a1_4, .int .i64 a1_5]) (t := 37) ?hr ?_; (case hd => rfl); (case hg => rfl); (case hr => first | (go_simp; done) | (go_simp; rfl)); intro gb102 hg w4 hbox hb; have n0_ := Aside0.mk (blk_below (g := gb101) (o := .cells #[.int .i64 a0_0, .int .i64 a0_1, .int .i64 a0_2] 40 (0, 0)) (by (with_reducible repeat (first | refine blk_drewN ?_ _ | refine blk_drew ?_ | refine blk_alloc ?_ _)); exact BK101.out) hb); have n1_ := Aside0.mk (below_step (by repeat (first | (with_reducible first | exact HB.out | apply below_alloc | apply pw_below_drewN | apply below_drew1 | refine below_set ?_ GE101.out) | exact HB.out)) hb); have n2_ := Aside0.mk (hbox); have n3_ := Aside0.mk ((by rw [hg]; exact (below_size (by repeat (first | (with_reducible first | exact HB.out | apply below_alloc | apply pw_below_drewN | apply below_drew1 | refine below_set ?_ GE101.out) | exact HB.out))) : w.heap.size ≤ gb102)); have n4_ := Aside0.mk ((by rw [hg]; exact (below_size (by repeat (first | (with_reducible first | exact HB.out | apply below_alloc | apply pw_below_drewN | apply below_drew1 | refine below_set ?_ GE101.out) | exact HB.out))) : w.heap.size ≤ gb102)); have n5_ := Aside0.mk ((by rw [hg]; exact Nat.ne_of_lt (blk_lt (g := gb101) (o := .cells #[.int .i64 a0_0, .int .i64 a0_1, .int .i64 a0_2] 40 (0, 0)) (by (with_reducible repeat (first | refine blk_drewN ?_ _ | refine blk_drew ?_ | refine blk_alloc ?_ _)); exact BK101.out)) : gb101 ≠ gb102)); have n6_ := Aside0.mk ((by rw [hg]; exact Nat.ne_of_gt (blk_lt (g := gb101) (o := .cells #[.int .i64 a0_0, .int .i64 a0_1, .int .i64 a0_2] 40 (0, 0)) (by (with_reducible repeat (first | refine blk_drewN ?_ _ | refine blk_drew ?_ | refine blk_alloc ?_ _)); exact BK101.out)) : gb102 ≠ gb101)); clear BK101; clear HB; have BK101 := n0_; have HB := n1_; have BK102 := n2_; have GW102 := n3_; have GE102 := n4_; have NB101_102 := n5_; have NB102_101 := n6_; clear n0_ n1_ n2_ n3_ n4_ n5_ n6_; clear hb hbox hg; have hnb5 := NB102_101.out; have hnc5 := NB101_102.out; have hcz6_0 : w4.cell? ⟨gb102, 0, none⟩ = some (.int .i64 a1_0) := (blk_cell BK102.out 0).trans rfl; have hcz6_1 : w4.cell? ⟨gb102, 1, none⟩ = some (.string a1_1) := (blk_cell BK102.out 1).trans rfl; have hcz6_2 : w4.cell? ⟨gb102, 2, none⟩ = some (.slice A1_2 l1_2.length c1_2) := (blk_cell BK102.out 2).trans rfl; have hcz6_3 : w4.cell? ⟨gb102, 3, none⟩ = some (.string a1_3) := (blk_cell BK102.out 3).trans rfl; have hcz6_4 : w4.cell? ⟨gb102, 4, none⟩ = some (.int .i64 a1_4) := (blk_cell BK102.out 4).trans rfl; have hcz6_5 : w4.cell? ⟨gb102, 5, none⟩ = some (.int .i64 a1_5) := (blk_cell BK102.out 5).trans rfl; have hfz6_0 := blk_frozen BK102.out 0; have hfz6_1 := blk_frozen BK102.out 1; have hfz6_2 := blk_frozen BK102.out 2; have hfz6_3 := blk_frozen BK102.out 3; have hfz6_4 := blk_frozen BK102.out 4; have hfz6_5 := blk_frozen BK102.out 5; have hcz7_0 : w4.cell? ⟨gb101, 0, none⟩ = some (.int .i64 a0_0) := (blk_cell BK101.out 0).trans rfl; have hcz7_1 : w4.cell? ⟨gb101, 1, none⟩ = some (.int .i64 a0_1) := (blk_cell BK101.out 1).trans rfl; have hcz7_2 : w4.cell? ⟨gb101, 2, none⟩ = some (.int .i64 a0_2) := (blk_cell BK101.out 2).trans rfl; have hfz7_0 := blk_frozen BK101.out 0; have hfz7_1 := blk_frozen BK101.out 1; have hfz7_2 := blk_frozen BK101.out 2))
  go_ret
  exact ⟨by first | rfl | (simp [errW_none, errW_some] <;> rfl) | (simp [*, errW_none, errW_some] <;> rfl), by repeat (first | (with_reducible first | exact HB.out | apply below_alloc | apply pw_below_drewN | apply below_drew1 | refine below_set ?_ GE101.out | refine below_set ?_ GE102.out) | exact HB.out)⟩

/-! ### decanterlaw23_speaks: function 7 -/
def decanterlaw23_speaks.f  : Option (Bool) := (caps_Price.f 0 0 0 2 (⟨#[98]⟩ : ByteArray) ([] : List (S92)) (⟨#[]⟩ : ByteArray) 0 3).bind fun t103 => (if t103 = 4 then ((caps_Check.f 0 0 0 0 0).bind fun t104 => (some (t104 == 7))) else (some false))
set_option maxHeartbeats 8000000 in
set_option maxRecDepth 100000 in
theorem decanterlaw23_speaks.calls  (r : Bool) (w : World) (h : decanterlaw23_speaks.f  = some r) :
    Calls Tryd.prog 7 #[] w fun e w' => e = .returned (.bool r) ∧ Below w.heap.size w w' := by
  have hu40 := Tryd.underlying40
  have hu37 := Tryd.underlying37
  have hu32 := Tryd.underlying32
  have HB := Aside0.mk (Below.refl w.heap.size w)
  have H : ((caps_Price.f 0 0 0 2 (⟨#[98]⟩ : ByteArray) ([] : List (S92)) (⟨#[]⟩ : ByteArray) 0 3).bind fun t103 => (if t103 = 4 then ((caps_Check.f 0 0 0 0 0).bind fun t104 => (some (t104 == 7))) else (some false))) = some r := h
  clear h
  replace H := Option.bind_eq_some_iff.mp H
  obtain ⟨t103, A10, H⟩ := H
  replace H : (if t103 = 4 then ((caps_Check.f 0 0 0 0 0).bind fun t104 => (some (t104 == 7))) else (some false)) = some r := H
  have A1 := Aside0.mk A10
  clear A10
  by_cases c2 : t103 = 4
  · rw [if_pos c2] at H
    have c2b0 : (t103 == 4) = true := beq_iff_eq.mpr c2
    have c2b1 : (t103 != 4) = false := bne_eq_false_iff_eq.mpr c2
    clear c2
    replace H := Option.bind_eq_some_iff.mp H
    obtain ⟨t104, A30, H⟩ := H
    replace H : (some (t104 == 7)) = some r := H
    have A3 := Aside0.mk A30
    clear A30
    obtain rfl := Option.some.inj H
    go_enter Tryd.func7, Tryd.ntmps7
    go_wp2_with (first | ((with_reducible refine gate_callee (f := 11) rfl ?_); refine goesL_ (some 3) rfl rfl Tryd.func11 (by kernel_rfl) rfl #[.agg #[.int .i64 0, .int .i64 0, .int .i64 0], .agg #[.int .i64 2, .string (⟨#[98]⟩ : ByteArray), .slice none 0 0, .string (⟨#[]⟩ : ByteArray), .int .i64 0, .int .i64 3]] rfl (by (try simp only [List.map_toArray, List.map_cons, List.map_nil]); first | done | rfl | (simp only [List.length_drop, List.length_take]; rfl)) ?_; (refine (caps_Price.calls 0 0 0 2 (⟨#[98]⟩ : ByteArray) _ _ ([] : List (S92)) (⟨#[]⟩ : ByteArray) 0 3 t103 _ ?side1 ?side2 A1.out).mono ?_); (case side1 => exact Kd.C_nil _ _); (case side2 => exact Nat.le_refl _); rintro e w4 ⟨rfl, hb⟩; refine ⟨_, rfl, ?_⟩; have n0_ := Aside0.mk (below_step (by repeat (first | (with_reducible first | exact HB.out | apply below_alloc | apply pw_below_drewN | apply below_drew1) | exact HB.out)) hb); clear HB; have HB := n0_; clear n0_; (try clear hb); (try clear hb2); (try clear hk); (try clear hi)) | (go_at_call 8; (with_reducible refine (caps_Check.calls 0 0 0 0 0 t104 _ A3.out).mono ?_); rintro e w5 ⟨rfl, hb⟩; have n0_ := Aside0.mk (below_step (by repeat (first | (with_reducible first | exact HB.out | apply below_alloc | apply pw_below_drewN | apply below_drew1) | exact HB.out)) hb); clear HB; have HB := n0_; clear n0_; (try clear hb); (try clear hb2); (try clear hk); (try clear hi)))
    go_ret
    exact ⟨by first | rfl | (simp [errW_none, errW_some] <;> rfl) | (simp [*, errW_none, errW_some] <;> rfl), by repeat (first | (with_reducible first | exact HB.out | apply below_alloc | apply pw_below_drewN | apply below_drew1) | exact HB.out)⟩
  · rw [if_neg c2] at H
    have c2b0 : (t103 == 4) = false := beq_eq_false_iff_ne.mpr c2
    have c2b1 : (t103 != 4) = true := bne_iff_ne.mpr c2
    obtain rfl := Option.some.inj H
    go_enter Tryd.func7, Tryd.ntmps7
    go_wp2_with (first | ((with_reducible refine gate_callee (f := 11) rfl ?_); refine goesL_ (some 3) rfl rfl Tryd.func11 (by kernel_rfl) rfl #[.agg #[.int .i64 0, .int .i64 0, .int .i64 0], .agg #[.int .i64 2, .string (⟨#[98]⟩ : ByteArray), .slice none 0 0, .string (⟨#[]⟩ : ByteArray), .int .i64 0, .int .i64 3]] rfl (by (try simp only [List.map_toArray, List.map_cons, List.map_nil]); first | done | rfl | (simp only [List.length_drop, List.length_take]; rfl)) ?_; (refine (caps_Price.calls 0 0 0 2 (⟨#[98]⟩ : ByteArray) _ _ ([] : List (S92)) (⟨#[]⟩ : ByteArray) 0 3 t103 _ ?side1 ?side2 A1.out).mono ?_); (case side1 => exact Kd.C_nil _ _); (case side2 => exact Nat.le_refl _); rintro e w6 ⟨rfl, hb⟩; refine ⟨_, rfl, ?_⟩; have n0_ := Aside0.mk (below_step (by repeat (first | (with_reducible first | exact HB.out | apply below_alloc | apply pw_below_drewN | apply below_drew1) | exact HB.out)) hb); clear HB; have HB := n0_; clear n0_; (try clear hb); (try clear hb2); (try clear hk); (try clear hi)))
    go_ret
    exact ⟨by first | rfl | (simp [errW_none, errW_some] <;> rfl) | (simp [*, errW_none, errW_some] <;> rfl), by repeat (first | (with_reducible first | exact HB.out | apply below_alloc | apply pw_below_drewN | apply below_drew1) | exact HB.out)⟩

/-! ### decanterref23_Check: function 9 -/
def decanterref23_Check.j0 : Nat → Bool → Int → Int → Int → Int → Int → Option (Int)
  | 0, _, _, _, _, _, _ => none
  | k + 1, x25, x106000, x106001, x106002, x106003, x106004 => if x25 = true then (some 7) else (if x106001 > 1048576 then (some 7) else (if x106002 > 1048576 then (some 7) else (if x106003 > 1048576 then (some 7) else (if x106004 > 1048576 then (some 7) else (some 0)))))
def decanterref23_Check.f (k : Nat) (a0_0 : Int) (a0_1 : Int) (a0_2 : Int) (a0_3 : Int) (a0_4 : Int) : Option (Int) := if a0_0 < 1 then (decanterref23_Check.j0 k true a0_0 a0_1 a0_2 a0_3 a0_4) else (if a0_1 < 1 then (decanterref23_Check.j0 k true a0_0 a0_1 a0_2 a0_3 a0_4) else (if a0_2 < 1 then (decanterref23_Check.j0 k true a0_0 a0_1 a0_2 a0_3 a0_4) else (if a0_3 < 1 then (decanterref23_Check.j0 k true a0_0 a0_1 a0_2 a0_3 a0_4) else (decanterref23_Check.j0 k (decide (a0_4 < 1)) a0_0 a0_1 a0_2 a0_3 a0_4))))
theorem decanterref23_Check.mono_l : ∀ k, (∀ y0 y1 y2 y3 y4 y5, LeO (decanterref23_Check.j0 k y0 y1 y2 y3 y4 y5) (decanterref23_Check.j0 (k + 1) y0 y1 y2 y3 y4 y5))
  | 0 => fun _ _ _ _ _ _ r h => by simp [decanterref23_Check.j0] at h
  | k + 1 => by
    have ih0 := decanterref23_Check.mono_l k
    · intro y0 y1 y2 y3 y4 y5
      unfold decanterref23_Check.j0
      repeat' first
      | (with_reducible exact ih0 _ _ _ _ _ _)
      | (with_reducible exact LeO.refl _)
      | (with_reducible exact LeO.none _)
      | (with_reducible refine LeO.ite ?_ ?_)
      | (with_reducible refine LeO.bind ?_ (fun _ => ?_))
      | exact ih0 _ _ _ _ _ _
      | exact LeO.none _
      | refine LeO.ite ?_ ?_
      | refine LeO.bind ?_ (fun _ => ?_)
theorem decanterref23_Check.mono : ∀ a0 a1 a2 a3 a4 k, LeO (decanterref23_Check.f k a0 a1 a2 a3 a4) (decanterref23_Check.f (k + 1) a0 a1 a2 a3 a4) := by
  intro a0 a1 a2 a3 a4 k
  have ih0 := decanterref23_Check.mono_l k
  unfold decanterref23_Check.f
  repeat' first
      | (with_reducible exact ih0 _ _ _ _ _ _)
      | (with_reducible exact LeO.refl _)
      | (with_reducible exact LeO.none _)
      | (with_reducible refine LeO.ite ?_ ?_)
      | (with_reducible refine LeO.bind ?_ (fun _ => ?_))
      | exact ih0 _ _ _ _ _ _
      | exact LeO.none _
      | refine LeO.ite ?_ ?_
      | refine LeO.bind ?_ (fun _ => ?_)
set_option maxHeartbeats 8000000 in
set_option maxRecDepth 100000 in
theorem decanterref23_Check.calls (k : Nat) (a0_0 : Int) (a0_1 : Int) (a0_2 : Int) (a0_3 : Int) (a0_4 : Int) (r : Int) (w : World) (h : decanterref23_Check.f k a0_0 a0_1 a0_2 a0_3 a0_4 = some r) :
    Calls Tryd.prog 9 #[.agg #[.int .i64 a0_0, .int .i64 a0_1, .int .i64 a0_2, .int .i64 a0_3, .int .i64 a0_4]] w fun e w' => e = .returned (.int .i64 r) ∧ Below w.heap.size w w' := by
  have hu23 := Tryd.underlying23
  have HB := Aside0.mk (Below.refl w.heap.size w)
  have H : (if a0_0 < 1 then (decanterref23_Check.j0 k true a0_0 a0_1 a0_2 a0_3 a0_4) else (if a0_1 < 1 then (decanterref23_Check.j0 k true a0_0 a0_1 a0_2 a0_3 a0_4) else (if a0_2 < 1 then (decanterref23_Check.j0 k true a0_0 a0_1 a0_2 a0_3 a0_4) else (if a0_3 < 1 then (decanterref23_Check.j0 k true a0_0 a0_1 a0_2 a0_3 a0_4) else (decanterref23_Check.j0 k (decide (a0_4 < 1)) a0_0 a0_1 a0_2 a0_3 a0_4))))) = some r := h
  clear h
  have HC2 := Aside0.mk H
  clear H
  go_enter Tryd.func9, Tryd.ntmps9
  go_upto_region 1 with (first | ((with_reducible refine gate_dst (N := 1) rfl ?_); refine box_event ?hg (N := 1) ?hd (cs := #[.int .i64 a0_0, .int .i64 a0_1, .int .i64 a0_2, .int .i64 a0_3, .int .i64 a0_4]) (t := 23) ?hr ?_; (case hd => rfl); (case hg => rfl); (case hr => first | (go_simp; done) | (go_simp; rfl)); intro gb105 hg w3 hbox hb; have n0_ := Aside0.mk (below_step (by repeat (first | (with_reducible first | exact HB.out | apply below_alloc | apply pw_below_drewN | apply below_drew1) | exact HB.out)) hb); have n1_ := Aside0.mk (hbox); have n2_ := Aside0.mk ((by rw [hg]; exact (below_size (by repeat (first | (with_reducible first | exact HB.out | apply below_alloc | apply pw_below_drewN | apply below_drew1) | exact HB.out))) : w.heap.size ≤ gb105)); have n3_ := Aside0.mk ((by rw [hg]; exact (below_size (by repeat (first | (with_reducible first | exact HB.out | apply below_alloc | apply pw_below_drewN | apply below_drew1) | exact HB.out))) : w.heap.size ≤ gb105)); clear HB; have HB := n0_; have BK105 := n1_; have GW105 := n2_; have GE105 := n3_; clear n0_ n1_ n2_ n3_; clear hb hbox hg))
  (try simp only [Act.put, List.setIfInBounds_toArray, List.set_cons_zero, List.set_cons_succ])
  go_cut [25] (fun v25 wc => ∃ (kq : Nat) (x25_1 : Bool), v25 = .bool x25_1 ∧ Aside0 (decanterref23_Check.j0 kq x25_1 a0_0 a0_1 a0_2 a0_3 a0_4 = some r) ∧ Aside0 (kq ≤ k) ∧ Aside0 (wc.heap[gb105]? = some (.cells #[.int .i64 a0_0, .int .i64 a0_1, .int .i64 a0_2, .int .i64 a0_3, .int .i64 a0_4] 23 (0, 0))) ∧ Aside0 (Below w.heap.size w wc))
  case first =>
    have H := HC2.out
    clear HC2
    by_cases c4 : a0_0 < 1
    · rw [if_pos c4] at H
      have c4b0 : decide (a0_0 < 1) = true := decide_eq_true c4
      clear c4
      (first | rw [c4b0] | (simp only [i64_w, i32_w]; rw [c4b0]) | skip)
      have H' := Aside0.mk H
      clear H
      have hcz5_0 : w3.cell? ⟨gb105, 0, none⟩ = some (.int .i64 a0_0) := (blk_cell BK105.out 0).trans rfl
      have hcz5_1 : w3.cell? ⟨gb105, 1, none⟩ = some (.int .i64 a0_1) := (blk_cell BK105.out 1).trans rfl
      have hcz5_2 : w3.cell? ⟨gb105, 2, none⟩ = some (.int .i64 a0_2) := (blk_cell BK105.out 2).trans rfl
      have hcz5_3 : w3.cell? ⟨gb105, 3, none⟩ = some (.int .i64 a0_3) := (blk_cell BK105.out 3).trans rfl
      have hcz5_4 : w3.cell? ⟨gb105, 4, none⟩ = some (.int .i64 a0_4) := (blk_cell BK105.out 4).trans rfl
      have hfz5_0 := blk_frozen BK105.out 0
      have hfz5_1 := blk_frozen BK105.out 1
      have hfz5_2 := blk_frozen BK105.out 2
      have hfz5_3 := blk_frozen BK105.out 3
      have hfz5_4 := blk_frozen BK105.out 4
      go_wp2
      go_meet
      case rel => exact ⟨_, (true), (by first | rfl | (simp; done) | (simp [*]; done)), H', ⟨by first | omega | exact Nat.le_refl _⟩, ⟨by (with_reducible repeat (first | refine blk_drewN ?_ _ | refine blk_drew ?_ | refine blk_alloc ?_ _)); exact BK105.out⟩, ⟨by repeat (first | (with_reducible first | exact HB.out | apply below_alloc | apply pw_below_drewN | apply below_drew1 | refine below_set ?_ GE105.out) | exact HB.out)⟩⟩
    · rw [if_neg c4] at H
      have c4b0 : decide (a0_0 < 1) = false := decide_eq_false c4
      clear c4
      (first | rw [c4b0] | (simp only [i64_w, i32_w]; rw [c4b0]) | skip)
      by_cases c6 : a0_1 < 1
      · rw [if_pos c6] at H
        have c6b0 : decide (a0_1 < 1) = true := decide_eq_true c6
        clear c6
        have H' := Aside0.mk H
        clear H
        have hcz7_0 : w3.cell? ⟨gb105, 0, none⟩ = some (.int .i64 a0_0) := (blk_cell BK105.out 0).trans rfl
        have hcz7_1 : w3.cell? ⟨gb105, 1, none⟩ = some (.int .i64 a0_1) := (blk_cell BK105.out 1).trans rfl
        have hcz7_2 : w3.cell? ⟨gb105, 2, none⟩ = some (.int .i64 a0_2) := (blk_cell BK105.out 2).trans rfl
        have hcz7_3 : w3.cell? ⟨gb105, 3, none⟩ = some (.int .i64 a0_3) := (blk_cell BK105.out 3).trans rfl
        have hcz7_4 : w3.cell? ⟨gb105, 4, none⟩ = some (.int .i64 a0_4) := (blk_cell BK105.out 4).trans rfl
        have hfz7_0 := blk_frozen BK105.out 0
        have hfz7_1 := blk_frozen BK105.out 1
        have hfz7_2 := blk_frozen BK105.out 2
        have hfz7_3 := blk_frozen BK105.out 3
        have hfz7_4 := blk_frozen BK105.out 4
        go_wp2
        go_meet
        case rel => exact ⟨_, (true), (by first | rfl | (simp; done) | (simp [*]; done)), H', ⟨by first | omega | exact Nat.le_refl _⟩, ⟨by (with_reducible repeat (first | refine blk_drewN ?_ _ | refine blk_drew ?_ | refine blk_alloc ?_ _)); exact BK105.out⟩, ⟨by repeat (first | (with_reducible first | exact HB.out | apply below_alloc | apply pw_below_drewN | apply below_drew1 | refine below_set ?_ GE105.out) | exact HB.out)⟩⟩
      · rw [if_neg c6] at H
        have c6b0 : decide (a0_1 < 1) = false := decide_eq_false c6
        clear c6
        by_cases c8 : a0_2 < 1
        · rw [if_pos c8] at H
          have c8b0 : decide (a0_2 < 1) = true := decide_eq_true c8
          clear c8
          have H' := Aside0.mk H
          clear H
          have hcz9_0 : w3.cell? ⟨gb105, 0, none⟩ = some (.int .i64 a0_0) := (blk_cell BK105.out 0).trans rfl
          have hcz9_1 : w3.cell? ⟨gb105, 1, none⟩ = some (.int .i64 a0_1) := (blk_cell BK105.out 1).trans rfl
          have hcz9_2 : w3.cell? ⟨gb105, 2, none⟩ = some (.int .i64 a0_2) := (blk_cell BK105.out 2).trans rfl
          have hcz9_3 : w3.cell? ⟨gb105, 3, none⟩ = some (.int .i64 a0_3) := (blk_cell BK105.out 3).trans rfl
          have hcz9_4 : w3.cell? ⟨gb105, 4, none⟩ = some (.int .i64 a0_4) := (blk_cell BK105.out 4).trans rfl
          have hfz9_0 := blk_frozen BK105.out 0
          have hfz9_1 := blk_frozen BK105.out 1
          have hfz9_2 := blk_frozen BK105.out 2
          have hfz9_3 := blk_frozen BK105.out 3
          have hfz9_4 := blk_frozen BK105.out 4
          go_wp2
          go_meet
          case rel => exact ⟨_, (true), (by first | rfl | (simp; done) | (simp [*]; done)), H', ⟨by first | omega | exact Nat.le_refl _⟩, ⟨by (with_reducible repeat (first | refine blk_drewN ?_ _ | refine blk_drew ?_ | refine blk_alloc ?_ _)); exact BK105.out⟩, ⟨by repeat (first | (with_reducible first | exact HB.out | apply below_alloc | apply pw_below_drewN | apply below_drew1 | refine below_set ?_ GE105.out) | exact HB.out)⟩⟩
        · rw [if_neg c8] at H
          have c8b0 : decide (a0_2 < 1) = false := decide_eq_false c8
          clear c8
          by_cases c10 : a0_3 < 1
          · rw [if_pos c10] at H
            have c10b0 : decide (a0_3 < 1) = true := decide_eq_true c10
            clear c10
            have H' := Aside0.mk H
            clear H
            have hcz11_0 : w3.cell? ⟨gb105, 0, none⟩ = some (.int .i64 a0_0) := (blk_cell BK105.out 0).trans rfl
            have hcz11_1 : w3.cell? ⟨gb105, 1, none⟩ = some (.int .i64 a0_1) := (blk_cell BK105.out 1).trans rfl
            have hcz11_2 : w3.cell? ⟨gb105, 2, none⟩ = some (.int .i64 a0_2) := (blk_cell BK105.out 2).trans rfl
            have hcz11_3 : w3.cell? ⟨gb105, 3, none⟩ = some (.int .i64 a0_3) := (blk_cell BK105.out 3).trans rfl
            have hcz11_4 : w3.cell? ⟨gb105, 4, none⟩ = some (.int .i64 a0_4) := (blk_cell BK105.out 4).trans rfl
            have hfz11_0 := blk_frozen BK105.out 0
            have hfz11_1 := blk_frozen BK105.out 1
            have hfz11_2 := blk_frozen BK105.out 2
            have hfz11_3 := blk_frozen BK105.out 3
            have hfz11_4 := blk_frozen BK105.out 4
            go_wp2
            go_meet
            case rel => exact ⟨_, (true), (by first | rfl | (simp; done) | (simp [*]; done)), H', ⟨by first | omega | exact Nat.le_refl _⟩, ⟨by (with_reducible repeat (first | refine blk_drewN ?_ _ | refine blk_drew ?_ | refine blk_alloc ?_ _)); exact BK105.out⟩, ⟨by repeat (first | (with_reducible first | exact HB.out | apply below_alloc | apply pw_below_drewN | apply below_drew1 | refine below_set ?_ GE105.out) | exact HB.out)⟩⟩
          · rw [if_neg c10] at H
            have c10b0 : decide (a0_3 < 1) = false := decide_eq_false c10
            clear c10
            have H' := Aside0.mk H
            clear H
            have hcz12_0 : w3.cell? ⟨gb105, 0, none⟩ = some (.int .i64 a0_0) := (blk_cell BK105.out 0).trans rfl
            have hcz12_1 : w3.cell? ⟨gb105, 1, none⟩ = some (.int .i64 a0_1) := (blk_cell BK105.out 1).trans rfl
            have hcz12_2 : w3.cell? ⟨gb105, 2, none⟩ = some (.int .i64 a0_2) := (blk_cell BK105.out 2).trans rfl
            have hcz12_3 : w3.cell? ⟨gb105, 3, none⟩ = some (.int .i64 a0_3) := (blk_cell BK105.out 3).trans rfl
            have hcz12_4 : w3.cell? ⟨gb105, 4, none⟩ = some (.int .i64 a0_4) := (blk_cell BK105.out 4).trans rfl
            have hfz12_0 := blk_frozen BK105.out 0
            have hfz12_1 := blk_frozen BK105.out 1
            have hfz12_2 := blk_frozen BK105.out 2
            have hfz12_3 := blk_frozen BK105.out 3
            have hfz12_4 := blk_frozen BK105.out 4
            go_wp2
            go_meet
            case rel => exact ⟨_, (decide (a0_4 < 1)), (by first | rfl | (simp; done) | (simp [*]; done)), H', ⟨by first | omega | exact Nat.le_refl _⟩, ⟨by (with_reducible repeat (first | refine blk_drewN ?_ _ | refine blk_drew ?_ | refine blk_alloc ?_ _)); exact BK105.out⟩, ⟨by repeat (first | (with_reducible first | exact HB.out | apply below_alloc | apply pw_below_drewN | apply below_drew1 | refine below_set ?_ GE105.out) | exact HB.out)⟩⟩
  case rest =>
    clear HC2
    try clear c1
    try clear p2
    try clear c4
    try clear c4b0
    try clear c6
    try clear c6b0
    try clear c8
    try clear c8b0
    try clear c9
    try clear c10
    try clear c10b0
    try clear hcz11_0
    try clear hcz11_1
    try clear hcz11_2
    try clear hcz11_3
    try clear hcz11_4
    try clear hcz12_0
    try clear hcz12_1
    try clear hcz12_2
    try clear hcz12_3
    try clear hcz12_4
    try clear hcz5_0
    try clear hcz5_1
    try clear hcz5_2
    try clear hcz5_3
    try clear hcz5_4
    try clear hcz7_0
    try clear hcz7_1
    try clear hcz7_2
    try clear hcz7_3
    try clear hcz7_4
    try clear hcz9_0
    try clear hcz9_1
    try clear hcz9_2
    try clear hcz9_3
    try clear hcz9_4
    try clear hfz11_0
    try clear hfz11_1
    try clear hfz11_2
    try clear hfz11_3
    try clear hfz11_4
    try clear hfz12_0
    try clear hfz12_1
    try clear hfz12_2
    try clear hfz12_3
    try clear hfz12_4
    try clear hfz5_0
    try clear hfz5_1
    try clear hfz5_2
    try clear hfz5_3
    try clear hfz5_4
    try clear hfz7_0
    try clear hfz7_1
    try clear hfz7_2
    try clear hfz7_3
    try clear hfz7_4
    try clear hfz9_0
    try clear hfz9_1
    try clear hfz9_2
    try clear hfz9_3
    try clear hfz9_4
    obtain ⟨kq, x25_1, rfl, HA, HJ1, BK105, HB⟩ := hcut
    cases kq with
    | zero => exact absurd HA.out (by simp [decanterref23_Check.j0])
    | succ kj1 =>
      have H := HA.out
      clear HA
      simp only [decanterref23_Check.j0] at H
      by_cases c13 : x25_1 = true
      · subst c13
        have H1 : (some 7) = some r := by rw [if_pos rfl] at H; exact H
        clear H
        have H := H1
        clear H1
        obtain rfl := Option.some.inj H
        go_wp2
        go_ret
        exact ⟨by first | rfl | (simp [errW_none, errW_some] <;> rfl) | (simp [*, errW_none, errW_some] <;> rfl), by repeat (first | (with_reducible first | exact HB.out | apply below_alloc | apply pw_below_drewN | apply below_drew1 | refine below_set ?_ GE105.out) | exact HB.out)⟩
      · replace c13 := Bool.eq_false_iff.mpr c13
        subst c13
        have H1 : (if a0_1 > 1048576 then (some 7) else (if a0_2 > 1048576 then (some 7) else (if a0_3 > 1048576 then (some 7) else (if a0_4 > 1048576 then (some 7) else (some 0))))) = some r := by rw [if_neg (show ¬ (false = true) by decide)] at H; exact H
        clear H
        have H := H1
        clear H1
        by_cases c14 : a0_1 > 1048576
        · rw [if_pos c14] at H
          have c14b0 : decide (1048576 < a0_1) = true := decide_eq_true c14
          clear c14
          obtain rfl := Option.some.inj H
          have hcz15_0 : wc.cell? ⟨gb105, 0, none⟩ = some (.int .i64 a0_0) := (blk_cell BK105.out 0).trans rfl
          have hcz15_1 : wc.cell? ⟨gb105, 1, none⟩ = some (.int .i64 a0_1) := (blk_cell BK105.out 1).trans rfl
          have hcz15_2 : wc.cell? ⟨gb105, 2, none⟩ = some (.int .i64 a0_2) := (blk_cell BK105.out 2).trans rfl
          have hcz15_3 : wc.cell? ⟨gb105, 3, none⟩ = some (.int .i64 a0_3) := (blk_cell BK105.out 3).trans rfl
          have hcz15_4 : wc.cell? ⟨gb105, 4, none⟩ = some (.int .i64 a0_4) := (blk_cell BK105.out 4).trans rfl
          have hfz15_0 := blk_frozen BK105.out 0
          have hfz15_1 := blk_frozen BK105.out 1
          have hfz15_2 := blk_frozen BK105.out 2
          have hfz15_3 := blk_frozen BK105.out 3
          have hfz15_4 := blk_frozen BK105.out 4
          go_wp2
          go_ret
          exact ⟨by first | rfl | (simp [errW_none, errW_some] <;> rfl) | (simp [*, errW_none, errW_some] <;> rfl), by repeat (first | (with_reducible first | exact HB.out | apply below_alloc | apply pw_below_drewN | apply below_drew1 | refine below_set ?_ GE105.out) | exact HB.out)⟩
        · rw [if_neg c14] at H
          have c14b0 : decide (1048576 < a0_1) = false := decide_eq_false c14
          clear c14
          by_cases c16 : a0_2 > 1048576
          · rw [if_pos c16] at H
            have c16b0 : decide (1048576 < a0_2) = true := decide_eq_true c16
            clear c16
            obtain rfl := Option.some.inj H
            have hcz17_0 : wc.cell? ⟨gb105, 0, none⟩ = some (.int .i64 a0_0) := (blk_cell BK105.out 0).trans rfl
            have hcz17_1 : wc.cell? ⟨gb105, 1, none⟩ = some (.int .i64 a0_1) := (blk_cell BK105.out 1).trans rfl
            have hcz17_2 : wc.cell? ⟨gb105, 2, none⟩ = some (.int .i64 a0_2) := (blk_cell BK105.out 2).trans rfl
            have hcz17_3 : wc.cell? ⟨gb105, 3, none⟩ = some (.int .i64 a0_3) := (blk_cell BK105.out 3).trans rfl
            have hcz17_4 : wc.cell? ⟨gb105, 4, none⟩ = some (.int .i64 a0_4) := (blk_cell BK105.out 4).trans rfl
            have hfz17_0 := blk_frozen BK105.out 0
            have hfz17_1 := blk_frozen BK105.out 1
            have hfz17_2 := blk_frozen BK105.out 2
            have hfz17_3 := blk_frozen BK105.out 3
            have hfz17_4 := blk_frozen BK105.out 4
            go_wp2
            go_ret
            exact ⟨by first | rfl | (simp [errW_none, errW_some] <;> rfl) | (simp [*, errW_none, errW_some] <;> rfl), by repeat (first | (with_reducible first | exact HB.out | apply below_alloc | apply pw_below_drewN | apply below_drew1 | refine below_set ?_ GE105.out) | exact HB.out)⟩
          · rw [if_neg c16] at H
            have c16b0 : decide (1048576 < a0_2) = false := decide_eq_false c16
            clear c16
            by_cases c18 : a0_3 > 1048576
            · rw [if_pos c18] at H
              have c18b0 : decide (1048576 < a0_3) = true := decide_eq_true c18
              clear c18
              obtain rfl := Option.some.inj H
              have hcz19_0 : wc.cell? ⟨gb105, 0, none⟩ = some (.int .i64 a0_0) := (blk_cell BK105.out 0).trans rfl
              have hcz19_1 : wc.cell? ⟨gb105, 1, none⟩ = some (.int .i64 a0_1) := (blk_cell BK105.out 1).trans rfl
              have hcz19_2 : wc.cell? ⟨gb105, 2, none⟩ = some (.int .i64 a0_2) := (blk_cell BK105.out 2).trans rfl
              have hcz19_3 : wc.cell? ⟨gb105, 3, none⟩ = some (.int .i64 a0_3) := (blk_cell BK105.out 3).trans rfl
              have hcz19_4 : wc.cell? ⟨gb105, 4, none⟩ = some (.int .i64 a0_4) := (blk_cell BK105.out 4).trans rfl
              have hfz19_0 := blk_frozen BK105.out 0
              have hfz19_1 := blk_frozen BK105.out 1
              have hfz19_2 := blk_frozen BK105.out 2
              have hfz19_3 := blk_frozen BK105.out 3
              have hfz19_4 := blk_frozen BK105.out 4
              go_wp2
              go_ret
              exact ⟨by first | rfl | (simp [errW_none, errW_some] <;> rfl) | (simp [*, errW_none, errW_some] <;> rfl), by repeat (first | (with_reducible first | exact HB.out | apply below_alloc | apply pw_below_drewN | apply below_drew1 | refine below_set ?_ GE105.out) | exact HB.out)⟩
            · rw [if_neg c18] at H
              have c18b0 : decide (1048576 < a0_3) = false := decide_eq_false c18
              clear c18
              by_cases c20 : a0_4 > 1048576
              · rw [if_pos c20] at H
                have c20b0 : decide (1048576 < a0_4) = true := decide_eq_true c20
                clear c20
                obtain rfl := Option.some.inj H
                have hcz21_0 : wc.cell? ⟨gb105, 0, none⟩ = some (.int .i64 a0_0) := (blk_cell BK105.out 0).trans rfl
                have hcz21_1 : wc.cell? ⟨gb105, 1, none⟩ = some (.int .i64 a0_1) := (blk_cell BK105.out 1).trans rfl
                have hcz21_2 : wc.cell? ⟨gb105, 2, none⟩ = some (.int .i64 a0_2) := (blk_cell BK105.out 2).trans rfl
                have hcz21_3 : wc.cell? ⟨gb105, 3, none⟩ = some (.int .i64 a0_3) := (blk_cell BK105.out 3).trans rfl
                have hcz21_4 : wc.cell? ⟨gb105, 4, none⟩ = some (.int .i64 a0_4) := (blk_cell BK105.out 4).trans rfl
                have hfz21_0 := blk_frozen BK105.out 0
                have hfz21_1 := blk_frozen BK105.out 1
                have hfz21_2 := blk_frozen BK105.out 2
                have hfz21_3 := blk_frozen BK105.out 3
                have hfz21_4 := blk_frozen BK105.out 4
                go_wp2
                go_ret
                exact ⟨by first | rfl | (simp [errW_none, errW_some] <;> rfl) | (simp [*, errW_none, errW_some] <;> rfl), by repeat (first | (with_reducible first | exact HB.out | apply below_alloc | apply pw_below_drewN | apply below_drew1 | refine below_set ?_ GE105.out) | exact HB.out)⟩
              · rw [if_neg c20] at H
                have c20b0 : decide (1048576 < a0_4) = false := decide_eq_false c20
                clear c20
                obtain rfl := Option.some.inj H
                have hcz22_0 : wc.cell? ⟨gb105, 0, none⟩ = some (.int .i64 a0_0) := (blk_cell BK105.out 0).trans rfl
                have hcz22_1 : wc.cell? ⟨gb105, 1, none⟩ = some (.int .i64 a0_1) := (blk_cell BK105.out 1).trans rfl
                have hcz22_2 : wc.cell? ⟨gb105, 2, none⟩ = some (.int .i64 a0_2) := (blk_cell BK105.out 2).trans rfl
                have hcz22_3 : wc.cell? ⟨gb105, 3, none⟩ = some (.int .i64 a0_3) := (blk_cell BK105.out 3).trans rfl
                have hcz22_4 : wc.cell? ⟨gb105, 4, none⟩ = some (.int .i64 a0_4) := (blk_cell BK105.out 4).trans rfl
                have hfz22_0 := blk_frozen BK105.out 0
                have hfz22_1 := blk_frozen BK105.out 1
                have hfz22_2 := blk_frozen BK105.out 2
                have hfz22_3 := blk_frozen BK105.out 3
                have hfz22_4 := blk_frozen BK105.out 4
                go_wp2
                go_ret
                exact ⟨by first | rfl | (simp [errW_none, errW_some] <;> rfl) | (simp [*, errW_none, errW_some] <;> rfl), by repeat (first | (with_reducible first | exact HB.out | apply below_alloc | apply pw_below_drewN | apply below_drew1 | refine below_set ?_ GE105.out) | exact HB.out)⟩

/-! ### decanterlaw06_Of: function 26 -/
def decanterlaw06_Of.l0 : Nat → List (S92) → List (S91) → Int → Int → Option ((List (S92)))
  | 0, _, _, _, _ => none
  | k + 1, x3, x6, x7, x8 => if x8 < x7 then (if 0 ≤ x8 then (if x8 < (x6.length : Int) then (if x3.length < 4398046511104 then (decanterlaw06_Of.l0 k (x3 ++ [(⟨(rd_T91 x6 x8).f0, (rd_T91 x6 x8).f1⟩ : S92)]) x6 x7 (wrap64 (x8 + 1))) else (none)) else (none)) else (none)) else (some x3)
def decanterlaw06_Of.f (k : Nat) (l0 : List (S91)) : Option ((List (S92))) := decanterlaw06_Of.l0 k ([] : List (S92)) l0 (l0.length : Int) 0
theorem decanterlaw06_Of.mono_l : ∀ k, (∀ y0 y1 y2 y3, LeO (decanterlaw06_Of.l0 k y0 y1 y2 y3) (decanterlaw06_Of.l0 (k + 1) y0 y1 y2 y3))
  | 0 => fun _ _ _ _ r h => by simp [decanterlaw06_Of.l0] at h
  | k + 1 => by
    have ih0 := decanterlaw06_Of.mono_l k
    · intro y0 y1 y2 y3
      unfold decanterlaw06_Of.l0
      repeat' first
      | (with_reducible exact ih0 _ _ _ _)
      | (with_reducible exact LeO.refl _)
      | (with_reducible exact LeO.none _)
      | (with_reducible refine LeO.ite ?_ ?_)
      | (with_reducible refine LeO.bind ?_ (fun _ => ?_))
      | exact ih0 _ _ _ _
      | exact LeO.none _
      | refine LeO.ite ?_ ?_
      | refine LeO.bind ?_ (fun _ => ?_)
theorem decanterlaw06_Of.mono : ∀ a0 k, LeO (decanterlaw06_Of.f k a0) (decanterlaw06_Of.f (k + 1) a0) := by
  intro a0 k
  have ih0 := decanterlaw06_Of.mono_l k
  unfold decanterlaw06_Of.f
  repeat' first
      | (with_reducible exact ih0 _ _ _ _)
      | (with_reducible exact LeO.refl _)
      | (with_reducible exact LeO.none _)
      | (with_reducible refine LeO.ite ?_ ?_)
      | (with_reducible refine LeO.bind ?_ (fun _ => ?_))
      | exact ih0 _ _ _ _
      | exact LeO.none _
      | refine LeO.ite ?_ ?_
      | refine LeO.bind ?_ (fun _ => ?_)
set_option maxHeartbeats 8000000 in
set_option maxRecDepth 100000 in
theorem decanterlaw06_Of.calls (k : Nat) (A0 : Option Addr) (c0 : Nat) (l0 : List (S91)) (r : List (S92)) (w : World) (hr0 : Kd.C k91 w A0 l0.length l0) (hc0 : l0.length ≤ c0) (h : decanterlaw06_Of.f k l0 = some r) :
    Calls Tryd.prog 26 #[.slice A0 l0.length c0] w fun e w' => ∃ v0_ : Value, e = .returned (v0_) ∧ Kd.R k92 92 w' w.heap.size (fun _ => True) v0_ r ∧ Below w.heap.size w w' := by
  have hu91 := Tryd.underlying91
  have HR0 := Aside0.mk hr0
  have HC0 := Aside0.mk hc0
  clear hr0 hc0
  have HB := Aside0.mk (Below.refl w.heap.size w)
  have H : (decanterlaw06_Of.l0 k ([] : List (S92)) l0 (l0.length : Int) 0) = some r := h
  clear h
  have H' := Aside0.mk H
  clear H
  go_enter Tryd.func26, Tryd.ntmps26
  go_wp2
  go_loopg [3, 8] k (fun kq v3 v8 w' => ∃ (x3_1 : List (S92)) (x8_1 : Int), v8 = .int .i64 x8_1 ∧ Aside0 (decanterlaw06_Of.l0 kq x3_1 l0 (l0.length : Int) x8_1 = some r) ∧ Aside0 (kq ≤ k) ∧ Aside0 (Kd.R k92 92 w' w.heap.size (fun _ => True) v3 x3_1) ∧ Aside0 (Below w.heap.size w w'))
  case atStart => exact ⟨(([] : List (S92))), (0), (by first | rfl | (simp; done) | (simp [*]; done)), H', ⟨Nat.le_refl _⟩, ⟨by first | exact Kd.R_nil _ _ _ _ _ | exact Kd.N_nil _ _ _ _ _ | exact Kd.V_nil _ _ _ _ _ | exact Kd.Q_nil _ _ _ _ _ | exact Kd.S_nil _ _ _ _ _⟩, ⟨by repeat (first | (with_reducible first | exact HB.out | apply below_alloc | apply pw_below_drewN | apply below_drew1) | exact HB.out)⟩⟩
  case round =>
    clear H'
    obtain ⟨x3_1, x8_1, rfl, HA, HK1, HO_3, HB⟩ := hrel
    cases gk with
    | zero => exact absurd HA.out (by simp [decanterlaw06_Of.l0])
    | succ k1 =>
      have H := HA.out
      clear HA
      simp only [decanterlaw06_Of.l0] at H
      by_cases c2 : x8_1 < (l0.length : Int)
      · rw [if_pos c2] at H
        have c2b0 : decide (x8_1 < (l0.length : Int)) = true := decide_eq_true c2
        clear c2
        by_cases c3 : 0 ≤ x8_1
        · rw [if_pos c3] at H
          have c3b0 : decide (0 ≤ x8_1) = true := decide_eq_true c3
          clear c3
          by_cases c4 : x8_1 < (l0.length : Int)
          · rw [if_pos c4] at H
            have c4b0 : decide (x8_1 < (l0.length : Int)) = true := decide_eq_true c4
            clear c4
            by_cases c5 : x3_1.length < 4398046511104
            · rw [if_pos c5] at H
              have LMc5 := Aside0.mk c5
              clear c5
              obtain ⟨y108, hy108⟩ : ∃ y_ : List (S92), y_ = (x3_1 ++ [(⟨(rd_T91 l0 x8_1).f0, (rd_T91 l0 x8_1).f1⟩ : S92)]) := ⟨_, rfl⟩
              replace H : (decanterlaw06_Of.l0 k1 y108 l0 (l0.length : Int) (wrap64 (x8_1 + 1))) = some r := by first | (rw [hy108]; with_reducible exact H) | (have H2_ := (Option.bind_some _ _).symm.trans H; rw [hy108]; with_reducible exact H2_) | (have H2_ := (Option.bind_some _ _).symm.trans H; with_reducible exact H2_) | with_reducible exact H | (rw [hy108]; exact H) | exact H
              have Ny108 := Aside0.mk hy108
              clear hy108
              have H' := Aside0.mk H
              clear H
              have p106 : 0 ≤ (x8_1 : Int) := of_decide_eq_true (by first | (with_reducible assumption) | assumption)
              have q106 : x8_1 < (l0.length : Int) := of_decide_eq_true (by first | (with_reducible assumption) | assumption)
              obtain ⟨ad106, e106, hx106_0, hx106_1⟩ := at_T91 HR0.out x8_1 p106 q106
              cases e106
              replace hx106_0 := (HB.out.cell (World.block_lt_of_cell? w _ hx106_0)).trans hx106_0
              replace hx106_1 := (HB.out.cell (World.block_lt_of_cell? w _ hx106_1)).trans hx106_1
              replace p106 := eq_true p106
              replace q106 := eq_true q106
              go_wp2_with (first | ((with_reducible refine gate_dst (N := 5) rfl ?_); refine box_event ?hg (N := 5) ?hd (cs := #[.string (⟨#[]⟩ : ByteArray), .string (⟨#[]⟩ : ByteArray)]) (t := 91) ?hr ?_; (case hd => rfl); (case hg => rfl); (case hr => first | (go_simp; done) | (go_simp; rfl)); intro gb107 hg w6 hbox hb; have n0_ := Aside0.mk (Kd.R_below (by (with_reducible repeat (first | apply Kd.R_alloc | apply Kd.R_drewN | apply Kd.R_drew)); exact HO_3.out) hb); have n1_ := Aside0.mk (below_step (by repeat (first | (with_reducible first | exact HB.out | apply below_alloc | apply pw_below_drewN | apply below_drew1) | exact HB.out)) hb); have n2_ := Aside0.mk (hbox); have n3_ := Aside0.mk ((by rw [hg]; exact (below_size (by repeat (first | (with_reducible first | exact HB.out | apply below_alloc | apply pw_below_drewN | apply below_drew1) | exact HB.out))) : w.heap.size ≤ gb107)); have n4_ := Aside0.mk ((by rw [hg]; exact (below_size (by repeat (first | (with_reducible first | exact HB.out | apply below_alloc | apply pw_below_drewN | apply below_drew1) | exact HB.out))) : w.heap.size ≤ gb107)); clear HO_3; clear HB; have HO_3 := n0_; have HB := n1_; have BK107 := n2_; have GW107 := n3_; have GE107 := n4_; clear n0_ n1_ n2_ n3_ n4_; clear hb hbox hg; have hcz7_0 : w6.cell? ⟨gb107, 0, none⟩ = some (.string (⟨#[]⟩ : ByteArray)) := (blk_cell BK107.out 0).trans rfl; have hcz7_1 : w6.cell? ⟨gb107, 1, none⟩ = some (.string (⟨#[]⟩ : ByteArray)) := (blk_cell BK107.out 1).trans rfl; have hfz7_0 := blk_frozen BK107.out 0; have hfz7_1 := blk_frozen BK107.out 1) | ((with_reducible refine gate_builtin (b := .append) (xs := #[.tmp 12, .tmp 14]) rfl ?_); at_builtin; refine Kd.R_append k92 (w0 := w) w.heap.size rfl (.tmp 12) (.tmp 14) 35 92 (.agg #[(.string ⟨#[]⟩), (.string ⟨#[]⟩)]) 32 rfl Tryd.underlying35 info92 rfl (by decide) (by omega) u3 x3_1 (⟨(rd_T91 l0 x8_1).f0, (rd_T91 l0 x8_1).f1⟩ : S92) [.string ((rd_T91 l0 x8_1).f0), .string ((rd_T91 l0 x8_1).f1)] (fun _ => True) (fun _ => False) rfl (by first | (go_simp; done) | (go_simp; rfl)) ?aP (fun _ hk => hk.elim) ?aF ?aO ?aB ?aS ?aL ?_; (case aP => exact k92_mkM _ _ _ (⟨(rd_T91 l0 x8_1).f0, (rd_T91 l0 x8_1).f1⟩ : S92)); (case aB => exact (by repeat (first | (with_reducible first | exact HB.out | apply below_alloc | apply pw_below_drewN | apply below_drew1 | refine below_set ?_ GE107.out) | exact HB.out))); (case aF => exact (fun _ _ => trivial)); (case aO => exact (by (with_reducible repeat (first | apply Kd.R_alloc | apply Kd.R_drewN | apply Kd.R_drew)); exact Kd.R_mono (Kd.R_far (p := ⟨gb107, 1, none⟩) (Kd.R_far (p := ⟨gb107, 0, none⟩) (Kd.R_types HO_3.out BK107.out (by decide)) (fun _ hk => hk.2) (.string ((rd_T91 l0 x8_1).f0))) (fun _ hk => hk.2) (.string ((rd_T91 l0 x8_1).f1))) (fun _ hk => trivial))); (case aS => exact (below_size (by repeat (first | (with_reducible first | exact HB.out | apply below_alloc | apply pw_below_drewN | apply below_drew1 | refine below_set ?_ GE107.out) | exact HB.out)))); (case aL => have := LMc5.out; omega); intro v109 w8 ho hb hg hat; rw [← Ny108.out] at ho; have n0_ := Aside0.mk (blk_grown (g := gb107) (o := .cells #[.string ((rd_T91 l0 x8_1).f0), .string ((rd_T91 l0 x8_1).f1)] 91 (0, 0)) (by (with_reducible repeat (first | refine blk_drewN ?_ _ | refine blk_drew ?_ | refine blk_alloc ?_ _)); refine blk_put (cs := #[.string ((rd_T91 l0 x8_1).f0), .string (⟨#[]⟩ : ByteArray)]) ?_ 1 _ rfl; (with_reducible repeat (first | refine blk_drewN ?_ _ | refine blk_drew ?_ | refine blk_alloc ?_ _)); refine blk_put (cs := #[.string (⟨#[]⟩ : ByteArray), .string (⟨#[]⟩ : ByteArray)]) ?_ 0 _ rfl; (with_reducible repeat (first | refine blk_drewN ?_ _ | refine blk_drew ?_ | refine blk_alloc ?_ _)); exact BK107.out) hg (Kd.R_ne HO_3.out BK107.out (by decide))); have n1_ := Aside0.mk (hb); have n2_ := Aside0.mk (ho); clear BK107; clear HB; clear HO_3; have BK107 := n0_; have HB := n1_; have HO110 := n2_; clear n0_ n1_ n2_; clear ho hb hg hat))
              go_roundg k1
              case measure => have := HK1.out; omega
              case rel => exact ⟨(y108), (wrap64 (x8_1 + 1)), (by first | rfl | (simp; done) | (simp [*]; done)), H', ⟨by have := HK1.out; omega⟩, ⟨by (with_reducible repeat (first | apply Kd.R_alloc | apply Kd.R_drewN | apply Kd.R_drew)); exact HO110.out⟩, ⟨by repeat (first | (with_reducible first | exact HB.out | apply below_alloc | apply pw_below_drewN | apply below_drew1 | refine below_set ?_ GE107.out) | exact HB.out)⟩⟩
            · rw [if_neg c5] at H
              exact absurd H (by simp)
          · rw [if_neg c4] at H
            exact absurd H (by simp)
        · rw [if_neg c3] at H
          exact absurd H (by simp)
      · rw [if_neg c2] at H
        have c2b0 : decide (x8_1 < (l0.length : Int)) = false := decide_eq_false c2
        clear c2
        obtain rfl := Option.some.inj H
        go_wp2
        go_ret
        exact ⟨_, by first | rfl | (simp [errW_none, errW_some] <;> rfl) | (simp [*, errW_none, errW_some] <;> rfl), by (with_reducible repeat (first | apply Kd.R_alloc | apply Kd.R_drewN | apply Kd.R_drew)); exact HO_3.out, by repeat (first | (with_reducible first | exact HB.out | apply below_alloc | apply pw_below_drewN | apply below_drew1) | exact HB.out)⟩

end Go.Proofs.YtfkgklbaafbbiaaDoor.PCaps
