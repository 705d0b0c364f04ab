import Derived.Test.YtnmjocoopbfpnaaDoorProg
import Derived.Test.YtnmjocoopbfpnaaDoorWWords
import Derived.Test.YtnmjocoopbfpnaaDoorWLast
import Derived.Test.YtnmjocoopbfpnaaDoorWMore
import Derived.WalkKit
import Derived.ProofKit
import Derived.Lib.SlBytesConst
import Derived.Test.YtnmjocoopbfpnaaDoorShelf2
import Derived.Test.YtnmjocoopbfpnaaDoorRows
import Derived.Lib.LaidU8T
import Derived.Lib.LaidTab
import Derived.Lib.Hide
import Derived.Deep.LoopGhost
import Derived.Handy
import Derived.MakeChecks
import Derived.Shelf.Strings.BuilderK
import Derived.Test.YtnmjocoopbfpnaaDoorShelf
import Derived.Test.YtnmjocoopbfpnaaDoorPRefAx1
import Derived.Test.YtnmjocoopbfpnaaDoorPRefAx2
import Derived.Test.YtnmjocoopbfpnaaDoorPRefAx3
import Derived.Test.YtnmjocoopbfpnaaDoorPRefAx4
import Derived.Test.YtnmjocoopbfpnaaDoorPRefAx9
namespace Go.Proofs.YtnmjocoopbfpnaaDoor.PRefA
open Go.RowKit Go.Proofs.YtnmjocoopbfpnaaDoorW.PrintWords Go.Proofs.YtnmjocoopbfpnaaDoorW.PrintLast Go.Proofs.YtnmjocoopbfpnaaDoorW.PrintMore
attribute [local go_sem] max2_int min2_int max_two min_two max_three min_three max_four min_four
def decanterlaw05_RefPlain.plain (l : List Int) : List Int := l.filter fun c => c != 38
def decanterlaw05_RefPlain.esc (c : Int) : List Int := if c = 38 then [38, 97, 109, 112, 59] else [c]
def decanterlaw05_RefPlain.written (l : List Int) : List Int := l.flatMap decanterlaw05_RefPlain.esc
def decanterlaw05_RefPlain.f (k : Nat) (l0 : List Int) (a1 : Bool) : Option Bool :=
  if 300 < l0.length then some true else
    (ref_Text.f k (decanterlaw05_RefPlain.plain l0) 0 ((decanterlaw05_RefPlain.plain l0).length : Int) a1).bind fun t1 => (char_All.f k (decanterlaw05_RefPlain.plain l0) 0 ((decanterlaw05_RefPlain.plain l0).length : Int)).bind fun u1 =>
      (ref_Text.f k (decanterlaw05_RefPlain.written l0) 0 ((decanterlaw05_RefPlain.written l0).length : Int) a1).bind fun t2 => (char_All.f k l0 0 (l0.length : Int)).bind fun u2 =>
        if t1 = u1 ∧ t2 = u2 then some true else none
theorem decanterlaw05_RefPlain.mono : ∀ a0 a1 k, LeO (decanterlaw05_RefPlain.f k a0 a1) (decanterlaw05_RefPlain.f (k + 1) a0 a1) := by
  intro a0 a1 k
  unfold decanterlaw05_RefPlain.f
  repeat' first
    | (with_reducible exact ref_Text.mono _ _ _ _ _)
    | (with_reducible exact char_All.mono _ _ _ _)
    | (with_reducible exact LeO.refl _)
    | (with_reducible exact LeO.none _)
    | (with_reducible refine LeO.ite ?_ ?_)
    | (with_reducible refine LeO.bind ?_ (fun _ => ?_))
theorem decanterlaw05_RefPlain.take_next (l : List Int) (i : Nat) (hi : i < l.length) : l.take (i + 1) = l.take i ++ [rd l (i : Int)] := by
  rw [List.take_succ_eq_append_getElem hi]
  unfold rd
  rw [Int.toNat_natCast, List.getD_eq_getElem?_getD, List.getElem?_eq_getElem hi, Option.getD_some]
theorem decanterlaw05_RefPlain.plain_next (l : List Int) (i : Nat) (hi : i < l.length) : decanterlaw05_RefPlain.plain (l.take (i + 1)) = decanterlaw05_RefPlain.plain (l.take i) ++ (if rd l (i : Int) = 38 then [] else [rd l (i : Int)]) := by
  rw [decanterlaw05_RefPlain.take_next l i hi]
  unfold decanterlaw05_RefPlain.plain
  rw [List.filter_append]
  congr 1
  by_cases h : rd l (i : Int) = 38
  · rw [if_pos h, h]
    rfl
  · rw [if_neg h, List.filter_cons, if_pos (bne_iff_ne.2 h)]
    rfl
theorem decanterlaw05_RefPlain.written_next (l : List Int) (i : Nat) (hi : i < l.length) : decanterlaw05_RefPlain.written (l.take (i + 1)) = decanterlaw05_RefPlain.written (l.take i) ++ decanterlaw05_RefPlain.esc (rd l (i : Int)) := by
  rw [decanterlaw05_RefPlain.take_next l i hi]
  unfold decanterlaw05_RefPlain.written
  rw [List.flatMap_append]
  simp
theorem decanterlaw05_RefPlain.plain_len (l : List Int) : (decanterlaw05_RefPlain.plain l).length ≤ l.length := List.length_filter_le _ _
theorem decanterlaw05_RefPlain.written_len : ∀ l : List Int, (decanterlaw05_RefPlain.written l).length ≤ 5 * l.length
  | [] => Nat.le_refl _
  | c :: r => by
    have h := decanterlaw05_RefPlain.written_len r
    unfold decanterlaw05_RefPlain.written at h ⊢
    rw [List.flatMap_cons, List.length_append, List.length_cons]
    have h2 : (decanterlaw05_RefPlain.esc c).length ≤ 5 := by
      unfold decanterlaw05_RefPlain.esc
      split <;> simp
    omega
/-- Where the row lies that came of an append of a string: where it lay, or in a new block. -/
theorem decanterlaw05_RefPlain.append_at {P : Program} (w : World) (base : Nat) (t u ty e : TypeId) (i : TypeInfo) (ht : P.underlying t = some (.slice e)) (hu : P.underlying u = some .string) (hi : P.info? e = some i) (hz : i.zero = some (.int .u8 0)) (hsize : i.size = 1) (hby : i.bytes = 1) (v : Value) (n : Nat) (xs : List Value) (hown : w.ownsRow base e 1 v n xs) (s : ByteArray) (hs : s.size ≠ 0) (hbytes : n + s.size ≤ 140737488355328) (hbase : base ≤ w.heap.size) :
    ∃ v' w', (Builtin.append_ #[t, u] ty #[v, .string s]).run P w = .ok v' w' ∧ w'.ownsRow base e 1 v' (n + s.size) (xs ++ Lib.strCells s) ∧ w.grownBy w' v.ownBlock ∧ (v'.ownBlock = v.ownBlock ∨ ∃ b, v'.ownBlock = some b ∧ w.heap.size ≤ b) := by
  have h63 : n + s.size ≤ maxLen := by simp only [maxLen]; omega
  obtain ⟨v', w', hr, h2, h3, -⟩ := Lib.run_append_own_string (P := P) w base t u ty e i ht hu hi hz hsize hby v n xs hown s h63 hbytes hbase
  refine ⟨v', w', hr, h2, h3, ?_⟩
  have hxl : xs.length = n := by simpa using hown.1
  rcases hown.2 with ⟨rfl, rfl⟩ | ⟨g, cap, cur, rfl, hbg, hg, hnc, hcm, hcs, htake⟩
  · have hr2 := run_append_nil_string (P := P) w t u ty e i (.int .u8 0) ht hu hi hz s (by omega) (by omega) (by rw [hby]; omega)
    have hq := hr.symm.trans hr2
    injection hq with hq _
    rw [hq]
    exact .inr ⟨_, rfl, Nat.le_refl _⟩
  · by_cases hroom : n + s.size ≤ cap
    · have hr2 := Lib.run_append_room_string (P := P) w t u ty e i ht hu hi hsize g n cap cur hg s hroom (by omega)
      have hq := hr.symm.trans hr2
      injection hq with hq _
      rw [hq]
      exact .inl rfl
    · have holds : ∀ j u, xs[j]? = some u → w.cell? ((⟨g, 0, none⟩ : Addr).add j) = some u := hown.cells (g := g) rfl
      have hr2 := Lib.run_append_grow_string (P := P) w t u ty e i (.int .u8 0) ht hu hi hz ⟨g, 0, none⟩ n cap xs (by rw [hsize]; simpa using hxl) holds s (by omega) (by omega) (by rw [hby]; exact growslice_fits (by omega) (by omega))
      have hq := hr.symm.trans hr2
      injection hq with hq _
      rw [hq]
      exact .inr ⟨_, rfl, Nat.le_refl _⟩
theorem decanterlaw05_RefPlain.wp_append_str {P : Program} {ops : Array Oper} {rest : List Oper} {o : Oper} {a : Act} {Q : Exit → Act → World → Prop} {w0 W : World} (base : Nat) (hgd : o.guard = none) (s x : Operand) (t u e : TypeId)
    (ho : o.op = .call { callee := .builtin .append, args := #[s, x], argTypes := #[t, u] })
    (ht : P.underlying t = some (.slice e)) (hu : P.underlying u = some .string) (hinfo : (P.info? e).map (fun i => (i.zero, i.size, i.bytes)) = some (some (.int .u8 0), 1, 1))
    (v : Value) (xs : List Int) (y : ByteArray) (ok : Nat → Prop) (hs : a.eval s = v) (hx : a.eval x = .string y) (hy : y.size ≠ 0)
    (HO : Kd.R (Kd.int .u8) e W base ok v xs) (hfresh : ∀ k, W.heap.size ≤ k → ok k) (HB : Below base w0 W) (hbase : base ≤ W.heap.size) (hl : xs.length + y.size ≤ 140737488355328)
    (h : ∀ v1 w1, Kd.R (Kd.int .u8) e w1 base ok v1 (xs ++ bytesOf y) → Below base w0 w1 → W.grownBy w1 v.ownBlock → (v1.ownBlock = v.ownBlock ∨ ∃ b, v1.ownBlock = some b ∧ W.heap.size ≤ b) → wpList P ops Q rest (a.put o.dst v1) w1) :
    wpList P ops Q (o :: rest) a W := by
  obtain ⟨i0, hi, hzz⟩ := Option.map_eq_some_iff.1 hinfo
  simp only [Prod.mk.injEq] at hzz
  obtain ⟨hz0, hz1, hz2⟩ := hzz
  have hown := Kd.own_of_R HO
  have hok0 : ∀ k, v.ownBlock = some k → ok k := HO.1
  refine wpList_plain hgd fun K hK => ?_
  obtain ⟨v1, w1, hr, hown1, hg, hat⟩ := decanterlaw05_RefPlain.append_at (P := P) W base t u o.type e i0 ht hu hi hz0 hz1 hz2 v xs.length _ hown y hy hl hbase
  unfold Oper.wp execOp
  simp only [ho, resolve, invoke, builtin, Sem.run_bind, Sem.run_pure, Result.andThen_ok, List.map_toArray, List.map_cons, List.map_nil, hs, hx, hr]
  have hl2 : (xs ++ bytesOf y).length = xs.length + y.size := by rw [List.length_append, bytesOf_length]
  have hc : encs (Value.int .u8) (xs ++ bytesOf y) = encs (Value.int .u8) xs ++ Lib.strCells y := by
    unfold encs
    rw [List.map_append]
    congr 1
    simp [bytesOf, Lib.strCells]
  refine hK _ _ (h v1 w1 (Kd.R_of_own (h1 := fun _ => rfl) (by rw [hl2, hc]; exact hown1) fun k hk => ?_) (HB.grown hg hbase (own_base hown)) hg hat)
  rcases hat with hat | ⟨b, hb, hle⟩
  · exact hok0 k (hat ▸ hk)
  · rw [hb] at hk
    injection hk with hk
    exact hfresh k (hk ▸ hle)
/-- Two rows of bytes of the call's own that lie apart. -/
def decanterlaw05_RefPlain.Two (W : World) (b : Nat) (v : Value) (xs : List Int) (u : Value) (ys : List Int) : Prop := Kd.R (Kd.int .u8) 5 W b (fun k => True ∧ some k ≠ u.ownBlock) v xs ∧ Kd.R (Kd.int .u8) 5 W b (fun k => True ∧ some k ≠ v.ownBlock) u ys
theorem decanterlaw05_RefPlain.two_below {W W1 : World} {b : Nat} {v u : Value} {xs ys : List Int} (h : decanterlaw05_RefPlain.Two W b v xs u ys) (hb : Below W.heap.size W W1) : decanterlaw05_RefPlain.Two W1 b v xs u ys := ⟨Kd.R_below h.1 hb, Kd.R_below h.2 hb⟩
theorem decanterlaw05_RefPlain.two_nil (W : World) (b : Nat) : decanterlaw05_RefPlain.Two W b (.slice none 0 0) [] (.slice none 0 0) [] := ⟨Kd.R_nil _ _ _ _ _, Kd.R_nil _ _ _ _ _⟩
theorem decanterlaw05_RefPlain.two_fst {W w1 : World} {b : Nat} {v v1 u : Value} {xs xs1 ys : List Int} (h : decanterlaw05_RefPlain.Two W b v xs u ys) (ho : Kd.R (Kd.int .u8) 5 w1 b (fun k => True ∧ some k ≠ u.ownBlock) v1 xs1) (hg : W.grownBy w1 v.ownBlock) (hat : v1.ownBlock = v.ownBlock ∨ ∃ b, v1.ownBlock = some b ∧ W.heap.size ≤ b) : decanterlaw05_RefPlain.Two w1 b v1 xs1 u ys := ⟨ho, Kd.R_after h.2 hg hat⟩
theorem decanterlaw05_RefPlain.two_snd {W w1 : World} {b : Nat} {v u u1 : Value} {xs ys ys1 : List Int} (h : decanterlaw05_RefPlain.Two W b v xs u ys) (ho : Kd.R (Kd.int .u8) 5 w1 b (fun k => True ∧ some k ≠ v.ownBlock) u1 ys1) (hg : W.grownBy w1 u.ownBlock) (hat : u1.ownBlock = u.ownBlock ∨ ∃ b, u1.ownBlock = some b ∧ W.heap.size ≤ b) : decanterlaw05_RefPlain.Two w1 b v xs u1 ys1 := ⟨Kd.R_after h.1 hg hat, ho⟩
theorem decanterlaw05_RefPlain.fresh_fst {W : World} {b : Nat} {v u : Value} {xs ys : List Int} (h : decanterlaw05_RefPlain.Two W b v xs u ys) : ∀ k, W.heap.size ≤ k → True ∧ some k ≠ u.ownBlock := fun k hk => ⟨trivial, fun e => by have := Kd.R_lt h.2 k e.symm; omega⟩
theorem decanterlaw05_RefPlain.fresh_snd {W : World} {b : Nat} {v u : Value} {xs ys : List Int} (h : decanterlaw05_RefPlain.Two W b v xs u ys) : ∀ k, W.heap.size ≤ k → True ∧ some k ≠ v.ownBlock := fun k hk => ⟨trivial, fun e => by have := Kd.R_lt h.1 k e.symm; omega⟩
set_option maxRecDepth 100000 in
set_option maxHeartbeats 16000000 in
theorem decanterlaw05_RefPlain.calls (k : Nat) (A0 : Option Addr) (c0 : Nat) (l0 : List Int) (a1 : Bool) (r : Bool) (w : World) (hW : Wok w) (hr0 : Kd.C (Kd.int .u8) w A0 l0.length l0) (hc0 : l0.length ≤ c0) (h : decanterlaw05_RefPlain.f k l0 a1 = some r) :
    Calls Tryd.prog 7 #[.slice A0 l0.length c0, .bool a1] w fun e w' => e = .returned (.bool r) ∧ Below w.heap.size w w' := by
  unfold decanterlaw05_RefPlain.f at h
  have HS := Lib.hid (fun (w : World) (hW : Wok w) => decanterlaw05_speaks.calls true w hW rfl)
  have HW := Lib.hid hW
  have HR := Lib.hid hr0
  have HC := Lib.hid hc0
  clear hW hr0 hc0
  by_cases h3 : 300 < l0.length
  · rw [if_pos h3] at h
    obtain rfl := Option.some.inj h
    clear h
    go_enter Tryd.func7, Tryd.ntmps7
    go_wp2_with (go_at_call 19; first | (refine (HS.out _ (Wok_below HW.out HB1.out)).mono ?_; rintro e w2 ⟨rfl, hb2⟩; have HB2 := Lib.hid (HB1.out.trans (hb2.mono HB1.out.size)); clear hb2) | (refine (HS.out _ HW.out).mono ?_; rintro e w1 ⟨rfl, hb1⟩; have HB1 := Lib.hid hb1; clear hb1))
    go_ret
    exact ⟨rfl, HB2.out⟩
  · rw [if_neg h3] at h
    obtain ⟨t1, e1, g1⟩ := Option.bind_eq_some_iff.1 h
    obtain ⟨u1, e2, g2⟩ := Option.bind_eq_some_iff.1 g1
    obtain ⟨t2, e3, g3⟩ := Option.bind_eq_some_iff.1 g2
    obtain ⟨u2, e4, g4⟩ := Option.bind_eq_some_iff.1 g3
    clear h g1 g2 g3
    split at g4
    · rename_i hq
      obtain ⟨rfl, rfl⟩ := hq
      obtain rfl := Option.some.inj g4
      clear g4
      have hpl := decanterlaw05_RefPlain.plain_len l0
      have hwl := decanterlaw05_RefPlain.written_len l0
      have HT1 : Hid (∀ (A : Option Addr) (c : Nat) (W : World), Wok W → Kd.C (Kd.int .u8) W A (decanterlaw05_RefPlain.plain l0).length (decanterlaw05_RefPlain.plain l0) → (decanterlaw05_RefPlain.plain l0).length ≤ c → Calls Tryd.prog 20 #[.slice A (decanterlaw05_RefPlain.plain l0).length c, .int .i64 0, .int .i64 ((decanterlaw05_RefPlain.plain l0).length : Int), .bool a1] W fun e w' => e = .returned (.string t1) ∧ Below W.heap.size W w') := Lib.hid (fun A c W hW hr hc => ref_Text.calls k A c _ 0 _ a1 t1 W hW hr hc e1)
      have HU1 : Hid (∀ (A : Option Addr) (c : Nat) (W : World), Wok W → Kd.C (Kd.int .u8) W A (decanterlaw05_RefPlain.plain l0).length (decanterlaw05_RefPlain.plain l0) → (decanterlaw05_RefPlain.plain l0).length ≤ c → Calls Tryd.prog 21 #[.slice A (decanterlaw05_RefPlain.plain l0).length c, .int .i64 0, .int .i64 ((decanterlaw05_RefPlain.plain l0).length : Int)] W fun e w' => e = .returned (.string t1) ∧ Below W.heap.size W w') := Lib.hid (fun A c W hW hr hc => char_All.calls k A c _ 0 _ t1 W hW hr hc e2)
      have HT2 : Hid (∀ (A : Option Addr) (c : Nat) (W : World), Wok W → Kd.C (Kd.int .u8) W A (decanterlaw05_RefPlain.written l0).length (decanterlaw05_RefPlain.written l0) → (decanterlaw05_RefPlain.written l0).length ≤ c → Calls Tryd.prog 20 #[.slice A (decanterlaw05_RefPlain.written l0).length c, .int .i64 0, .int .i64 ((decanterlaw05_RefPlain.written l0).length : Int), .bool a1] W fun e w' => e = .returned (.string t2) ∧ Below W.heap.size W w') := Lib.hid (fun A c W hW hr hc => ref_Text.calls k A c _ 0 _ a1 t2 W hW hr hc e3)
      have HU2 : Hid (∀ (W : World), Wok W → Kd.C (Kd.int .u8) W A0 l0.length l0 → Calls Tryd.prog 21 #[.slice A0 l0.length c0, .int .i64 0, .int .i64 (l0.length : Int)] W fun e w' => e = .returned (.string t2) ∧ Below W.heap.size W w') := Lib.hid (fun W hW hr => char_All.calls k A0 c0 _ 0 _ t2 W hW hr HC.out e4)
      clear e1 e2 e3 e4
      have hl3 : l0.length ≤ 300 := by omega
      clear h3
      go_enter Tryd.func7, Tryd.ntmps7
      go_wp2_with (go_at_call 19; refine (HS.out _ HW.out).mono ?_; rintro e w1 ⟨rfl, hb1⟩; have HB1 := Lib.hid hb1; clear hb1)
      go_loopg [5, 6, 19] (l0.length + 1) (fun gg s5 s6 s19 wr => ∃ i : Nat, s19 = .int .i64 (i : Int) ∧ i ≤ l0.length ∧ i + gg = l0.length + 1 ∧ Hid (decanterlaw05_RefPlain.Two wr w.heap.size s5 (decanterlaw05_RefPlain.plain (l0.take i)) s6 (decanterlaw05_RefPlain.written (l0.take i))) ∧ Hid (Below w.heap.size w wr))
      case atStart => exact ⟨0, rfl, Nat.zero_le _, by omega, Lib.hid (decanterlaw05_RefPlain.two_nil _ _), HB1⟩
      case round =>
        obtain ⟨i, rfl, hi, hgk, HT, HB⟩ := hrel
        by_cases hlt : i < l0.length
        · obtain ⟨ad, hA, hx⟩ := Kd.at_int HR.out (i : Int) (by omega) (by omega)
          cases hA
          replace hx := (HB.out.cell (World.block_lt_of_cell? w _ hx)).trans hx
          rw [Int.toNat_natCast] at hx
          have hp := decanterlaw05_RefPlain.plain_next l0 i hlt
          have hv := decanterlaw05_RefPlain.written_next l0 i hlt
          have hpl2 := decanterlaw05_RefPlain.plain_len (l0.take i)
          have hvl2 := decanterlaw05_RefPlain.written_len (l0.take i)
          rw [List.length_take] at hpl2 hvl2
          generalize rd l0 (i : Int) = c at *
          by_cases hc38 : c = 38
          · subst hc38
            rw [if_pos rfl, List.append_nil] at hp
            have hesc : decanterlaw05_RefPlain.esc 38 = bytesOf ⟨#[38, 97, 109, 112, 59]⟩ := rfl
            rw [hesc] at hv
            have HP := Lib.hid hp
            have HV := Lib.hid hv
            clear hp hv hesc
            go_wp2_with ((with_reducible refine gate_builtin (b := .append) (xs := #[.tmp 33, .const (.string ⟨#[38, 97, 109, 112, 59]⟩)]) rfl ?_); at_builtin; refine decanterlaw05_RefPlain.wp_append_str (w0 := w) w.heap.size rfl (.tmp 33) (.const (.string ⟨#[38, 97, 109, 112, 59]⟩)) 37 9 5 rfl Tryd.underlying37 Tryd.underlying9 info5 _ (decanterlaw05_RefPlain.written (l0.take i)) ⟨#[38, 97, 109, 112, 59]⟩ _ rfl rfl (by decide) HT.out.2 (decanterlaw05_RefPlain.fresh_snd HT.out) HB.out HB.out.size (by show _ + 5 ≤ _; omega) ?_; intro v2 w2 ho hb hg hat; have HTb := Lib.hid (decanterlaw05_RefPlain.two_snd HT.out ho hg hat); have HBb := Lib.hid hb; clear ho hb hg hat HT HB)
            go_roundg (gk - 1)
            case measure => omega
            case rel => exact ⟨i + 1, rfl, by omega, by omega, Lib.hid (by rw [HP.out, HV.out]; exact HTb.out), HBb⟩
          · rw [if_neg hc38] at hp
            have hesc : decanterlaw05_RefPlain.esc c = [c] := by unfold decanterlaw05_RefPlain.esc; rw [if_neg hc38]
            rw [hesc] at hv
            have HP := Lib.hid hp
            have HV := Lib.hid hv
            clear hp hv hesc
            have hcb : (c != 38) = true := bne_iff_ne.2 hc38
            go_wp2_with (first | ((with_reducible refine gate_builtin (b := .append) (xs := #[.tmp 25, .tmp 27]) rfl ?_); at_builtin; refine Kd.R_append (Kd.int .u8) (w0 := w) w.heap.size rfl (.tmp 25) (.tmp 27) 37 5 (.int .u8 0) 1 rfl Tryd.underlying37 info5 rfl (by decide) (by omega) _ (decanterlaw05_RefPlain.plain (l0.take i)) c [.int .u8 c] _ (fun _ => False) rfl (by first | (go_simp; done) | (go_simp; rfl)) rfl (fun _ hk => hk.elim) (decanterlaw05_RefPlain.fresh_fst HT.out) HT.out.1 HB.out HB.out.size (by omega) ?_; intro v1 w1 ho hb hg hat; have HTa := Lib.hid (decanterlaw05_RefPlain.two_fst HT.out ho hg hat); have HBa := Lib.hid hb; clear ho hb hg hat HT HB) | ((with_reducible refine gate_builtin (b := .append) (xs := #[.tmp 29, .tmp 31]) rfl ?_); at_builtin; refine Kd.R_append (Kd.int .u8) (w0 := w) w.heap.size rfl (.tmp 29) (.tmp 31) 37 5 (.int .u8 0) 1 rfl Tryd.underlying37 info5 rfl (by decide) (by omega) _ (decanterlaw05_RefPlain.written (l0.take i)) c [.int .u8 c] _ (fun _ => False) rfl (by first | (go_simp; done) | (go_simp; rfl)) rfl (fun _ hk => hk.elim) (decanterlaw05_RefPlain.fresh_snd HTa.out) HTa.out.2 HBa.out HBa.out.size (by omega) ?_; intro v2 w2 ho hb hg hat; have HTb := Lib.hid (decanterlaw05_RefPlain.two_snd HTa.out ho hg hat); have HBb := Lib.hid hb; clear ho hb hg hat HTa HBa))
            go_roundg (gk - 1)
            case measure => omega
            case rel => exact ⟨i + 1, rfl, by omega, by omega, Lib.hid (by rw [HP.out, HV.out]; exact HTb.out), HBb⟩
        · obtain rfl : i = l0.length := by omega
          have ht := HT.out
          rw [List.take_length] at ht
          clear HT
          obtain ⟨A5, c5, rfl⟩ := Kd.R_slice ht.1
          obtain ⟨A6, c6, rfl⟩ := Kd.R_slice ht.2
          obtain ⟨-, hle5, hC5⟩ := Kd.R_reads' ht.1
          obtain ⟨-, hle6, hC6⟩ := Kd.R_reads' ht.2
          clear ht
          have HC5 := Lib.hid hC5
          have HC6 := Lib.hid hC6
          have HL5 := Lib.hid hle5
          have HL6 := Lib.hid hle6
          clear hC5 hC6 hle5 hle6
          go_wp2_with (first | (go_at_call 20; first | (refine (HT2.out A6 c6 _ (Wok_below HW.out HB3.out) (Kd.C_below HC6.out (HBx.out.trans (HBy.out.mono HBx.out.size))) HL6.out).mono ?_; rintro e w4 ⟨rfl, hb4⟩; have HB4 := Lib.hid (HB3.out.trans (hb4.mono HB3.out.size)); clear hb4) | (refine (HT1.out A5 c5 _ (Wok_below HW.out HB.out) HC5.out HL5.out).mono ?_; rintro e w2 ⟨rfl, hb2⟩; have HBx := Lib.hid hb2; have HB2 := Lib.hid (HB.out.trans (hb2.mono HB.out.size)); clear hb2)) | (go_at_call 21; first | (refine (HU2.out _ (Wok_below HW.out HB4.out) (Kd.C_below HR.out HB4.out)).mono ?_; rintro e w5 ⟨rfl, hb5⟩; have HB5 := Lib.hid (HB4.out.trans (hb5.mono HB4.out.size)); clear hb5) | (refine (HU1.out A5 c5 _ (Wok_below HW.out HB2.out) (Kd.C_below HC5.out HBx.out) HL5.out).mono ?_; rintro e w3 ⟨rfl, hb3⟩; have HBy := Lib.hid hb3; have HB3 := Lib.hid (HB2.out.trans (hb3.mono HB2.out.size)); clear hb3)))
          go_ret
          exact ⟨by first | rfl | simp, HB5.out⟩
    · cases g4
def decanterlaw05_RefPlain.Pure : Prop := ∀ (l0 : List Int) (a1 : Bool), l0.length ≤ maxLen → l0.length * 1 ≤ 140737488351232 → (∀ x ∈ l0, (Lit.int .u8 x).wf = true) → ∃ k, decanterlaw05_RefPlain.f k l0 a1 = some true
theorem decanterlaw05_RefPlain.walk (P : decanterlaw05_RefPlain.Pure) (a0 : Option Addr) (len0 cap0 : Nat) (z0 : List Int) (a1 : Bool) (w : World) (hW : Wok w) (w0 : (a0 = none ∧ len0 = 0 ∧ cap0 = 0 ∧ z0 = []) ∨ ∃ x, a0 = some x ∧ len0 ≤ cap0 ∧ cap0 ≤ maxLen ∧ z0.length = cap0 ∧ (∀ i, i < z0.length → w.cell? (x.add i) = some (.int .u8 (z0.getD i 0))) ∧ ∀ n ∈ z0, (Lit.int .u8 n).wf = true) (y0 : len0 * 1 ≤ 140737488351232) :
    Calls Tryd.prog 7 #[.slice a0 len0 cap0, .bool a1] w fun e w' => e = .returned (.bool true) ∧ Below w.heap.size w w' := by
  obtain ⟨l0, rfl, hr0, hm0, hw0, hc0⟩ := ReadsInt.ofRowC w0
  obtain ⟨k, h⟩ := P l0 a1 hm0 y0 hw0
  refine (decanterlaw05_RefPlain.calls k _ _ l0 a1 true w hW (Kd.C_of_reads (d := (0 : Int)) (h1 := fun _ => rfl) hr0) hc0 h).mono ?_
  rintro e w' ⟨rfl, hd⟩
  exact ⟨rfl, hd⟩
end Go.Proofs.YtnmjocoopbfpnaaDoor.PRefA
