import Derived.Test.YtinjbabmpnljoaaDoorProg
import Derived.Test.YtinjbabmpnljoaaDoorWWords
import Derived.Test.YtinjbabmpnljoaaDoorWLast
import Derived.Test.YtinjbabmpnljoaaDoorWMore
import Derived.WalkKit
import Derived.ProofKit
import Derived.Test.YtinjbabmpnljoaaDoorShelf2
import Derived.Test.YtinjbabmpnljoaaDoorShelf3
import Derived.Test.YtinjbabmpnljoaaDoorValidS
import Derived.Test.YtinjbabmpnljoaaDoorRows
import Derived.Lib.LaidU8T
import Derived.Lib.Hide
import Derived.Deep.LoopGhost
import Derived.Handy
import Derived.MakeChecks
import Derived.Shelf.Strings.BuilderK
import Derived.Test.YtinjbabmpnljoaaDoorShelf
import Derived.Test.YtinjbabmpnljoaaDoorPCharx5
import Derived.Test.YtinjbabmpnljoaaDoorCharMore
namespace Go.Proofs.YtinjbabmpnljoaaDoor.PChar
open Go.RowKit Go.Proofs.YtinjbabmpnljoaaDoorW.PrintWords Go.Proofs.YtinjbabmpnljoaaDoorW.PrintLast Go.Proofs.YtinjbabmpnljoaaDoorW.PrintMore
attribute [local go_sem] max2_int min2_int max_two min_two max_three min_three max_four min_four
def utf8_ValidString.f (a0 : ByteArray) : Option Bool := if a0.size ≤ 9223372036854775807 then some (Lib.validD a0.data.toList) else none
theorem utf8_ValidString.calls (a0 : ByteArray) (r : Bool) (w : World) (hW : Wok w) (h : utf8_ValidString.f a0 = some r) :
    Calls Tryd.prog 19 #[.string a0] w fun e w' => e = .returned (.bool r) ∧ Below w.heap.size w w' := by
  unfold utf8_ValidString.f at h
  by_cases hs : a0.size ≤ 9223372036854775807
  · rw [if_pos hs] at h
    obtain rfl := Option.some.inj h
    exact Tryd.utf8_ValidString a0 w hs hW
  · rw [if_neg hs] at h
    cases h

def utf8_Valid.f (l0 : List Int) : Option Bool := if l0.all Vb.inB = true ∧ l0.length ≤ 1000000000 then some (Lib.validD (strOfNums l0).data.toList) else none
theorem utf8_Valid.calls (A0 : Option Addr) (c0 : Nat) (l0 : List Int) (r : Bool) (w : World) (hW : Wok w) (hr0 : Kd.C (Kd.int .u8) w A0 l0.length l0) (hc0 : l0.length ≤ c0) (h : utf8_Valid.f l0 = some r) :
    Calls Tryd.prog 20 #[.slice A0 l0.length c0] w fun e w' => e = .returned (.bool r) ∧ Below w.heap.size w w' := by
  unfold utf8_Valid.f at h
  by_cases hc : l0.all Vb.inB = true ∧ l0.length ≤ 1000000000
  · rw [if_pos hc] at h
    obtain rfl := Option.some.inj h
    by_cases hpos : 0 < l0.length
    · obtain ⟨ad, rfl, hcell⟩ := (Kd.reads_of_C (enc := Value.int .u8) (d := (0 : Int)) (h1 := fun _ => rfl) hr0).2.2 hpos
      obtain ⟨b, off, spot⟩ := ad
      have hspot : spot = none := by simpa [Addr.add] using World.cell?_spot (hcell 0 hpos)
      subst hspot
      have hp : Vb.Cl w b off (strOfNums l0) := fun j hj => by
        rw [strOfNums_size] at hj
        rw [Vb.get_byte l0 hc.1 j hj]
        have e : (⟨b, off, none⟩ : Addr).add j = ⟨b, off + j, none⟩ := by
          unfold Addr.add
          by_cases hj0 : j = 0 <;> simp [hj0]
        rw [← e]
        exact hcell j hj
      have hd := Vb.valid_calls (strOfNums l0) b off c0 w (by rw [strOfNums_size]; exact hc.2) (by rw [strOfNums_size]; exact hc0) (by rw [strOfNums_size]; exact hpos) hW hp
      rw [strOfNums_size] at hd
      exact hd
    · obtain rfl : l0 = [] := List.eq_nil_of_length_eq_zero (by omega)
      exact Vb.valid_nil A0 c0 w
  · rw [if_neg hc] at h
    cases h

def decanterlaw02_CharClean.okb (x : Int) : Bool := x != 0 && x != 13
/-- Valid, and none of its first bytes is 0 or 13. -/
def decanterlaw02_CharClean.pl (l : List Int) (i : Nat) : Bool := Lib.validD (strOfNums l).data.toList && (l.take i).all decanterlaw02_CharClean.okb
def decanterlaw02_CharClean.good (l : List Int) (t t2 : ByteArray) : Bool := Lib.validD t.data.toList && (decide (t.size ≤ 3 * l.length) && (decide (t2 = t) && ((bytesOf t).all decanterlaw02_CharClean.okb && (!decanterlaw02_CharClean.pl l l.length || decide (t = strOfNums l)))))
def decanterlaw02_CharClean.f (k : Nat) (l0 : List Int) : Option Bool :=
  if 400 < l0.length then some true else if l0.all Vb.inB = false then none else
    (char_All.f k l0 0 (l0.length : Int)).bind fun t => (char_All.f k (bytesOf t) 0 (t.size : Int)).bind fun t2 =>
      (char_Clean.f k t).bind fun c1 => (char_Clean.f k (strOfNums l0)).bind fun c2 =>
        if decanterlaw02_CharClean.good l0 t t2 = true ∧ c1 = true ∧ c2 = decanterlaw02_CharClean.pl l0 l0.length then some true else none
theorem decanterlaw02_CharClean.mono : ∀ a0 k, LeO (decanterlaw02_CharClean.f k a0) (decanterlaw02_CharClean.f (k + 1) a0) := by
  intro a0 k
  unfold decanterlaw02_CharClean.f
  repeat' first
    | (with_reducible exact char_All.mono _ _ _ _)
    | (with_reducible exact char_Clean.mono _ _)
    | (with_reducible exact LeO.refl _)
    | (with_reducible exact LeO.none _)
    | (with_reducible refine LeO.ite ?_ ?_)
    | (with_reducible refine LeO.bind ?_ (fun _ => ?_))
theorem decanterlaw02_CharClean.pl_next (l : List Int) (i : Nat) (hi : i < l.length) : decanterlaw02_CharClean.pl l (i + 1) = (decanterlaw02_CharClean.pl l i && decanterlaw02_CharClean.okb (rd l (i : Int))) := by
  have e : l.take (i + 1) = l.take i ++ [rd l (i : Int)] := by
    rw [List.take_succ_eq_append_getElem hi]
    unfold rd
    rw [Int.toNat_natCast, List.getD_eq_getElem?_getD, List.getElem?_eq_getElem hi, Option.getD_some]
  unfold decanterlaw02_CharClean.pl
  rw [e, List.all_append, Bool.and_assoc]
  simp
theorem decanterlaw02_CharClean.of_row (k : Nat) (t t2 : ByteArray) (hts : t.size ≤ 1200) (ht : char_All.f k (bytesOf t) 0 (t.size : Int) = some t2) (W : World) (hW : Wok W) (c : Nat) (hc : t.size ≤ c) :
    Calls Tryd.prog 15 #[.slice (some ⟨W.heap.size, 0, none⟩) t.size c, .int .i64 0, .int .i64 (t.size : Int)] (W.alloc (.cells (bytesRow t c) 5 ((bytesRow t c).size, (bytesRow t c).size + 1))).drew fun e w' => e = .returned (.string t2) ∧ Below W.heap.size W w' := by
  have hlen : (bytesOf t).length = t.size := by unfold bytesOf; rw [List.length_map, Array.length_toList]; rfl
  have hbl : Below W.heap.size W (W.alloc (.cells (bytesRow t c) 5 ((bytesRow t c).size, (bytesRow t c).size + 1))).drew := Below.drew ((Below.refl _ _).alloc (Nat.le_refl _) _)
  have hrow : Kd.C (Kd.int .u8) (W.alloc (.cells (bytesRow t c) 5 ((bytesRow t c).size, (bytesRow t c).size + 1))).drew (some ⟨W.heap.size, 0, none⟩) (bytesOf t).length (bytesOf t) := by
    refine Kd.C_of_reads (d := (0 : Int)) (h1 := fun _ => rfl) ⟨rfl, by rw [hlen]; omega, fun _ => ⟨_, rfl, fun j hj => ?_⟩⟩
    rw [hlen] at hj
    have h2 : (⟨W.heap.size, 0, none⟩ : Addr).add j = ⟨W.heap.size, j, none⟩ := by simp [Addr.add]; exact fun h => h.symm
    rw [h2, World.cell?_drew, World.cell?_alloc_mark, char_Clean.row_at t c j hj]
  have hA := char_All.calls k (some ⟨W.heap.size, 0, none⟩) c (bytesOf t) 0 (t.size : Int) t2 _ (Wok_below hW hbl) hrow (by rw [hlen]; exact hc) ht
  rw [hlen] at hA
  exact hA.mono fun e w' h => ⟨h.1, char_All.below_all hbl h.2⟩
theorem decanterlaw02_CharClean.byte_ok {t : ByteArray} (h : (bytesOf t).all decanterlaw02_CharClean.okb = true) (i : Nat) (hi : i < t.size) : ∃ x : UInt8, t[i]'hi = x ∧ ((x.toNat : Int) == 0) = false ∧ ((x.toNat : Int) == 13) = false := by
  have hm : (((t[i]'hi).toNat : Nat) : Int) ∈ bytesOf t := by
    unfold bytesOf
    exact List.mem_map.2 ⟨t[i]'hi, Array.getElem_mem_toList .., rfl⟩
  have h2 := List.all_eq_true.1 h _ hm
  unfold decanterlaw02_CharClean.okb at h2
  rw [Bool.and_eq_true, bne_iff_ne, bne_iff_ne] at h2
  exact ⟨_, rfl, beq_eq_false_iff_ne.2 h2.1, beq_eq_false_iff_ne.2 h2.2⟩
set_option maxRecDepth 100000 in
set_option maxHeartbeats 8000000 in
theorem decanterlaw02_CharClean.calls (k : Nat) (A0 : Option Addr) (c0 : Nat) (l0 : List Int) (r : Bool) (w : World) (hW : Wok w) (hr0 : Kd.C (Kd.int .u8) w A0 l0.length l0) (hc0 : l0.length ≤ c0) (h : decanterlaw02_CharClean.f k l0 = some r) :
    Calls Tryd.prog 8 #[.slice A0 l0.length c0] w fun e w' => e = .returned (.bool r) ∧ Below w.heap.size w w' := by
  unfold decanterlaw02_CharClean.f at h
  have HS := Lib.hid (fun (w : World) (hW : Wok w) => decanterlaw02_speaks.calls 3000 true w hW Go.Proofs.YtinjbabmpnljoaaDoor.CharPure.speaks02)
  have HW := Lib.hid hW
  have HR := Lib.hid hr0
  have HC := Lib.hid hc0
  clear hW hr0 hc0
  by_cases h4 : 400 < l0.length
  · rw [if_pos h4] at h
    obtain rfl := Option.some.inj h
    have h4z : (400 : Int) < (l0.length : Int) := by omega
    clear h
    go_enter Tryd.func8, Tryd.ntmps8
    go_upto_region 2 with (go_at_call 12; refine (HS.out _ HW.out).mono ?_; rintro e w1 ⟨rfl, hb1⟩; have HB1 := Lib.hid hb1; clear hb1)
    go_wp2_with (go_at_call 12; refine (HS.out _ (Wok_below HW.out HB1.out)).mono ?_; rintro e w2 ⟨rfl, hb2⟩; have HB2 := Lib.hid (HB1.out.trans (hb2.mono HB1.out.size)); clear hb2)
    go_ret
    exact ⟨rfl, HB2.out⟩
  · rw [if_neg h4] at h
    split at h
    · cases h
    rename_i hb0
    rw [Bool.not_eq_false] at hb0
    obtain ⟨t, e1, g1⟩ := Option.bind_eq_some_iff.1 h
    obtain ⟨t2, e2, g2⟩ := Option.bind_eq_some_iff.1 g1
    obtain ⟨c1, e3, g3⟩ := Option.bind_eq_some_iff.1 g2
    obtain ⟨c2, e4, g4⟩ := Option.bind_eq_some_iff.1 g3
    clear h g1 g2 g3
    split at g4
    · rename_i hq
      obtain ⟨hg, rfl, rfl⟩ := hq
      obtain rfl := Option.some.inj g4
      clear g4
      unfold decanterlaw02_CharClean.good at hg
      rw [Bool.and_eq_true, Bool.and_eq_true, Bool.and_eq_true, Bool.and_eq_true, decide_eq_true_eq, decide_eq_true_eq, Bool.or_eq_true, decide_eq_true_eq] at hg
      obtain ⟨hval, hsz, rfl, hok, hpl⟩ := hg
      have hl4 : l0.length ≤ 400 := by omega
      have h4z : ¬ ((400 : Int) < (l0.length : Int)) := by omega
      have hszz : ¬ (3 * (l0.length : Int) < (t2.size : Int)) := by omega
      clear h4
      have HA1 : Hid (∀ W, Below w.heap.size w W → Calls Tryd.prog 15 #[.slice A0 l0.length c0, .int .i64 0, .int .i64 (l0.length : Int)] W fun e w' => e = .returned (.string t2) ∧ Below W.heap.size W w') := Lib.hid fun W hb => char_All.calls k A0 c0 l0 0 _ t2 W (Wok_below HW.out hb) (Kd.C_below HR.out hb) HC.out e1
      have HV1 : Hid (∀ W, Below w.heap.size w W → Calls Tryd.prog 19 #[.string t2] W fun e w' => e = .returned (.bool true) ∧ Below W.heap.size W w') := Lib.hid fun W hb => utf8_ValidString.calls t2 true W (Wok_below HW.out hb) (by unfold utf8_ValidString.f; rw [if_pos (by omega), hval])
      have HC1 : Hid (∀ W, Below w.heap.size w W → Calls Tryd.prog 17 #[.string t2] W fun e w' => e = .returned (.bool true) ∧ Below W.heap.size W w') := Lib.hid fun W hb => char_Clean.calls k t2 true W (Wok_below HW.out hb) e3
      have HC2 : Hid (∀ W, Below w.heap.size w W → Calls Tryd.prog 17 #[.string (strOfNums l0)] W fun e w' => e = .returned (.bool (decanterlaw02_CharClean.pl l0 l0.length)) ∧ Below W.heap.size W w') := Lib.hid fun W hb => char_Clean.calls k (strOfNums l0) _ W (Wok_below HW.out hb) e4
      have HA2 : Hid (∀ W c, Below w.heap.size w W → t2.size ≤ c → Calls Tryd.prog 15 #[.slice (some ⟨W.heap.size, 0, none⟩) t2.size c, .int .i64 0, .int .i64 (t2.size : Int)] (W.alloc (.cells (bytesRow t2 c) 5 ((bytesRow t2 c).size, (bytesRow t2 c).size + 1))).drew fun e w' => e = .returned (.string t2) ∧ Below W.heap.size W w') := Lib.hid fun W c hb hc => decanterlaw02_CharClean.of_row k t2 t2 (by omega) e2 W (Wok_below HW.out hb) c hc
      have HV2 : Hid (∀ W, Below w.heap.size w W → Calls Tryd.prog 20 #[.slice A0 l0.length c0] W fun e w' => e = .returned (.bool (decanterlaw02_CharClean.pl l0 0)) ∧ Below W.heap.size W w') := Lib.hid fun W hb => utf8_Valid.calls A0 c0 l0 _ W (Wok_below HW.out hb) (Kd.C_below HR.out hb) HC.out (by
        unfold utf8_Valid.f decanterlaw02_CharClean.pl
        rw [if_pos ⟨hb0, by omega⟩]
        simp)
      have hconv := fun W : World => run_bytes_of_string (P := Tryd.prog) W 9 22 5 t2 Tryd.underlying9 Tryd.underlying22 Tryd.underlying5
      have HGC := Lib.hid (fun W : World => grownCap_ge W t2.size 0 5)
      have HCV := Lib.hid (fun (W : World) (hb : Below w.heap.size w W) => Kd.C_string (P := Tryd.prog) (A := A0) (c := c0) Tryd.underlying22 Tryd.underlying5 Tryd.underlying9 (Kd.C_below HR.out hb))
      have HOK := Lib.hid hok
      have HPL := Lib.hid hpl
      clear e1 e2 e3 e4 hok hpl hb0 hval
      go_enter Tryd.func8, Tryd.ntmps8
      go_upto_region 4 with (first | (go_at_call 12; refine (HS.out _ HW.out).mono ?_; rintro e w1 ⟨rfl, hb1⟩; have HB1 := Lib.hid hb1; clear hb1) | (go_at_call 15; refine (HA1.out _ HB1.out).mono ?_; rintro e w2 ⟨rfl, hb2⟩; have HB2 := Lib.hid (HB1.out.trans (hb2.mono HB1.out.size)); clear hb2))
      go_wp2_with (first | (go_at_call 19; refine (HV1.out _ HB2.out).mono ?_; rintro e w3 ⟨rfl, hb3⟩; have HB3 := Lib.hid (HB2.out.trans (hb3.mono HB2.out.size)); clear hb3) | (go_at_call 17; refine (HC1.out _ HB3.out).mono ?_; rintro e w4 ⟨rfl, hb4⟩; have HB4 := Lib.hid (HB3.out.trans (hb4.mono HB3.out.size)); clear hb4) | (go_at_call 15; refine (HA2.out _ _ HB4.out (HGC.out _)).mono ?_; rintro e w5 ⟨rfl, hb5⟩; have HB5 := Lib.hid (HB4.out.trans (hb5.mono HB4.out.size)); clear hb5))
      go_loopg [47] (t2.size + 1) (fun gg s47 wr => ∃ i : Nat, s47 = .int .i64 (i : Int) ∧ i ≤ t2.size ∧ i + gg = t2.size + 1 ∧ Hid (Below w.heap.size w wr))
      case atStart => exact ⟨0, rfl, Nat.zero_le _, by omega, HB5⟩
      case round =>
        obtain ⟨i, rfl, hi, hgk, HB⟩ := hrel
        by_cases hlt : i < t2.size
        · obtain ⟨x, hx, hx0, hx13⟩ := decanterlaw02_CharClean.byte_ok HOK.out i hlt
          have hltz : (i : Int) < (t2.size : Int) := by omega
          go_wp2_with fail
          go_roundg (gk - 1)
          case measure => omega
          case rel => exact ⟨i + 1, rfl, by omega, by omega, HB⟩
        · have hltz : ¬ ((i : Int) < (t2.size : Int)) := by omega
          go_wp2_with (go_at_call 20; refine (HV2.out _ HB.out).mono ?_; rintro e w6 ⟨rfl, hb6⟩; have HB6 := Lib.hid (HB.out.trans (hb6.mono HB.out.size)); clear hb6)
          clear HV2 HA1 HA2 HC1 HV1
          go_loopg [5, 65] (l0.length + 1) (fun gg s5 s65 wr => ∃ j : Nat, s5 = .bool (decanterlaw02_CharClean.pl l0 j) ∧ s65 = .int .i64 (j : Int) ∧ j ≤ l0.length ∧ j + gg = l0.length + 1 ∧ Hid (Below w.heap.size w wr))
          case atStart => exact ⟨0, rfl, rfl, Nat.zero_le _, by omega, HB6⟩
          case round =>
            clear HB6 HB
            obtain ⟨j, rfl, rfl, hj, hgj, HB⟩ := hrel
            by_cases hlj : j < l0.length
            · obtain ⟨ad, hA, hx⟩ := Kd.at_int HR.out (j : Int) (by omega) (by omega)
              cases hA
              replace hx := (HB.out.cell (World.block_lt_of_cell? w _ hx)).trans hx
              rw [Int.toNat_natCast] at hx
              have hn := decanterlaw02_CharClean.pl_next l0 j hlj
              have hljz : (j : Int) < (l0.length : Int) := by omega
              generalize rd l0 (j : Int) = y at *
              unfold decanterlaw02_CharClean.okb at hn
              generalize hp : decanterlaw02_CharClean.pl l0 j = p at *
              cases p with
              | false =>
                go_wp2_with fail
                go_roundg (gk - 1)
                case measure => omega
                case rel => exact ⟨j + 1, by rw [hn]; rfl, rfl, by omega, by omega, HB⟩
              | true =>
                by_cases hy0 : y = 0
                · subst hy0
                  go_wp2_with fail
                  go_roundg (gk - 1)
                  case measure => omega
                  case rel => exact ⟨j + 1, by rw [hn]; rfl, rfl, by omega, by omega, HB⟩
                · have hy0b : (y != 0) = true := bne_iff_ne.2 hy0
                  by_cases hy13 : y = 13
                  · subst hy13
                    go_wp2_with fail
                    go_roundg (gk - 1)
                    case measure => omega
                    case rel => exact ⟨j + 1, by rw [hn]; rfl, rfl, by omega, by omega, HB⟩
                  · have hy13b : (y != 13) = true := bne_iff_ne.2 hy13
                    go_wp2_with fail
                    go_roundg (gk - 1)
                    case measure => omega
                    case rel => exact ⟨j + 1, by rw [hn, hy0b, hy13b]; rfl, rfl, by omega, by omega, HB⟩
            · obtain rfl : j = l0.length := by omega
              have hljz : ¬ ((l0.length : Int) < (l0.length : Int)) := by omega
              have hcv1 := HCV.out _ HB.out
              have HPL2 := HPL.out
              generalize hp : decanterlaw02_CharClean.pl l0 l0.length = p at *
              cases p with
              | false =>
                clear HPL2
                go_wp2_with (go_at_call 17; refine (HC2.out _ HB.out).mono ?_; rintro e w7 ⟨rfl, hb7⟩; have HB7 := Lib.hid (HB.out.trans (hb7.mono HB.out.size)); clear hb7)
                go_ret
                exact ⟨rfl, HB7.out⟩
              | true =>
                have hts : t2 = strOfNums l0 := by simpa using HPL2
                clear HPL2
                go_wp2_with (go_at_call 17; refine (HC2.out _ HB.out).mono ?_; rintro e w7 ⟨rfl, hb7⟩; have HB7 := Lib.hid (HB.out.trans (hb7.mono HB.out.size)); have hcv2 := HCV.out _ HB7.out; clear hb7)
                go_ret
                exact ⟨by first | rfl | simp, HB7.out⟩
    · cases g4
def decanterlaw02_CharClean.Pure : Prop := ∀ (l0 : List Int), l0.length ≤ maxLen → l0.length * 1 ≤ 140737488351232 → (∀ x ∈ l0, (Lit.int .u8 x).wf = true) → ∃ k, decanterlaw02_CharClean.f k l0 = some true
theorem decanterlaw02_CharClean.walk (P : decanterlaw02_CharClean.Pure) (a0 : Option Addr) (len0 cap0 : Nat) (z0 : List Int) (w : World) (hW : Wok w) (w0 : (a0 = none ∧ len0 = 0 ∧ cap0 = 0 ∧ z0 = []) ∨ ∃ x, a0 = some x ∧ len0 ≤ cap0 ∧ cap0 ≤ maxLen ∧ z0.length = cap0 ∧ (∀ i, i < z0.length → w.cell? (x.add i) = some (.int .u8 (z0.getD i 0))) ∧ ∀ n ∈ z0, (Lit.int .u8 n).wf = true) (y0 : len0 * 1 ≤ 140737488351232) :
    Calls Tryd.prog 8 #[.slice a0 len0 cap0] w fun e w' => e = .returned (.bool true) ∧ Below w.heap.size w w' := by
  obtain ⟨l0, rfl, hr0, hm0, hw0, hc0⟩ := ReadsInt.ofRowC w0
  obtain ⟨k, h⟩ := P l0 hm0 y0 hw0
  refine (decanterlaw02_CharClean.calls k _ _ l0 true w hW (Kd.C_of_reads (d := (0 : Int)) (h1 := fun _ => rfl) hr0) hc0 h).mono ?_
  rintro e w' ⟨rfl, hd⟩
  exact ⟨rfl, hd⟩
end Go.Proofs.YtinjbabmpnljoaaDoor.PChar
