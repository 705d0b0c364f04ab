/-
  ListAlike: the walk.
-/
import Derived.Test.YtcdkcnegejhnhaaLsAlike
namespace Go.Proofs.Ytcdkcnegejhnhaa.Ar
open Go.RowKit Go.Proofs.Ytcdkcnegejhnhaa.PAr Go.Proofs.YtcdkcnegejhnhaaW.PrintWords Go.Proofs.YtcdkcnegejhnhaaW.PrintLast Go.Proofs.YtcdkcnegejhnhaaW.PrintMore
set_option linter.unusedVariables false
theorem C_names {w : World} {A : Option Addr} {l : List ByteArray} (h : Kd.C Kd.string w A l.length l) : ReadsOf Value.string (⟨#[]⟩ : ByteArray) w A l.length l := by
  refine ⟨rfl, h.2.1, fun hn => ?_⟩
  obtain ⟨ad, rfl, hcs⟩ := h.2.2 hn
  refine ⟨ad, rfl, fun j hj => ?_⟩
  obtain ⟨cs, _, hc2, hc3⟩ := hcs j l[j] (List.getElem?_eq_getElem hj)
  obtain rfl : cs = [.string l[j]] := hc2
  have := hc3 0 _ rfl
  rw [show j * Kd.string.sz + 0 = j by show j * 1 + 0 = j; omega] at this
  rw [this, List.getD_eq_getElem?_getD, List.getElem?_eq_getElem hj, Option.getD_some]
theorem nm_at {w wr : World} {A : Option Addr} {l : List ByteArray} (h : ReadsOf Value.string (⟨#[]⟩ : ByteArray) w A l.length l) (hb : Below w.heap.size w wr) (i : Nat) (hi : i < l.length) :
    ∃ ad nm, A = some ad ∧ l.getD i ⟨#[]⟩ = nm ∧ wr.cell? (ad.add i) = some (.string nm) := by
  obtain ⟨ad, hA, hc⟩ := h.2.2 (by omega)
  exact ⟨ad, _, hA, rfl, pw_cell_below hb (hc i hi)⟩
theorem nm_at2 {w wr : World} {ad : Addr} {l : List ByteArray} (h : ReadsOf Value.string (⟨#[]⟩ : ByteArray) w (some ad) l.length l) (hb : Below w.heap.size w wr) (i : Nat) (hi : i < l.length) : wr.cell? (ad.add i) = some (.string (l.getD i ⟨#[]⟩)) := by
  obtain ⟨ad', hA, hc⟩ := h.2.2 (by omega)
  cases hA
  exact pw_cell_below hb (hc i hi)
set_option maxRecDepth 100000 in
set_option maxHeartbeats 8000000 in
theorem alike_calls (A0 : Option Addr) (c0 : Nat) (l0 : List ByteArray) (A1 : Option Addr) (c1 : Nat) (l1 : List S106) (w : World) (hr0 : Kd.C Kd.string w A0 l0.length l0) (hr1 : Kd.C k106 w A1 l1.length l1) (hc1 : l1.length ≤ c1) :
    Calls Try.prog 6 #[.slice A0 l0.length c0, .slice A1 l1.length c1] w fun e w' => e = .returned (.bool true) ∧ Below w.heap.size w w' := by
  have R0 := Lib.hid (C_names hr0)
  have R1 := Lib.hid hr1
  have CS := Lib.hid (fun W => speaks14 W)
  clear hr0 hr1
  by_cases hl : l0.length ≤ 40
  · have g1 : ¬ (40 : Int) < (l0.length : Int) := by omega
    have g2 : decide ((40 : Int) < (l0.length : Int)) = false := decide_eq_false g1
    by_cases hk : l1.length ≤ 10
    · have g3 : ¬ (10 : Int) < (l1.length : Int) := by omega
      have g4 : decide ((10 : Int) < (l1.length : Int)) = false := decide_eq_false g3
      have CN := Lib.hid (fun W => new_calls W)
      have HO := Lib.hid (fun (W : World) (hW : Below w.heap.size w W) => decanterlaw06_Of.calls 20 A1 c1 l1 (ofB l1) W (Kd.C_below R1.out hW) hc1 (of_eq l1 (by omega) 20 (by omega)))
      have HON := Lib.hid (fun (W : World) => decanterlaw06_Of.calls 20 none 0 [] [] W ⟨rfl, by simp, fun hh => by simp at hh⟩ (Nat.le_refl _) (of_eq [] (by simp) 20 (by simp)))
      go_enter Try.func6, Try.ntmps6
      go_upto_region 9 with (first
        | (go_at_call 30; refine (CS.out _).mono ?_; rintro e w1 ⟨rfl, hb1⟩; have B1 := Lib.hid hb1; clear hb1)
        | (go_at_call 16; refine (CN.out _).mono ?_; rintro e w2 ⟨rfl, hA2, hb2⟩; have A2 := Lib.hid hA2; have B2 := Lib.hid (B1.out.trans (hb2.mono B1.out.size)); have CL := Lib.hid (st_new hA2 hb2.size); have B12 := Lib.hid hb2; clear hA2 hb2)
        | (go_at_call 31; refine CL.out.mono ?_; rintro e w3 ⟨rfl, hS3, hb3⟩; have S3 := Lib.hid hS3; have B3 := Lib.hid (B2.out.trans (hb3.mono B2.out.size)); clear hS3 hb3 CL A2))
      go_wp2_with fail
      have UP := Lib.hid B1.out.size
      go_loopg [7, 8, 9, 37] (l0.length + 1) (fun gg s7 s8 s9 s37 wr => ∃ i : Nat, s37 = .int .i64 (i : Int) ∧ i ≤ l0.length ∧ i + gg = l0.length + 1 ∧ Hid (St wr w1.heap.size w1.heap.size w2.heap.size (alk l0 l1 i).1 (alk l0 l1 i).2) ∧ Hid (Below w.heap.size w wr))
      case atStart => exact ⟨0, rfl, Nat.zero_le _, by omega, S3, B3⟩
      case round =>
        obtain ⟨i, rfl, hi, hgk, HS, HB⟩ := hrel
        clear S3 B3 CN
        have good := Lib.hid (alk_good l0 l1 (by omega) i)
        by_cases hlt : i < l0.length
        · obtain ⟨ad, nm, rfl, hnm, E0⟩ := nm_at R0.out HB.out i hlt
          have i1 : (i : Int) < (l0.length : Int) := by omega
          have i0 : (0 : Int) ≤ (i : Int) := by omega
          have hel : (alk l0 l1 i).1.elems.length < ((alk l0 l1 i).1.element nm (attOf l1 i)).elems.length := by rw [(element_len _ _ _).1]; omega
          have hal : (attOf l1 i).length < 1000000 := by unfold attOf; split <;> first | decide | (rw [ofB_length]; omega)
          have HY := Lib.hid (show alk l0 l1 (i + 1) = stepB (alk l0 l1 i) nm (attOf l1 i) by rw [alk, hnm])
          have HE := Lib.hid (fun (A : Option Addr) (c : Nat) (W : World) (hW : St W w1.heap.size w1.heap.size w2.heap.size (alk l0 l1 i).1 (alk l0 l1 i).2) (hC : Kd.C k105 W A (attOf l1 i).length (attOf l1 i)) (hle : (attOf l1 i).length ≤ c) => st_element hW good.out (by omega) nm A c (attOf l1 i) hC hle hal)
          have HP := Lib.hid (fun (W : World) (hW : St W w1.heap.size w1.heap.size w2.heap.size ((alk l0 l1 i).1.element nm (attOf l1 i)) (alk l0 l1 i).2) => st_push hW (good.out.element nm (attOf l1 i) hal) (by omega) _ hel)
          rcases hX : nm.toList with _ | ⟨x, xs⟩
          · have x1 : (nm.toList == []) = true := by rw [hX]; rfl
            clear hX HE HP HY hel hal
            go_wp2
            go_ret
            exact ⟨rfl, HB.out⟩
          · have x1 : (nm.toList == []) = false := by rw [hX]; rfl
            by_cases h2 : i % 2 = 1
            · have h2b : ((i : Int) % 2 == 1) = true := beq_iff_eq.2 (by omega)
              have ha : attOf l1 i = [] := if_pos h2
              rw [ha] at HE HP HY
              clear hX hel hal ha h2 hnm
              go_wp2_with (first
                | (go_at_call 20; refine (HON.out _).mono ?_; rintro e w4 ⟨v4, rfl, hR4, hb4⟩; obtain ⟨A4, c4, rfl, hle4, hC4⟩ := Kd.R_reads hR4; have R4 := Lib.hid hC4; have L4 := Lib.hid hle4; have S4 := Lib.hid (HS.out.below hb4); have B4 := Lib.hid (HB.out.trans (hb4.mono HB.out.size)); clear hR4 hb4 hC4 hle4)
                | (go_at_call 19; refine (HE.out _ _ _ S4.out R4.out L4.out).mono ?_; rintro e w5 ⟨rfl, h5, hb5⟩; have S5 := Lib.hid h5; have B5 := Lib.hid (B4.out.trans (hb5.mono UP.out)); clear h5 hb5)
                | (go_at_call 32; refine (HP.out _ S5.out).mono ?_; rintro e w6 ⟨rfl, h6, hb6⟩; have S6 := Lib.hid h6; have B6 := Lib.hid (B5.out.trans (hb6.mono UP.out)); clear h6 hb6))
              go_roundg (gk - 1)
              case measure => omega
              case rel => exact ⟨i + 1, by first | rfl | go_num, by omega, by omega, by rw [HY.out]; exact S6, B6⟩
            · have h2b : ((i : Int) % 2 == 1) = false := beq_eq_false_iff_ne.2 (by omega)
              have ha : attOf l1 i = ofB l1 := if_neg h2
              rw [ha] at HE HP HY
              clear hX hel hal ha h2 hnm
              go_wp2_with (first
                | (go_at_call 20; refine (HO.out _ HB.out).mono ?_; rintro e w4 ⟨v4, rfl, hR4, hb4⟩; obtain ⟨A4, c4, rfl, hle4, hC4⟩ := Kd.R_reads hR4; have R4 := Lib.hid hC4; have L4 := Lib.hid hle4; have S4 := Lib.hid (HS.out.below hb4); have B4 := Lib.hid (HB.out.trans (hb4.mono HB.out.size)); clear hR4 hb4 hC4 hle4)
                | (go_at_call 19; refine (HE.out _ _ _ S4.out R4.out L4.out).mono ?_; rintro e w5 ⟨rfl, h5, hb5⟩; have S5 := Lib.hid h5; have B5 := Lib.hid (B4.out.trans (hb5.mono UP.out)); clear h5 hb5)
                | (go_at_call 32; refine (HP.out _ S5.out).mono ?_; rintro e w6 ⟨rfl, h6, hb6⟩; have S6 := Lib.hid h6; have B6 := Lib.hid (B5.out.trans (hb6.mono UP.out)); clear h6 hb6))
              go_roundg (gk - 1)
              case measure => omega
              case rel => exact ⟨i + 1, by first | rfl | go_num, by omega, by omega, by rw [HY.out]; exact S6, B6⟩
        · obtain rfl : i = l0.length := by omega
          clear hi hgk hlt HO HON
          generalize wr = wz at *
          go_wp2_with fail
          go_loopg [10, 11, 12, 13, 14, 58] (l0.length + 1) (fun gg s10 s11 s12 s13 s14 s58 wn => ∃ i : Nat, s58 = .int .i64 (i : Int) ∧ i ≤ l0.length ∧ i + gg = l0.length + 1 ∧ Hid (IR wn wz.heap.size s10 (wantU l0 l1 i)) ∧ Hid (Below wz.heap.size wz wn))
          case atStart => exact ⟨0, rfl, Nat.zero_le _, by omega, Lib.hid (IR.nil _ _), Lib.hid (Below.refl _ _)⟩
          case round =>
            obtain ⟨i, rfl, hi, hgk, HI, HW⟩ := hrel
            obtain ⟨gq, hgq⟩ : ∃ gq, gq = gk := ⟨_, rfl⟩
            have HB2 := Lib.hid (HB.out.trans (HW.out.mono HB.out.size))
            by_cases hlt : i < l0.length
            · obtain ⟨ad, nm, rfl, hnm, E0⟩ := nm_at R0.out HB2.out i hlt
              have i1 : (i : Int) < (l0.length : Int) := by omega
              have i0 : (0 : Int) ≤ (i : Int) := by omega
              have hwi : IntKind.i64.wrap ((i : Int) + 1) = ((i + 1 : Nat) : Int) := by rw [IntWalk.i64_in _ (by omega)]; rfl
              go_wp2_with fail
              go_loopg [13, 14] (l0.length - i) (fun gg s13 s14 wq => ∃ k : Nat, s14 = .int .i64 (k : Int) ∧ i + 1 ≤ k ∧ k ≤ l0.length ∧ k + gg = l0.length + 1 ∧ s13 = .int .i64 ((behind l0 l1 i k : Nat) : Int) ∧ wq = wr)
              case atStart => exact ⟨i + 1, rfl, Nat.le_refl _, by omega, by omega, by rw [behind_start]; rfl, rfl⟩
              case round =>
                obtain ⟨k, rfl, hk1, hk2, hgk2, rfl, rfl⟩ := hrel
                by_cases hk3 : k < l0.length
                · have E1 := nm_at2 R0.out HB2.out k hk3
                  have k1 : (k : Int) < (l0.length : Int) := by omega
                  have k0 : (0 : Int) ≤ (k : Int) := by omega
                  have hwk : IntKind.i64.wrap ((k : Int) + 1) = ((k + 1 : Nat) : Int) := by rw [IntWalk.i64_in _ (by omega)]; rfl
                  have hbl := behind_le l0 l1 i k
                  have hst := behind_step' l0 l1 i k hk1
                  have hwb : IntKind.i64.wrap (((behind l0 l1 i k : Nat) : Int) + 1) = ((behind l0 l1 i k + 1 : Nat) : Int) := by rw [IntWalk.i64_in _ (by omega)]; rfl
                  have hsim : simL l0 l1 i k = (((l0.getD k ⟨#[]⟩).toList == nm.toList) && (decide (k % 2 = i % 2) || decide (l1.length = 0))) := by rw [← hnm]; rfl
                  generalize behind l0 l1 i k = b at *
                  generalize l0.getD k ⟨#[]⟩ = nk at *
                  have HST := Lib.hid hst
                  clear hst hbl hnm
                  by_cases c1 : nk.toList = nm.toList
                  · have d1 : (nk.toList == nm.toList) = true := beq_iff_eq.2 c1
                    rw [d1, Bool.true_and] at hsim
                    by_cases c2 : k % 2 = i % 2
                    · have d2 : ((k : Int) % 2 == (i : Int) % 2) = true := beq_iff_eq.2 (by omega)
                      have hs : simL l0 l1 i k = true := by rw [hsim, decide_eq_true c2]; rfl
                      have hb : behind l0 l1 i (k + 1) = b + 1 := by rw [HST.out, if_pos hs]
                      have HBB := Lib.hid hb
                      clear hsim hs hb c1 c2
                      go_wp2
                      go_roundg (gk - 1)
                      case measure => omega
                      case rel => exact ⟨k + 1, by first | rfl | go_num, by omega, by omega, by omega, by rw [HBB.out]; first | rfl | go_num, rfl⟩
                    · have d2 : ((k : Int) % 2 == (i : Int) % 2) = false := beq_eq_false_iff_ne.2 (by omega)
                      rw [decide_eq_false c2, Bool.false_or] at hsim
                      by_cases c3 : l1.length = 0
                      · have d3 : ((l1.length : Int) == 0) = true := beq_iff_eq.2 (by omega)
                        have hs : simL l0 l1 i k = true := by rw [hsim, decide_eq_true c3]
                        have hb : behind l0 l1 i (k + 1) = b + 1 := by rw [HST.out, if_pos hs]
                        have HBB := Lib.hid hb
                        clear hsim hs hb c1 c2 c3
                        go_wp2
                        go_roundg (gk - 1)
                        case measure => omega
                        case rel => exact ⟨k + 1, by first | rfl | go_num, by omega, by omega, by omega, by rw [HBB.out]; first | rfl | go_num, rfl⟩
                      · have d3 : ((l1.length : Int) == 0) = false := beq_eq_false_iff_ne.2 (by omega)
                        have hs : simL l0 l1 i k = false := by rw [hsim, decide_eq_false c3]
                        have hb : behind l0 l1 i (k + 1) = b := by rw [HST.out, hs, if_neg (by decide)]; rfl
                        have HBB := Lib.hid hb
                        clear hsim hs hb c1 c2 c3
                        go_wp2
                        go_roundg (gk - 1)
                        case measure => omega
                        case rel => exact ⟨k + 1, by first | rfl | go_num, by omega, by omega, by omega, by rw [HBB.out], rfl⟩
                  · have d1 : (nk.toList == nm.toList) = false := beq_eq_false_iff_ne.2 c1
                    have hs : simL l0 l1 i k = false := by rw [hsim, d1, Bool.false_and]
                    have hb : behind l0 l1 i (k + 1) = b := by rw [HST.out, hs, if_neg (by decide)]; rfl
                    have HBB := Lib.hid hb
                    clear hsim hs hb c1
                    go_wp2
                    go_roundg (gk - 1)
                    case measure => omega
                    case rel => exact ⟨k + 1, by first | rfl | go_num, by omega, by omega, by omega, by rw [HBB.out], rfl⟩
                · obtain rfl : k = l0.length := by omega
                  have hwl := wantU_len l0 l1 i
                  by_cases h3 : behind l0 l1 i l0.length < 3
                  · have h3i : ((behind l0 l1 i l0.length : Nat) : Int) < 3 := by omega
                    have HU := Lib.hid (show wantU l0 l1 (i + 1) = wantU l0 l1 i ++ [((i + 1 : Nat) : Int)] by rw [wantU, if_pos h3]; rfl)
                    generalize behind l0 l1 i l0.length = b at *
                    clear h3 hnm
                    go_wp2_with (refine print_append_num (w0 := wz) (W := wr) wz.heap.size rfl (.tmp 93) (.tmp 96) 53 3 .i64 8 rfl Try.underlying53 info3 (by decide) u10 (wantU l0 l1 i) ((i + 1 : Nat) : Int) rfl rfl HI.out HW.out HW.out.size (by omega) ?_; intro v5 w5 ho5 hb5 _ _; have O5 := Lib.hid ho5; have B5 := Lib.hid hb5; clear ho5 hb5)
                    go_roundg (gq - 1)
                    case measure => omega
                    case rel => exact ⟨i + 1, by first | rfl | go_num, by omega, by omega, by rw [HU.out]; exact O5, B5⟩
                  · have h3i : ¬ ((behind l0 l1 i l0.length : Nat) : Int) < 3 := by omega
                    have HU := Lib.hid (show wantU l0 l1 (i + 1) = wantU l0 l1 i by rw [wantU, if_neg h3])
                    generalize behind l0 l1 i l0.length = b at *
                    clear h3 hnm
                    go_wp2
                    go_roundg (gq - 1)
                    case measure => omega
                    case rel => exact ⟨i + 1, by first | rfl | go_num, by omega, by omega, by rw [HU.out]; exact HI, HW⟩
            · obtain rfl : i = l0.length := by omega
              clear hi hgk hlt
              have HR := Lib.hid (fun (W : World) (hW : Below w.heap.size w W) => decanterref06_Same.calls 30 A1 c1 l1 A1 c1 l1 (eqA l1 l1) W (Kd.C_below R1.out hW) hc1 (Kd.C_below R1.out hW) hc1 (ref_same l1 l1 (by omega) 30 (by omega)))
              have HA := Lib.hid (fun (W : World) (hW : Below wz.heap.size wz W) => st_all (HS.out.below hW) good.out (by omega))
              rcases hq : eqA l1 l1 with _ | _
              · rw [hq] at HR
                clear hq
                go_wp2_with (go_at_call 33; refine (HR.out _ HB2.out).mono ?_; rintro e w7 ⟨rfl, hd7⟩; have B7 := Lib.hid (HB2.out.trans ((Drawn0.below hd7).mono HB2.out.size)); clear hd7)
                go_ret
                exact ⟨rfl, B7.out⟩
              · rw [hq] at HR
                have he := alk_last l0 l1 hq (by omega) l0.length
                rw [← want_last] at he
                have HEq := Lib.hid he
                have hwl := wantU_len l0 l1 l0.length
                clear hq he
                go_wp2_with (first
                  | (go_at_call 33; refine (HR.out _ HB2.out).mono ?_; rintro e w7 ⟨rfl, hd7⟩; have D7 := Lib.hid (Drawn0.below hd7); clear hd7)
                  | (go_at_call 35; refine (HA.out _ (HW.out.trans (D7.out.mono HW.out.size))).mono ?_; rintro e w8 ⟨v8, rfl, h8, hb8⟩; have I8 := Lib.hid h8; have B8 := Lib.hid hb8; have I9 := Lib.hid ((HI.out.move fun q hq => D7.out.block q (HI.out.lt q hq).2).move fun q hq => hb8.block q (Nat.lt_of_lt_of_le (HI.out.lt q hq).2 D7.out.size)); clear h8 hb8)
                  | (go_at_call 34; refine (same_calls I8.out I9.out HEq.out (by rw [HEq.out]; omega)).mono ?_; rintro e w10 ⟨rfl, hb10⟩; have B10 := Lib.hid ((HB2.out.trans ((D7.out.trans (B8.out.mono D7.out.size)).mono HB2.out.size)).trans (hb10.mono (Nat.le_trans HB2.out.size (Nat.le_trans D7.out.size B8.out.size)))); clear hb10))
                go_ret
                exact ⟨rfl, B10.out⟩
    · have g3 : (10 : Int) < (l1.length : Int) := by omega
      have g4 : decide ((10 : Int) < (l1.length : Int)) = true := decide_eq_true g3
      go_enter Try.func6, Try.ntmps6
      go_wp2_with (go_at_call 30; first | (refine (CS.out w).mono ?_; rintro e w1 ⟨rfl, hb1⟩; have B1 := Lib.hid hb1; clear hb1) | (refine (CS.out _).mono ?_; rintro e w2 ⟨rfl, hb2⟩; have B2 := Lib.hid (B1.out.trans (hb2.mono B1.out.size)); clear hb2))
      go_ret
      exact ⟨rfl, B2.out⟩
  · have g1 : (40 : Int) < (l0.length : Int) := by omega
    have g2 : decide ((40 : Int) < (l0.length : Int)) = true := decide_eq_true g1
    go_enter Try.func6, Try.ntmps6
    go_wp2_with (go_at_call 30; first | (refine (CS.out w).mono ?_; rintro e w1 ⟨rfl, hb1⟩; have B1 := Lib.hid hb1; clear hb1) | (refine (CS.out _).mono ?_; rintro e w2 ⟨rfl, hb2⟩; have B2 := Lib.hid (B1.out.trans (hb2.mono B1.out.size)); clear hb2))
    go_ret
    exact ⟨rfl, B2.out⟩
end Go.Proofs.Ytcdkcnegejhnhaa.Ar
