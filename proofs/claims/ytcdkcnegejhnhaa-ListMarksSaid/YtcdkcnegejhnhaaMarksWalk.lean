/-
  ListMarks: the walk.
-/
import Derived.Test.YtcdkcnegejhnhaaLsLast
namespace Go.Proofs.Ytcdkcnegejhnhaa.Ar
open Go.RowKit Go.Proofs.Ytcdkcnegejhnhaa.PAr Go.Proofs.YtcdkcnegejhnhaaW.PrintWords Go.Proofs.YtcdkcnegejhnhaaW.PrintLast Go.Proofs.YtcdkcnegejhnhaaW.PrintMore
set_option linter.unusedVariables false
theorem info9 : (Try.prog.info? 9).map (fun i => (i.zero, i.size, i.bytes)) = some (some (.string ⟨#[]⟩), 1, 16) := by kernel_rfl
theorem C_strings {w : World} {A : Option Addr} {l : List ByteArray} (h : Kd.C Kd.string w A l.length l) : ReadsOf Value.string (⟨#[]⟩ : ByteArray) w A l.length l := by
  refine ⟨rfl, h.2.1, fun hn => ?_⟩
  obtain ⟨ad, rfl, hcs⟩ := h.2.2 hn
  refine ⟨ad, rfl, fun j hj => ?_⟩
  obtain ⟨cs, _, hc2, hc3⟩ := hcs j l[j] (List.getElem?_eq_getElem hj)
  obtain rfl : cs = [.string l[j]] := hc2
  have := hc3 0 _ rfl
  rw [show j * Kd.string.sz + 0 = j by show j * 1 + 0 = j; omega] at this
  rw [this, List.getD_eq_getElem?_getD, List.getElem?_eq_getElem hj, Option.getD_some]
theorem name_at {w wr : World} {A : Option Addr} {l : List ByteArray} (h : ReadsOf Value.string (⟨#[]⟩ : ByteArray) w A l.length l) (hb : Below w.heap.size w wr) (i : Nat) (hi : i < l.length) :
    ∃ ad nm, A = some ad ∧ l.getD i ⟨#[]⟩ = nm ∧ wr.cell? (ad.add i) = some (.string nm) := by
  obtain ⟨ad, hA, hc⟩ := h.2.2 (by omega)
  exact ⟨ad, _, hA, rfl, pw_cell_below hb (hc i hi)⟩
set_option maxRecDepth 100000 in
set_option maxHeartbeats 8000000 in
theorem marks_calls (A0 : Option Addr) (c0 : Nat) (l0 : List ByteArray) (A1 : Option Addr) (c1 : Nat) (l1 : List ByteArray) (w : World) (hr0 : Kd.C Kd.string w A0 l0.length l0) (hr1 : Kd.C Kd.string w A1 l1.length l1) :
    Calls Try.prog 9 #[.slice A0 l0.length c0, .slice A1 l1.length c1] w fun e w' => e = .returned (.bool true) ∧ Below w.heap.size w w' := by
  have R0 := Lib.hid (C_strings hr0)
  have R1 := Lib.hid (C_strings hr1)
  have CS := Lib.hid (fun W => speaks14 W)
  clear hr0 hr1
  by_cases hl : l0.length ≤ 20
  · have g1 : ¬ (20 : Int) < (l0.length : Int) := by omega
    have g2 : decide ((20 : Int) < (l0.length : Int)) = false := decide_eq_false g1
    by_cases hk : l1.length ≤ 20
    · have g3 : ¬ (20 : Int) < (l1.length : Int) := by omega
      have g4 : decide ((20 : Int) < (l1.length : Int)) = false := decide_eq_false g3
      have CN := Lib.hid (fun W => new_calls W)
      go_enter Try.func9, Try.ntmps9
      go_upto_region 9 with (first
        | (go_at_call 30; refine (CS.out _).mono ?_; rintro e w1 ⟨rfl, hb1⟩; have B1 := Lib.hid hb1; clear hb1)
        | (go_at_call 16; refine (CN.out _).mono ?_; rintro e w2 ⟨rfl, hA2, hb2⟩; have A2 := Lib.hid hA2; have B2 := Lib.hid (B1.out.trans (hb2.mono B1.out.size)); have CL := Lib.hid (st_new hA2 hb2.size); have B12 := Lib.hid hb2; clear hA2 hb2)
        | (go_at_call 31; refine CL.out.mono ?_; rintro e w3 ⟨rfl, hS3, hb3⟩; have S3 := Lib.hid hS3; have B3 := Lib.hid (B2.out.trans (hb3.mono B2.out.size)); clear hS3 hb3 CL A2))
      obtain ⟨L, hL⟩ : ∃ L, l0 ++ l1 = L := ⟨_, rfl⟩
      have hLl : L.length ≤ 40 := by rw [← hL, List.length_append]; omega
      have HL := Lib.hid hL
      clear hL
      go_wp2_with (first
        | (refine print_append_row_of (w0 := w3) (W := w3.alloc (.cells #[] 9)) Value.string (⟨#[]⟩ : ByteArray) w3.heap.size rfl (.tmp 41) (.tmp 42) 49 9 (.string ⟨#[]⟩) 16 rfl Try.underlying49 info9 rfl (by decide) (fun _ => rfl) (.slice (some ⟨w3.heap.size, 0, none⟩) 0 0) [] l0 A0 l0.length c0 rfl rfl (own_lit_of (enc := Value.string) w3 w3.heap.size 9 [] (Nat.le_refl _) (by decide)) (R0.out.below (B3.out.alloc B3.out.size _)) ((Below.refl _ w3).alloc (Nat.le_refl _) _) (by simp) (by simp; omega) ?_; intro v5 w5 ho5 hb5 _ _; rw [List.nil_append] at ho5; have O5 := Lib.hid ho5; have B5 := Lib.hid hb5; clear ho5 hb5)
        | (refine print_append_row_of (w0 := w3) (W := w5) Value.string (⟨#[]⟩ : ByteArray) w3.heap.size rfl (.tmp 43) (.tmp 44) 49 9 (.string ⟨#[]⟩) 16 rfl Try.underlying49 info9 rfl (by decide) (fun _ => rfl) v5 l0 l1 A1 l1.length c1 rfl rfl O5.out (R1.out.below (B3.out.trans (B5.out.mono B3.out.size))) B5.out B5.out.size (by omega) ?_; intro v6 w6 ho6 hb6 _ _; rw [HL.out] at ho6; obtain ⟨A6, k6, rfl, h6⟩ := own_reads_of (d := (⟨#[]⟩ : ByteArray)) ho6; have R6 := Lib.hid h6; have B6 := Lib.hid hb6; clear ho6 hb6 h6))
      have S6 := Lib.hid (S3.out.below B6.out)
      have B7 := Lib.hid (B3.out.trans (B6.out.mono B3.out.size))
      clear HL
      have R7 := R6
      generalize hN : L.length = N at *
      clear R6 S3 O5 B5 B6 CN
      go_loopg [8, 47] (N + 1) (fun gg s8 s47 wr => ∃ i : Nat, s47 = .int .i64 (i : Int) ∧ i ≤ N ∧ i + gg = N + 1 ∧ wr = w6)
      case atStart => exact ⟨0, rfl, Nat.zero_le _, by omega, rfl⟩
      case round =>
        obtain ⟨i, rfl, hi, hgk, rfl⟩ := hrel
        by_cases hlt : i < N
        · obtain ⟨ad, nm, rfl, _, E0⟩ := name_at (l := L) (by rw [hN]; exact R7.out) (Below.refl _ _) i (by rw [hN]; exact hlt)
          have i1 : (i : Int) < (N : Int) := by omega
          have i0 : (0 : Int) ≤ (i : Int) := by omega
          rcases hX : nm.toList with _ | ⟨x, xs⟩
          · have x1 : (nm.toList == []) = true := by rw [hX]; rfl
            clear hX
            go_wp2
            go_ret
            exact ⟨rfl, B7.out⟩
          · have x1 : (nm.toList == []) = false := by rw [hX]; rfl
            clear hX
            go_wp2
            go_roundg (gk - 1)
            case measure => omega
            case rel => exact ⟨i + 1, by first | rfl | go_num, by omega, by omega, rfl⟩
        · have i1 : ¬ (i : Int) < (N : Int) := by omega
          clear R7 hlt hi hgk hN
          go_wp2_with fail
          have UP := Lib.hid B1.out.size
          go_loopg [10, 56] (l0.length + 1) (fun gg s10 s56 wr => ∃ i : Nat, s56 = .int .i64 (i : Int) ∧ i ≤ l0.length ∧ i + gg = l0.length + 1 ∧ Hid (St wr w1.heap.size w1.heap.size w2.heap.size (pushes (M.new, []) l0 i).1 (pushes (M.new, []) l0 i).2) ∧ Hid (Below w.heap.size w wr))
          case atStart => exact ⟨0, rfl, Nat.zero_le _, by omega, S6, B7⟩
          case round =>
            obtain ⟨i, rfl, hi, hgk, HS, HB⟩ := hrel
            clear S6 B7
            have good := Lib.hid (pushes_good (s := (M.new, [])) Gd.new l0 i)
            by_cases hlt : i < l0.length
            · obtain ⟨ad, nm, rfl, hnm, E0⟩ := name_at R0.out HB.out i hlt
              have HG := Lib.hid hnm
              clear hnm
              have i1 : (i : Int) < (l0.length : Int) := by omega
              have i0 : (0 : Int) ≤ (i : Int) := by omega
              have HE := Lib.hid (st_element HS.out good.out (by omega) nm none 0 [] (C_nil wr) (Nat.le_refl _) (by decide))
              have hel : (pushes (M.new, []) l0 i).1.elems.length < ((pushes (M.new, []) l0 i).1.element nm []).elems.length := by rw [(element_len _ _ _).1]; omega
              have HP := Lib.hid (fun (W : World) (hW : St W w1.heap.size w1.heap.size w2.heap.size ((pushes (M.new, []) l0 i).1.element nm []) (pushes (M.new, []) l0 i).2) => st_push hW (good.out.element nm [] (by decide)) (by omega) _ hel)
              have HY := Lib.hid (show pushes (M.new, []) l0 (i + 1) = stepB (pushes (M.new, []) l0 i) nm [] by rw [pushes, HG.out])
              clear hel
              go_wp2_with (first
                | (go_at_call 19; refine HE.out.mono ?_; rintro e w8 ⟨rfl, hS8, hb8⟩; have S8 := Lib.hid hS8; have B8 := Lib.hid (HB.out.trans (hb8.mono UP.out)); clear hS8 hb8)
                | (go_at_call 32; refine (HP.out _ S8.out).mono ?_; rintro e w9 ⟨rfl, hS9, hb9⟩; have S9 := Lib.hid hS9; have B9 := Lib.hid (B8.out.trans (hb9.mono UP.out)); clear hS9 hb9))
              go_roundg (gk - 1)
              case measure => omega
              case rel => exact ⟨i + 1, by first | rfl | go_num, by omega, by omega, by rw [HY.out]; exact S9, B9⟩
            · obtain rfl : i = l0.length := by omega
              have gq := good.out
              generalize pushes (M.new, []) l0 l0.length = s at *
              obtain ⟨m, xs⟩ := s
              simp only at gq
              have hxl : xs.length ≤ 41 := by have := gq.len; omega
              have gd := Lib.hid (show Gd m xs 41 from ⟨gq.els, gq.ent, by have := gq.nodes; omega, by have := gq.elems; omega, hxl⟩)
              have HA := Lib.hid (st_all HS.out gd.out (by omega))
              clear gq good hi hgk hlt
              go_upto_region 21 with (go_at_call 35; refine HA.out.mono ?_; rintro e w10 ⟨v10, rfl, h10, hb10⟩; have K10 := Lib.hid (StK.of HS.out hb10 h10); obtain ⟨A10, c10, rfl, hc10, _⟩ := h10.reads; have B10 := Lib.hid (HB.out.trans (hb10.mono HB.out.size)); clear h10 hb10 HA)
              have HM := Lib.hid (stk_mark K10.out gd.out (by omega))
              go_upto_region 22 with (go_at_call 53; refine HM.out.mono ?_; rintro e w11 ⟨rfl, h11, hb11⟩; have K11 := Lib.hid h11; have B11 := Lib.hid (B10.out.trans (hb11.mono UP.out)); clear h11 hb11 HM)
              have gm := Lib.hid gd.out.mark
              clear HS HB K10 B10
              go_wp2_with fail
              go_loopg [13, 14, 15, 72] (l0.length + 1) (fun gg s13 s14 s15 s72 wr => ∃ i : Nat, s72 = .int .i64 (i : Int) ∧ i ≤ l0.length ∧ i + gg = l0.length + 1 ∧ Hid (StK wr w1.heap.size w1.heap.size w2.heap.size m (xs ++ [-1]) (.slice A10 xs.length c10) xs) ∧ Hid (Below w.heap.size w wr))
              case atStart => exact ⟨0, rfl, Nat.zero_le _, by omega, K11, B11⟩
              case round =>
                obtain ⟨i, rfl, hi, hgk, HS, HB⟩ := hrel
                clear K11 B11
                by_cases hlt : i < l0.length
                · obtain ⟨ad, nm, rfl, _, E0⟩ := name_at R0.out HB.out i hlt
                  have i1 : (i : Int) < (l0.length : Int) := by omega
                  have i0 : (0 : Int) ≤ (i : Int) := by omega
                  have HLs := Lib.hid (show Calls Try.prog 54 #[.pointer (some ⟨w2.heap.size, 0, none⟩), .string nm] wr fun e w' => e = .returned (.tuple #[.int .i64 0, .bool false]) ∧ Below wr.heap.size wr w' by
                    have := stk_last HS.out gm.out (by omega) nm
                    unfold lastV lastB at this
                    rwa [lastL_mark] at this)
                  go_wp2_with (go_at_call 54; refine HLs.out.mono ?_; rintro e w12 ⟨rfl, hb12⟩; have K12 := Lib.hid (HS.out.below hb12); have B12' := Lib.hid (HB.out.trans (hb12.mono HB.out.size)); clear hb12)
                  go_roundg (gk - 1)
                  case measure => omega
                  case rel => exact ⟨i + 1, by first | rfl | go_num, by omega, by omega, K12, B12'⟩
                · have i1 : ¬ (i : Int) < (l0.length : Int) := by omega
                  clear hi hgk hlt
                  go_wp2_with fail
                  have hw1 : IntKind.i64.wrap ((xs.length : Int) + 1) = ((xs.length + 1 : Nat) : Int) := by rw [IntWalk.i64_in _ (by omega)]; rfl
                  go_loopg [16, 17, 18, 19, 20, 86] (l1.length + 1) (fun gg s16 s17 s18 s19 s20 s86 wr => ∃ i : Nat, s86 = .int .i64 (i : Int) ∧ i ≤ l1.length ∧ i + gg = l1.length + 1 ∧ Hid (StK wr w1.heap.size w1.heap.size w2.heap.size (pushes (m, xs ++ [-1]) l1 i).1 (pushes (m, xs ++ [-1]) l1 i).2 (.slice A10 xs.length c10) xs) ∧ Hid (Below w.heap.size w wr))
                  case atStart => exact ⟨0, rfl, Nat.zero_le _, by omega, HS, HB⟩
                  case round =>
                    clear HS HB i1
                    obtain ⟨i, rfl, hi, hgk, HS, HB⟩ := hrel
                    have good := Lib.hid (pushes_good (s := (m, xs ++ [-1])) gm.out l1 i)
                    by_cases hlt : i < l1.length
                    · obtain ⟨ad, nm, rfl, hnm, E0⟩ := name_at R1.out HB.out i hlt
                      obtain ⟨K, hF, hK1, hK2, hLa⟩ := behind_step m xs l1 gd.out.ent i
                      have hel := pushes_elems (m, xs ++ [-1]) l1 i
                      have good2 := Lib.hid (pushes_good (s := (m, xs ++ [-1])) gm.out l1 (i + 1))
                      rw [hnm] at hLa
                      have hY : pushes (m, xs ++ [-1]) l1 (i + 1) = stepB (pushes (m, xs ++ [-1]) l1 i) nm [] := by rw [pushes, hnm]
                      have HE := stk_element HS.out good.out (by omega) nm none 0 [] (C_nil wr) (Nat.le_refl _) (by decide)
                      have HP := fun (W : World) (hW : StK W w1.heap.size w1.heap.size w2.heap.size ((pushes (m, xs ++ [-1]) l1 i).1.element nm []) (pushes (m, xs ++ [-1]) l1 i).2 (.slice A10 xs.length c10) xs) => stk_push hW (good.out.element nm [] (by decide)) (by omega) (pushes (m, xs ++ [-1]) l1 i).1.elems.length (by rw [(element_len _ _ _).1]; omega)
                      have hst : pushL ((pushes (m, xs ++ [-1]) l1 i).1.element nm []) (pushes (m, xs ++ [-1]) l1 i).2 (pushes (m, xs ++ [-1]) l1 i).1.elems.length = (stepB (pushes (m, xs ++ [-1]) l1 i) nm []).2 := rfl
                      have hst1 : (pushes (m, xs ++ [-1]) l1 i).1.element nm [] = (stepB (pushes (m, xs ++ [-1]) l1 i) nm []).1 := rfl
                      simp only [hst] at HP
                      simp only [hst1] at HP HE
                      rw [← hY] at HE
                      simp only [← hY] at HP
                      rw [hel] at HE
                      simp only [hel] at HP
                      have HLs := fun (W : World) (hW : StK W w1.heap.size w1.heap.size w2.heap.size (pushes (m, xs ++ [-1]) l1 (i + 1)).1 (pushes (m, xs ++ [-1]) l1 (i + 1)).2 (.slice A10 xs.length c10) xs) => stk_last hW good2.out (by omega) nm
                      have HFi := fun (W : World) (hW : StK W w1.heap.size w1.heap.size w2.heap.size (pushes (m, xs ++ [-1]) l1 (i + 1)).1 (pushes (m, xs ++ [-1]) l1 (i + 1)).2 (.slice A10 xs.length c10) xs) => stk_find hW (by have := good2.out.len; omega) ((m.elems.length + i : Nat) : Int)
                      unfold lastV lastB at HLs
                      simp only [hLa, Option.getD_some, Option.isSome_some] at HLs
                      simp only [hF] at HFi
                      replace HE := Lib.hid HE
                      replace HP := Lib.hid HP
                      replace HLs := Lib.hid HLs
                      replace HFi := Lib.hid HFi
                      generalize pushes (m, xs ++ [-1]) l1 i = s at *
                      generalize hs' : pushes (m, xs ++ [-1]) l1 (i + 1) = s' at *
                      have HS' := Lib.hid hs'
                      generalize m.elems.length + i = E at *
                      clear hst hst1 hY hel hF hLa hnm good good2 hs'
                      have i1 : (i : Int) < (l1.length : Int) := by omega
                      have i0 : (0 : Int) ≤ (i : Int) := by omega
                      have k1 : ¬ (K : Int) < ((xs.length + 1 : Nat) : Int) := by omega
                      by_cases hi0 : i = 0
                      · have z1 : ((i : Int) == 0) = true := beq_iff_eq.2 (by omega)
                        obtain rfl := hK2 hi0
                        clear hK1 hK2 hi0
                        go_wp2_with (first
                          | (go_at_call 19; refine HE.out.mono ?_; rintro e w13 ⟨rfl, h13, hb13⟩; have K13 := Lib.hid h13; have B13 := Lib.hid (HB.out.trans (hb13.mono UP.out)); clear h13 hb13)
                          | (go_at_call 32; refine (HP.out _ K13.out).mono ?_; rintro e w14 ⟨rfl, h14, hb14⟩; have K14 := Lib.hid h14; have B14 := Lib.hid (B13.out.trans (hb14.mono UP.out)); clear h14 hb14)
                          | (go_at_call 54; refine (HLs.out _ K14.out).mono ?_; rintro e w15 ⟨rfl, hb15⟩; have K15 := Lib.hid (K14.out.below hb15); have B15 := Lib.hid (B14.out.trans (hb15.mono B14.out.size)); clear hb15)
                          | (go_at_call 55; refine (HFi.out _ K15.out).mono ?_; rintro e w16 ⟨rfl, n16, rfl⟩; have K16 := Lib.hid (K15.out.below (below_drewN0 w15 n16)))
                          | (go_at_call 55; refine (HFi.out _ K16.out).mono ?_; rintro e w17 ⟨rfl, n17, rfl⟩))
                        go_roundg (gk - 1)
                        case measure => omega
                        case rel => exact ⟨i + 1, by first | rfl | go_num, by omega, by omega, by rw [HS'.out]; exact Lib.hid (K15.out.below (below_drewN0 w15 _)), Lib.hid (bd B15.out _)⟩
                      · have z1 : ((i : Int) == 0) = false := beq_eq_false_iff_ne.2 (by omega)
                        clear hK1 hK2 hi0
                        go_wp2_with (first
                          | (go_at_call 19; refine HE.out.mono ?_; rintro e w13 ⟨rfl, h13, hb13⟩; have K13 := Lib.hid h13; have B13 := Lib.hid (HB.out.trans (hb13.mono UP.out)); clear h13 hb13)
                          | (go_at_call 32; refine (HP.out _ K13.out).mono ?_; rintro e w14 ⟨rfl, h14, hb14⟩; have K14 := Lib.hid h14; have B14 := Lib.hid (B13.out.trans (hb14.mono UP.out)); clear h14 hb14)
                          | (go_at_call 54; refine (HLs.out _ K14.out).mono ?_; rintro e w15 ⟨rfl, hb15⟩; have K15 := Lib.hid (K14.out.below hb15); have B15 := Lib.hid (B14.out.trans (hb15.mono B14.out.size)); clear hb15)
                          | (go_at_call 55; refine (HFi.out _ K15.out).mono ?_; rintro e w16 ⟨rfl, n16, rfl⟩; have K16 := Lib.hid (K15.out.below (below_drewN0 w15 n16)))
                          | (go_at_call 55; refine (HFi.out _ K16.out).mono ?_; rintro e w17 ⟨rfl, n17, rfl⟩))
                        go_roundg (gk - 1)
                        case measure => omega
                        case rel => exact ⟨i + 1, by first | rfl | go_num, by omega, by omega, by rw [HS'.out]; exact Lib.hid (K15.out.below (below_drewN0 w15 _)), Lib.hid (bd B15.out _)⟩
                    · have i1 : ¬ (i : Int) < (l1.length : Int) := by omega
                      obtain ⟨Y, hY1, hY2⟩ := pushes_mid m xs l1 i
                      have HC := stk_clear HS.out good.out (by omega)
                      rw [hY1, clear_mid xs Y (fun y hy e => by obtain ⟨j, e', _⟩ := hY2 y hy; omega)] at HC
                      have HC := Lib.hid HC
                      have HA3 := Lib.hid (fun (W : World) (hW : StK W w1.heap.size w1.heap.size w2.heap.size (pushes (m, xs ++ [-1]) l1 i).1 xs (.slice A10 xs.length c10) xs) => stk_all hW (by omega))
                      clear hi hgk hlt hY1 hY2 good
                      generalize pushes (m, xs ++ [-1]) l1 i = s at *
                      go_upto_region 39 with (go_at_call 56; refine HC.out.mono ?_; rintro e w16 ⟨rfl, h16, hb16⟩; have K16 := Lib.hid h16; have B16 := Lib.hid (HB.out.trans (hb16.mono UP.out)); clear h16 hb16)
                      go_wp2_with (first
                        | (go_at_call 35; refine (HA3.out _ K16.out).mono ?_; rintro e w17 ⟨v17, rfl, h17, hb17⟩; have I17 := Lib.hid h17; have K17 := Lib.hid (K16.out.below hb17); have B17 := Lib.hid (B16.out.trans (hb17.mono B16.out.size)); clear h17 hb17)
                        | (go_at_call 34; refine (same_calls I17.out K17.out.row rfl (by omega)).mono ?_; rintro e w18 ⟨rfl, hb18⟩; have B18 := Lib.hid (B17.out.trans (hb18.mono B17.out.size)); clear hb18))
                      go_ret
                      exact ⟨rfl, B18.out⟩
    · have g3 : (20 : Int) < (l1.length : Int) := by omega
      have g4 : decide ((20 : Int) < (l1.length : Int)) = true := decide_eq_true g3
      go_enter Try.func9, Try.ntmps9
      go_wp2_with (go_at_call 30; first | (refine (CS.out w).mono ?_; rintro e w1 ⟨rfl, hb1⟩; have B1 := Lib.hid hb1; clear hb1) | (refine (CS.out _).mono ?_; rintro e w2 ⟨rfl, hb2⟩; have B2 := Lib.hid (B1.out.trans (hb2.mono B1.out.size)); clear hb2))
      go_ret
      exact ⟨rfl, B2.out⟩
  · have g1 : (20 : Int) < (l0.length : Int) := by omega
    have g2 : decide ((20 : Int) < (l0.length : Int)) = true := decide_eq_true g1
    go_enter Try.func9, Try.ntmps9
    go_wp2_with (go_at_call 30; first | (refine (CS.out w).mono ?_; rintro e w1 ⟨rfl, hb1⟩; have B1 := Lib.hid hb1; clear hb1) | (refine (CS.out _).mono ?_; rintro e w2 ⟨rfl, hb2⟩; have B2 := Lib.hid (B1.out.trans (hb2.mono B1.out.size)); clear hb2))
    go_ret
    exact ⟨rfl, B2.out⟩
end Go.Proofs.Ytcdkcnegejhnhaa.Ar
