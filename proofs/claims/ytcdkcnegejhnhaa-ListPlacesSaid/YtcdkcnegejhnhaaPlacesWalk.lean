/-
  ListPlaces: the walk.
-/
import Derived.Test.YtcdkcnegejhnhaaLsKept
namespace Go.Proofs.Ytcdkcnegejhnhaa.Ar
open Go.RowKit Go.Proofs.Ytcdkcnegejhnhaa.PAr Go.Proofs.YtcdkcnegejhnhaaW.PrintWords Go.Proofs.YtcdkcnegejhnhaaW.PrintLast Go.Proofs.YtcdkcnegejhnhaaW.PrintMore
set_option linter.unusedVariables false
/-- The arena and the list behind i names. -/
def plc (l : List ByteArray) : Nat → M × List Int
  | 0 => (M.new, [])
  | i + 1 => stepB ((plc l i).1, if i % 5 = 4 then (plc l i).2 ++ [-1] else (plc l i).2) (l.getD i ⟨#[]⟩) []
theorem plc_good (l : List ByteArray) : ∀ i, Gd (plc l i).1 (plc l i).2 (3 * i + 1)
  | 0 => Gd.new
  | i + 1 => by
    have h := plc_good l i
    have h2 : Gd (plc l i).1 (if i % 5 = 4 then (plc l i).2 ++ [-1] else (plc l i).2) (3 * i + 2) := by
      split
      · exact h.mark
      · exact ⟨h.els, h.ent, by have := h.nodes; omega, by have := h.elems; omega, by have := h.len; omega⟩
    have := h2.step (s := ((plc l i).1, if i % 5 = 4 then (plc l i).2 ++ [-1] else (plc l i).2)) (l.getD i ⟨#[]⟩) [] (by decide)
    rw [show 3 * (i + 1) + 1 = 3 * i + 2 + 2 by omega]
    exact this
set_option maxRecDepth 100000 in
set_option maxHeartbeats 8000000 in
theorem places_calls (A0 : Option Addr) (c0 : Nat) (l0 : List ByteArray) (a1 : Int) (w : World) (hr0 : Kd.C Kd.string w A0 l0.length l0) (ha0 : 0 ≤ a1) (ha1 : a1 ≤ 255) :
    Calls Try.prog 10 #[.slice A0 l0.length c0, .int .u8 a1] w fun e w' => e = .returned (.bool true) ∧ Below w.heap.size w w' := by
  have hm := hr0.2.1
  have H0 := Lib.hid hr0
  have CS := Lib.hid (fun W => speaks14 W)
  by_cases hl : l0.length ≤ 20
  · have g1 : ¬ (20 : Int) < (l0.length : Int) := by omega
    have g2 : decide ((20 : Int) < (l0.length : Int)) = false := decide_eq_false g1
    have CN := Lib.hid (fun W => new_calls W)
    clear hr0
    go_enter Try.func10, Try.ntmps10
    go_wp2_with (first
      | (go_at_call 30; refine (CS.out _).mono ?_; rintro e w1 ⟨rfl, hb1⟩; have B1 := Lib.hid hb1; clear hb1)
      | (go_at_call 16; refine (CN.out _).mono ?_; rintro e w2 ⟨rfl, hA2, hb2⟩; have A2 := Lib.hid hA2; have B2 := Lib.hid (B1.out.trans (hb2.mono B1.out.size)); have CL := Lib.hid (st_new hA2 hb2.size); have B12 := Lib.hid hb2; clear hA2 hb2)
      | (go_at_call 31; refine CL.out.mono ?_; rintro e w3 ⟨rfl, hS3, hb3⟩; have S3 := Lib.hid hS3; have B3 := Lib.hid (B2.out.trans (hb3.mono B2.out.size)); clear hS3 hb3))
    go_loopg [7, 8, 30] (l0.length + 1) (fun gg s7 s8 s30 wr => ∃ i : Nat, s30 = .int .i64 (i : Int) ∧ i ≤ l0.length ∧ i + gg = l0.length + 1 ∧ Hid (St wr w1.heap.size w1.heap.size w2.heap.size (plc l0 i).1 (plc l0 i).2) ∧ Hid (Below w.heap.size w wr))
    case atStart => exact ⟨0, rfl, Nat.zero_le _, by omega, S3, B3⟩
    case round =>
      obtain ⟨i, rfl, hi, hgk, HS, HB⟩ := hrel
      have UP := Lib.hid (B1.out.size)
      clear S3 B3 CL A2
      by_cases hlt : i < l0.length
      · obtain ⟨nm, hnm⟩ : ∃ nm, l0[i]? = some nm := ⟨_, List.getElem?_eq_getElem hlt⟩
        obtain ⟨ad, hA0, hcs⟩ := H0.out.2.2 (by omega)
        obtain ⟨cs, hc1, hc2, hc3⟩ := hcs i nm hnm
        obtain rfl : cs = [.string nm] := hc2
        have hce : w.cell? (ad.add i) = some (.string nm) := by
          have := hc3 0 _ rfl
          rwa [show i * Kd.string.sz + 0 = i by show i * 1 + 0 = i; omega] at this
        have E0 : wr.cell? (ad.add i) = some (.string nm) := (HB.out.cell (World.block_lt_of_cell? w _ hce)).trans hce
        have hgd : l0.getD i ⟨#[]⟩ = nm := by rw [List.getD_eq_getElem?_getD, hnm, Option.getD_some]
        have HG := Lib.hid hgd
        cases hA0
        clear hcs hc1 hc3 hce hnm hgd
        have i1 : (i : Int) < (l0.length : Int) := by omega
        have i0 : (0 : Int) ≤ (i : Int) := by omega
        have good := Lib.hid (plc_good l0 i)
        rcases hX : nm.toList with _ | ⟨x, xs⟩
        · have x1 : (nm.toList == []) = true := by rw [hX]; rfl
          clear hX
          go_wp2
          go_ret
          exact ⟨rfl, HB.out⟩
        · have x1 : (nm.toList == []) = false := by rw [hX]; rfl
          clear hX
          have hel : (plc l0 i).1.elems.length < ((plc l0 i).1.element nm []).elems.length := by rw [(element_len _ _ _).1]; omega
          have HE := Lib.hid (fun (ys : List Int) (hy : Gd (plc l0 i).1 ys (3 * i + 2)) (W : World) (hW : St W w1.heap.size w1.heap.size w2.heap.size (plc l0 i).1 ys) => st_element hW hy (by omega) nm none 0 [] (C_nil W) (Nat.le_refl _) (by decide))
          have HP := Lib.hid (fun (ys : List Int) (hy : Gd (plc l0 i).1 ys (3 * i + 2)) (W : World) (hW : St W w1.heap.size w1.heap.size w2.heap.size ((plc l0 i).1.element nm []) ys) => st_push hW (hy.element nm [] (by decide)) (by omega) _ hel)
          clear hel
          by_cases h5 : i % 5 = 4
          · have h5b : ((i : Int) % 5 == 4) = true := beq_iff_eq.2 (by omega)
            have HM := Lib.hid (st_mark HS.out good.out (by omega))
            have HY := Lib.hid (show plc l0 (i + 1) = stepB ((plc l0 i).1, (plc l0 i).2 ++ [-1]) nm [] by rw [plc, if_pos h5, HG.out])
            replace HE := Lib.hid (HE.out _ good.out.mark)
            replace HP := Lib.hid (HP.out _ good.out.mark)
            clear h5
            go_wp2_with (first
              | (go_at_call 53; refine HM.out.mono ?_; rintro e w4 ⟨rfl, hS4, hb4⟩; have S4 := Lib.hid hS4; have B4 := Lib.hid (HB.out.trans (hb4.mono UP.out)); clear hS4 hb4)
              | (go_at_call 19; refine (HE.out _ S4.out).mono ?_; rintro e w5 ⟨rfl, hS5, hb5⟩; have S5 := Lib.hid hS5; have B5 := Lib.hid (B4.out.trans (hb5.mono UP.out)); clear hS5 hb5)
              | (go_at_call 32; refine (HP.out _ S5.out).mono ?_; rintro e w6 ⟨rfl, hS6, hb6⟩; have S6 := Lib.hid hS6; have B6 := Lib.hid (B5.out.trans (hb6.mono UP.out)); clear hS6 hb6))
            go_roundg (gk - 1)
            case measure => omega
            case rel => exact ⟨i + 1, by first | rfl | go_num, by omega, by omega, by rw [HY.out]; exact S6, B6⟩
          · have h5b : ((i : Int) % 5 == 4) = false := beq_eq_false_iff_ne.2 (by omega)
            have HY := Lib.hid (show plc l0 (i + 1) = stepB ((plc l0 i).1, (plc l0 i).2) nm [] by rw [plc, if_neg h5, HG.out])
            have gy : Gd (plc l0 i).1 (plc l0 i).2 (3 * i + 2) := ⟨good.out.els, good.out.ent, by have := good.out.nodes; omega, by have := good.out.elems; omega, by have := good.out.len; omega⟩
            replace HE := Lib.hid (HE.out _ gy)
            replace HP := Lib.hid (HP.out _ gy)
            have S4 := HS
            have B4 := HB
            clear h5 gy
            go_wp2_with (first
              | (go_at_call 53; refine HM.out.mono ?_; rintro e w4 ⟨rfl, hS4, hb4⟩; have S4 := Lib.hid hS4; have B4 := Lib.hid (HB.out.trans (hb4.mono UP.out)); clear hS4 hb4)
              | (go_at_call 19; refine (HE.out _ S4.out).mono ?_; rintro e w5 ⟨rfl, hS5, hb5⟩; have S5 := Lib.hid hS5; have B5 := Lib.hid (B4.out.trans (hb5.mono UP.out)); clear hS5 hb5)
              | (go_at_call 32; refine (HP.out _ S5.out).mono ?_; rintro e w6 ⟨rfl, hS6, hb6⟩; have S6 := Lib.hid hS6; have B6 := Lib.hid (B5.out.trans (hb6.mono UP.out)); clear hS6 hb6))
            go_roundg (gk - 1)
            case measure => omega
            case rel => exact ⟨i + 1, by first | rfl | go_num, by omega, by omega, by rw [HY.out]; exact S6, B6⟩
      · obtain rfl : i = l0.length := by omega
        have good := plc_good l0 l0.length
        generalize plc l0 l0.length = s at *
        obtain ⟨m, xs⟩ := s
        simp only at good
        have hxl : xs.length ≤ 61 := by have := good.len; omega
        have gd := Lib.hid (show Gd m xs 61 from ⟨good.els, good.ent, by have := good.nodes; omega, by have := good.elems; omega, hxl⟩)
        have HX : ∀ k : Nat, m.elems.length ≤ k → (k : Int) ∉ xs := fun k hk hin => by
          rcases good.ent _ hin with e | ⟨j, e, hj⟩
          · omega
          · omega
        have HNX := Lib.hid HX
        have HA := Lib.hid (st_all HS.out gd.out (by omega))
        have S0 := HS
        have hw1 : IntKind.i64.wrap ((xs.length : Int) + 1) = ((xs.length + 1 : Nat) : Int) := by rw [IntWalk.i64_in _ (by omega)]; rfl
        have hw2 : IntKind.i64.wrap a1 = a1 := IntWalk.i64_in _ (by omega)
        clear HX good H0 CS CN
        go_upto_region 19 with (go_at_call 35; refine HA.out.mono ?_; rintro e w4 ⟨v4, rfl, h4, hb4⟩; have K4 := Lib.hid (StK.of S0.out hb4 h4); obtain ⟨A4, c4, rfl, hc4, _⟩ := h4.reads; have B4 := Lib.hid (HB.out.trans (hb4.mono HB.out.size)); clear h4 hb4)
        go_upto_region 20 with (fail)
        obtain ⟨K, hK, hKl⟩ : ∃ K : Nat, a1 % ((xs.length : Int) + 1) = (K : Int) ∧ K ≤ xs.length := by
          have h1 := Int.emod_nonneg a1 (b := (xs.length : Int) + 1) (by omega)
          have h2 := Int.emod_lt_of_pos a1 (b := (xs.length : Int) + 1) (by omega)
          exact ⟨(a1 % ((xs.length : Int) + 1)).toNat, (Int.toNat_of_nonneg h1).symm, by omega⟩
        rw [hK]
        obtain ⟨E, hE⟩ : ∃ E, m.elems.length = E := ⟨_, rfl⟩
        obtain ⟨F, hF⟩ : ∃ F, (m.element sb []).elems.length = F := ⟨_, rfl⟩
        have hEF : F = E + 1 := by rw [← hF, ← hE, (element_len _ _ _).1]
        have nE : (E : Int) ∉ xs := HNX.out E (by omega)
        have nF : (F : Int) ∉ xs := HNX.out F (by omega)
        obtain ⟨ys, hys⟩ : ∃ ys, insL xs K (E : Int) = ys := ⟨_, rfl⟩
        obtain ⟨zs, hzs⟩ : ∃ zs, insL xs K (F : Int) = zs := ⟨_, rfl⟩
        have yl : ys.length = xs.length + 1 := by rw [← hys, insL_len _ _ _ hKl]
        have zl : zs.length = xs.length + 1 := by rw [← hzs, insL_len _ _ _ hKl]
        have gd1 := Lib.hid (gd.out.element sb [] (by decide))
        have gd2 := Lib.hid (gd1.out.element sb [] (by decide))
        have HE1 := Lib.hid (show Calls Try.prog 19 #[.pointer (some ⟨w1.heap.size, 0, none⟩), .string ⟨#[98]⟩, .slice none 0 0] w4 fun e w' => e = .returned (.int .i64 (E : Int)) ∧ StK w' w1.heap.size w1.heap.size w2.heap.size (m.element sb []) xs (.slice A4 xs.length c4) xs ∧ Below w1.heap.size w4 w' by
          rw [← hE]
          exact stk_element K4.out gd.out (by omega) sb none 0 [] (C_nil _) (Nat.le_refl _) (by decide))
        have HE2 := Lib.hid (fun (W : World) (hW : StK W w1.heap.size w1.heap.size w2.heap.size (m.element sb []) xs (.slice A4 xs.length c4) xs) => show Calls Try.prog 19 #[.pointer (some ⟨w1.heap.size, 0, none⟩), .string ⟨#[98]⟩, .slice none 0 0] W fun e w' => e = .returned (.int .i64 (F : Int)) ∧ StK w' w1.heap.size w1.heap.size w2.heap.size ((m.element sb []).element sb []) xs (.slice A4 xs.length c4) xs ∧ Below w1.heap.size W w' by
          rw [← hF]
          exact stk_element hW gd1.out (by omega) sb none 0 [] (C_nil _) (Nat.le_refl _) (by decide))
        have HI := Lib.hid (fun (W : World) (hW : StK W w1.heap.size w1.heap.size w2.heap.size ((m.element sb []).element sb []) xs (.slice A4 xs.length c4) xs) => show Calls Try.prog 57 #[.pointer (some ⟨w2.heap.size, 0, none⟩), .int .i64 (K : Int), .int .i64 (E : Int)] W fun e w' => e = .returned (.tuple #[]) ∧ StK w' w1.heap.size w1.heap.size w2.heap.size ((m.element sb []).element sb []) ys (.slice A4 xs.length c4) xs ∧ Below w1.heap.size W w' by
          rw [← hys]
          exact stk_insert hW gd2.out (by omega) K hKl _)
        have HF1 := Lib.hid (fun (W : World) (hW : StK W w1.heap.size w1.heap.size w2.heap.size ((m.element sb []).element sb []) ys (.slice A4 xs.length c4) xs) => show Calls Try.prog 55 #[.pointer (some ⟨w2.heap.size, 0, none⟩), .int .i64 (E : Int)] W fun e w' => e = .returned (.int .i64 (K : Int)) ∧ ∃ n, w' = W.drewN n by
          have := stk_find hW (by omega) (E : Int)
          rwa [← hys, findL_ins hKl nE (by omega)] at this)
        have HA2 := Lib.hid (fun (W : World) (hW : StK W w1.heap.size w1.heap.size w2.heap.size ((m.element sb []).element sb []) ys (.slice A4 xs.length c4) xs) => show Calls Try.prog 35 #[.pointer (some ⟨w2.heap.size, 0, none⟩)] W fun e w' => (∃ A c, e = .returned (.slice A (xs.length + 1) c)) ∧ Below W.heap.size W w' by
          refine (stk_all hW (by omega)).mono ?_
          rintro e w' ⟨v, rfl, h1, h2⟩
          obtain ⟨A, c, rfl, _⟩ := h1.reads
          exact ⟨⟨A, c, by rw [yl]⟩, h2⟩)
        have HR := Lib.hid (fun (W : World) (hW : StK W w1.heap.size w1.heap.size w2.heap.size ((m.element sb []).element sb []) ys (.slice A4 xs.length c4) xs) => show Calls Try.prog 58 #[.pointer (some ⟨w2.heap.size, 0, none⟩), .int .i64 (E : Int), .int .i64 (F : Int)] W fun e w' => e = .returned (.tuple #[]) ∧ StK w' w1.heap.size w1.heap.size w2.heap.size ((m.element sb []).element sb []) zs (.slice A4 xs.length c4) xs ∧ Below w1.heap.size W w' by
          have := stk_replace hW (by omega) (E : Int) (F : Int)
          rwa [← hys, putL_ins hKl nE (by omega), hzs] at this)
        have HF2 := Lib.hid (fun (W : World) (hW : StK W w1.heap.size w1.heap.size w2.heap.size ((m.element sb []).element sb []) zs (.slice A4 xs.length c4) xs) => show Calls Try.prog 55 #[.pointer (some ⟨w2.heap.size, 0, none⟩), .int .i64 (E : Int)] W fun e w' => e = .returned (.int .i64 (-1)) ∧ ∃ n, w' = W.drewN n by
          have := stk_find hW (by omega) (E : Int)
          rwa [findL_miss (fun hin => by
            rw [← hzs] at hin
            rcases insL_mem hin with e | e
            · exact nE e
            · omega)] at this)
        have HF3 := Lib.hid (fun (W : World) (hW : StK W w1.heap.size w1.heap.size w2.heap.size ((m.element sb []).element sb []) zs (.slice A4 xs.length c4) xs) => show Calls Try.prog 55 #[.pointer (some ⟨w2.heap.size, 0, none⟩), .int .i64 (F : Int)] W fun e w' => e = .returned (.int .i64 (K : Int)) ∧ ∃ n, w' = W.drewN n by
          have := stk_find hW (by omega) (F : Int)
          rwa [← hzs, findL_ins hKl nF (by omega)] at this)
        have HO1 := Lib.hid (fun (W : World) (hW : StK W w1.heap.size w1.heap.size w2.heap.size ((m.element sb []).element sb []) zs (.slice A4 xs.length c4) xs) => show Calls Try.prog 59 #[.pointer (some ⟨w2.heap.size, 0, none⟩), .int .i64 (F : Int)] W fun e w' => e = .returned (.tuple #[]) ∧ StK w' w1.heap.size w1.heap.size w2.heap.size ((m.element sb []).element sb []) xs (.slice A4 xs.length c4) xs ∧ Below w1.heap.size W w' by
          have := stk_remove hW (by omega) (F : Int)
          rwa [← hzs, outL_ins hKl nF (by omega)] at this)
        have HO2 := Lib.hid (fun (W : World) (hW : StK W w1.heap.size w1.heap.size w2.heap.size ((m.element sb []).element sb []) xs (.slice A4 xs.length c4) xs) => show Calls Try.prog 59 #[.pointer (some ⟨w2.heap.size, 0, none⟩), .int .i64 (E : Int)] W fun e w' => e = .returned (.tuple #[]) ∧ StK w' w1.heap.size w1.heap.size w2.heap.size ((m.element sb []).element sb []) xs (.slice A4 xs.length c4) xs ∧ Below w1.heap.size W w' by
          have := stk_remove hW (by omega) (E : Int)
          rwa [outL_miss nE] at this)
        have HA3 := Lib.hid (fun (W : World) (hW : StK W w1.heap.size w1.heap.size w2.heap.size ((m.element sb []).element sb []) xs (.slice A4 xs.length c4) xs) => stk_all hW (by omega))
        have HXL := Lib.hid hxl
        clear hK hKl hE hF hEF nE nF hys hzs yl zl HNX HA gd gd1 gd2 hxl hw2
        go_upto_region 21 with (first
          | (go_at_call 19; refine HE1.out.mono ?_; rintro e w5 ⟨rfl, h5, hb5⟩; have K5 := Lib.hid h5; have B5 := Lib.hid (B4.out.trans (hb5.mono UP.out)); clear h5 hb5 HE1)
          | (go_at_call 19; refine (HE2.out _ K5.out).mono ?_; rintro e w6 ⟨rfl, h6, hb6⟩; have K6 := Lib.hid h6; have B6 := Lib.hid (B5.out.trans (hb6.mono UP.out)); clear h6 hb6 HE2))
        go_upto_region 22 with (go_at_call 57; refine (HI.out _ K6.out).mono ?_; rintro e w7 ⟨rfl, h7, hb7⟩; have K7 := Lib.hid h7; have B7 := Lib.hid (B6.out.trans (hb7.mono UP.out)); clear h7 hb7)
        go_upto_region 24 with (first
          | (go_at_call 55; refine (HF1.out _ K7.out).mono ?_; rintro e w8 ⟨rfl, n8, rfl⟩; have K8 := Lib.hid (K7.out.below (below_drewN0 w7 n8)); have B8 := Lib.hid (bd B7.out n8); clear HF1)
          | (go_at_call 35; refine (HA2.out _ K8.out).mono ?_; rintro e w9 ⟨⟨A9, c9, rfl⟩, hb9⟩; have K9 := Lib.hid (K8.out.below hb9); have B9 := Lib.hid (B8.out.trans (hb9.mono B8.out.size)); clear hb9 HA2))
        go_upto_region 25 with (go_at_call 58; refine (HR.out _ K9.out).mono ?_; rintro e w10 ⟨rfl, h10, hb10⟩; have K10 := Lib.hid h10; have B10 := Lib.hid (B9.out.trans (hb10.mono UP.out)); clear h10 hb10)
        go_upto_region 27 with (first
          | (go_at_call 55; refine (HF2.out _ K10.out).mono ?_; rintro e w11 ⟨rfl, n11, rfl⟩; have K11 := Lib.hid (K10.out.below (below_drewN0 w10 n11)); have B11 := Lib.hid (bd B10.out n11); clear HF2)
          | (go_at_call 55; refine (HF3.out _ K11.out).mono ?_; rintro e w12 ⟨rfl, n12, rfl⟩; have K12 := Lib.hid (K11.out.below (below_drewN0 _ n12)); have B12 := Lib.hid (bd B11.out n12); clear HF3))
        have K13 := Lib.hid (K10.out.below (below_drewN0 w10 (n11 + n12)))
        have B13 := Lib.hid (bd B10.out (n11 + n12))
        clear K11 K12 B11 B12
        go_upto_region 28 with (go_at_call 59; refine (HO1.out _ K13.out).mono ?_; rintro e w13 ⟨rfl, h13, hb13⟩; have K14 := Lib.hid h13; have B14 := Lib.hid (B13.out.trans (hb13.mono UP.out)); clear h13 hb13)
        go_upto_region 29 with (go_at_call 59; refine (HO2.out _ K14.out).mono ?_; rintro e w14 ⟨rfl, h14, hb14⟩; have K15 := Lib.hid h14; have B15 := Lib.hid (B14.out.trans (hb14.mono UP.out)); clear h14 hb14)
        go_wp2_with (first
          | (go_at_call 35; refine (HA3.out _ K15.out).mono ?_; rintro e w15 ⟨v15, rfl, h15, hb15⟩; have I15 := Lib.hid h15; have K16 := Lib.hid (K15.out.below hb15); have B16 := Lib.hid (B15.out.trans (hb15.mono B15.out.size)); clear h15 hb15)
          | (go_at_call 34; refine (same_calls I15.out K16.out.row rfl (by have := HXL.out; omega)).mono ?_; rintro e w16 ⟨rfl, hb16⟩; have B17 := Lib.hid (B16.out.trans (hb16.mono B16.out.size)); clear hb16))
        go_ret
        exact ⟨rfl, B17.out⟩
  · have g1 : (20 : Int) < (l0.length : Int) := by omega
    have g2 : decide ((20 : Int) < (l0.length : Int)) = true := decide_eq_true g1
    clear hr0
    go_enter Try.func10, Try.ntmps10
    go_wp2_with (go_at_call 30; first | (refine (CS.out w).mono ?_; rintro e w1 ⟨rfl, hb1⟩; have B1 := Lib.hid hb1; clear hb1) | (refine (CS.out _).mono ?_; rintro e w2 ⟨rfl, hb2⟩; have B2 := Lib.hid (B1.out.trans (hb2.mono B1.out.size)); clear hb2))
    go_ret
    exact ⟨rfl, B2.out⟩
end Go.Proofs.Ytcdkcnegejhnhaa.Ar
