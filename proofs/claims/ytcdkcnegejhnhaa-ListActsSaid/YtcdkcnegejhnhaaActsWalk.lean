/-
  ListActs: the walk.
-/
import Derived.Test.YtcdkcnegejhnhaaAcAll
namespace Go.Proofs.Ytcdkcnegejhnhaa.Ar
open Go.RowKit Go.Proofs.Ytcdkcnegejhnhaa.PAr Go.Proofs.YtcdkcnegejhnhaaW.PrintWords Go.Proofs.YtcdkcnegejhnhaaW.PrintLast Go.Proofs.YtcdkcnegejhnhaaW.PrintMore
set_option linter.unusedVariables false
set_option linter.unusedSimpArgs false
theorem at_place (xn : Int) (h : -9223372036854775808 ≤ xn ∧ xn ≤ 9223372036854775807) (n : Nat) : ∃ P : Nat, (max xn (wrap64 (-wrap64 (xn + 1)))).tmod ((n : Int) + 1) = (P : Int) ∧ P ≤ n := by
  have h0 : 0 ≤ max xn (wrap64 (-wrap64 (xn + 1))) := by
    by_cases hx : 0 ≤ xn
    · exact Int.le_trans hx (Int.le_max_left _ _)
    · have e1 : wrap64 (xn + 1) = xn + 1 := IntWalk.wrap64_in (xn + 1) (by omega)
      have e2 : wrap64 (-(xn + 1)) = -(xn + 1) := IntWalk.wrap64_in _ (by omega)
      rw [e1, e2]
      exact Int.le_trans (by omega) (Int.le_max_right _ _)
  have h1 := Int.emod_nonneg (max xn (wrap64 (-wrap64 (xn + 1)))) (b := (n : Int) + 1) (by omega)
  have h2 := Int.emod_lt_of_pos (max xn (wrap64 (-wrap64 (xn + 1)))) (b := (n : Int) + 1) (by omega)
  rw [Int.tmod_eq_emod_of_nonneg h0]
  generalize (max xn (wrap64 (-wrap64 (xn + 1)))) % ((n : Int) + 1) = r at *
  exact ⟨r.toNat, (Int.toNat_of_nonneg h1).symm, by omega⟩
theorem len_i64 (n : Nat) (h : n ≤ 100000) : IntKind.i64.wrap ((n : Int) + 1) = ((n + 1 : Nat) : Int) := by rw [IntWalk.i64_in _ (by omega)]; rfl
theorem len_64 (n : Nat) (h : n ≤ 100000) : wrap64 ((n : Int) + 1) = ((n + 1 : Nat) : Int) := by rw [IntWalk.wrap64_in _ (by omega)]; rfl
theorem len_nz (n : Nat) : ¬ ((n + 1 : Nat) : Int) = 0 := by omega
set_option maxRecDepth 100000 in
set_option maxHeartbeats 8000000 in
theorem acts_calls (A0 : Option Addr) (c0 : Nat) (l0 : List S86) (w : World) (hr0 : Kd.C k86 w A0 l0.length l0) (hw0 : ∀ x ∈ l0, -9223372036854775808 ≤ x.f1 ∧ x.f1 ≤ 9223372036854775807) :
    Calls Try.prog 11 #[.slice A0 l0.length c0] w fun e w' => e = .returned (.bool true) ∧ Below w.heap.size w w' := by
  have R0 := Lib.hid hr0
  have HV := Lib.hid hw0
  have CS := Lib.hid (fun W => speaks14 W)
  clear hr0 hw0
  by_cases hl : l0.length ≤ 40
  · have g1 : ¬ (40 : Int) < (l0.length : Int) := by omega
    have g2 : decide ((40 : Int) < (l0.length : Int)) = false := decide_eq_false g1
    have CN := Lib.hid (fun W => new_calls W)
    have CN2 := Lib.hid (fun W => decanterref12_New.calls [⟨#[]⟩] [[]] [[]] [-1] 0 W rfl)
    go_enter Try.func11, Try.ntmps11
    go_upto_region 6 with (first
      | (go_at_call 30; refine (CS.out _).mono ?_; rintro e w1 ⟨rfl, hb1⟩; have B1 := Lib.hid hb1; clear hb1)
      | (go_at_call 16; refine (CN.out _).mono ?_; rintro e w2 ⟨rfl, hA2, hb2⟩; have A2 := Lib.hid hA2; have B12 := Lib.hid hb2; clear hA2 hb2)
      | (go_at_call 36; go_loud (refine (CN2.out _).mono ?_; rintro e w3 ⟨v0, v1, v2, v3, rfl, r0, r1, r2, r3, hb3⟩; obtain ⟨a0, k0, rfl⟩ := Kd.R_slice r0; obtain ⟨a1, k1, rfl⟩ := Kd.R_slice (Kd.S_R r1); obtain ⟨a2, k2, rfl⟩ := Kd.R_slice (Kd.S_R r2); obtain ⟨a3, k3, rfl⟩ := Kd.R_slice r3; have Q := Lib.hid (And.intro r0 (And.intro r1 (And.intro r2 r3))); have B23 := Lib.hid hb3; clear r0 r1 r2 r3 hb3)))
    obtain ⟨r0, r1, r2, r3⟩ := Q.out
    have BX := Lib.hid (B23.out.alloc B23.out.size (.cells #[.slice a0 1 k0, .slice a1 1 k1, .slice a2 1 k2, .slice a3 1 k3, .int .i64 0] 62))
    have XB := Lib.hid (blk_new w3 (.cells #[.slice a0 1 k0, .slice a1 1 k1, .slice a2 1 k2, .slice a3 1 k3, .int .i64 0] 62))
    have Q2 := Lib.hid (show RA (w3.alloc (.cells #[.slice a0 1 k0, .slice a1 1 k1, .slice a2 1 k2, .slice a3 1 k3, .int .i64 0] 62)) (fun k => w2.heap.size ≤ k ∧ k < w3.heap.size) (.slice a0 1 k0) (.slice a1 1 k1) (.slice a2 1 k2) (.slice a3 1 k3) ⟨[⟨#[]⟩], [[]], [[]], [-1], 0⟩ from
      RA.step ⟨(RowF.of_R (Kd.R_bound r0)).mono fun k hk => ⟨hk.2.1, hk.2.2.1⟩, (RowF.of_S (Kd.S_bound r1)).mono fun k hk => ⟨hk.2.1, hk.2.2.1⟩, (RowF.of_S (Kd.S_bound r2)).mono fun k hk => ⟨hk.2.1, hk.2.2.1⟩, (RowF.of_R (Kd.R_bound r3)).mono fun k hk => ⟨hk.2.1, hk.2.2.1⟩⟩ fun k _ hk => Below.heap_alloc w3 _ k hk)
    have CL := Lib.hid (str_new A2.out BX.out B12.out.size)
    have B13 := Lib.hid (B1.out.trans (B12.out.mono B1.out.size))
    have B1X := Lib.hid (B13.out.trans (BX.out.mono B13.out.size))
    have Hsz := Lib.hid (show w3.heap.size < (w3.alloc (.cells #[.slice a0 1 k0, .slice a1 1 k1, .slice a2 1 k2, .slice a3 1 k3, .int .i64 0] 62)).heap.size from blk_lt XB.out)
    have H12 := Lib.hid B12.out.size
    have H23 := Lib.hid B23.out.size
    clear r0 r1 r2 r3 Q CN CN2 A2 B12 B23 BX B13
    generalize hwx : w3.alloc (.cells #[.slice a0 1 k0, .slice a1 1 k1, .slice a2 1 k2, .slice a3 1 k3, .int .i64 0] 62) = wX at *
    clear hwx
    go_upto_region 10 with (go_at_call 31; refine CL.out.mono ?_; rintro e w4 ⟨rfl, hS4, hb4⟩; have S4 := Lib.hid hS4; have B4 := Lib.hid hb4; clear hS4 hb4 CL)
    have ST := Lib.hid (show St11 w4 w1.heap.size wX.heap.size w3.heap.size (fun k => k < w1.heap.size ∨ (w2.heap.size ≤ k ∧ k < w3.heap.size)) M.new [] [] ⟨[⟨#[]⟩], [[]], [[]], [-1], 0⟩ (.slice a0 1 k0) (.slice a1 1 k1) (.slice a2 1 k2) (.slice a3 1 k3) (.slice none 0 0) 1 from {
      str := by
        obtain ⟨nv, ev, vs, lv, h1, h2, h3, h4⟩ := S4.out
        refine ⟨nv, ev, vs, lv, h1, h2, h3, fun k hk => h4 k ?_⟩
        have e1 := Hsz.out
        have e2 := H23.out
        rcases hk with (hk | hk) | hk
        · exact .inl hk
        · exact .inr ⟨hk.1, by omega⟩
        · exact .inr ⟨by omega, by omega⟩
      km := fun k hk => by
        have e1 := H12.out
        have e2 := H23.out
        rcases hk with hk | hk <;> omega
      box := blk_below XB.out B4.out
      ra := (Q2.out.step fun k _ hlt => B4.out.block k hlt).mono fun k hk => .inr hk
      row := ⟨none, 0, rfl, Nat.le_refl _, Kd.F_nil _ _ _⟩
      gd := Gd.new
      u := U.nil
      rel := Rel.new
      li := rfl
      lp := rfl })
    have HB4 := Lib.hid (B1X.out.trans (B4.out.mono B1X.out.size))
    have UP := Lib.hid B1.out.size
    have HMB := Lib.hid (Nat.le_trans B1.out.size (Nat.le_trans H12.out H23.out))
    clear S4 B4 Q2 XB B1X Hsz H12 H23
    go_wp2_with fail
    go_loopg [6, 8, 9, 10, 11, 12, 13, 15, 16, 17, 18, 37] (l0.length + 1) (fun gg s6 s8 s9 s10 s11 s12 s13 s15 s16 s17 s18 s37 wr => ∃ (i : Nat) (K : Nat → Prop) (m : M) (xs : List Int) (R : Rm) (u0 u1 u2 u3 : Value), s37 = .int .i64 (i : Int) ∧ i ≤ l0.length ∧ i + gg = l0.length + 1 ∧
      Hid (St11 wr w1.heap.size wX.heap.size w3.heap.size K m xs xs R u0 u1 u2 u3 s6 (3 * i + 1)) ∧ Hid (∀ k, k < w1.heap.size → K k) ∧ Hid (Below w.heap.size w wr))
    case atStart => exact ⟨0, _, _, _, _, _, _, _, _, rfl, Nat.zero_le _, by omega, ST, Lib.hid (fun k hk => .inl hk), HB4⟩
    case round =>
      clear ST HB4
      obtain ⟨i, K, m, xs, R, u0, u1, u2, u3, rfl, hi, hgk, HS, HK, HB⟩ := hrel
      obtain ⟨gq, hgq⟩ : ∃ gq, gq = gk := ⟨_, rfl⟩
      by_cases hlt : i < l0.length
      · obtain ⟨ad, A3, c3, x, rfl, hx, E0, E1, E2, E3, hc3, HC3⟩ := act_at R0.out i hlt
        have hxv := HV.out x (List.mem_of_getElem? hx)
        have i1 : (i : Int) < (l0.length : Int) := by omega
        have i0 : (0 : Int) ≤ (i : Int) := by omega
        have FA := Lib.hid (And.intro (Kd.F_mono (Kd.F_below (Kd.C_F heap106 HC3) HB.out) (fun k hk => HK.out k (Nat.lt_of_lt_of_le hk UP.out))) hc3)
        replace E0 := pw_cell_below HB.out E0
        replace E1 := pw_cell_below HB.out E1
        replace E2 := pw_cell_below HB.out E2
        replace E3 := pw_cell_below HB.out E3
        obtain ⟨xd, xn, nm, at'⟩ := x
        simp only at E0 E1 E2 E3 hc3 HC3 hxv FA
        have HXV := Lib.hid hxv
        clear hx HC3 hc3 hxv
        obtain ⟨A6, c6, rfl, _, _⟩ := HS.out.row.now
        rcases hX : nm.toList with _ | ⟨y, ys⟩
        · have x1 : (nm.toList == []) = true := by rw [hX]; rfl
          clear hX
          go_wp2
          go_ret
          exact ⟨rfl, HB.out.alloc HB.out.size _⟩
        · have x1 : (nm.toList == []) = false := by rw [hX]; rfl
          clear hX
          by_cases h10 : at'.length ≤ 10
          · have h10a : ¬ (10 : Int) < (at'.length : Int) := by omega
            have h10b : decide ((10 : Int) < (at'.length : Int)) = false := decide_eq_false h10a
            have hgl := HS.out.gd.len
            have hge := HS.out.gd.elems
            have hxl : xs.length ≤ 121 := Nat.le_trans hgl (by omega)
            have hw1 := len_i64 xs.length (Nat.le_trans hxl (by decide))
            have hw2 := len_64 xs.length (Nat.le_trans hxl (by decide))
            have hnz := len_nz xs.length
            obtain ⟨P, hP, hPl⟩ := at_place xn HXV.out xs.length
            clear HXV
            go_upto_region 16 with (fail)
            obtain ⟨f0, d0, rfl, _, _⟩ := HS.out.ra.r0.now
            obtain ⟨f1, d1, rfl, _, _⟩ := HS.out.ra.r1.now
            obtain ⟨f2, d2, rfl, _, _⟩ := HS.out.ra.r2.now
            obtain ⟨f3, d3, rfl, _, _⟩ := HS.out.ra.r3.now
            have BA := Lib.hid ((Below.refl wr.heap.size wr).alloc (Nat.le_refl _) (.cells #[.int .i64 xd, .int .i64 xn, .string nm, .slice A3 at'.length c3] 86))
            have XA := Lib.hid (blk_new wr (.cells #[.int .i64 xd, .int .i64 xn, .string nm, .slice A3 at'.length c3] 86))
            generalize hwa : wr.alloc (.cells #[.int .i64 xd, .int .i64 xn, .string nm, .slice A3 at'.length c3] 86) = wa at *
            have HSa := Lib.hid (HS.out.below BA.out)
            have FAa := Lib.hid (And.intro (F_more FA.out.1 BA.out) FA.out.2)
            have HBa := Lib.hid (HB.out.trans (BA.out.mono HB.out.size))
            have HKa := Lib.hid (K_more HK.out wr wa)
            have XK := Lib.hid (show Kn K wr wa wr.heap.size from .inr ⟨Nat.le_refl _, blk_lt XA.out⟩)
            generalize hKa : Kn K wr wa = Ka at *
            have hel : m.elems.length ≤ 1000 := Nat.le_trans hge (by omega)
            have HE12 := Lib.hid (HSa.out.elem12 nm A3 c3 at' FAa.out.1 FAa.out.2 hel)
            have XB := HSa.out.box
            have b0 := blk_cell XB 0
            have b1 := blk_cell XB 1
            have b2 := blk_cell XB 2
            have b3 := blk_cell XB 3
            have b4 := blk_cell XB 4
            have a0' := blk_cell XA.out 0
            have a1' := blk_cell XA.out 1
            have a2' := blk_cell XA.out 2
            have a3' := blk_cell XA.out 3
            simp only [List.getElem?_toArray, List.getElem?_cons_zero, List.getElem?_cons_succ] at b0 b1 b2 b3 b4 a0' a1' a2' a3'
            clear hP hw1 hw2 hnz hKa hwa BA E0 E1 E2 E3 XB HS FA HB HK hgl hge hel
            obtain ⟨R', hR'⟩ : ∃ R', R.element nm at' = R' := ⟨_, rfl⟩
            have HR' := Lib.hid hR'
            clear hR'
            go_cut [10, 11] (fun v10 v11 wc => ∃ w5 v0 v1 v2 v3, v10 = .pointer (some ⟨w5.heap.size, 0, none⟩) ∧ v11 = .int .i64 (m.elems.length : Int) ∧ wc = w5.alloc (.cells #[v0, v1, v2, v3, .int .i64 R.copies] 62) ∧ Hid (RA w5 (Kn Ka wa w5) v0 v1 v2 v3 R') ∧ Hid (Below wa.heap.size wa w5))
            case first =>
              as_aux_lemma =>
                go_wp2_with (go_at_call 38; go_loud (refine HE12.out.mono ?_; rintro e w5 ⟨v0, v1, v2, v3, rfl, hra, hb5⟩; rw [HR'.out] at hra; obtain ⟨h0, j0, rfl, _, _⟩ := hra.r0.now; obtain ⟨h1, j1, rfl, _, _⟩ := hra.r1.now; obtain ⟨h2, j2, rfl, _, _⟩ := hra.r2.now; obtain ⟨h3, j3, rfl, _, _⟩ := hra.r3.now; have RA5 := Lib.hid hra; have B5 := Lib.hid hb5; clear hra hb5 HE12))
                go_meet
                exact ⟨w5, _, _, _, _, rfl, rfl, rfl, RA5, B5⟩
            case rest =>
              as_aux_lemma =>
                obtain ⟨w5, v0, v1, v2, v3, rfl, rfl, rfl, RA5, B5⟩ := hcut
                obtain ⟨h0, j0, rfl, _, _⟩ := RA5.out.r0.now
                obtain ⟨h1, j1, rfl, _, _⟩ := RA5.out.r1.now
                obtain ⟨h2, j2, rfl, _, _⟩ := RA5.out.r2.now
                obtain ⟨h3, j3, rfl, _, _⟩ := RA5.out.r3.now
                have X6 := Lib.hid (blk_alloc (blk_below HSa.out.box B5.out) (.cells #[.slice h0 R'.names.length j0, .slice h1 R'.attrs.length j1, .slice h2 R'.inner.length j2, .slice h3 R'.par.length j3, .int .i64 R.copies] 62))
                have q0 := blk_cell X6.out 0
                have q1 := blk_cell X6.out 1
                have q2 := blk_cell X6.out 2
                have q3 := blk_cell X6.out 3
                have q4 := blk_cell X6.out 4
                have z0 := blk_frozen X6.out 0
                have z1 := blk_frozen X6.out 1
                have z2 := blk_frozen X6.out 2
                have z3 := blk_frozen X6.out 3
                have z4 := blk_frozen X6.out 4
                simp only [List.getElem?_toArray, List.getElem?_cons_zero, List.getElem?_cons_succ] at q0 q1 q2 q3 q4
                have B56 := (Below.refl w5.heap.size w5).alloc (Nat.le_refl _) (.cells #[.slice h0 R'.names.length j0, .slice h1 R'.attrs.length j1, .slice h2 R'.inner.length j2, .slice h3 R'.par.length j3, .int .i64 R.copies] 62)
                have B6 := B5.out.trans (B56.mono B5.out.size)
                have P7 := Lib.hid (HSa.out.pre.taken B6 (by rw [HR'.out]; exact RA5.out.more B56))
                have B7 := Lib.hid (cells_below (g := w3.heap.size) (x0 := .slice h0 R'.names.length j0) (x1 := .slice h1 R'.attrs.length j1) (x2 := .slice h2 R'.inner.length j2) (x3 := .slice h3 R'.par.length j3) (x4 := .int .i64 R.copies) (HBa.out.trans (B6.mono HBa.out.size)) HMB.out)
                have SK := Lib.hid (fun k (hk : Ka k) => show ((w5.alloc (.cells #[.slice h0 R'.names.length j0, .slice h1 R'.attrs.length j1, .slice h2 R'.inner.length j2, .slice h3 R'.par.length j3, .int .i64 R.copies] 62)).setCells w3.heap.size 0 [.slice h0 R'.names.length j0, .slice h1 R'.attrs.length j1, .slice h2 R'.inner.length j2, .slice h3 R'.par.length j3, .int .i64 R.copies]).heap[k]? = wa.heap[k]? from
                  (setCells_far _ 0 k (HSa.out.km k hk)).trans (B6.block k (HSa.out.str.lt k (.inl hk))))
                clear B56 B6 RA5
                go_upto_region 18 with (fail)
                obtain ⟨w7, hw7⟩ : ∃ w7, w7 = (w5.alloc (.cells #[.slice h0 R'.names.length j0, .slice h1 R'.attrs.length j1, .slice h2 R'.inner.length j2, .slice h3 R'.par.length j3, .int .i64 R.copies] 62)).setCells w3.heap.size 0 [.slice h0 R'.names.length j0, .slice h1 R'.attrs.length j1, .slice h2 R'.inner.length j2, .slice h3 R'.par.length j3, .int .i64 R.copies] := ⟨_, rfl⟩
                rw [← hw7] at P7 B7 SK
                show Code.wp _ _ _ _ ((w5.alloc (.cells #[.slice h0 R'.names.length j0, .slice h1 R'.attrs.length j1, .slice h2 R'.inner.length j2, .slice h3 R'.par.length j3, .int .i64 R.copies] 62)).setCells w3.heap.size 0 [.slice h0 R'.names.length j0, .slice h1 R'.attrs.length j1, .slice h2 R'.inner.length j2, .slice h3 R'.par.length j3, .int .i64 R.copies])
                rw [← hw7]
                have XA7 := (SK.out wr.heap.size XK.out).trans XA.out
                have FA7 := Kd.F_step (W1 := w7) FAa.out.1 fun k hk _ => SK.out k hk
                have S7 := HSa.out.str.lt
                have HK7 := K_more HKa.out wa (w5.alloc (.cells #[.slice h0 R'.names.length j0, .slice h1 R'.attrs.length j1, .slice h2 R'.inner.length j2, .slice h3 R'.par.length j3, .int .i64 R.copies] 62))
                have XK7 : Kn Ka wa (w5.alloc (.cells #[.slice h0 R'.names.length j0, .slice h1 R'.attrs.length j1, .slice h2 R'.inner.length j2, .slice h3 R'.par.length j3, .int .i64 R.copies] 62)) wr.heap.size := .inl XK.out
                generalize hK7 : Kn Ka wa (w5.alloc (.cells #[.slice h0 R'.names.length j0, .slice h1 R'.attrs.length j1, .slice h2 R'.inner.length j2, .slice h3 R'.par.length j3, .int .i64 R.copies] 62)) = K7 at *
                have HOf := Lib.hid (fun (W : World) (hW : Below w7.heap.size w7 W) => decanterlaw06_Of.calls 20 A3 c3 at' (ofB at') W (Kd.F_now (Kd.F_below FA7 hW)) FAa.out.2 (of_eq at' (by omega) 20 (by omega)))
                have hgd := HSa.out.gd
                have HEl := Lib.hid (fun (W : World) (hW : Below w7.heap.size w7 W) (A : Option Addr) (c : Nat) (hC : Kd.C k105 W A (ofB at').length (ofB at')) (hle : (ofB at').length ≤ c) => str_element (P7.out.below hW).str hgd (by omega) nm A c (ofB at') hC hle (by rw [ofB_length]; omega))
                have HFu := Lib.hid (fun (W w' : World) (hW : Below w7.heap.size w7 W) (hS : StR w' w1.heap.size w1.heap.size wX.heap.size (m.element nm (ofB at')) xs (KM (Kn K7 w7 W) w3.heap.size)) (hs : Same (KM (Kn K7 w7 W) w3.heap.size) W w') =>
                  Pre.full (n := 3 * i + 1) (R := R) (name := nm) (a := at') (P7.out.below hW) hS hs hgd HSa.out.u HSa.out.rel HSa.out.li HSa.out.lp h10)
                have B7s := Lib.hid (Below.refl w7.heap.size w7)
                have HFR := Lib.hid hgd.fresh
                have a2'' := blk_cell XA7 2
                have a3'' := blk_cell XA7 3
                simp only [List.getElem?_toArray, List.getElem?_cons_zero, List.getElem?_cons_succ] at a2'' a3''
                have HXA7 := Lib.hid XA7
                have HHK7 := Lib.hid HK7
                have HXK7 := Lib.hid XK7
                rw [HR'.out] at HFu
                clear XA7 FA7 S7 HK7 XK7 hK7 hw7 hgd q0 q1 q2 q3 q4 z0 z1 z2 z3 z4 X6 b0 b1 b2 b3 b4 a0' a1' a2' a3' HSa FAa HBa HKa XA XK SK B5
                go_cut [79] (fun v79 wc => v79 = .bool false ∧ ∃ W, Hid (Below w7.heap.size w7 W) ∧ Hid (St11 wc w1.heap.size wX.heap.size w3.heap.size (Kn K7 w7 W) (m.element nm (ofB at')) xs xs R' (.slice h0 R'.names.length j0) (.slice h1 R'.attrs.length j1) (.slice h2 R'.inner.length j2) (.slice h3 R'.par.length j3) (.slice A6 xs.length c6) (3 * i + 1 + 1)) ∧ Hid (Below w.heap.size w wc) ∧ Hid (wc.heap[wr.heap.size]? = some (.cells #[.int .i64 xd, .int .i64 xn, .string nm, .slice A3 at'.length c3] 86 (0, 0))))
                case first =>
                  as_aux_lemma =>
                    go_region_with (first
                      | (go_at_call 20; go_loud (refine (HOf.out _ (by first | exact B7s.out | exact bd B7s.out _ | exact bd1 B7s.out)).mono ?_; rintro e w8 ⟨v8, rfl, hr8, hb8⟩; obtain ⟨A8, c8, rfl, hle8, hC8⟩ := Kd.R_reads hr8; have L8 := Lib.hid (And.intro hle8 hC8); have B8 := Lib.hid (show Below w7.heap.size w7 w8 from ((by first | exact B7s.out | exact bd B7s.out _ | exact bd1 B7s.out) : Below w7.heap.size w7 _).trans (hb8.mono (show w7.heap.size ≤ _ from (by first | exact B7s.out.size | exact (bd B7s.out _).size | exact (bd1 B7s.out).size)))); have X8 := Lib.hid (blk_below HXA7.out B8.out); have n2 := blk_cell X8.out 2; have n3 := blk_cell X8.out 3; simp only [List.getElem?_toArray, List.getElem?_cons_zero, List.getElem?_cons_succ] at n2 n3; clear hr8 hle8 hC8 hb8))
                      | (go_at_call 19; go_loud (refine (HEl.out _ B8.out _ _ L8.out.2 L8.out.1).mono ?_; rintro e w9 ⟨rfl, hS9, hb9, hs9⟩; have F9 := Lib.hid (HFu.out _ _ B8.out hS9 hs9); have X9 := Lib.hid (hs9 wr.heap.size (.inl (.inl HXK7.out))); have B9 := Lib.hid hb9; clear hS9 hb9 hs9)))
                    all_goals
                      go_wp2_with fail
                      go_meet
                      exact ⟨rfl, w8, B8, F9, Lib.hid ((B7.out.trans (B8.out.mono B7.out.size)).trans (B9.out.mono UP.out)), Lib.hid (X9.out.trans X8.out)⟩
                case rest =>
                  as_aux_lemma =>
                    obtain ⟨rfl, W8, BW8, HS, HB, HX⟩ := hcut
                    have HK8 := Lib.hid (K_more HHK7.out w7 W8)
                    have HXK8 := Lib.hid (show Kn K7 w7 W8 wr.heap.size from .inl HXK7.out)
                    have hEl : m.elems.length < (m.element nm (ofB at')).elems.length := by rw [(element_len _ _ _).1]; omega
                    have HEl2 := Lib.hid hEl
                    clear hEl P7 B7 HOf HEl HFu B7s HXA7 HHK7 HXK7 a2'' a3'' BW8 HR'
                    generalize Kn K7 w7 W8 = K8 at *
                    generalize m.element nm (ofB at') = m8 at *
                    generalize m.elems.length = E at *
                    go_upto_region 20 with (fail)
                    go_cut [12] (fun v12 wd => v12 = .bool (isB xs P) ∧ wd = wc)
                    case first =>
                      as_aux_lemma =>
                        have p0 : (0 : Int) ≤ (P : Int) := by omega
                        by_cases hPx : P < xs.length
                        · obtain ⟨a6, rfl, e6⟩ := HS.out.want_at P hPx
                          have p1 : (P : Int) < (xs.length : Int) := by omega
                          have hib : isB xs P = (xs.getD P 0 != -1) := by unfold isB; rw [decide_eq_true hPx, Bool.true_and]
                          generalize xs.getD P 0 = x6 at *
                          go_wp2_with fail
                          go_meet
                          exact ⟨by rw [hib], rfl⟩
                        · have p1 : ¬ (P : Int) < (xs.length : Int) := by omega
                          have hib : isB xs P = false := by unfold isB; rw [decide_eq_false hPx, Bool.false_and]
                          go_wp2_with fail
                          go_meet
                          exact ⟨by rw [hib], rfl⟩
                    case rest =>
                      as_aux_lemma =>
                        obtain ⟨rfl, rfl⟩ := hcut
                        have y0 := blk_cell HX.out 0
                        simp only [List.getElem?_toArray, List.getElem?_cons_zero, List.getElem?_cons_succ] at y0
                        go_upto_block 2 with fail
                        have hlen := HS.out.gd.len
                        have hPxs := hPl
                        go_cut [6, 12] (fun v6 v12 we => ∃ K9 ys sv9, v6 = sv9 ∧ Hid (St11 we w1.heap.size wX.heap.size w3.heap.size K9 m8 ys ys R' (.slice h0 R'.names.length j0) (.slice h1 R'.attrs.length j1) (.slice h2 R'.inner.length j2) (.slice h3 R'.par.length j3) sv9 (3 * i + 1 + 1 + 1)) ∧ Hid (∀ k, k < w1.heap.size → K9 k) ∧ Hid (Below w.heap.size w we))
                        case first =>
                          as_aux_lemma =>
                            have hn9 : 3 * i + 1 + 1 ≤ 9999 := by omega
                            have hl4 : xs.length ≤ 400 := by omega
                            by_cases d0 : xd = 0
                            · subst d0
                              go_wp2_with (first
                                | (go_at_call 32; go_loud (refine (HS.out.cPush hn9 E HEl2.out HFR.out).mono ?_; rintro e wf ⟨rfl, hs, hb, _⟩; have S9 := Lib.hid hs; have B9 := Lib.hid (HB.out.trans (hb.mono UP.out)); have X9 := S9.out.box; have r0 := blk_cell X9 0; have r1 := blk_cell X9 1; have r2 := blk_cell X9 2; have r3 := blk_cell X9 3; have r4 := blk_cell X9 4; simp only [List.getElem?_toArray, List.getElem?_cons_zero, List.getElem?_cons_succ] at r0 r1 r2 r3 r4; clear hs hb X9))
                                | (go_at_call 60; go_loud (refine (S9.out.push14 HS.out.gd.ent hl4 E HEl2.out).mono ?_; rintro e wg ⟨vg, rfl, hs, hb⟩; have S10 := Lib.hid hs; have B10 := Lib.hid (B9.out.trans (hb.mono B9.out.size)); clear hs hb)))
                              go_meet
                              exact ⟨_, _, _, rfl, S10, Lib.hid (K_more HK8.out _ _), B10⟩
                            · have e0 : (xd == 0) = false := beq_eq_false_iff_ne.2 d0
                              by_cases d1 : xd = 1
                              · subst d1
                                have F6 := Lib.hid HS.out.row.slice
                                go_wp2_with (first
                                  | (go_at_call 53; go_loud (refine (HS.out.cMark hn9).mono ?_; rintro e wf ⟨rfl, hs, hb, _⟩; have F9 := Lib.hid (Kd.F_bound (RowF.slice hs.row)); have S9 := Lib.hid hs; have B9 := Lib.hid (HB.out.trans (hb.mono UP.out)); have BL9 := Lib.hid ((Below.refl wf.heap.size wf).alloc (Nat.le_refl _) (.cells #[] 3)); have NL9 := Lib.hid (Kd.N_mono (ok' := (fun k => (K8 k ∧ k < wf.heap.size) ∨ wf.heap.size ≤ k)) (N_lit (Kd.int .i64) 3 wf wf.heap.size (Nat.le_refl _)) (fun k hk => .inr hk)); clear hs hb))
                                  | (refine Kd.N_append_rows (Kd.int .i64) (w0 := wf) (W := wf.alloc (.cells #[] 3)) wf.heap.size rfl (.tmp 114) (.tmp 115) 53 3 (.int .i64 0) 8 rfl Try.underlying53 info3 rfl (by decide) (by decide) (.slice (some ⟨wf.heap.size, 0, none⟩) 0 0) [] xs A6 xs.length c6 (fun k => (K8 k ∧ k < wf.heap.size) ∨ wf.heap.size ≤ k) (fun k => K8 k ∧ k < wf.heap.size) rfl rfl NL9.out (Kd.F_below F9.out BL9.out) (fun k hk => ⟨.inl hk, fun e => by have := Kd.N_base NL9.out k e.symm; omega⟩) (fun k hk => .inr (Nat.le_trans BL9.out.size hk)) BL9.out BL9.out.size (by simp; omega) ?_; intro va wa2 hna hba hga hata; rw [List.nil_append] at hna; have NA := Lib.hid hna; have BA2 := Lib.hid hba; clear hna hba hga hata)
                                  | (refine Kd.N_append (Kd.int .i64) (w0 := wf) (W := wa2) wf.heap.size rfl (.tmp 116) (.tmp 117) 53 3 (.int .i64 0) 8 rfl Try.underlying53 info3 rfl (by decide) (by decide) va xs (-1) [.int .i64 (-1)] (fun k => (K8 k ∧ k < wf.heap.size) ∨ wf.heap.size ≤ k) (fun _ => False) rfl (by first | (go_simp; done) | (go_simp; rfl)) (Kd.FK_of_M (base := 0) (ok := fun _ => False) rfl) (fun _ hk => hk.elim) (fun k hk => .inr (Nat.le_trans BA2.out.size hk)) NA.out BA2.out BA2.out.size (by omega) ?_; intro vb wb hnb hbb _ _; have S10 := Lib.hid (S9.out.marked hbb hnb); have B10 := Lib.hid (B9.out.trans (hbb.mono B9.out.size)); clear hnb hbb))
                                go_meet
                                exact ⟨_, _, _, rfl, S10, Lib.hid (K_more HK8.out _ _), B10⟩
                              · have e1 : (xd == 1) = false := beq_eq_false_iff_ne.2 d1
                                by_cases d2 : xd = 2
                                · subst d2
                                  go_wp2_with (first
                                    | (go_at_call 56; go_loud (refine (HS.out.cClear hn9).mono ?_; rintro e wf ⟨rfl, hs, hb, _⟩; have S9 := Lib.hid hs; have B9 := Lib.hid (HB.out.trans (hb.mono UP.out)); have X9 := S9.out.box; have r0 := blk_cell X9 0; have r1 := blk_cell X9 1; have r2 := blk_cell X9 2; have r3 := blk_cell X9 3; have r4 := blk_cell X9 4; simp only [List.getElem?_toArray, List.getElem?_cons_zero, List.getElem?_cons_succ] at r0 r1 r2 r3 r4; clear hs hb X9))
                                    | (go_at_call 61; go_loud (refine (S9.out.clear14 hl4).mono ?_; rintro e wg ⟨vg, rfl, hs, hb⟩; have S10 := Lib.hid hs; have B10 := Lib.hid (B9.out.trans (hb.mono B9.out.size)); clear hs hb)))
                                  go_meet
                                  exact ⟨_, _, _, rfl, S10, Lib.hid (K_more HK8.out _ _), B10⟩
                                · have e2 : (xd == 2) = false := beq_eq_false_iff_ne.2 d2
                                  by_cases d3 : xd = 3
                                  · subst d3
                                    cases hib : isB xs P with
                                    | true =>
                                      obtain ⟨x6, hx6, hx1, hxl6⟩ := isB_true hib
                                      obtain ⟨a6, rfl, e6⟩ := HS.out.want_at P hxl6
                                      rw [List.getD_eq_getElem?_getD, hx6, Option.getD_some] at e6
                                      have p1 : (P : Int) < (xs.length : Int) := by omega
                                      have p0 : (0 : Int) ≤ (P : Int) := by omega
                                      go_wp2_with (first
                                        | (go_at_call 59; go_loud (refine (HS.out.cRemove hn9 P x6 hx6 hx1).mono ?_; rintro e wf ⟨rfl, hs, hb, _⟩; have S9 := Lib.hid hs; have B9 := Lib.hid (HB.out.trans (hb.mono UP.out)); have X9 := S9.out.box; have r0 := blk_cell X9 0; have r1 := blk_cell X9 1; have r2 := blk_cell X9 2; have r3 := blk_cell X9 3; have r4 := blk_cell X9 4; simp only [List.getElem?_toArray, List.getElem?_cons_zero, List.getElem?_cons_succ] at r0 r1 r2 r3 r4; clear hs hb X9))
                                        | (go_at_call 62; go_loud (refine (S9.out.without14 hl4 P hxl6).mono ?_; rintro e wg ⟨vg, rfl, hs, hb⟩; have S10 := Lib.hid hs; have B10 := Lib.hid (B9.out.trans (hb.mono B9.out.size)); clear hs hb)))
                                      go_meet
                                      exact ⟨_, _, _, rfl, S10, Lib.hid (K_more HK8.out _ _), B10⟩
                                    | false =>
                                      go_wp2_with (first
                                        | (go_at_call 59; go_loud (refine (HS.out.cRemoveMiss hn9 (E : Int) HFR.out).mono ?_; rintro e wf ⟨rfl, hs, hb, _⟩; have S9 := Lib.hid hs; have B9 := Lib.hid (HB.out.trans (hb.mono UP.out)); have X9 := S9.out.box; have r0 := blk_cell X9 0; have r1 := blk_cell X9 1; have r2 := blk_cell X9 2; have r3 := blk_cell X9 3; have r4 := blk_cell X9 4; simp only [List.getElem?_toArray, List.getElem?_cons_zero, List.getElem?_cons_succ] at r0 r1 r2 r3 r4; clear hs hb X9)))
                                      go_meet
                                      exact ⟨_, _, _, rfl, S9, HK8, B9⟩
                                  · have e3 : (xd == 3) = false := beq_eq_false_iff_ne.2 d3
                                    by_cases d4 : xd = 4
                                    · subst d4
                                      cases hib : isB xs P with
                                      | true =>
                                        obtain ⟨x6, hx6, hx1, hxl6⟩ := isB_true hib
                                        obtain ⟨a6, rfl, e6⟩ := HS.out.want_at P hxl6
                                        rw [List.getD_eq_getElem?_getD, hx6, Option.getD_some] at e6
                                        have p1 : (P : Int) < (xs.length : Int) := by omega
                                        have p0 : (0 : Int) ≤ (P : Int) := by omega
                                        have hcl : (xs.take P ++ xs.drop (P + 1)).length ≤ 400 := Nat.le_trans (cut_sub xs P).length_le hl4
                                        have hcp : P ≤ (xs.take P ++ xs.drop (P + 1)).length := by rw [List.length_append, List.length_take]; omega
                                        obtain ⟨cs, hcs⟩ : ∃ cs, xs.take P ++ xs.drop (P + 1) = cs := ⟨_, rfl⟩
                                        have HCS := Lib.hid hcs
                                        rw [hcs] at hcl hcp
                                        clear hcs
                                        go_wp2_with (first
                                          | (go_at_call 58; go_loud (refine (HS.out.cReplace hn9 P x6 hx6 hx1 E HEl2.out HFR.out).mono ?_; rintro e wf ⟨rfl, hs, hb, _⟩; have S9 := Lib.hid hs; have B9 := Lib.hid (HB.out.trans (hb.mono UP.out)); have X9 := S9.out.box; have r0 := blk_cell X9 0; have r1 := blk_cell X9 1; have r2 := blk_cell X9 2; have r3 := blk_cell X9 3; have r4 := blk_cell X9 4; simp only [List.getElem?_toArray, List.getElem?_cons_zero, List.getElem?_cons_succ] at r0 r1 r2 r3 r4; clear hs hb X9))
                                          | (go_at_call 62; go_loud (refine (S9.out.without14 hl4 P hxl6).mono ?_; rintro e wg ⟨vg, rfl, hs, hb⟩; have S10 := Lib.hid hs; have B10 := Lib.hid (B9.out.trans (hb.mono B9.out.size)); clear hs hb))
                                          | (go_at_call 63; go_loud (refine ((show St11 _ _ _ _ _ _ _ cs _ _ _ _ _ _ _ from by have := S10.out; rwa [HCS.out] at this).insert14 hcl P hcp (E : Int)).mono ?_; rintro e wh ⟨vh, rfl, hs, hb⟩; rw [← HCS.out] at hs; have S11 := Lib.hid hs; have B11 := Lib.hid (B10.out.trans (hb.mono B10.out.size)); clear hs hb)))
                                        go_meet
                                        exact ⟨_, _, _, rfl, S11, Lib.hid (K_more (K_more HK8.out _ _) _ _), B11⟩
                                      | false =>
                                        go_wp2_with (first
                                          | (go_at_call 58; go_loud (refine (HS.out.cReplaceMiss hn9 (E : Int) (E : Int) HFR.out).mono ?_; rintro e wf ⟨rfl, hs, hb, _⟩; have S9 := Lib.hid hs; have B9 := Lib.hid (HB.out.trans (hb.mono UP.out)); have X9 := S9.out.box; have r0 := blk_cell X9 0; have r1 := blk_cell X9 1; have r2 := blk_cell X9 2; have r3 := blk_cell X9 3; have r4 := blk_cell X9 4; simp only [List.getElem?_toArray, List.getElem?_cons_zero, List.getElem?_cons_succ] at r0 r1 r2 r3 r4; clear hs hb X9)))
                                        go_meet
                                        exact ⟨_, _, _, rfl, S9, HK8, B9⟩
                                    · have e4 : (xd == 4) = false := beq_eq_false_iff_ne.2 d4
                                      go_wp2_with (first
                                        | (go_at_call 57; go_loud (refine (HS.out.cInsert hn9 P hPl E HEl2.out HFR.out).mono ?_; rintro e wf ⟨rfl, hs, hb, _⟩; have S9 := Lib.hid hs; have B9 := Lib.hid (HB.out.trans (hb.mono UP.out)); have X9 := S9.out.box; have r0 := blk_cell X9 0; have r1 := blk_cell X9 1; have r2 := blk_cell X9 2; have r3 := blk_cell X9 3; have r4 := blk_cell X9 4; simp only [List.getElem?_toArray, List.getElem?_cons_zero, List.getElem?_cons_succ] at r0 r1 r2 r3 r4; clear hs hb X9))
                                        | (go_at_call 63; go_loud (refine (S9.out.insert14 hl4 P hPl (E : Int)).mono ?_; rintro e wg ⟨vg, rfl, hs, hb⟩; have S10 := Lib.hid hs; have B10 := Lib.hid (B9.out.trans (hb.mono B9.out.size)); clear hs hb)))
                                      go_meet
                                      exact ⟨_, _, _, rfl, S10, Lib.hid (K_more HK8.out _ _), B10⟩
                        case rest =>
                          as_aux_lemma =>
                            obtain ⟨K9, ys, sv9, rfl, HS9, HK9, HB9⟩ := hcut
                            have hEm : E ≤ 400 := by have e1 := HEl2.out; have e2 := HS9.out.gd.elems; omega
                            clear HS HB HX HK8 HXK8 y0 HFR HEl2
                            obtain ⟨A9, c9, rfl, l9, C9⟩ := HS9.out.row.now
                            have hyl : ys.length ≤ 400 := by have := HS9.out.gd.len; omega
                            have HA9 := Lib.hid (st_all HS9.out.str.st HS9.out.gd (by omega))
                            have HC9 := Lib.hid (And.intro C9 l9)
                            clear l9 C9
                            have HYL := Lib.hid (Nat.le_trans hyl (by decide) : ys.length ≤ 1000000)
                            go_upto_block 3 with (first
                              | (go_at_call 35; go_loud (refine HA9.out.mono ?_; rintro e wh ⟨vh, rfl, hr, hb⟩; obtain ⟨Ah, ch, rfl, hch, hCh⟩ := hr.reads; have Sh := Lib.hid (HS9.out.below hb); have Ch := Lib.hid (And.intro hCh hch); have Bh := Lib.hid (HB9.out.trans (hb.mono HB9.out.size)); have C9h := Lib.hid (Kd.C_below HC9.out.1 hb); have HKh := Lib.hid (K_more HK9.out wc wh); clear hr hb hch hCh))
                              | (go_at_call 34; go_loud (refine (same14 Ch.out.1 Ch.out.2 C9h.out HC9.out.2 HYL.out).mono ?_; rintro e wi ⟨rfl, hb⟩; have Si := Lib.hid (Sh.out.below hb); have Bi := Lib.hid (Bh.out.trans (hb.mono Bh.out.size)); have HKi := Lib.hid (K_more HKh.out wh wi); clear hb)))
                            clear HS9 HK9 HB9 Sh Ch Bh C9h HKh HA9 HC9
                            go_wp2_with fail
                            go_loopg [13] (E + 1) (fun gg s13 wj => ∃ (k : Nat) (Kj : Nat → Prop), s13 = .int .i64 (k : Int) ∧ 1 ≤ k ∧ k ≤ E + 1 ∧ k + gg = E + 2 ∧ Hid (St11 wj w1.heap.size wX.heap.size w3.heap.size Kj m8 ys ys R' (.slice h0 R'.names.length j0) (.slice h1 R'.attrs.length j1) (.slice h2 R'.inner.length j2) (.slice h3 R'.par.length j3) (.slice A9 ys.length c9) (3 * i + 1 + 1 + 1)) ∧ Hid (∀ k, k < w1.heap.size → Kj k) ∧ Hid (Below w.heap.size w wj))
                            case atStart => exact ⟨1, _, rfl, Nat.le_refl _, by omega, by omega, Si, HKi, Bi⟩
                            case round =>
                              clear Si HKi Bi
                              obtain ⟨k, Kj, rfl, hk1, hk2, hgk3, Sj, HKj, Bj⟩ := hrel
                              by_cases hk3 : k ≤ E
                              · have k1 : (k : Int) ≤ (E : Int) := by omega
                                have k0 : (0 : Int) ≤ (k : Int) := by omega
                                have HF1 := Lib.hid (st_find Sj.out.str.st Sj.out.gd (by omega) (k : Int))
                                go_wp2_with (first
                                  | (go_at_call 55; go_loud (refine HF1.out.mono ?_; rintro e wk ⟨rfl, nk, rfl⟩; have Sk := Lib.hid (Sj.out.below (below_drewN0 wr nk)); have Bk := Lib.hid (bd Bj.out nk); have HKk := Lib.hid (K_more HKj.out wr (wr.drewN nk))))
                                  | (go_at_call 64; go_loud (refine (Sk.out.find14 (Nat.le_trans Sk.out.gd.len (by omega)) (k : Int)).mono ?_; rintro e wl ⟨rfl, hb⟩; have Sl := Lib.hid (Sk.out.below hb); have Bl := Lib.hid (Bk.out.trans (hb.mono Bk.out.size)); have HKl := Lib.hid (K_more HKk.out (wr.drewN nk) wl); clear hb)))
                                go_roundg (gk - 1)
                                case measure => omega
                                case rel => exact ⟨k + 1, _, by first | rfl | go_num, by omega, by omega, by omega, Sl, HKl, Bl⟩
                              · have k1 : ¬ (k : Int) ≤ (E : Int) := by omega
                                go_wp2_with fail
                                go_loopg [15, 16, 17, 18, 179] (l0.length + 1) (fun gg s15 s16 s17 s18 s179 wp => ∃ (q : Nat) (Kp' : Nat → Prop), s179 = .int .i64 (q : Int) ∧ q ≤ l0.length ∧ q + gg = l0.length + 1 ∧ Hid (St11 wp w1.heap.size wX.heap.size w3.heap.size Kp' m8 ys ys R' (.slice h0 R'.names.length j0) (.slice h1 R'.attrs.length j1) (.slice h2 R'.inner.length j2) (.slice h3 R'.par.length j3) (.slice A9 ys.length c9) (3 * i + 1 + 1 + 1)) ∧ Hid (∀ k, k < w1.heap.size → Kp' k) ∧ Hid (Below w.heap.size w wp))
                                case atStart => exact ⟨0, _, rfl, Nat.zero_le _, by omega, Sj, HKj, Bj⟩
                                case round =>
                                  clear Sj HKj Bj
                                  obtain ⟨q, Kp', rfl, hq, hgq2, Sp, HKp, Bp⟩ := hrel
                                  by_cases hql : q < l0.length
                                  · obtain ⟨ad2, A23, c23, y, had, hy, F0, F1, F2, F3, _, _⟩ := act_at R0.out q hql
                                    cases had
                                    replace F0 := pw_cell_below Bp.out F0
                                    replace F1 := pw_cell_below Bp.out F1
                                    replace F2 := pw_cell_below Bp.out F2
                                    replace F3 := pw_cell_below Bp.out F3
                                    obtain ⟨yd, yn, nm2, at2⟩ := y
                                    simp only at F0 F1 F2 F3
                                    have i3 : (q : Int) < (l0.length : Int) := by omega
                                    have i4 : (0 : Int) ≤ (q : Int) := by omega
                                    have BQ := Lib.hid ((Below.refl wr.heap.size wr).alloc (Nat.le_refl _) (.cells #[.int .i64 yd, .int .i64 yn, .string nm2, .slice A23 at2.length c23] 86))
                                    have SQ := Lib.hid (Sp.out.below BQ.out)
                                    have BQb := Lib.hid (Bp.out.trans (BQ.out.mono Bp.out.size))
                                    have HKq := Lib.hid (K_more HKp.out wr (wr.alloc (.cells #[.int .i64 yd, .int .i64 yn, .string nm2, .slice A23 at2.length c23] 86)))
                                    have XQA := Lib.hid (blk_new wr (.cells #[.int .i64 yd, .int .i64 yn, .string nm2, .slice A23 at2.length c23] 86))
                                    have HLs := str_last SQ.out.str SQ.out.gd (by omega) nm2
                                    rcases hL : lastL m8 nm2 ys with _ | x9
                                    · have hmx : max (-1 : Int) 0 = 0 := rfl
                                      have HL1 := Lib.hid (show Calls Try.prog 54 #[.pointer (some ⟨wX.heap.size, 0, none⟩), .string nm2] (wr.alloc (.cells #[.int .i64 yd, .int .i64 yn, .string nm2, .slice A23 at2.length c23] 86)) fun e w' => e = .returned (.tuple #[.int .i64 0, .bool false]) ∧ Below (wr.alloc (.cells #[.int .i64 yd, .int .i64 yn, .string nm2, .slice A23 at2.length c23] 86)).heap.size (wr.alloc (.cells #[.int .i64 yd, .int .i64 yn, .string nm2, .slice A23 at2.length c23] 86)) w' by
                                        unfold lastV lastB at HLs
                                        rw [hL] at HLs
                                        exact HLs)
                                      have HL2 := Lib.hid (fun (W : World) (K : Nat → Prop) (hS : St11 W w1.heap.size wX.heap.size w3.heap.size K m8 ys ys R' (.slice h0 R'.names.length j0) (.slice h1 R'.attrs.length j1) (.slice h2 R'.inner.length j2) (.slice h3 R'.par.length j3) (.slice A9 ys.length c9) (3 * i + 1 + 1 + 1)) => show Calls Try.prog 65 #[.agg #[.slice h0 R'.names.length j0, .slice h1 R'.attrs.length j1, .slice h2 R'.inner.length j2, .slice h3 R'.par.length j3, .int .i64 R'.copies], .slice A9 ys.length c9, .string nm2] W fun en w' => en = .returned (.int .i64 (-1)) ∧ Below W.heap.size W w' by
                                        have := hS.last14 hS.gd.ent (Nat.le_trans hS.gd.len (by omega)) nm2
                                        rw [hL] at this
                                        exact this)
                                      clear HLs hL
                                      go_wp2_with (first
                                        | (go_at_call 54; go_loud (refine HL1.out.mono ?_; rintro e wt ⟨rfl, hb⟩; have Sr := Lib.hid (SQ.out.below hb); have Br := Lib.hid (BQb.out.trans (hb.mono BQb.out.size)); have HKr := Lib.hid (K_more HKq.out _ wt : ∀ k, k < w1.heap.size → Kn (Kn Kp' wr (wr.alloc (.cells #[.int .i64 yd, .int .i64 yn, .string nm2, .slice A23 at2.length c23] 86))) (wr.alloc (.cells #[.int .i64 yd, .int .i64 yn, .string nm2, .slice A23 at2.length c23] 86)) wt k); have XT := Sr.out.box; have b0 := blk_cell XT 0; have b1 := blk_cell XT 1; have b2 := blk_cell XT 2; have b3 := blk_cell XT 3; have b4 := blk_cell XT 4; have XY := blk_below XQA.out hb; have n2 := blk_cell XY 2; simp only [List.getElem?_toArray, List.getElem?_cons_zero, List.getElem?_cons_succ] at b0 b1 b2 b3 b4 n2; clear hb XT XY))
                                        | (go_at_call 65; go_loud (refine (HL2.out _ _ Sr.out).mono ?_; rintro e wu ⟨rfl, hb⟩; have Su := Lib.hid (Sr.out.below hb); have Bu := Lib.hid (Br.out.trans (hb.mono Br.out.size)); have HKu := Lib.hid (K_more HKr.out wt wu); clear hb)))
                                      go_roundg (gk - 1)
                                      case measure => omega
                                      case rel => exact ⟨q + 1, _, by first | rfl | go_num, by omega, by omega, Su, HKu, Bu⟩
                                    · have hnn : 0 ≤ x9 := Sp.out.gd.last_nn hL
                                      have hmx : max x9 0 = x9 := by omega
                                      have hmn : (if x9 < 0 then (0 : Int) else x9) = x9 := by rw [if_neg (by omega)]
                                      have HL1 := Lib.hid (show Calls Try.prog 54 #[.pointer (some ⟨wX.heap.size, 0, none⟩), .string nm2] (wr.alloc (.cells #[.int .i64 yd, .int .i64 yn, .string nm2, .slice A23 at2.length c23] 86)) fun e w' => e = .returned (.tuple #[.int .i64 x9, .bool true]) ∧ Below (wr.alloc (.cells #[.int .i64 yd, .int .i64 yn, .string nm2, .slice A23 at2.length c23] 86)).heap.size (wr.alloc (.cells #[.int .i64 yd, .int .i64 yn, .string nm2, .slice A23 at2.length c23] 86)) w' by
                                        unfold lastV lastB at HLs
                                        rw [hL] at HLs
                                        exact HLs)
                                      have HL2 := Lib.hid (fun (W : World) (K : Nat → Prop) (hS : St11 W w1.heap.size wX.heap.size w3.heap.size K m8 ys ys R' (.slice h0 R'.names.length j0) (.slice h1 R'.attrs.length j1) (.slice h2 R'.inner.length j2) (.slice h3 R'.par.length j3) (.slice A9 ys.length c9) (3 * i + 1 + 1 + 1)) => show Calls Try.prog 65 #[.agg #[.slice h0 R'.names.length j0, .slice h1 R'.attrs.length j1, .slice h2 R'.inner.length j2, .slice h3 R'.par.length j3, .int .i64 R'.copies], .slice A9 ys.length c9, .string nm2] W fun en w' => en = .returned (.int .i64 x9) ∧ Below W.heap.size W w' by
                                        have := hS.last14 hS.gd.ent (Nat.le_trans hS.gd.len (by omega)) nm2
                                        rw [hL] at this
                                        exact this)
                                      clear HLs hL
                                      go_wp2_with (first
                                        | (go_at_call 54; go_loud (refine HL1.out.mono ?_; rintro e wt ⟨rfl, hb⟩; have Sr := Lib.hid (SQ.out.below hb); have Br := Lib.hid (BQb.out.trans (hb.mono BQb.out.size)); have HKr := Lib.hid (K_more HKq.out _ wt : ∀ k, k < w1.heap.size → Kn (Kn Kp' wr (wr.alloc (.cells #[.int .i64 yd, .int .i64 yn, .string nm2, .slice A23 at2.length c23] 86))) (wr.alloc (.cells #[.int .i64 yd, .int .i64 yn, .string nm2, .slice A23 at2.length c23] 86)) wt k); have XT := Sr.out.box; have b0 := blk_cell XT 0; have b1 := blk_cell XT 1; have b2 := blk_cell XT 2; have b3 := blk_cell XT 3; have b4 := blk_cell XT 4; have XY := blk_below XQA.out hb; have n2 := blk_cell XY 2; simp only [List.getElem?_toArray, List.getElem?_cons_zero, List.getElem?_cons_succ] at b0 b1 b2 b3 b4 n2; clear hb XT XY))
                                        | (go_at_call 65; go_loud (refine (HL2.out _ _ Sr.out).mono ?_; rintro e wu ⟨rfl, hb⟩; have Su := Lib.hid (Sr.out.below hb); have Bu := Lib.hid (Br.out.trans (hb.mono Br.out.size)); have HKu := Lib.hid (K_more HKr.out wt wu); clear hb)))
                                      go_roundg (gk - 1)
                                      case measure => omega
                                      case rel => exact ⟨q + 1, _, by first | rfl | go_num, by omega, by omega, Su, HKu, Bu⟩
                                  · have i3 : ¬ (q : Int) < (l0.length : Int) := by omega
                                    go_wp2_with fail
                                    go_roundg (gq - 1)
                                    case measure => omega
                                    case rel => exact ⟨i + 1, _, _, _, _, _, _, _, _, by first | rfl | go_num, by omega, by omega, Lib.hid (Sp.out.up (by omega)), HKp, Bp⟩
          · have h10a : (10 : Int) < (at'.length : Int) := by omega
            have h10b : decide ((10 : Int) < (at'.length : Int)) = true := decide_eq_true h10a
            go_wp2
            go_ret
            exact ⟨rfl, HB.out.alloc HB.out.size _⟩
      · have i1 : ¬ (i : Int) < (l0.length : Int) := by omega
        go_wp2
        go_ret
        exact ⟨rfl, HB.out⟩
  · have g1 : (40 : Int) < (l0.length : Int) := by omega
    have g2 : decide ((40 : Int) < (l0.length : Int)) = true := decide_eq_true g1
    go_enter Try.func11, Try.ntmps11
    go_wp2_with (go_at_call 30; first | (refine (CS.out w).mono ?_; rintro e w1 ⟨rfl, hb1⟩; have B1 := Lib.hid hb1; clear hb1) | (refine (CS.out _).mono ?_; rintro e w2 ⟨rfl, hb2⟩; have B2 := Lib.hid (B1.out.trans (hb2.mono B1.out.size)); clear hb2))
    go_ret
    exact ⟨rfl, B2.out⟩
end Go.Proofs.Ytcdkcnegejhnhaa.Ar
