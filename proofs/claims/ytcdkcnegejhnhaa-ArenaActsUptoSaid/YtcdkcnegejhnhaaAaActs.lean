/-
  The law ArenaActs (fn 7), walked whole: it answers true of all acts.
-/
import Derived.Test.YtcdkcnegejhnhaaAaSt
import Derived.Test.YtcdkcnegejhnhaaAaSame
namespace Go.Proofs.Ytcdkcnegejhnhaa.Aa
open Go.RowKit Go.Proofs.Ytcdkcnegejhnhaa.PAr Go.Proofs.Ytcdkcnegejhnhaa.Ar Go.Proofs.YtcdkcnegejhnhaaW.PrintWords Go.Proofs.YtcdkcnegejhnhaaW.PrintLast Go.Proofs.YtcdkcnegejhnhaaW.PrintMore
set_option linter.unusedVariables false
set_option linter.unusedSimpArgs false
/-! ### the acts -/
structure S65 where
  f0 : Int
  f1 : Int
  f2 : Int
  f3 : ByteArray
  f4 : List S106
def z65 : S65 := ⟨0, 0, 0, ⟨#[]⟩, []⟩
def k65 : Kd S65 := Kd.iso (Kd.pair (Kd.int .i64) (Kd.pair (Kd.int .i64) (Kd.pair (Kd.int .i64) (Kd.pair Kd.string (Kd.slice 106 k106))))) (fun x : S65 => (x.f0, x.f1, x.f2, x.f3, x.f4))
theorem k65_open {w : World} {x : S65} {cs : List Value} (h : k65.K w x cs) : ∃ A c, cs = [.int .i64 x.f0, .int .i64 x.f1, .int .i64 x.f2, .string x.f3, .slice A x.f4.length c] ∧ x.f4.length ≤ c ∧ k106.C w A x.f4.length x.f4 := by
  obtain ⟨_, _, rfl, rfl, ⟨_, _, rfl, rfl, ⟨_, _, rfl, rfl, ⟨_, _, rfl, rfl, ⟨A, c, rfl, l3, g3⟩⟩⟩⟩⟩ := h
  exact ⟨A, c, rfl, l3, g3⟩
theorem act_at {w : World} {A : Option Addr} {n : Nat} {xs : List S65} (h : Kd.C k65 w A n xs) (i : Nat) (hi : i < n) : ∃ ad A3 c3 x, A = some ad ∧ xs[i]? = some x ∧ w.cell? (ad.add (i * 5)) = some (.int .i64 x.f0) ∧ w.cell? ⟨(ad.add (i * 5)).block, (ad.add (i * 5)).off + 1, none⟩ = some (.int .i64 x.f1) ∧
    w.cell? ⟨(ad.add (i * 5)).block, (ad.add (i * 5)).off + 2, none⟩ = some (.int .i64 x.f2) ∧ w.cell? ⟨(ad.add (i * 5)).block, (ad.add (i * 5)).off + 3, none⟩ = some (.string x.f3) ∧ w.cell? ⟨(ad.add (i * 5)).block, (ad.add (i * 5)).off + 4, none⟩ = some (.slice A3 x.f4.length c3) ∧ x.f4.length ≤ c3 ∧ k106.C w A3 x.f4.length x.f4 := by
  have hl : xs.length = n := h.1
  obtain ⟨ad, c, e, _, hK, hc0⟩ := Kd.C_get h z65 (i : Int) (by omega) (by omega)
  rw [Int.toNat_natCast] at hK hc0
  have hc : ∀ j u, c[j]? = some u → w.cell? (ad.add (i * 5 + j)) = some u := hc0
  obtain ⟨A3, c3, rfl, l3, g3⟩ := k65_open hK
  have hx : xs[i]? = some (xs.getD i z65) := by rw [List.getD_eq_getElem?_getD, List.getElem?_eq_getElem (by omega), Option.getD_some]
  exact ⟨ad, A3, c3, _, e, hx, hc 0 _ rfl, by rw [← add_field _ _ 1 (by omega)]; exact hc 1 _ rfl, by rw [← add_field _ _ 2 (by omega)]; exact hc 2 _ rfl, by rw [← add_field _ _ 3 (by omega)]; exact hc 3 _ rfl, by rw [← add_field _ _ 4 (by omega)]; exact hc 4 _ rfl, l3, g3⟩
def Fit (x : S65) : Prop := (-9223372036854775808 ≤ x.f1 ∧ x.f1 ≤ 9223372036854775807) ∧ (-9223372036854775808 ≤ x.f2 ∧ x.f2 ≤ 9223372036854775807) ∧ x.f3.size ≤ 2000000
/-- What a round of the last loop reads. -/
def LsQ (B : Nat) (u0 u1 u2 u3 cp : Value) (aa ap : Addr) (at_ x : Value) (w : World) : Prop := w.cell? ⟨B, 0, none⟩ = some u0 ∧ w.cell? ⟨B, 1, none⟩ = some u1 ∧ w.cell? ⟨B, 2, none⟩ = some u2 ∧ w.cell? ⟨B, 3, none⟩ = some u3 ∧ w.cell? ⟨B, 4, none⟩ = some cp ∧ w.cell? aa = some at_ ∧ w.cell? ap = some x
theorem LsQ.below {B : Nat} {u0 u1 u2 u3 cp : Value} {aa ap : Addr} {at_ x : Value} {w w1 : World} (h : LsQ B u0 u1 u2 u3 cp aa ap at_ x w) (hb : Below w.heap.size w w1) : LsQ B u0 u1 u2 u3 cp aa ap at_ x w1 := by
  obtain ⟨h0, h1, h2, h3, h4, h5, h6⟩ := h
  exact ⟨pw_cell_below hb h0, pw_cell_below hb h1, pw_cell_below hb h2, pw_cell_below hb h3, pw_cell_below hb h4, pw_cell_below hb h5, pw_cell_below hb h6⟩
theorem RowF.int_at {W : World} {ok : Nat → Prop} {A : Option Addr} {n c : Nat} {xs : List Int} (h : RowF (Kd.int .i64) W ok (.slice A n c) xs) {i : Nat} {x : Int} (hx : xs[i]? = some x) : ∃ ad, A = some ad ∧ W.cell? (ad.add i) = some (.int .i64 x) := by
  obtain ⟨A', c', he, hc, hF⟩ := h
  injection he with h1 h2 h3
  subst h1 h2 h3
  have hi := (List.getElem?_eq_some_iff.1 hx).1
  obtain ⟨ad, cs, rfl, _, hK, hcc, _⟩ := Kd.F_get hF (0 : Int) (i : Int) (by omega) (by omega)
  rw [Int.toNat_natCast] at hK hcc
  rw [List.getD_eq_getElem?_getD, hx, Option.getD_some] at hK
  have hk0 : cs = [.int .i64 x] := Kd.FK_now hK
  subst hk0
  have := hcc 0 _ rfl
  rw [show i * (Kd.int .i64).sz + 0 = i from Nat.mul_one i] at this
  exact ⟨ad, rfl, this⟩
theorem St.reads {W0 w : World} {g b4 : Nat} {m : M} {f0 f1 f3 : Option Addr} {n0 d0 n1 d1 n3 d3 : Nat} {u2 : Value} {R : Rm} (h : St W0 w g b4 m (.slice f0 n0 d0) (.slice f1 n1 d1) u2 (.slice f3 n3 d3) R) {j : Nat} {nm : ByteArray} {a : List S106} {x : Int} (hnm : R.names[j]? = some nm) (ha : R.attrs[j]? = some a) (hx : R.par[j]? = some x) :
    ∃ an aa ap A6 c6, f0 = some an ∧ w.cell? (an.add j) = some (.string nm) ∧ f1 = some aa ∧ w.cell? (aa.add j) = some (.slice A6 a.length c6) ∧ a.length ≤ c6 ∧ Kd.C k106 w A6 a.length a ∧ f3 = some ap ∧ w.cell? (ap.add j) = some (.int .i64 x) := by
  obtain ⟨nv, ev, vs, ok, h1, h2, h3⟩ := h.both
  obtain ⟨an, e0, c0, _⟩ := h2.r0.string_at hnm
  obtain ⟨aa, A6, c6, e1, c1, hc6, hF, _⟩ := h2.r1.rows_at ha
  obtain ⟨ap, e3, c3⟩ := RowF.int_at h2.r3 hx
  exact ⟨an, aa, ap, A6, c6, e0, c0, e1, c1, hc6, Kd.F_now hF, e3, c3⟩
theorem St.forms {W0 w : World} {g b4 : Nat} {m : M} {u0 u1 u2 u3 : Value} {R : Rm} (h : St W0 w g b4 m u0 u1 u2 u3 R) : (∃ A c, u0 = .slice A R.names.length c) ∧ (∃ A c, u1 = .slice A R.attrs.length c) ∧ (∃ A c, u2 = .slice A R.inner.length c) ∧ (∃ A c, u3 = .slice A R.par.length c) := by
  obtain ⟨nv, ev, vs, ok, h1, h2, h3⟩ := h.both
  obtain ⟨A0, c0, e0, _⟩ := h2.r0
  obtain ⟨A1, c1, e1, _⟩ := h2.r1
  obtain ⟨A2, c2, e2, _⟩ := h2.r2
  obtain ⟨A3, c3, e3, _⟩ := h2.r3
  exact ⟨⟨A0, c0, e0⟩, ⟨A1, c1, e1⟩, ⟨A2, c2, e2⟩, ⟨A3, c3, e3⟩⟩
set_option maxRecDepth 100000 in
set_option maxHeartbeats 16000000 in
theorem acts12_calls (A0 : Option Addr) (c0 : Nat) (l0 : List S65) (w : World) (hr0 : Kd.C k65 w A0 l0.length l0) (hw0 : ∀ x ∈ l0, Fit x) :
    Calls Try.prog 7 #[.slice A0 l0.length c0] w fun e w' => e = .returned (.bool true) ∧ Below w.heap.size w w' := by
  have R0 := Lib.hid hr0
  have HV := Lib.hid hw0
  have CS := Lib.hid (fun W => speaks12 W)
  clear hr0 hw0
  by_cases hl : l0.length ≤ 40
  · have g1 : ¬ (40 : Int) < (l0.length : Int) := by omega
    have g2 : decide ((40 : Int) < (l0.length : Int)) = false := decide_eq_false g1
    have CN := Lib.hid (fun W => new_calls W)
    have CN2 := Lib.hid (fun W => decanterref12_New.calls [⟨#[]⟩] [[]] [[]] [-1] 0 W rfl)
    go_enter Try.func7, Try.ntmps7
    go_upto_region 6 with (first
      | (go_at_call 12; refine (CS.out _).mono ?_; rintro e w1 ⟨rfl, hb1⟩; have B1 := Lib.hid hb1; clear hb1)
      | (go_at_call 16; refine (CN.out _).mono ?_; rintro e w2 ⟨rfl, hA2, hb2⟩; have A2 := Lib.hid hA2; have B12 := Lib.hid hb2; clear hA2 hb2)
      | (go_at_call 36; go_loud (refine (CN2.out _).mono ?_; rintro e w3 ⟨v0, v1, v2, v3, rfl, r0, r1, r2, r3, hb3⟩; obtain ⟨a0, k0, rfl⟩ := Kd.R_slice r0; obtain ⟨a1, k1, rfl⟩ := Kd.R_slice (Kd.S_R r1); obtain ⟨a2, k2, rfl⟩ := Kd.R_slice (Kd.S_R r2); obtain ⟨a3, k3, rfl⟩ := Kd.R_slice r3; have Q := Lib.hid (And.intro r0 (And.intro r1 (And.intro r2 r3))); have B23 := Lib.hid hb3; clear r0 r1 r2 r3 hb3)))
    obtain ⟨r0, r1, r2, r3⟩ := Q.out
    have BX := Lib.hid (B23.out.alloc B23.out.size (.cells #[.slice a0 1 k0, .slice a1 1 k1, .slice a2 1 k2, .slice a3 1 k3, .int .i64 0] 62))
    have XB := Lib.hid (blk_new w3 (.cells #[.slice a0 1 k0, .slice a1 1 k1, .slice a2 1 k2, .slice a3 1 k3, .int .i64 0] 62))
    have Q2 := Lib.hid (show RA w3 (fun k => w2.heap.size ≤ k ∧ k < w3.heap.size) (.slice a0 1 k0) (.slice a1 1 k1) (.slice a2 1 k2) (.slice a3 1 k3) Rm.new from
      ⟨(RowF.of_R (Kd.R_bound r0)).mono fun k hk => ⟨hk.2.1, hk.2.2.1⟩, (RowF.of_S (Kd.S_bound r1)).mono fun k hk => ⟨hk.2.1, hk.2.2.1⟩, (RowF.of_S (Kd.S_bound r2)).mono fun k hk => ⟨hk.2.1, hk.2.2.1⟩, (RowF.of_R (Kd.R_bound r3)).mono fun k hk => ⟨hk.2.1, hk.2.2.1⟩⟩)
    have ST := Lib.hid (show St w1 (w3.alloc (.cells #[.slice a0 1 k0, .slice a1 1 k1, .slice a2 1 k2, .slice a3 1 k3, .int .i64 0] 62)) w1.heap.size w3.heap.size M.new (.slice a0 1 k0) (.slice a1 1 k1) (.slice a2 1 k2) (.slice a3 1 k3) Rm.new from by
      obtain ⟨nv, ev, vs, hA, hF⟩ := A2.out
      have h3 := B23.out.size
      have h4 := blk_lt XB.out
      exact ⟨⟨nv, ev, vs, _, hA.below BX.out, Q2.out.step fun k _ hk => Below.heap_alloc w3 _ k hk, fun k hk => ⟨fun hf => by have := (hF k hf).2; omega, by omega, by omega⟩⟩, B12.out.trans (BX.out.mono B12.out.size), h4⟩)
    have HB4 := Lib.hid (B1.out.trans (ST.out.b0.mono B1.out.size))
    have HG := Lib.hid (show w1.heap.size ≤ w3.heap.size from Nat.le_trans B12.out.size B23.out.size)
    have UP := Lib.hid B1.out.size
    have HB1 := Lib.hid B1.out
    have RN := Lib.hid rel_new
    clear r0 r1 r2 r3 Q CN CN2 A2 B12 B23 BX Q2 B1
    generalize hwx : w3.alloc (.cells #[.slice a0 1 k0, .slice a1 1 k1, .slice a2 1 k2, .slice a3 1 k3, .int .i64 0] 62) = wX at *
    clear hwx
    generalize hb : w3.heap.size = b4 at *
    clear hb
    generalize hg0 : w1.heap.size = g at *
    go_wp2_with fail
    go_loopg [6, 7, 8, 9, 10, 11, 12, 13, 30] (l0.length + 1) (fun gg s6 s7 s8 s9 s10 s11 s12 s13 s30 wr => ∃ (i : Nat) (m : M) (R : Rm) (d : Nat → Nat) (u0 u1 u2 u3 : Value), s30 = .int .i64 (i : Int) ∧ i ≤ l0.length ∧ i + gg = l0.length + 1 ∧
      Hid (St w1 wr g b4 m u0 u1 u2 u3 R) ∧ Hid (Rel m R d (2 * i)) ∧ Hid (wr.heap[b4]? = some (.cells #[u0, u1, u2, u3, .int .i64 R.copies] 62 (0, 0))) ∧ Hid (Below w.heap.size w wr))
    case atStart => exact ⟨0, _, _, _, _, _, _, _, rfl, Nat.zero_le _, by omega, ST, RN, XB, HB4⟩
    case round =>
      clear ST XB HB4 RN
      obtain ⟨i, m, R, d, u0, u1, u2, u3, rfl, hi, hgk, HS, HR, HX, HB⟩ := hrel
      by_cases hlt : i < l0.length
      · obtain ⟨ad, A3, c3, x, rfl, hx, E0, E1, E2, E3, E4, hc3, HC3⟩ := act_at R0.out i hlt
        have hxv := HV.out x (List.mem_of_getElem? hx)
        have i1 : (i : Int) < (l0.length : Int) := by omega
        have i0 : (0 : Int) ≤ (i : Int) := by omega
        have FA1 := Lib.hid (And.intro (Kd.F_mono (ok' := fun k => k < w1.heap.size) (Kd.F_below (Kd.C_F heap106 HC3) HB1.out) (fun k hk => Nat.lt_of_lt_of_le hk (by rw [hg0]; exact UP.out))) hc3)
        have FA := Lib.hid (And.intro (Kd.F_mono (ok' := fun k => k < w1.heap.size) (Kd.F_below (Kd.C_F heap106 HC3) HB.out) (fun k hk => Nat.lt_of_lt_of_le hk (by rw [hg0]; exact UP.out))) hc3)
        replace E0 := pw_cell_below HB.out E0
        replace E1 := pw_cell_below HB.out E1
        replace E2 := pw_cell_below HB.out E2
        replace E3 := pw_cell_below HB.out E3
        replace E4 := pw_cell_below HB.out E4
        obtain ⟨xd, xa, xb, xs, at'⟩ := x
        simp only at E0 E1 E2 E3 E4 hc3 HC3 hxv FA FA1
        have HXV := Lib.hid hxv
        clear hx HC3 hc3 hxv
        obtain ⟨⟨f0, d0, rfl⟩, ⟨f1, d1, rfl⟩, ⟨f2, d2, rfl⟩, ⟨f3, d3, rfl⟩⟩ := HS.out.forms
        have b0 := blk_cell HX.out 0
        try simp only [List.getElem?_toArray, List.getElem?_cons_zero, List.getElem?_cons_succ] at b0
        go_upto_region 9 with fail
        have BA := Lib.hid ((Below.refl wr.heap.size wr).alloc (Nat.le_refl _) (.cells #[.int .i64 xd, .int .i64 xa, .int .i64 xb, .string xs, .slice A3 at'.length c3] 65))
        have XA := Lib.hid (blk_new wr (.cells #[.int .i64 xd, .int .i64 xa, .int .i64 xb, .string xs, .slice A3 at'.length c3] 65))
        generalize hwa : wr.alloc (.cells #[.int .i64 xd, .int .i64 xa, .int .i64 xb, .string xs, .slice A3 at'.length c3] 65) = wa at *
        generalize hba : wr.heap.size = ba at *
        have HSa := Lib.hid (HS.out.below (hba ▸ BA.out))
        have HXa := Lib.hid (blk_below HX.out (hba ▸ BA.out))
        have HBa := Lib.hid (HB.out.trans ((hba ▸ BA.out : Below wr.heap.size wr wa).mono HB.out.size))
        have FAa := Lib.hid (And.intro (Kd.F_below FA.out.1 (hba ▸ BA.out)) FA.out.2)
        clear hwa BA HS HX FA E0 E1 E2 E3 E4 b0 HB
        have b0 := blk_cell HXa.out 0
        have a1' := blk_cell XA.out 1
        have a2' := blk_cell XA.out 2
        try simp only [List.getElem?_toArray, List.getElem?_cons_zero, List.getElem?_cons_succ] at b0 a1' a2'
        go_upto_region 10 with fail
        have hnn := HR.out.nn
        have hpos : 0 < R.names.length := by rw [hnn]; exact (List.getElem?_eq_some_iff.1 HR.out.root).1
        obtain ⟨P, hP, hPl⟩ := pick_eq xa HXV.out.1 R.names.length hpos
        obtain ⟨Q, hQ, hQl⟩ := pick_eq xb HXV.out.2.1 R.names.length hpos
        rw [hnn] at hPl hQl
        have CP := Lib.hid (fun W => decanterlaw12_pick.calls xa (R.names.length : Int) (P : Int) W hP)
        have CQ := Lib.hid (fun W => decanterlaw12_pick.calls xb (R.names.length : Int) (Q : Int) W hQ)
        have HPQ := Lib.hid (And.intro hPl hQl)
        clear hP hQ hnn hpos hPl hQl
        go_cut [8, 9] from 37 to 133 (fun v8 v9 wc => v8 = .int .i64 (P : Int) ∧ v9 = .int .i64 (Q : Int) ∧ Hid (Below wa.heap.size wa wc))
        case first =>
          have t1 : wa.drew.cell? ⟨ba, 1, none⟩ = some (.int .i64 xa) := a1'
          have t2 : wa.drew.cell? ⟨ba, 2, none⟩ = some (.int .i64 xb) := a2'
          clear a1' a2' b0
          go_region_held3 (fun w' => w'.cell? ⟨ba, 1, none⟩ = some (.int .i64 xa) ∧ w'.cell? ⟨ba, 2, none⟩ = some (.int .i64 xb)) (first | assumption | exact ⟨t1, t2⟩) (first
            | (go_at_call 37; with_reducible refine (CP.out _).mono ?_; rintro e w4 ⟨rfl, hd4⟩; have hB4 := Drawn0.below hd4; have s4 := And.intro (pw_cell_below hB4 t1) (pw_cell_below hB4 t2); clear hd4)
            | (go_at_call 37; with_reducible refine (CQ.out _).mono ?_; rintro e w5 ⟨rfl, hd5⟩; have hB5 := Drawn0.below hd5; have s5 := And.intro (pw_cell_below hB5 s4.1) (pw_cell_below hB5 s4.2); clear hd5))
          have HB6 := Lib.hid (show Below wa.heap.size wa w5 from ((Below.refl wa.heap.size wa).drew.trans hB4).trans (hB5.mono hB4.size))
          go_wp2_with fail
          go_meet
          exact ⟨rfl, rfl, HB6⟩
        case rest =>
          obtain ⟨rfl, rfl, HBc⟩ := hcut
          have HSc := Lib.hid (HSa.out.below HBc.out)
          have HXc := Lib.hid (blk_below HXa.out HBc.out)
          have XAc := Lib.hid (blk_below XA.out HBc.out)
          have FAc := Lib.hid (And.intro (Kd.F_below FAa.out.1 HBc.out) FAa.out.2)
          have HBd := Lib.hid (HBa.out.trans (HBc.out.mono HBa.out.size))
          clear HSa HXa XA FAa HBa HBc CP CQ b0 a1' a2' hba
          have ht : 2 * i ≤ 900 := by omega
          have HBA := Lib.hid (show ba ≠ b4 from fun e => by have h1 := XAc.out; have h2 := HXc.out; rw [e, h2] at h1; injection h1 with h1; injection h1 with _ h1; cases h1)
          have HT := Lib.hid ht
          clear ht
          have a0' := blk_cell XAc.out 0
          have a3' := blk_cell XAc.out 3
          have a4' := blk_cell XAc.out 4
          have b0 := blk_cell HXc.out 0
          have b1 := blk_cell HXc.out 1
          have b2 := blk_cell HXc.out 2
          have b3 := blk_cell HXc.out 3
          have b4' := blk_cell HXc.out 4
          have z0 := blk_frozen HXc.out 0
          have z1 := blk_frozen HXc.out 1
          have z2 := blk_frozen HXc.out 2
          have z3 := blk_frozen HXc.out 3
          have z4 := blk_frozen HXc.out 4
          try simp only [List.getElem?_toArray, List.getElem?_cons_zero, List.getElem?_cons_succ] at a0' a3' a4' b0 b1 b2 b3 b4'
          by_cases h10 : at'.length ≤ 10
          · have h10a : ¬ (10 : Int) < (at'.length : Int) := by omega
            have h10b : decide ((10 : Int) < (at'.length : Int)) = false := decide_eq_false h10a
            by_cases e0 : xd = 0
            · subst e0
              go_upto_region 18 with fail
              have C12 := Lib.hid (HSc.out.element12 HR.out HT.out xs A3 c3 at' FAc.out.1 FAc.out.2 (by rw [hg0]; exact HG.out))
              obtain ⟨R2, hR2⟩ : ∃ R2, R.element xs at' = R2 := ⟨_, rfl⟩
              rw [hR2] at C12
              have HR2 := Lib.hid hR2
              clear hR2
              go_upto_region 19 with (go_at_call 38; refine C12.out.mono ?_; rintro e w4 ⟨v0, v1, v2, v3, rfl, hS4, hB4⟩; have FA4 := Lib.hid (Kd.F_below FAc.out.1 hB4); obtain ⟨⟨j0, y0, rfl⟩, ⟨j1, y1, rfl⟩, ⟨j2, y2, rfl⟩, ⟨j3, y3, rfl⟩⟩ := hS4.forms; have S4 := Lib.hid hS4; have X4 := Lib.hid (blk_below HXc.out hB4); have XA4 := Lib.hid (blk_below XAc.out hB4); clear hS4 hB4)
              have BL := Lib.hid (show Below w4.heap.size w4 (w4.alloc (.cells #[.slice j0 R2.names.length y0, .slice j1 R2.attrs.length y1, .slice j2 R2.inner.length y2, .slice j3 R2.par.length y3, .int .i64 R.copies] 62)) from (Below.refl _ _).alloc (Nat.le_refl _) _)
              have XN := Lib.hid (heap_alloc_new w4 (.cells #[.slice j0 R2.names.length y0, .slice j1 R2.attrs.length y1, .slice j2 R2.inner.length y2, .slice j3 R2.par.length y3, .int .i64 R.copies] 62))
              have S4a := Lib.hid (S4.out.below BL.out)
              have X4a := Lib.hid (blk_below X4.out BL.out)
              have XA4a := Lib.hid (blk_below XA4.out BL.out)
              have q0 := blk_cell X4a.out 0
              have q1 := blk_cell X4a.out 1
              have q2 := blk_cell X4a.out 2
              have q3 := blk_cell X4a.out 3
              have q4 := blk_cell X4a.out 4
              have o0 := blk_frozen X4a.out 0
              have o1 := blk_frozen X4a.out 1
              have o2 := blk_frozen X4a.out 2
              have o3 := blk_frozen X4a.out 3
              have o4 := blk_frozen X4a.out 4
              have r0 := blk_cell XN.out 0
              have r1 := blk_cell XN.out 1
              have r2 := blk_cell XN.out 2
              have r3 := blk_cell XN.out 3
              have r4 := blk_cell XN.out 4
              try simp only [List.getElem?_toArray, List.getElem?_cons_zero, List.getElem?_cons_succ] at q0 q1 q2 q3 q4 r0 r1 r2 r3 r4
              have S5 := Lib.hid (S4a.out.store (c' := R.copies) X4a.out (by rw [hg0]; exact HG.out))
              have XA5 := Lib.hid ((setCells_far (w := (w4.alloc (.cells #[.slice j0 R2.names.length y0, .slice j1 R2.attrs.length y1, .slice j2 R2.inner.length y2, .slice j3 R2.par.length y3, .int .i64 R.copies] 62))) [.slice j0 R2.names.length y0, .slice j1 R2.attrs.length y1, .slice j2 R2.inner.length y2, .slice j3 R2.par.length y3, .int .i64 R.copies] 0 ba HBA.out).trans XA4a.out)
              clear b0 b1 b2 b3 b4' z0 z1 z2 z3 z4
              obtain ⟨w4a, hw4a⟩ : ∃ w4a, w4a = (w4.alloc (.cells #[.slice j0 R2.names.length y0, .slice j1 R2.attrs.length y1, .slice j2 R2.inner.length y2, .slice j3 R2.par.length y3, .int .i64 R.copies] 62)) := ⟨_, rfl⟩
              show Code.wp _ _ _ _ (w4.alloc (.cells #[.slice j0 R2.names.length y0, .slice j1 R2.attrs.length y1, .slice j2 R2.inner.length y2, .slice j3 R2.par.length y3, .int .i64 R.copies] 62))
              rw [← hw4a] at S5 XA5 q0 q1 q2 q3 q4 o0 o1 o2 o3 o4 r0 r1 r2 r3 r4 ⊢
              clear hw4a S4 X4 XA4 S4a X4a XA4a XN BL
              go_upto_region 20 with fail
              obtain ⟨w5, hw5⟩ : ∃ w5, w5 = w4a.setCells b4 0 [.slice j0 R2.names.length y0, .slice j1 R2.attrs.length y1, .slice j2 R2.inner.length y2, .slice j3 R2.par.length y3, .int .i64 R.copies] := ⟨_, rfl⟩
              rw [← hw5] at S5 XA5
              show Code.wp _ _ _ _ (w4a.setCells b4 0 [.slice j0 R2.names.length y0, .slice j1 R2.attrs.length y1, .slice j2 R2.inner.length y2, .slice j3 R2.par.length y3, .int .i64 R.copies])
              rw [← hw5]
              clear hw5 q0 q1 q2 q3 q4 o0 o1 o2 o3 o4 r0 r1 r2 r3 r4
              have a3n := blk_cell XA5.out 3
              have a4n := blk_cell XA5.out 4
              try simp only [List.getElem?_toArray, List.getElem?_cons_zero, List.getElem?_cons_succ] at a3n a4n
              clear a0' a3' a4'
              rcases hX : xs.toList with _ | ⟨ch, chs⟩
              · have x1 : (xs.toList == []) = true := by rw [hX]; rfl
                clear hX
                go_wp2_with fail
                go_ret
                exact ⟨rfl, HB1.out.trans (S5.out.1.b0.mono (by rw [hg0]; exact UP.out))⟩
              · have x1 : (xs.toList == []) = false := by rw [hX]; rfl
                have HXN := Lib.hid (show xs.toList ≠ [] by rw [hX]; exact fun e => by cases e)
                clear hX
                go_upto_region 22 with fail
                have t3 : w5.drew.cell? ⟨ba, 3, none⟩ = some (.string xs) := a3n
                have t4 : w5.drew.cell? ⟨ba, 4, none⟩ = some (.slice A3 at'.length c3) := a4n
                have C20 := Lib.hid (decanterlaw06_Of.calls (at'.length + 1) A3 c3 at' (ofA at') w5.drew (Kd.F_now (Kd.F_step (W1 := w5.drew) FA1.out.1 (fun k hk _ => S5.out.1.b0.block k hk))) FA1.out.2 (ofA_eq at' (by omega) _ (Nat.le_refl _)))
                have HLA := Lib.hid (show (ofA at').length ≤ 1000 by rw [ofA, List.length_map]; omega)
                have H10 := Lib.hid h10
                have S5d := Lib.hid (S5.out.1.below (w1 := w5.drew) ⟨rfl, rfl, rfl, Nat.le_refl _, fun _ _ => rfl⟩)
                have X5d := Lib.hid (show w5.drew.heap[b4]? = _ from S5.out.2)
                have XA5d := Lib.hid (show w5.drew.heap[ba]? = _ from XA5.out)
                clear a3n a4n h10 h10a h10b x1
                go_region_held3 (fun w' => w'.cell? ⟨ba, 3, none⟩ = some (.string xs) ∧ w'.cell? ⟨ba, 4, none⟩ = some (.slice A3 at'.length c3)) (first | assumption | exact ⟨t3, t4⟩ | exact ⟨blk_cell XA8.out 3, blk_cell XA8.out 4⟩) (first
                  | (go_at_call 20; refine C20.out.mono ?_; rintro e w7 ⟨v7, rfl, hR7, hB7⟩; obtain ⟨A7, k7, rfl, hle7, hC7⟩ := Kd.R_reads hR7; have C7 := Lib.hid hC7; have L7 := Lib.hid hle7; have S7 := Lib.hid (S5d.out.below hB7); have X7 := Lib.hid (blk_below X5d.out hB7); have XA7 := Lib.hid (blk_below XA5d.out hB7); have s7 := And.intro (pw_cell_below hB7 t3) (pw_cell_below hB7 t4); clear hR7 hB7 hle7 hC7)
                  | (go_at_call 19; have h19 := S7.out.element HR.out HT.out xs A7 k7 (ofA at') C7.out L7.out HLA.out; rw [← HR.out.nn] at h19; refine h19.mono ?_; clear h19; rintro e w8 ⟨rfl, hS8, hK8⟩; have S6 := Lib.hid hS8; have X6 := Lib.hid (hK8 _ _ _ (by decide) (by decide) (by decide) X7.out); have XA8 := Lib.hid (hK8 _ _ _ (by decide) (by decide) (by decide) XA7.out); clear hS8 hK8))
                have RL := Lib.hid (show Rel (m.element xs (ofA at')) R2 d (2 * (i + 1)) from HR2.out ▸ (HR.out.element xs at' H10.out HXN.out).mono (by omega))
                have hcp : R2.copies = R.copies := by rw [← HR2.out]; rfl
                rw [← hcp] at X6
                clear s7 t3 t4
                go_wp2_with fail
                go_roundg (gk - 1)
                case measure => omega
                case rel => exact ⟨i + 1, _, _, _, _, _, _, _, by first | rfl | go_num, by omega, by omega, S6, RL, X6, Lib.hid (HB1.out.trans (S6.out.b0.mono (by rw [hg0]; exact UP.out)))⟩
            · have n0 : (xd == 0) = false := by simp [e0]
              by_cases e1 : xd = 1
              · subst e1
                go_upto_region 25 with fail
                by_cases hP0 : P = 0
                · subst hP0
                  clear a3' a4' h10 h10a h10b e0 n0
                  go_wp2_with fail
                  go_roundg (gk - 1)
                  case measure => omega
                  case rel => exact ⟨i + 1, _, _, _, _, _, _, _, by first | rfl | go_num, by omega, by omega, HSc, Lib.hid (HR.out.mono (by omega)), HXc, Lib.hid (HB1.out.trans (HSc.out.b0.mono (by rw [hg0]; exact UP.out)))⟩
                have hPi : ((P : Int) == 0) = false := by simp; omega
                have hP1 : 0 < P := by omega
                obtain ⟨p, nd, nm, al, li, xi, hp, hnd, hnm, hal, _, _, hE⟩ := HR.out.at HPQ.out.1
                have C12 := Lib.hid (HSc.out.copy12 HR.out HT.out hnm hal)
                obtain ⟨R2, hR2⟩ : ∃ R2, R.more.element nm al = R2 := ⟨_, rfl⟩
                rw [hR2] at C12
                have hall := (HR.out.all p nd hnd).2.2.1
                rw [hE.att, ofA, List.length_map] at hall
                have RL := Lib.hid (show Rel (m.more.element nd.name nd.attrs) R2 d (2 * (i + 1)) from by
                  rw [← hR2, hE.name, hE.att]
                  exact ((HR.out.mono (t' := 2 * i + 1) (by omega)).copied (by have := HR.out.cle; omega)).element nm al hall (hE.named hP1))
                have hcp : R2.copies = R.copies + 1 := by rw [← hR2]; rfl
                have HCP := Lib.hid hcp
                have HPN := Lib.hid (And.intro hp hnd)
                clear a3' a4' h10 h10a h10b e0 n0 hp hnd hnm hal hE hR2 hall hcp hP0
                go_upto_region 27 with (go_at_call 39; refine C12.out.mono ?_; rintro e w4 ⟨v0, v1, v2, v3, rfl, hS4, hB4⟩; obtain ⟨⟨j0, y0, rfl⟩, ⟨j1, y1, rfl⟩, ⟨j2, y2, rfl⟩, ⟨j3, y3, rfl⟩⟩ := hS4.forms; have S4 := Lib.hid hS4; have X4 := Lib.hid (blk_below HXc.out hB4); have XA4 := Lib.hid (blk_below XAc.out hB4); clear hS4 hB4)
                have BL := Lib.hid (show Below w4.heap.size w4 (w4.alloc (.cells #[.slice j0 R2.names.length y0, .slice j1 R2.attrs.length y1, .slice j2 R2.inner.length y2, .slice j3 R2.par.length y3, .int .i64 (R.copies + 1)] 62)) from (Below.refl _ _).alloc (Nat.le_refl _) _)
                have XN := Lib.hid (heap_alloc_new w4 (.cells #[.slice j0 R2.names.length y0, .slice j1 R2.attrs.length y1, .slice j2 R2.inner.length y2, .slice j3 R2.par.length y3, .int .i64 (R.copies + 1)] 62))
                have S4a := Lib.hid (S4.out.below BL.out)
                have X4a := Lib.hid (blk_below X4.out BL.out)
                have XA4a := Lib.hid (blk_below XA4.out BL.out)
                have q0 := blk_cell X4a.out 0
                have q1 := blk_cell X4a.out 1
                have q2 := blk_cell X4a.out 2
                have q3 := blk_cell X4a.out 3
                have q4 := blk_cell X4a.out 4
                have o0 := blk_frozen X4a.out 0
                have o1 := blk_frozen X4a.out 1
                have o2 := blk_frozen X4a.out 2
                have o3 := blk_frozen X4a.out 3
                have o4 := blk_frozen X4a.out 4
                have r0 := blk_cell XN.out 0
                have r1 := blk_cell XN.out 1
                have r2 := blk_cell XN.out 2
                have r3 := blk_cell XN.out 3
                have r4 := blk_cell XN.out 4
                try simp only [List.getElem?_toArray, List.getElem?_cons_zero, List.getElem?_cons_succ] at q0 q1 q2 q3 q4 r0 r1 r2 r3 r4
                have S5 := Lib.hid (S4a.out.store (c' := (R.copies + 1)) X4a.out (by rw [hg0]; exact HG.out))
                have XA5 := Lib.hid ((setCells_far (w := (w4.alloc (.cells #[.slice j0 R2.names.length y0, .slice j1 R2.attrs.length y1, .slice j2 R2.inner.length y2, .slice j3 R2.par.length y3, .int .i64 (R.copies + 1)] 62))) [.slice j0 R2.names.length y0, .slice j1 R2.attrs.length y1, .slice j2 R2.inner.length y2, .slice j3 R2.par.length y3, .int .i64 (R.copies + 1)] 0 ba HBA.out).trans XA4a.out)
                clear b0 b1 b2 b3 b4' z0 z1 z2 z3 z4
                obtain ⟨w4a, hw4a⟩ : ∃ w4a, w4a = (w4.alloc (.cells #[.slice j0 R2.names.length y0, .slice j1 R2.attrs.length y1, .slice j2 R2.inner.length y2, .slice j3 R2.par.length y3, .int .i64 (R.copies + 1)] 62)) := ⟨_, rfl⟩
                show Code.wp _ _ _ _ (w4.alloc (.cells #[.slice j0 R2.names.length y0, .slice j1 R2.attrs.length y1, .slice j2 R2.inner.length y2, .slice j3 R2.par.length y3, .int .i64 (R.copies + 1)] 62))
                rw [← hw4a] at S5 XA5 q0 q1 q2 q3 q4 o0 o1 o2 o3 o4 r0 r1 r2 r3 r4 ⊢
                clear hw4a S4 X4 XA4 S4a X4a XA4a XN BL
                go_upto_region 28 with fail
                obtain ⟨w5, hw5⟩ : ∃ w5, w5 = w4a.setCells b4 0 [.slice j0 R2.names.length y0, .slice j1 R2.attrs.length y1, .slice j2 R2.inner.length y2, .slice j3 R2.par.length y3, .int .i64 (R.copies + 1)] := ⟨_, rfl⟩
                rw [← hw5] at S5 XA5
                show Code.wp _ _ _ _ (w4a.setCells b4 0 [.slice j0 R2.names.length y0, .slice j1 R2.attrs.length y1, .slice j2 R2.inner.length y2, .slice j3 R2.par.length y3, .int .i64 (R.copies + 1)])
                rw [← hw5]
                clear hw5 q0 q1 q2 q3 q4 o0 o1 o2 o3 o4 r0 r1 r2 r3 r4
                have CA := Lib.hid (S5.out.1.copy HR.out HT.out HPN.out.1 HPN.out.2)
                rw [← HR.out.nn] at CA
                go_wp2_with (go_at_call 40; refine CA.out.mono ?_; rintro e w6 ⟨rfl, hS6, hK6⟩; have S6 := Lib.hid hS6; have X6 := Lib.hid (hK6 _ _ _ (by decide) (by decide) (by decide) S5.out.2); clear hS6 hK6)
                rw [← HCP.out] at X6
                go_roundg (gk - 1)
                case measure => omega
                case rel => exact ⟨i + 1, _, _, _, _, _, _, _, by first | rfl | go_num, by omega, by omega, S6, RL, X6, Lib.hid (HB1.out.trans (S6.out.b0.mono (by rw [hg0]; exact UP.out)))⟩
              · have n1 : (xd == 1) = false := by simp [e1]
                by_cases e2 : xd = 2
                · subst e2
                  go_upto_region 31 with fail
                  by_cases hP0 : P = 0
                  · subst hP0
                    clear a3' a4' h10 h10a h10b e0 e1 n0 n1
                    go_wp2_with fail
                    go_roundg (gk - 1)
                    case measure => omega
                    case rel => exact ⟨i + 1, _, _, _, _, _, _, _, by first | rfl | go_num, by omega, by omega, HSc, Lib.hid (HR.out.mono (by omega)), HXc, Lib.hid (HB1.out.trans (HSc.out.b0.mono (by rw [hg0]; exact UP.out)))⟩
                  have hPi : ((P : Int) == 0) = false := by simp; omega
                  have hP1 : 0 < P := by omega
                  have C41 := Lib.hid (HSc.out.under12 (i := Q) (k := P) HR.out HPQ.out.2)
                  have XQ := Lib.hid (show ∃ p q nd, m.elems[P]? = some p ∧ m.elems[Q]? = some q ∧ m.nodes[p]? = some nd from by
                    obtain ⟨p, nd, _, _, _, _, h1, h2, _⟩ := HR.out.at HPQ.out.1
                    obtain ⟨q, _, _, _, _, _, h3, _⟩ := HR.out.at HPQ.out.2
                    exact ⟨p, q, nd, h1, h3, h2⟩)
                  rcases hu : und R.par P (d Q) Q with _ | _
                  · rw [hu] at C41
                    have HU := Lib.hid hu
                    clear hu
                    go_upto_region 32 with (go_at_call 41; refine C41.out.mono ?_; rintro e w3 ⟨rfl, hB3⟩; have HS3 := Lib.hid (HSc.out.below hB3); have HX3 := Lib.hid (blk_below HXc.out hB3); have XA3 := Lib.hid (blk_below XAc.out hB3); clear b0 b1 b2 b3 b4' z0 z1 z2 z3 z4; have bb0 := blk_cell HX3.out 0; have bb1 := blk_cell HX3.out 1; have bb2 := blk_cell HX3.out 2; have bb3 := blk_cell HX3.out 3; have bb4 := blk_cell HX3.out 4; (try simp only [List.getElem?_toArray, List.getElem?_cons_zero, List.getElem?_cons_succ] at bb0 bb1 bb2 bb3 bb4); clear hB3)
                    clear C41 a3' a4' h10 h10a h10b e0 e1 n0 n1
                    have C12 := Lib.hid (HS3.out.append12 HR.out HT.out HPQ.out.2 HPQ.out.1)
                    obtain ⟨R2, hR2⟩ : ∃ R2, R.append Q P = R2 := ⟨_, rfl⟩
                    rw [hR2] at C12
                    have HR2 := Lib.hid hR2
                    clear hR2
                    go_upto_region 33 with (go_at_call 42; refine C12.out.mono ?_; rintro e w4 ⟨v0, v1, v2, v3, rfl, hS4, hB4⟩; obtain ⟨⟨j0, y0, rfl⟩, ⟨j1, y1, rfl⟩, ⟨j2, y2, rfl⟩, ⟨j3, y3, rfl⟩⟩ := hS4.forms; have S4 := Lib.hid hS4; have X4 := Lib.hid (blk_below HX3.out hB4); have XA4 := Lib.hid (blk_below XA3.out hB4); have q0 := blk_cell X4.out 0; have q1 := blk_cell X4.out 1; have q2 := blk_cell X4.out 2; have q3 := blk_cell X4.out 3; have q4 := blk_cell X4.out 4; have o0 := blk_frozen X4.out 0; have o1 := blk_frozen X4.out 1; have o2 := blk_frozen X4.out 2; have o3 := blk_frozen X4.out 3; have o4 := blk_frozen X4.out 4; (try simp only [List.getElem?_toArray, List.getElem?_cons_zero, List.getElem?_cons_succ] at q0 q1 q2 q3 q4); clear hS4 hB4)
                    have S5 := Lib.hid (S4.out.store (c' := R.copies) X4.out (by rw [hg0]; exact HG.out))
                    have XA5 := Lib.hid ((setCells_far (w := w4) [.slice j0 R2.names.length y0, .slice j1 R2.attrs.length y1, .slice j2 R2.inner.length y2, .slice j3 R2.par.length y3, .int .i64 R.copies] 0 ba HBA.out).trans XA4.out)
                    obtain ⟨w5, hw5⟩ : ∃ w5, w5 = w4.setCells b4 0 [.slice j0 R2.names.length y0, .slice j1 R2.attrs.length y1, .slice j2 R2.inner.length y2, .slice j3 R2.par.length y3, .int .i64 R.copies] := ⟨_, rfl⟩
                    rw [← hw5] at S5 XA5
                    show Code.wp _ _ _ _ (w4.setCells b4 0 [.slice j0 R2.names.length y0, .slice j1 R2.attrs.length y1, .slice j2 R2.inner.length y2, .slice j3 R2.par.length y3, .int .i64 R.copies])
                    rw [← hw5]
                    clear hw5 S4 X4 XA4 q0 q1 q2 q3 q4 o0 o1 o2 o3 o4
                    obtain ⟨p, q, nd, hp, hq, hnd⟩ := XQ.out
                    have CA := Lib.hid (S5.out.1.append HR.out HT.out hq hp)
                    have RL := Lib.hid (show Rel (m.put q p) R2 (lift R.par P Q d) (2 * (i + 1)) from HR2.out ▸ (HR.out.append hP1 hp hq HU.out).mono (by omega))
                    have hcp : R2.copies = R.copies := by rw [← HR2.out]; rfl
                    clear hp hq hnd XQ bb0 bb1 bb2 bb3 bb4
                    go_wp2_with (go_at_call 21; refine CA.out.mono ?_; rintro e w6 ⟨rfl, hS6, hK6⟩; have S6 := Lib.hid hS6; have X6 := Lib.hid (hK6 _ _ _ (by decide) (by decide) (by decide) S5.out.2); clear hS6 hK6)
                    rw [← hcp] at X6
                    go_roundg (gk - 1)
                    case measure => omega
                    case rel => exact ⟨i + 1, _, _, _, _, _, _, _, by first | rfl | go_num, by omega, by omega, S6, RL, X6, Lib.hid (HB1.out.trans (S6.out.b0.mono (by rw [hg0]; exact UP.out)))⟩
                  · rw [hu] at C41
                    clear hu
                    go_wp2_with (go_at_call 41; refine C41.out.mono ?_; rintro e w3 ⟨rfl, hB3⟩; have HS3 := Lib.hid (HSc.out.below hB3); have HX3 := Lib.hid (blk_below HXc.out hB3); have XA3 := Lib.hid (blk_below XAc.out hB3); clear b0 b1 b2 b3 b4' z0 z1 z2 z3 z4; have bb0 := blk_cell HX3.out 0; have bb1 := blk_cell HX3.out 1; have bb2 := blk_cell HX3.out 2; have bb3 := blk_cell HX3.out 3; have bb4 := blk_cell HX3.out 4; (try simp only [List.getElem?_toArray, List.getElem?_cons_zero, List.getElem?_cons_succ] at bb0 bb1 bb2 bb3 bb4); clear hB3)
                    go_roundg (gk - 1)
                    case measure => omega
                    case rel => exact ⟨i + 1, _, _, _, _, _, _, _, by first | rfl | go_num, by omega, by omega, HS3, Lib.hid (HR.out.mono (by omega)), HX3, Lib.hid (HB1.out.trans (HS3.out.b0.mono (by rw [hg0]; exact UP.out)))⟩
                · have n2 : (xd == 2) = false := by simp [e2]
                  by_cases e3 : xd = 3
                  · subst e3
                    go_upto_region 35 with fail
                    have hsz := HXV.out.2.2
                    have C43 := Lib.hid (HSc.out.text12 HR.out HT.out HPQ.out.1 xs hsz)
                    obtain ⟨R2, hR2⟩ : ∃ R2, R.text P xs = R2 := ⟨_, rfl⟩
                    rw [hR2] at C43
                    have HR2 := Lib.hid hR2
                    clear hR2
                    go_upto_region 36 with (go_at_call 43; refine C43.out.mono ?_; rintro e w4 ⟨v0, v1, v2, v3, rfl, hS4, hB4⟩; obtain ⟨⟨j0, y0, rfl⟩, ⟨j1, y1, rfl⟩, ⟨j2, y2, rfl⟩, ⟨j3, y3, rfl⟩⟩ := hS4.forms; have S4 := Lib.hid hS4; have X4 := Lib.hid (blk_below HXc.out hB4); have XA4 := Lib.hid (blk_below XAc.out hB4); have q0 := blk_cell X4.out 0; have q1 := blk_cell X4.out 1; have q2 := blk_cell X4.out 2; have q3 := blk_cell X4.out 3; have q4 := blk_cell X4.out 4; have o0 := blk_frozen X4.out 0; have o1 := blk_frozen X4.out 1; have o2 := blk_frozen X4.out 2; have o3 := blk_frozen X4.out 3; have o4 := blk_frozen X4.out 4; (try simp only [List.getElem?_toArray, List.getElem?_cons_zero, List.getElem?_cons_succ] at q0 q1 q2 q3 q4); clear hS4 hB4)
                    have S5 := Lib.hid (S4.out.store (c' := R.copies) X4.out (by rw [hg0]; exact HG.out))
                    have XA5 := Lib.hid ((setCells_far (w := w4) [.slice j0 R2.names.length y0, .slice j1 R2.attrs.length y1, .slice j2 R2.inner.length y2, .slice j3 R2.par.length y3, .int .i64 R.copies] 0 ba HBA.out).trans XA4.out)
                    obtain ⟨w5, hw5⟩ : ∃ w5, w5 = w4.setCells b4 0 [.slice j0 R2.names.length y0, .slice j1 R2.attrs.length y1, .slice j2 R2.inner.length y2, .slice j3 R2.par.length y3, .int .i64 R.copies] := ⟨_, rfl⟩
                    rw [← hw5] at S5 XA5
                    show Code.wp _ _ _ _ (w4.setCells b4 0 [.slice j0 R2.names.length y0, .slice j1 R2.attrs.length y1, .slice j2 R2.inner.length y2, .slice j3 R2.par.length y3, .int .i64 R.copies])
                    rw [← hw5]
                    clear hw5 S4 X4 XA4 q0 q1 q2 q3 q4 o0 o1 o2 o3 o4
                    have C18 := Lib.hid (S5.out.1.text HR.out HT.out HPQ.out.1 xs hsz)
                    have a3n := blk_cell XA5.out 3
                    try simp only [List.getElem?_toArray, List.getElem?_cons_zero, List.getElem?_cons_succ] at a3n
                    clear hsz e0 e1 e2 n0 n1 n2 a0' a3' a4' b0 b1 b2 b3 b4' z0 z1 z2 z3 z4 h10 h10a h10b
                    go_wp2_with (go_at_call 18; refine C18.out.mono ?_; rintro e w6 ⟨rfl, hS6, hK6⟩; have S6 := Lib.hid hS6; have X6 := Lib.hid (hK6 _ _ _ (by decide) (by decide) (by decide) S5.out.2); clear hS6 hK6)
                    have RL := Lib.hid (show Rel (m.text P xs) R2 d (2 * (i + 1)) from HR2.out ▸ (HR.out.text HPQ.out.1 HXV.out.2.2).mono (by omega))
                    have hcp : R2.copies = R.copies := by rw [← HR2.out]; unfold Rm.text; split <;> rfl
                    rw [← hcp] at X6
                    go_roundg (gk - 1)
                    case measure => omega
                    case rel => exact ⟨i + 1, _, _, _, _, _, _, _, by first | rfl | go_num, by omega, by omega, S6, RL, X6, Lib.hid (HB1.out.trans (S6.out.b0.mono (by rw [hg0]; exact UP.out)))⟩
                  · have n3 : (xd == 3) = false := by simp [e3]
                    go_upto_region 14 with fail
                    have C41 := Lib.hid (HSc.out.under12 (i := Q) (k := P) HR.out HPQ.out.2)
                    have XQ := Lib.hid (show ∃ p q nd, m.elems[P]? = some p ∧ m.elems[Q]? = some q ∧ m.nodes[p]? = some nd from by
                      obtain ⟨p, nd, _, _, _, _, h1, h2, _⟩ := HR.out.at HPQ.out.1
                      obtain ⟨q, _, _, _, _, _, h3, _⟩ := HR.out.at HPQ.out.2
                      exact ⟨p, q, nd, h1, h3, h2⟩)
                    rcases hu : und R.par P (d Q) Q with _ | _
                    · rw [hu] at C41
                      have HU := Lib.hid hu
                      clear hu
                      go_upto_region 15 with (go_at_call 41; refine C41.out.mono ?_; rintro e w3 ⟨rfl, hB3⟩; have HS3 := Lib.hid (HSc.out.below hB3); have HX3 := Lib.hid (blk_below HXc.out hB3); have XA3 := Lib.hid (blk_below XAc.out hB3); clear b0 b1 b2 b3 b4' z0 z1 z2 z3 z4; have bb0 := blk_cell HX3.out 0; have bb1 := blk_cell HX3.out 1; have bb2 := blk_cell HX3.out 2; have bb3 := blk_cell HX3.out 3; have bb4 := blk_cell HX3.out 4; (try simp only [List.getElem?_toArray, List.getElem?_cons_zero, List.getElem?_cons_succ] at bb0 bb1 bb2 bb3 bb4); clear hB3)
                      clear C41 a3' a4' h10 h10a h10b e0 e1 e2 e3 n0 n1 n2 n3
                      have C12 := Lib.hid (HS3.out.move12 HR.out HT.out HPQ.out.1 HPQ.out.2)
                      obtain ⟨R2, hR2⟩ : ∃ R2, R.move P Q = R2 := ⟨_, rfl⟩
                      rw [hR2] at C12
                      have HR2 := Lib.hid hR2
                      clear hR2
                      go_upto_region 16 with (go_at_call 44; refine C12.out.mono ?_; rintro e w4 ⟨v0, v1, v2, v3, rfl, hS4, hB4⟩; obtain ⟨⟨j0, y0, rfl⟩, ⟨j1, y1, rfl⟩, ⟨j2, y2, rfl⟩, ⟨j3, y3, rfl⟩⟩ := hS4.forms; have S4 := Lib.hid hS4; have X4 := Lib.hid (blk_below HX3.out hB4); have XA4 := Lib.hid (blk_below XA3.out hB4); have q0 := blk_cell X4.out 0; have q1 := blk_cell X4.out 1; have q2 := blk_cell X4.out 2; have q3 := blk_cell X4.out 3; have q4 := blk_cell X4.out 4; have o0 := blk_frozen X4.out 0; have o1 := blk_frozen X4.out 1; have o2 := blk_frozen X4.out 2; have o3 := blk_frozen X4.out 3; have o4 := blk_frozen X4.out 4; (try simp only [List.getElem?_toArray, List.getElem?_cons_zero, List.getElem?_cons_succ] at q0 q1 q2 q3 q4); clear hS4 hB4)
                      have S5 := Lib.hid (S4.out.store (c' := R.copies) X4.out (by rw [hg0]; exact HG.out))
                      have XA5 := Lib.hid ((setCells_far (w := w4) [.slice j0 R2.names.length y0, .slice j1 R2.attrs.length y1, .slice j2 R2.inner.length y2, .slice j3 R2.par.length y3, .int .i64 R.copies] 0 ba HBA.out).trans XA4.out)
                      obtain ⟨w5, hw5⟩ : ∃ w5, w5 = w4.setCells b4 0 [.slice j0 R2.names.length y0, .slice j1 R2.attrs.length y1, .slice j2 R2.inner.length y2, .slice j3 R2.par.length y3, .int .i64 R.copies] := ⟨_, rfl⟩
                      rw [← hw5] at S5 XA5
                      show Code.wp _ _ _ _ (w4.setCells b4 0 [.slice j0 R2.names.length y0, .slice j1 R2.attrs.length y1, .slice j2 R2.inner.length y2, .slice j3 R2.par.length y3, .int .i64 R.copies])
                      rw [← hw5]
                      clear hw5 S4 X4 XA4 q0 q1 q2 q3 q4 o0 o1 o2 o3 o4
                      obtain ⟨p, q, nd, hp, hq, hnd⟩ := XQ.out
                      have CA := Lib.hid (S5.out.1.move HR.out HT.out hp hq hnd)
                      have RL := Lib.hid (show Rel (m.moveL q nd.inner) R2 (lift R.par P Q d) (2 * (i + 1)) from HR2.out ▸ (HR.out.move hp hq hnd HU.out).mono (by omega))
                      have hcp : R2.copies = R.copies := by rw [← HR2.out]; rfl
                      clear hp hq hnd XQ bb0 bb1 bb2 bb3 bb4
                      go_wp2_with (go_at_call 29; refine CA.out.mono ?_; rintro e w6 ⟨rfl, hS6, hK6⟩; have S6 := Lib.hid hS6; have X6 := Lib.hid (hK6 _ _ _ (by decide) (by decide) (by decide) S5.out.2); clear hS6 hK6)
                      rw [← hcp] at X6
                      go_roundg (gk - 1)
                      case measure => omega
                      case rel => exact ⟨i + 1, _, _, _, _, _, _, _, by first | rfl | go_num, by omega, by omega, S6, RL, X6, Lib.hid (HB1.out.trans (S6.out.b0.mono (by rw [hg0]; exact UP.out)))⟩
                    · rw [hu] at C41
                      clear hu
                      go_wp2_with (go_at_call 41; refine C41.out.mono ?_; rintro e w3 ⟨rfl, hB3⟩; have HS3 := Lib.hid (HSc.out.below hB3); have HX3 := Lib.hid (blk_below HXc.out hB3); have XA3 := Lib.hid (blk_below XAc.out hB3); clear b0 b1 b2 b3 b4' z0 z1 z2 z3 z4; have bb0 := blk_cell HX3.out 0; have bb1 := blk_cell HX3.out 1; have bb2 := blk_cell HX3.out 2; have bb3 := blk_cell HX3.out 3; have bb4 := blk_cell HX3.out 4; (try simp only [List.getElem?_toArray, List.getElem?_cons_zero, List.getElem?_cons_succ] at bb0 bb1 bb2 bb3 bb4); clear hB3)
                      go_roundg (gk - 1)
                      case measure => omega
                      case rel => exact ⟨i + 1, _, _, _, _, _, _, _, by first | rfl | go_num, by omega, by omega, HS3, Lib.hid (HR.out.mono (by omega)), HX3, Lib.hid (HB1.out.trans (HS3.out.b0.mono (by rw [hg0]; exact UP.out)))⟩
          · have h10a : (10 : Int) < (at'.length : Int) := by omega
            have h10b : decide ((10 : Int) < (at'.length : Int)) = true := decide_eq_true h10a
            go_wp2_with fail
            go_ret
            exact ⟨rfl, HBd.out⟩
      · obtain rfl : i = l0.length := by omega
        have hltz : ¬ ((l0.length : Int) < (l0.length : Int)) := by omega
        obtain ⟨⟨f0, d0, rfl⟩, ⟨f1, d1, rfl⟩, ⟨f2, d2, rfl⟩, ⟨f3, d3, rfl⟩⟩ := HS.out.forms
        have HT := Lib.hid (show 2 * l0.length ≤ 900 by omega)
        have hnl : (R.names.length : Int) ≤ 1000 := by have := (HR.out.names_lt HT.out).1; omega
        have b0 := blk_cell HX.out 0
        try simp only [List.getElem?_toArray, List.getElem?_cons_zero, List.getElem?_cons_succ] at b0
        go_wp2_with fail
        clear b0 hltz
        generalize wr = wo at *
        go_loopg [14, 15, 137] (R.names.length + 1) (fun gg s14 s15 s137 wq => ∃ j : Nat, s137 = .int .i64 (j : Int) ∧ j ≤ R.names.length ∧ j + gg = R.names.length + 1 ∧ Hid (Below wo.heap.size wo wq))
        case atStart => exact ⟨0, rfl, Nat.zero_le _, by omega, Lib.hid (Below.refl _ _)⟩
        case round =>
          obtain ⟨j, rfl, hj, hgk2, HBq⟩ := hrel
          have Sq := Lib.hid (HS.out.below HBq.out)
          have Xq := Lib.hid (blk_below HX.out HBq.out)
          have j0 : (0 : Int) ≤ (j : Int) := by omega
          by_cases hlt2 : j < R.names.length
          · have j1 : (j : Int) < (R.names.length : Int) := by omega
            obtain ⟨p, nd, nm, a, ll, x, hp, hnd, hnm, ha, _, hx, hE⟩ := HR.out.at (i := j) (by rw [← HR.out.nn]; exact hlt2)
            obtain ⟨f, o, he, hf, hol, hob⟩ := HR.out.last HT.out hp
            obtain ⟨an, aa, ap, A6, c6, rfl, c0, rfl, c1, hc6, C6, rfl, c3⟩ := Sq.out.reads hnm ha hx
            have hal : a.length ≤ 10 := by
              have h1 := (HR.out.all p nd hnd).2.2.1
              rw [hE.att, ofA, List.length_map] at h1
              exact h1
            have k1 : (j : Int) < (R.attrs.length : Int) := by have h1 := HR.out.na; have h2 := HR.out.nn; omega
            have k3 : (j : Int) < (R.par.length : Int) := by have h1 := HR.out.np; have h2 := HR.out.nn; omega
            have H45 := Lib.hid (fun (W : World) (hb : Below wr.heap.size wr W) => show Calls Try.prog 45 #[.pointer (some ⟨g, 0, none⟩), .int .i64 (j : Int)] W fun e w' => e = .returned (.string nm) ∧ Below W.heap.size W w' from hE.name ▸ (Sq.out.below hb).name hp hnd)
            have H48 := Lib.hid (fun (W : World) (hb : Below wr.heap.size wr W) => show Calls Try.prog 48 #[.pointer (some ⟨g, 0, none⟩), .int .i64 (j : Int)] W fun e w' => ∃ A c, e = .returned (.slice A (ofA a).length c) ∧ (ofA a).length ≤ c ∧ Kd.C k105 w' A (ofA a).length (ofA a) ∧ Below W.heap.size W w' from hE.att ▸ (Sq.out.below hb).attrs HR.out hp hnd)
            have H47 := Lib.hid (show decanterlaw06_To.f (a.length + 1) (ofA a) = some a from by have h1 := toA_eq (ofA a) (by rw [ofA, List.length_map]; omega) (a.length + 1) (by rw [ofA, List.length_map]; exact Nat.le_refl _); rw [toA_ofA] at h1; exact h1)
            have H46 := Lib.hid (alike_self a (by omega) (a.length + 1) (Nat.le_refl _))
            have H6 := Lib.hid (And.intro C6 hc6)
            have H22 := Lib.hid (fun (W : World) (hb : Below wr.heap.size wr W) => (Sq.out.below hb).parent HR.out HT.out hp hnd hx)
            have H25 := Lib.hid (fun (W : World) (hb : Below wr.heap.size wr W) => (Sq.out.below hb).nodes HR.out HT.out f o hp he)
            have H24 := Lib.hid (to_eq2 (xL o) o (Nat.le_refl _) hol hob (2 * xL o + 2) (Nat.le_refl _))
            have H49 := Lib.hid (fun (W : World) (hb : Below wr.heap.size wr W) => (Sq.out.below hb).nodes12 HR.out HT.out f (toL o) hf)
            have H23 := Lib.hid (And.intro (show (toL o).length ≤ 1000 by rw [toL_length]; exact hol) (dM_to o hob))
            have bq0 := blk_cell Xq.out 0
            have bq1 := blk_cell Xq.out 1
            have bq2 := blk_cell Xq.out 2
            have bq3 := blk_cell Xq.out 3
            have bq4 := blk_cell Xq.out 4
            try simp only [List.getElem?_toArray, List.getElem?_cons_zero, List.getElem?_cons_succ] at bq0 bq1 bq2 bq3 bq4
            have LQ := Lib.hid (show LsQ b4 (.slice (some an) R.names.length d0) (.slice (some aa) R.attrs.length d1) (.slice f2 R.inner.length d2) (.slice (some ap) R.par.length d3) (.int .i64 R.copies) (aa.add j) (ap.add j) (.slice A6 a.length c6) (.int .i64 x) wr from ⟨bq0, bq1, bq2, bq3, bq4, c1, c3⟩)
            clear hp hnd hnm ha hx hE he hf hol hob C6 hc6 hal bq0 bq1 bq2 bq3 bq4 c1 c3
            go_upto_region 41 with fail
            clear c0
            have LD := Lib.hid (LQ.out.below (w1 := wr.drew) ⟨rfl, rfl, rfl, Nat.le_refl _, fun _ _ => rfl⟩)
            have sD := LD.out
            have x1 : (nm.toList != nm.toList) = false := by simp
            have x2 : (x != x) = false := by simp
            go_region_held3 (fun w' => w'.cell? ⟨b4, 0, none⟩ = some (.slice (some an) R.names.length d0) ∧ w'.cell? ⟨b4, 1, none⟩ = some (.slice (some aa) R.attrs.length d1) ∧ w'.cell? ⟨b4, 2, none⟩ = some (.slice f2 R.inner.length d2) ∧ w'.cell? ⟨b4, 3, none⟩ = some (.slice (some ap) R.par.length d3) ∧ w'.cell? ⟨b4, 4, none⟩ = some (.int .i64 R.copies) ∧ w'.cell? (aa.add j) = some (.slice A6 a.length c6) ∧ w'.cell? (ap.add j) = some (.int .i64 x)) (first | assumption | exact LD.out | exact Qw45.out | exact Qw48.out | exact Qw47.out | exact Qw46.out | exact Qw22.out | exact Qw25.out | exact Qw24.out | exact Qw49.out | exact Qw23.out) (first
            | (go_at_call 23; refine (same12_calls _ (toL o) (Nat.le_refl _) H23.out.1 H23.out.2 A24 k24 A49 k49 _ C24b.out L24.out C49.out L49.out).mono ?_; rintro e w23 ⟨rfl, hB⟩; have Bw23 := Lib.hid (Bw49.out.trans (hB.mono Bw49.out.size)); have Qw23 := Lib.hid (LQ.out.below Bw23.out); have sw23 := Qw23.out; clear hB)
            | (go_at_call 49; refine (H49.out _ Bw24.out).mono ?_; rintro e w49 ⟨A49, k49, rfl, hl, hC, hB⟩; have Bw49 := Lib.hid (Bw24.out.trans (hB.mono Bw24.out.size)); have Qw49 := Lib.hid (LQ.out.below Bw49.out); have sw49 := Qw49.out; have C49 := Lib.hid hC; have L49 := Lib.hid hl; have C24b := Lib.hid (Kd.C_below C24.out hB); clear hl hC hB)
            | (go_at_call 24; refine (decanterlaw12_To.calls _ A25 k25 o (toL o) _ C25.out L25.out H24.out).mono ?_; rintro e w24 ⟨v24, rfl, hR, hB⟩; have Bw24 := Lib.hid (Bw25.out.trans (hB.mono Bw25.out.size)); have Qw24 := Lib.hid (LQ.out.below Bw24.out); have sw24 := Qw24.out; obtain ⟨A24, k24, rfl, hl, hC⟩ := Kd.R_reads hR; have C24 := Lib.hid hC; have L24 := Lib.hid hl; clear hR hl hC hB)
            | (go_at_call 25; refine (H25.out _ Bw22.out).mono ?_; rintro e w25 ⟨A25, k25, rfl, hl, hC, hB⟩; have Bw25 := Lib.hid (Bw22.out.trans (hB.mono Bw22.out.size)); have Qw25 := Lib.hid (LQ.out.below Bw25.out); have sw25 := Qw25.out; have C25 := Lib.hid hC; have L25 := Lib.hid hl; clear hl hC hB)
            | (go_at_call 22; refine (H22.out _ Bw46.out).mono ?_; rintro e w22 ⟨rfl, hB⟩; have Bw22 := Lib.hid (Bw46.out.trans (hB.mono Bw46.out.size)); have Qw22 := Lib.hid (LQ.out.below Bw22.out); have sw22 := Qw22.out; clear hB)
            | (go_at_call 46; refine (decanterref06_Alike.calls _ A47 k47 a A6 c6 a true _ C47.out L47.out (Kd.C_below H6.out.1 Bw47.out) H6.out.2 H46.out).mono ?_; rintro e w46 ⟨rfl, hD⟩; have Bw46 := Lib.hid (Bw47.out.trans ((Drawn0.below hD).mono Bw47.out.size)); have Qw46 := Lib.hid (LQ.out.below Bw46.out); have sw46 := Qw46.out; clear hD)
            | (go_at_call 47; refine (decanterlaw06_To.calls _ A48 k48 (ofA a) a _ C48.out L48.out H47.out).mono ?_; rintro e w47 ⟨v47, rfl, hR, hB⟩; have Bw47 := Lib.hid (Bw48.out.trans (hB.mono Bw48.out.size)); have Qw47 := Lib.hid (LQ.out.below Bw47.out); have sw47 := Qw47.out; obtain ⟨A47, k47, rfl, hl, hC⟩ := Kd.R_reads hR; have C47 := Lib.hid hC; have L47 := Lib.hid hl; clear hR hl hC hB)
            | (go_at_call 48; refine (H48.out _ Bw45.out).mono ?_; rintro e w48 ⟨A48, k48, rfl, hl, hC, hB⟩; have Bw48 := Lib.hid (Bw45.out.trans (hB.mono Bw45.out.size)); have Qw48 := Lib.hid (LQ.out.below Bw48.out); have sw48 := Qw48.out; have C48 := Lib.hid hC; have L48 := Lib.hid hl; clear hl hC hB)
            | (go_at_call 45; refine (H45.out wr.drew ⟨rfl, rfl, rfl, Nat.le_refl _, fun _ _ => rfl⟩).mono ?_; rintro e w45 ⟨rfl, hB⟩; have Bw45 := Lib.hid ((show Below wr.heap.size wr wr.drew from ⟨rfl, rfl, rfl, Nat.le_refl _, fun _ _ => rfl⟩).trans hB); have Qw45 := Lib.hid (LQ.out.below Bw45.out); have sw45 := Qw45.out; clear hB))
            have HBn := Lib.hid (HBq.out.trans (Bw23.out.mono HBq.out.size))
            clear sD sw45 sw48 sw47 sw46 sw22 sw25 sw24 sw49 sw23 x1 x2
            go_wp2_with fail
            go_roundg (gk - 1)
            case measure => omega
            case rel => exact ⟨j + 1, by first | rfl | go_num, by omega, by omega, HBn⟩
          · obtain rfl : j = R.names.length := by omega
            have hltz : ¬ ((R.names.length : Int) < (R.names.length : Int)) := by omega
            have C27 := Lib.hid (Sq.out.below (w1 := wr.drew) ⟨rfl, rfl, rfl, Nat.le_refl _, fun _ _ => rfl⟩).copies
            rw [HR.out.cp] at Xq
            have bq4 : wr.drew.cell? ⟨b4, 4, none⟩ = some (.int .i64 (m.copies : Int)) := blk_cell Xq.out 4
            have HBz := Lib.hid (HB.out.trans (HBq.out.mono HB.out.size))
            go_upto_region 44 with fail
            go_region_held3 (fun w' => w'.cell? ⟨b4, 4, none⟩ = some (.int .i64 (m.copies : Int))) (first | assumption) (first | (go_at_call 27; refine C27.out.mono ?_; rintro e w9 ⟨rfl, rfl⟩))
            go_wp2_with fail
            go_ret
            exact ⟨by first | rfl | simp, HBz.out.drew⟩
  · have g1 : (40 : Int) < (l0.length : Int) := by omega
    have g2 : decide ((40 : Int) < (l0.length : Int)) = true := decide_eq_true g1
    go_enter Try.func7, Try.ntmps7
    go_wp2_with (go_at_call 12; first | (refine (CS.out w).mono ?_; rintro e w1 ⟨rfl, hb1⟩; have B1 := Lib.hid hb1; clear hb1) | (refine (CS.out _).mono ?_; rintro e w2 ⟨rfl, hb2⟩; have B2 := Lib.hid (B1.out.trans (hb2.mono B1.out.size)); clear hb2))
    go_ret
    exact ⟨rfl, B2.out⟩
end Go.Proofs.Ytcdkcnegejhnhaa.Aa
