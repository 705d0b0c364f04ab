import Derived.Test.YtinjbabmpnljoaaDoorWordS
import Derived.Deep.LoopGhost
import Derived.Deep.DeepMust
import Derived.Deep.CutBlock
import Derived.Deep.DeepCutAuto
import Derived.Below
import Derived.Laws.BitsAllLaws
import Derived.Lib.LaidU8T
import Derived.Lib.ValidLaws
import Derived.Lib.SlBuf
import Derived.Lib.SliceRun
set_option linter.unusedVariables false
/- utf8.Valid over a slice of bytes (fn 20): its loop, walked; what it returns is Lib.validD of the bytes -/
namespace Go.Proofs.YtinjbabmpnljoaaDoor.Vb
open Go Go.Proofs Go.RowKit Go.Lib

theorem below_dN {B : Nat} {a w : World} (h : Below B a w) : ∀ q, Below B a (w.drewN q)
  | 0 => h
  | q + 1 => (below_dN h q).drew
theorem Cl.drewN {w : World} {b o : Nat} {t : ByteArray} (h : Cl w b o t) (n : Nat) : Cl (w.drewN n) b o t := fun j hj => h j hj
theorem Cl.alloc {w : World} {b o : Nat} {t : ByteArray} (h : Cl w b o t) (ob : Obj) : Cl (w.alloc ob) b o t := fun j hj => cell?_alloc_some ob (h j hj)
theorem at_zero (b o : Nat) : (⟨b, o + 0, none⟩ : Addr) = ⟨b, o, none⟩ := rfl
set_option maxRecDepth 100000 in
theorem x7 : ∀ X : Fin 256, bits .and .u8 ((X.val : Nat) : Int) 7 = ((X.val % 8 : Nat) : Int) := by decide

theorem get_ext (t : ByteArray) (k j : Nat) (hj : j < (t.extract k t.size).size) : (t.extract k t.size).get! j = t.get! (k + j) := by
  have hs := Lib.ext_size t k
  rw [Utf8W.get!_of_lt _ j hj, Utf8W.get!_of_lt t (k + j) (by omega), ByteArray.getElem_extract]
/-- the slice from `k` on: where its bytes lie, and what the step answers -/
theorem cl_tail (w : World) (b o : Nat) (t : ByteArray) (hc : Cl w b o t) (k : Nat) (kz : Int) (hkz : kz = (k : Int)) (hk : k ≤ t.size) :
    ∃ (t1 : ByteArray) (o1 : Nat), t1.size + k = t.size ∧ t.extract k t.size = t1 ∧ Cl w b o1 t1 ∧
      ∀ W, (Instr.slice 22 (.slice (some ⟨b, o, none⟩) t.size t.size) (some (.int .i64 kz)) none none).run Tryd.prog W = .ok (.slice (some ⟨b, o1, none⟩) t1.size t1.size) W := by
  subst hkz
  have ht' : Tryd.prog.underlying 22 = some (.slice (Tryd.prog.elem 22)) := by simp [Program.elem, Tryd.underlying22]
  have he : Tryd.prog.elem 22 = 5 := by simp [Program.elem, Tryd.underlying22]
  have hes := Lib.ext_size t k
  have hr : ∀ W, (Instr.slice 22 (.slice (some ⟨b, o, none⟩) t.size t.size) (some (.int .i64 (k : Int))) none none).run Tryd.prog W = .ok (sliced (some ⟨b, o, none⟩) k t.size t.size 1) W := fun W => by
    rw [run_slice_l W 22 _ _ _ ht' .i64 _ (by omega) (by omega), he, Tryd.sizeOf5]
    simp [Result.andThen]
  by_cases h0 : t.size = k
  · refine ⟨t.extract k t.size, o, by omega, rfl, fun j hj => by omega, fun W => ?_⟩
    rw [hr W, hes]
    simp [sliced, h0]
  · refine ⟨t.extract k t.size, o + k, by omega, rfl, fun j hj => ?_, fun W => ?_⟩
    · rw [get_ext t k j hj, Nat.add_assoc]
      exact hc (k + j) (by omega)
    · rw [hr W, hes]
      by_cases h1 : k = 0
      · subst h1; simp [sliced, Addr.add, h0]
      · simp [sliced, Addr.add, h1]; omega
/-- the word at a row's head -/
theorem cl_word (w : World) (b o : Nat) (t : ByteArray) (hc : Cl w b o t) (h8 : 8 ≤ t.size) :
    ∃ A : Nat, A < 18446744073709551616 ∧ (A &&& 9259542123273814144 = 0 → Lib.Asc t 8) ∧
      ∀ n, Calls Tryd.prog 36 #[.slice (some ⟨b, o, none⟩) t.size t.size] (w.drewN n) fun e w' => e = .returned (.int .u64 A) ∧ ∃ q, w' = (w.drewN n).drewN q :=
  ⟨_, Lib.word_lt t, (Lib.word_asc t h8).1, fun n => word_calls t b o t.size t.size (w.drewN n) rfl (Nat.le_refl _) h8 (hc.drewN n)⟩
theorem byte_at {w : World} {b o : Nat} {t : ByteArray} (hc : Cl w b o t) (j : Nat) (hj : j < t.size) : ∃ x : UInt8, t.get! j = x ∧ w.cell? ⟨b, o + j, none⟩ = some (.int .u8 x.toNat) := ⟨_, rfl, hc j hj⟩
set_option maxHeartbeats 16000000 in
set_option maxRecDepth 1000000 in
theorem valid_calls (s : ByteArray) (b o cap : Nat) (w : World) (hs : s.size ≤ 1000000000) (hcap : s.size ≤ cap) (h0s : 0 < s.size) (hT : Lib.Utf8Tabs 0 1 w) (hcl : Cl w b o s) :
    Calls Tryd.prog 20 #[.slice (some ⟨b, o, none⟩) s.size cap] w fun e w' => e = .returned (.bool (Lib.validD s.data.toList)) ∧ Below w.heap.size w w' := by
  have hz : (s.size : Int) ≤ (cap : Int) := by omega
  have hz1 : (0 : Int) ≤ (s.size : Int) := by omega
  obtain ⟨ANS, hANS⟩ : ∃ ANS, Lib.validD s.data.toList = ANS := ⟨_, rfl⟩
  rw [hANS]
  go_enter Tryd.func20, Tryd.ntmps20
  go_upto_region 2 with fail
  go_wp2_with fail
  go_loopg [0] (s.size + 1) (fun gk s0 wx => Below w.heap.size w wx ∧ ∃ (t : ByteArray) (o1 : Nat), s0 = .slice (some ⟨b, o1, none⟩) t.size t.size ∧ Cl wx b o1 t ∧ Lib.validD t.data.toList = ANS ∧ t.size < gk ∧ t.size ≤ s.size)
  case atStart => exact ⟨Below.refl _ _, s, o, by simp, hcl, hANS, by omega, Nat.le_refl _⟩
  case round =>
    obtain ⟨hbw, t, o1, rfl, hc, hv, hg, hts⟩ := hrel
    clear hANS hcl hz hz1
    have hTr := Utf8Tabs_below hT hbw
    by_cases h0 : 0 < t.size
    · obtain ⟨g', rfl⟩ : ∃ g', gk = g' + 1 := ⟨gk - 1, by omega⟩
      have h0z : (0 : Int) < (t.size : Int) := by omega
      obtain ⟨x0, hx0, e0⟩ := byte_at hc 0 h0
      rw [at_zero] at e0
      have hx0lt : x0.toNat < 256 := x0.toNat_lt
      by_cases hasc : x0.toNat < 128
      · as_aux_lemma =>
          -- below 128: the fast path
          have hascz : (x0.toNat : Int) < 128 := by omega
          have a1 : Lib.Asc t 1 := Lib.asc_one t h0 (by rw [hx0]; exact hasc)
          obtain ⟨t1, p1, z1, ht1, c1, sl1⟩ := cl_tail wr b o1 t hc 1 1 rfl (by omega)
          have v1 : Lib.validD t1.data.toList = ANS := by rw [← ht1, Lib.valid_skip t 1 a1]; exact hv
          clear hTr hT hv a1 ht1
          by_cases c8 : 8 < t1.size
          · have c8z : (8 : Int) < (t1.size : Int) := by omega
            obtain ⟨A1, lA1, kA1, cW1⟩ := cl_word wr b p1 t1 c1 (by omega)
            have hand1 : bits .and .u64 (A1 : Int) 9259542123273814144 = ((A1 &&& 9259542123273814144 : Nat) : Int) := u64_and_nat A1 9259542123273814144 lA1 (by omega)
            obtain ⟨Z1, hZ1⟩ : ∃ Z1, A1 &&& 9259542123273814144 = Z1 := ⟨_, rfl⟩
            rw [hZ1] at hand1 kA1
            clear hZ1
            by_cases hz1 : Z1 = 0
            · have hz1b : ((Z1 : Int) == 0) = true := by simp [hz1]
              have a8 : Lib.Asc t1 8 := kA1 hz1
              obtain ⟨t2, p2, z2, ht2, c2, sl2⟩ := cl_tail wr b p1 t1 c1 8 8 rfl (by omega)
              have v2 : Lib.validD t2.data.toList = ANS := by rw [← ht2, Lib.valid_skip t1 8 a8]; exact v1
              clear kA1 a8 v1 ht2 c1
              go_wp2_with (go_at_call 36; refine (cW1 0).mono ?_; rintro e W1 ⟨rfl, q1, rfl⟩)
              have hb1 : Below w.heap.size w (wr.drewN q1) := below_dN hbw q1
              have c2' : Cl (wr.drewN q1) b p2 t2 := c2.drewN q1
              generalize wr.drewN q1 = wq at hb1 c2' ⊢
              clear cW1 hbw c2 hc
              by_cases c16 : 16 < t2.size
              · have c16z : (16 : Int) < (t2.size : Int) := by omega
                obtain ⟨t2b, p2b, z2b, ht2b, c2b, sl2b⟩ := cl_tail wq b p2 t2 c2' 8 8 rfl (by omega)
                obtain ⟨A2, lA2, kA2, cW2⟩ := cl_word wq b p2 t2 c2' (by omega)
                obtain ⟨A3, lA3, kA3, cW3⟩ := cl_word wq b p2b t2b c2b (by omega)
                have hor2 : bits .or .u64 (A2 : Int) (A3 : Int) = ((A2 ||| A3 : Nat) : Int) := u64_or_nat A2 A3 lA2 lA3
                have lor2 : A2 ||| A3 < 18446744073709551616 := Nat.or_lt_two_pow (n := 64) lA2 lA3
                have hand2 : bits .and .u64 ((A2 ||| A3 : Nat) : Int) 9259542123273814144 = (((A2 ||| A3) &&& 9259542123273814144 : Nat) : Int) := u64_and_nat _ 9259542123273814144 lor2 (by omega)
                have k2 : (A2 ||| A3) &&& 9259542123273814144 = 0 → Lib.Asc t2 16 := fun h0' => by
                  obtain ⟨f1, f2⟩ := (Lib.or_mask A2 A3 _).1 h0'
                  exact Lib.asc_add t2 8 8 (kA2 f1) (by rw [ht2b]; exact kA3 f2)
                obtain ⟨O2, hO2⟩ : ∃ O2, A2 ||| A3 = O2 := ⟨_, rfl⟩
                rw [hO2] at hor2 hand2 k2
                obtain ⟨Z2, hZ2⟩ : ∃ Z2, O2 &&& 9259542123273814144 = Z2 := ⟨_, rfl⟩
                rw [hZ2] at hand2 k2
                clear kA2 kA3 lor2 hO2 hZ2 ht2b c2b
                by_cases hz2 : Z2 = 0
                · as_aux_lemma =>
                    have hz2b : ((Z2 : Int) == 0) = true := by simp [hz2]
                    have a16 := k2 hz2
                    obtain ⟨t3, p3, z3, ht3, c3, sl3⟩ := cl_tail wq b p2 t2 c2' 16 16 rfl (by omega)
                    have v3 : Lib.validD t3.data.toList = ANS := by rw [← ht3, Lib.valid_skip t2 16 a16]; exact v2
                    clear k2 a16 v2 ht3 c2'
                    go_big_quiet (first | (go_at_call 36; with_reducible refine Calls.quiet_of (cW2 _)) | (go_at_call 36; with_reducible refine Calls.quiet_of (cW3 _)))
                    have hb2 : Below w.heap.size w (wq.drewN nq) := below_dN hb1 nq
                    have c3' : Cl (wq.drewN nq) b p3 t3 := c3.drewN nq
                    generalize wq.drewN nq = wq2 at hb2 c3' ⊢
                    clear cW2 cW3 hb1 c3 sl2b
                    go_upto_region 10 with fail
                    go_loopg [0] (t3.size + 1) (fun g2 s0 wx => Below w.heap.size w wx ∧ ∃ (u : ByteArray) (q1 : Nat), s0 = .slice (some ⟨b, q1, none⟩) u.size u.size ∧ Cl wx b q1 u ∧ Lib.validD u.data.toList = ANS ∧ u.size < g2 ∧ u.size ≤ t3.size)
                    case atStart => exact ⟨hb2, t3, p3, rfl, c3', v3, by omega, Nat.le_refl _⟩
                    case round =>
                      clear sl3 sl1 sl2 hand1 hor2 hand2
                      obtain ⟨hbu, u, q1, rfl, cu, vu, hgu, hut⟩ := hrel
                      by_cases c32 : 32 < u.size
                      · obtain ⟨g3, rfl⟩ : ∃ g3, gk = g3 + 1 := ⟨gk - 1, by omega⟩
                        have c32z : (32 : Int) < (u.size : Int) := by omega
                        obtain ⟨ub, qb, zub, hub, cub, slb⟩ := cl_tail wr b q1 u cu 8 8 rfl (by omega)
                        obtain ⟨uc, qc, zuc, huc, cuc, slc⟩ := cl_tail wr b q1 u cu 16 16 rfl (by omega)
                        obtain ⟨ud, qd, zud, hud, cud, sld⟩ := cl_tail wr b q1 u cu 24 24 rfl (by omega)
                        obtain ⟨B0, lB0, kB0, cB0⟩ := cl_word wr b q1 u cu (by omega)
                        obtain ⟨B1, lB1, kB1, cB1⟩ := cl_word wr b qb ub cub (by omega)
                        obtain ⟨B2, lB2, kB2, cB2⟩ := cl_word wr b qc uc cuc (by omega)
                        obtain ⟨B3, lB3, kB3, cB3⟩ := cl_word wr b qd ud cud (by omega)
                        have ho1 : bits .or .u64 (B0 : Int) (B1 : Int) = ((B0 ||| B1 : Nat) : Int) := u64_or_nat B0 B1 lB0 lB1
                        have ho2 : bits .or .u64 (B2 : Int) (B3 : Int) = ((B2 ||| B3 : Nat) : Int) := u64_or_nat B2 B3 lB2 lB3
                        have lo1 : B0 ||| B1 < 18446744073709551616 := Nat.or_lt_two_pow (n := 64) lB0 lB1
                        have lo2 : B2 ||| B3 < 18446744073709551616 := Nat.or_lt_two_pow (n := 64) lB2 lB3
                        have ho3 : bits .or .u64 ((B0 ||| B1 : Nat) : Int) ((B2 ||| B3 : Nat) : Int) = (((B0 ||| B1) ||| (B2 ||| B3) : Nat) : Int) := u64_or_nat _ _ lo1 lo2
                        have lo3 : (B0 ||| B1) ||| (B2 ||| B3) < 18446744073709551616 := Nat.or_lt_two_pow (n := 64) lo1 lo2
                        have hand3 : bits .and .u64 (((B0 ||| B1) ||| (B2 ||| B3) : Nat) : Int) 9259542123273814144 = ((((B0 ||| B1) ||| (B2 ||| B3)) &&& 9259542123273814144 : Nat) : Int) := u64_and_nat _ 9259542123273814144 lo3 (by omega)
                        have k3 : ((B0 ||| B1) ||| (B2 ||| B3)) &&& 9259542123273814144 = 0 → Lib.Asc u 32 := fun h0' => by
                          obtain ⟨f01, f23⟩ := (Lib.or_mask _ _ _).1 h0'
                          obtain ⟨f0, f1⟩ := (Lib.or_mask _ _ _).1 f01
                          obtain ⟨f2, f3⟩ := (Lib.or_mask _ _ _).1 f23
                          have s16 : Lib.Asc u 16 := Lib.asc_add u 8 8 (kB0 f0) (by rw [hub]; exact kB1 f1)
                          have s24 : Lib.Asc u 24 := Lib.asc_add u 16 8 s16 (by rw [huc]; exact kB2 f2)
                          exact Lib.asc_add u 24 8 s24 (by rw [hud]; exact kB3 f3)
                        obtain ⟨P1, hP1⟩ : ∃ P1, B0 ||| B1 = P1 := ⟨_, rfl⟩
                        obtain ⟨P2, hP2⟩ : ∃ P2, B2 ||| B3 = P2 := ⟨_, rfl⟩
                        rw [hP1, hP2] at ho3 hand3 k3
                        rw [hP1] at ho1
                        rw [hP2] at ho2
                        obtain ⟨P3, hP3⟩ : ∃ P3, P1 ||| P2 = P3 := ⟨_, rfl⟩
                        rw [hP3] at ho3 hand3 k3
                        obtain ⟨Z3, hZ3⟩ : ∃ Z3, P3 &&& 9259542123273814144 = Z3 := ⟨_, rfl⟩
                        rw [hZ3] at hand3 k3
                        clear kB0 kB1 kB2 kB3 lo1 lo2 lo3 hP1 hP2 hP3 hZ3 hub huc hud cub cuc cud lB0 lB1 lB2 lB3
                        by_cases hz3 : Z3 = 0
                        · have hz3b : ((Z3 : Int) == 0) = true := by simp [hz3]
                          have a32 := k3 hz3
                          obtain ⟨u2, q2, zu2, hu2, cu2, sle⟩ := cl_tail wr b q1 u cu 32 32 rfl (by omega)
                          have vu2 : Lib.validD u2.data.toList = ANS := by rw [← hu2, Lib.valid_skip u 32 a32]; exact vu
                          clear k3 a32 hu2 cu vu
                          go_wp2_with fail
                          go_big_quiet (first | (go_at_call 36; with_reducible refine Calls.quiet_of (cB0 _)) | (go_at_call 36; with_reducible refine Calls.quiet_of (cB1 _)) | (go_at_call 36; with_reducible refine Calls.quiet_of (cB2 _)) | (go_at_call 36; with_reducible refine Calls.quiet_of (cB3 _)))
                          go_wp2_with fail
                          go_roundg g3
                          case measure => omega
                          case rel => exact ⟨below_dN hbu nq, u2, q2, rfl, cu2.drewN nq, vu2, by omega, by omega⟩
                        · have hz3b : ((Z3 : Int) == 0) = false := by simp; omega
                          go_wp2_with fail
                          go_big_quiet (first | (go_at_call 36; with_reducible refine Calls.quiet_of (cB0 _)) | (go_at_call 36; with_reducible refine Calls.quiet_of (cB1 _)) | (go_at_call 36; with_reducible refine Calls.quiet_of (cB2 _)) | (go_at_call 36; with_reducible refine Calls.quiet_of (cB3 _)))
                          go_wp2_with fail
                          go_roundg g'
                          case measure => omega
                          case rel => exact ⟨below_dN hbu nq, u, q1, rfl, cu.drewN nq, vu, by omega, by omega⟩
                      · have c32z : ¬ ((32 : Int) < (u.size : Int)) := by omega
                        have c32b : decide ((32 : Int) < (u.size : Int)) = false := decide_eq_false c32z
                        go_wp2_with fail
                        go_big_quiet (fail)
                        go_wp2_with fail
                        go_roundg g'
                        case measure => omega
                        case rel => exact ⟨below_dN hbu nq, u, q1, rfl, cu.drewN nq, vu, by omega, by omega⟩
                · as_aux_lemma =>
                    have hz2b : ((Z2 : Int) == 0) = false := by simp; omega
                    go_big_quiet (first | (go_at_call 36; with_reducible refine Calls.quiet_of (cW2 _)) | (go_at_call 36; with_reducible refine Calls.quiet_of (cW3 _)))
                    go_wp2_with fail
                    go_roundg g'
                    case measure => omega
                    case rel => exact ⟨below_dN hb1 nq, t2, p2, rfl, c2'.drewN nq, v2, by omega, by omega⟩
              · have c16z : ¬ ((16 : Int) < (t2.size : Int)) := by omega
                have c16b : decide ((16 : Int) < (t2.size : Int)) = false := decide_eq_false c16z
                go_big_quiet (fail)
                go_wp2_with fail
                go_roundg g'
                case measure => omega
                case rel => exact ⟨below_dN hb1 nq, t2, p2, rfl, c2'.drewN nq, v2, by omega, by omega⟩
            · have hz1b : ((Z1 : Int) == 0) = false := by simp; omega
              go_wp2_with (go_at_call 36; refine (cW1 0).mono ?_; rintro e W1 ⟨rfl, q1, rfl⟩)
              go_roundg g'
              case measure => omega
              case rel => exact ⟨below_dN (below_dN hbw 0) q1, t1, p1, rfl, (c1.drewN 0).drewN q1, v1, by omega, by omega⟩
          · have c8z : ¬ ((8 : Int) < (t1.size : Int)) := by omega
            go_wp2_with fail
            go_roundg g'
            case measure => omega
            case rel => exact ⟨hbw, t1, p1, rfl, c1, v1, by omega, by omega⟩
      · as_aux_lemma =>
          -- a lead byte
          have hge : 128 ≤ x0.toNat := by omega
          have hascz : ¬ ((x0.toNat : Int) < 128) := by omega
          obtain ⟨x1, hx1⟩ : ∃ x1, t.get! 1 = x1 := ⟨_, rfl⟩
          obtain ⟨x2, hx2⟩ : ∃ x2, t.get! 2 = x2 := ⟨_, rfl⟩
          obtain ⟨x3, hx3⟩ : ∃ x3, t.get! 3 = x3 := ⟨_, rfl⟩
          have l1 := x1.toNat_lt; have l2 := x2.toNat_lt; have l3 := x3.toNat_lt
          have hne : t.data.toList ≠ [] := fun h => by rw [Lib.size_eq, h] at h0; simp at h0
          have hlead := Lib.validD_lead t.data.toList hne (by rw [Lib.getD_get!', hx0]; exact hge)
          rw [Lib.getD_get!', Lib.getD_get!', Lib.getD_get!', Lib.getD_get!', hx0, hx1, hx2, hx3, ← Lib.size_eq, hv] at hlead
          have hc0 := hTr.1 x0.toNat hx0lt
          have hXlt : Lib.firstT x0.toNat < 256 := by rcases Lib.firstT_cases x0.toNat with h | h | h | h | h | h | h | h | h <;> omega
          obtain ⟨X, hX⟩ : ∃ X, Lib.firstT x0.toNat = X := ⟨_, rfl⟩
          rw [hX] at hc0 hXlt hlead
          have h7 := x7 ⟨X, hXlt⟩
          simp only at h7
          have ha0 : wr.cell? ⟨1, X / 16 * 2, none⟩ = some (.int .u8 (Lib.accLo (X / 16))) := by rw [Nat.mul_comm]; exact (hTr.2 (X / 16) (by omega)).1
          have ha1 : wr.cell? ⟨1, X / 16 * 2 + 1, none⟩ = some (.int .u8 (Lib.accHi (X / 16))) := by rw [Nat.mul_comm]; exact (hTr.2 (X / 16) (by omega)).2
          obtain ⟨LO, hLO⟩ : ∃ LO, Lib.accLo (X / 16) = LO := ⟨_, rfl⟩
          obtain ⟨HI, hHI⟩ : ∃ HI, Lib.accHi (X / 16) = HI := ⟨_, rfl⟩
          rw [hLO] at ha0 hlead
          rw [hHI] at ha1 hlead
          obtain ⟨SZ, hSZ⟩ : ∃ SZ, X % 8 = SZ := ⟨_, rfl⟩
          rw [hSZ] at hlead
          clear hTr hT hX hv hLO hHI hne hx0
          by_cases s2 : SZ = 2
          · as_aux_lemma =>
              subst s2
              have hSZz : (X : Int) % 8 = 2 := by omega
              simp only [Lib.checkN, Nat.reduceEqDiff, if_true, if_false] at hlead
              go_upto_region 18 with fail
              obtain ⟨wa, hwa⟩ : ∃ wa, wr.alloc (Obj.cells #[Value.int .u8 (LO : Int), Value.int .u8 (HI : Int)] 55) = wa := ⟨_, rfl⟩
              have hba : Below w.heap.size w wa := hwa ▸ hbw.alloc hbw.size _
              have hca : Cl wa b o1 t := hwa ▸ hc.alloc _
              have hl0 : wa.cell? ⟨wr.heap.size, 0, none⟩ = some (.int .u8 LO) := by rw [← hwa, World.cell?_alloc_at _ _ _ _ rfl]; rfl
              have hl1 : wa.cell? ⟨wr.heap.size, 1, none⟩ = some (.int .u8 HI) := by rw [← hwa, World.cell?_alloc_at _ _ _ _ rfl]; rfl
              rw [hwa]
              have m1 : 1 < t.size → wa.cell? ⟨b, o1 + 1, none⟩ = some (.int .u8 x1.toNat) := fun h => hx1 ▸ hca 1 h
              have m2 : 2 < t.size → wa.cell? ⟨b, o1 + 2, none⟩ = some (.int .u8 x2.toNat) := fun h => hx2 ▸ hca 2 h
              have m3 : 3 < t.size → wa.cell? ⟨b, o1 + 3, none⟩ = some (.int .u8 x3.toNat) := fun h => hx3 ▸ hca 3 h
              clear hwa hbw hc hc0 ha0 ha1
              go_cut [103] from 85 to 103 (fun c wx => c = .bool (decide (t.size < 2 ∨ x1.toNat < LO ∨ HI < x1.toNat)) ∧ Below w.heap.size w wx ∧ Cl wx b o1 t)
              case first => as_aux_lemma =>
                  by_cases q0 : t.size < 2
                  · have q0z : (t.size : Int) < 2 := by omega
                    go_big_quiet (fail)
                    go_wp2_with fail
                    go_meet
                    exact ⟨congrArg Value.bool (decide_eq_true (p := t.size < 2 ∨ x1.toNat < LO ∨ HI < x1.toNat) (by omega)).symm, below_dN hba _, hca.drewN _⟩
                  · have q0z : ¬ ((t.size : Int) < 2) := by omega
                    have hz1 : (1 : Int) < (t.size : Int) := by omega
                    have e1 := m1 (by omega)
                    by_cases q1 : x1.toNat < LO
                    · have q1z : (x1.toNat : Int) < (LO : Int) := by omega
                      go_big_quiet (fail)
                      go_wp2_with fail
                      go_meet
                      exact ⟨congrArg Value.bool (decide_eq_true (p := t.size < 2 ∨ x1.toNat < LO ∨ HI < x1.toNat) (by omega)).symm, below_dN hba _, hca.drewN _⟩
                    · have q1z : ¬ ((x1.toNat : Int) < (LO : Int)) := by omega
                      by_cases q2 : HI < x1.toNat
                      · have q2z : (HI : Int) < (x1.toNat : Int) := by omega
                        go_big_quiet (fail)
                        go_wp2_with fail
                        go_meet
                        exact ⟨congrArg Value.bool (decide_eq_true (p := t.size < 2 ∨ x1.toNat < LO ∨ HI < x1.toNat) (by omega)).symm, below_dN hba _, hca.drewN _⟩
                      · have q2z : ¬ ((HI : Int) < (x1.toNat : Int)) := by omega
                        go_big_quiet (fail)
                        go_wp2_with fail
                        go_meet
                        exact ⟨congrArg Value.bool (decide_eq_false (p := t.size < 2 ∨ x1.toNat < LO ∨ HI < x1.toNat) (by omega)).symm, below_dN hba _, hca.drewN _⟩
              case rest => as_aux_lemma =>
                  obtain ⟨rfl, hbc, hcc⟩ := hcut
                  by_cases hb : t.size < 2 ∨ x1.toNat < LO ∨ HI < x1.toNat
                  · have hbd : decide (t.size < 2 ∨ x1.toNat < LO ∨ HI < x1.toNat) = true := decide_eq_true hb
                    rw [if_pos hb] at hlead
                    go_wp2_with fail
                    all_goals (go_ret; exact ⟨by first | rfl | rw [hlead], hbc⟩)
                  · have hbd : decide (t.size < 2 ∨ x1.toNat < LO ∨ HI < x1.toNat) = false := decide_eq_false hb
                    rw [if_neg hb] at hlead
                    obtain ⟨t1, p1, z1, ht1, c1, sl1⟩ := cl_tail _ b o1 t hcc 2 2 rfl (by omega)
                    go_wp2_with fail
                    go_roundg g'
                    case measure => omega
                    case rel => exact ⟨hbc, t1, p1, rfl, c1, by rw [← ht1, Lib.ext_list, hlead], by omega, by omega⟩
          by_cases s3 : SZ = 3
          · as_aux_lemma =>
              subst s3
              have hSZz : (X : Int) % 8 = 3 := by omega
              simp only [Lib.checkN, Nat.reduceEqDiff, if_true, if_false] at hlead
              go_upto_region 22 with fail
              obtain ⟨wa, hwa⟩ : ∃ wa, wr.alloc (Obj.cells #[Value.int .u8 (LO : Int), Value.int .u8 (HI : Int)] 55) = wa := ⟨_, rfl⟩
              have hba : Below w.heap.size w wa := hwa ▸ hbw.alloc hbw.size _
              have hca : Cl wa b o1 t := hwa ▸ hc.alloc _
              have hl0 : wa.cell? ⟨wr.heap.size, 0, none⟩ = some (.int .u8 LO) := by rw [← hwa, World.cell?_alloc_at _ _ _ _ rfl]; rfl
              have hl1 : wa.cell? ⟨wr.heap.size, 1, none⟩ = some (.int .u8 HI) := by rw [← hwa, World.cell?_alloc_at _ _ _ _ rfl]; rfl
              rw [hwa]
              have m1 : 1 < t.size → wa.cell? ⟨b, o1 + 1, none⟩ = some (.int .u8 x1.toNat) := fun h => hx1 ▸ hca 1 h
              have m2 : 2 < t.size → wa.cell? ⟨b, o1 + 2, none⟩ = some (.int .u8 x2.toNat) := fun h => hx2 ▸ hca 2 h
              have m3 : 3 < t.size → wa.cell? ⟨b, o1 + 3, none⟩ = some (.int .u8 x3.toNat) := fun h => hx3 ▸ hca 3 h
              clear hwa hbw hc hc0 ha0 ha1
              go_cut [138] from 108 to 138 (fun c wx => c = .bool (decide (t.size < 3 ∨ x1.toNat < LO ∨ HI < x1.toNat ∨ x2.toNat < 128 ∨ 191 < x2.toNat)) ∧ Below w.heap.size w wx ∧ Cl wx b o1 t)
              case first => as_aux_lemma =>
                  by_cases q0 : t.size < 3
                  · have q0z : (t.size : Int) < 3 := by omega
                    go_big_quiet (fail)
                    go_wp2_with fail
                    go_meet
                    exact ⟨congrArg Value.bool (decide_eq_true (p := t.size < 3 ∨ x1.toNat < LO ∨ HI < x1.toNat ∨ x2.toNat < 128 ∨ 191 < x2.toNat) (by omega)).symm, below_dN hba _, hca.drewN _⟩
                  · have q0z : ¬ ((t.size : Int) < 3) := by omega
                    have hz1 : (1 : Int) < (t.size : Int) := by omega
                    have e1 := m1 (by omega)
                    have hz2 : (2 : Int) < (t.size : Int) := by omega
                    have e2 := m2 (by omega)
                    by_cases q1 : x1.toNat < LO
                    · have q1z : (x1.toNat : Int) < (LO : Int) := by omega
                      go_big_quiet (fail)
                      go_wp2_with fail
                      go_meet
                      exact ⟨congrArg Value.bool (decide_eq_true (p := t.size < 3 ∨ x1.toNat < LO ∨ HI < x1.toNat ∨ x2.toNat < 128 ∨ 191 < x2.toNat) (by omega)).symm, below_dN hba _, hca.drewN _⟩
                    · have q1z : ¬ ((x1.toNat : Int) < (LO : Int)) := by omega
                      by_cases q2 : HI < x1.toNat
                      · have q2z : (HI : Int) < (x1.toNat : Int) := by omega
                        go_big_quiet (fail)
                        go_wp2_with fail
                        go_meet
                        exact ⟨congrArg Value.bool (decide_eq_true (p := t.size < 3 ∨ x1.toNat < LO ∨ HI < x1.toNat ∨ x2.toNat < 128 ∨ 191 < x2.toNat) (by omega)).symm, below_dN hba _, hca.drewN _⟩
                      · have q2z : ¬ ((HI : Int) < (x1.toNat : Int)) := by omega
                        by_cases q3 : x2.toNat < 128
                        · have q3z : (x2.toNat : Int) < 128 := by omega
                          go_big_quiet (fail)
                          go_wp2_with fail
                          go_meet
                          exact ⟨congrArg Value.bool (decide_eq_true (p := t.size < 3 ∨ x1.toNat < LO ∨ HI < x1.toNat ∨ x2.toNat < 128 ∨ 191 < x2.toNat) (by omega)).symm, below_dN hba _, hca.drewN _⟩
                        · have q3z : ¬ ((x2.toNat : Int) < 128) := by omega
                          by_cases q4 : 191 < x2.toNat
                          · have q4z : (191 : Int) < (x2.toNat : Int) := by omega
                            go_big_quiet (fail)
                            go_wp2_with fail
                            go_meet
                            exact ⟨congrArg Value.bool (decide_eq_true (p := t.size < 3 ∨ x1.toNat < LO ∨ HI < x1.toNat ∨ x2.toNat < 128 ∨ 191 < x2.toNat) (by omega)).symm, below_dN hba _, hca.drewN _⟩
                          · have q4z : ¬ ((191 : Int) < (x2.toNat : Int)) := by omega
                            go_big_quiet (fail)
                            go_wp2_with fail
                            go_meet
                            exact ⟨congrArg Value.bool (decide_eq_false (p := t.size < 3 ∨ x1.toNat < LO ∨ HI < x1.toNat ∨ x2.toNat < 128 ∨ 191 < x2.toNat) (by omega)).symm, below_dN hba _, hca.drewN _⟩
              case rest => as_aux_lemma =>
                  obtain ⟨rfl, hbc, hcc⟩ := hcut
                  by_cases hb : t.size < 3 ∨ x1.toNat < LO ∨ HI < x1.toNat ∨ x2.toNat < 128 ∨ 191 < x2.toNat
                  · have hbd : decide (t.size < 3 ∨ x1.toNat < LO ∨ HI < x1.toNat ∨ x2.toNat < 128 ∨ 191 < x2.toNat) = true := decide_eq_true hb
                    rw [if_pos hb] at hlead
                    go_wp2_with fail
                    all_goals (go_ret; exact ⟨by first | rfl | rw [hlead], hbc⟩)
                  · have hbd : decide (t.size < 3 ∨ x1.toNat < LO ∨ HI < x1.toNat ∨ x2.toNat < 128 ∨ 191 < x2.toNat) = false := decide_eq_false hb
                    rw [if_neg hb] at hlead
                    obtain ⟨t1, p1, z1, ht1, c1, sl1⟩ := cl_tail _ b o1 t hcc 3 3 rfl (by omega)
                    go_wp2_with fail
                    go_roundg g'
                    case measure => omega
                    case rel => exact ⟨hbc, t1, p1, rfl, c1, by rw [← ht1, Lib.ext_list, hlead], by omega, by omega⟩
          by_cases s4 : SZ = 4
          · as_aux_lemma =>
              subst s4
              have hSZz : (X : Int) % 8 = 4 := by omega
              simp only [Lib.checkN, Nat.reduceEqDiff, if_true, if_false] at hlead
              go_upto_region 26 with fail
              obtain ⟨wa, hwa⟩ : ∃ wa, wr.alloc (Obj.cells #[Value.int .u8 (LO : Int), Value.int .u8 (HI : Int)] 55) = wa := ⟨_, rfl⟩
              have hba : Below w.heap.size w wa := hwa ▸ hbw.alloc hbw.size _
              have hca : Cl wa b o1 t := hwa ▸ hc.alloc _
              have hl0 : wa.cell? ⟨wr.heap.size, 0, none⟩ = some (.int .u8 LO) := by rw [← hwa, World.cell?_alloc_at _ _ _ _ rfl]; rfl
              have hl1 : wa.cell? ⟨wr.heap.size, 1, none⟩ = some (.int .u8 HI) := by rw [← hwa, World.cell?_alloc_at _ _ _ _ rfl]; rfl
              rw [hwa]
              have m1 : 1 < t.size → wa.cell? ⟨b, o1 + 1, none⟩ = some (.int .u8 x1.toNat) := fun h => hx1 ▸ hca 1 h
              have m2 : 2 < t.size → wa.cell? ⟨b, o1 + 2, none⟩ = some (.int .u8 x2.toNat) := fun h => hx2 ▸ hca 2 h
              have m3 : 3 < t.size → wa.cell? ⟨b, o1 + 3, none⟩ = some (.int .u8 x3.toNat) := fun h => hx3 ▸ hca 3 h
              clear hwa hbw hc hc0 ha0 ha1
              go_cut [185] from 143 to 185 (fun c wx => c = .bool (decide (t.size < 4 ∨ x1.toNat < LO ∨ HI < x1.toNat ∨ x2.toNat < 128 ∨ 191 < x2.toNat ∨ x3.toNat < 128 ∨ 191 < x3.toNat)) ∧ Below w.heap.size w wx ∧ Cl wx b o1 t)
              case first => as_aux_lemma =>
                  by_cases q0 : t.size < 4
                  · have q0z : (t.size : Int) < 4 := by omega
                    go_big_quiet (fail)
                    go_wp2_with fail
                    go_meet
                    exact ⟨congrArg Value.bool (decide_eq_true (p := t.size < 4 ∨ x1.toNat < LO ∨ HI < x1.toNat ∨ x2.toNat < 128 ∨ 191 < x2.toNat ∨ x3.toNat < 128 ∨ 191 < x3.toNat) (by omega)).symm, below_dN hba _, hca.drewN _⟩
                  · have q0z : ¬ ((t.size : Int) < 4) := by omega
                    have hz1 : (1 : Int) < (t.size : Int) := by omega
                    have e1 := m1 (by omega)
                    have hz2 : (2 : Int) < (t.size : Int) := by omega
                    have e2 := m2 (by omega)
                    have hz3 : (3 : Int) < (t.size : Int) := by omega
                    have e3 := m3 (by omega)
                    by_cases q1 : x1.toNat < LO
                    · have q1z : (x1.toNat : Int) < (LO : Int) := by omega
                      go_big_quiet (fail)
                      go_wp2_with fail
                      go_meet
                      exact ⟨congrArg Value.bool (decide_eq_true (p := t.size < 4 ∨ x1.toNat < LO ∨ HI < x1.toNat ∨ x2.toNat < 128 ∨ 191 < x2.toNat ∨ x3.toNat < 128 ∨ 191 < x3.toNat) (by omega)).symm, below_dN hba _, hca.drewN _⟩
                    · have q1z : ¬ ((x1.toNat : Int) < (LO : Int)) := by omega
                      by_cases q2 : HI < x1.toNat
                      · have q2z : (HI : Int) < (x1.toNat : Int) := by omega
                        go_big_quiet (fail)
                        go_wp2_with fail
                        go_meet
                        exact ⟨congrArg Value.bool (decide_eq_true (p := t.size < 4 ∨ x1.toNat < LO ∨ HI < x1.toNat ∨ x2.toNat < 128 ∨ 191 < x2.toNat ∨ x3.toNat < 128 ∨ 191 < x3.toNat) (by omega)).symm, below_dN hba _, hca.drewN _⟩
                      · have q2z : ¬ ((HI : Int) < (x1.toNat : Int)) := by omega
                        by_cases q3 : x2.toNat < 128
                        · have q3z : (x2.toNat : Int) < 128 := by omega
                          go_big_quiet (fail)
                          go_wp2_with fail
                          go_meet
                          exact ⟨congrArg Value.bool (decide_eq_true (p := t.size < 4 ∨ x1.toNat < LO ∨ HI < x1.toNat ∨ x2.toNat < 128 ∨ 191 < x2.toNat ∨ x3.toNat < 128 ∨ 191 < x3.toNat) (by omega)).symm, below_dN hba _, hca.drewN _⟩
                        · have q3z : ¬ ((x2.toNat : Int) < 128) := by omega
                          by_cases q4 : 191 < x2.toNat
                          · have q4z : (191 : Int) < (x2.toNat : Int) := by omega
                            go_big_quiet (fail)
                            go_wp2_with fail
                            go_meet
                            exact ⟨congrArg Value.bool (decide_eq_true (p := t.size < 4 ∨ x1.toNat < LO ∨ HI < x1.toNat ∨ x2.toNat < 128 ∨ 191 < x2.toNat ∨ x3.toNat < 128 ∨ 191 < x3.toNat) (by omega)).symm, below_dN hba _, hca.drewN _⟩
                          · have q4z : ¬ ((191 : Int) < (x2.toNat : Int)) := by omega
                            by_cases q5 : x3.toNat < 128
                            · have q5z : (x3.toNat : Int) < 128 := by omega
                              go_big_quiet (fail)
                              go_wp2_with fail
                              go_meet
                              exact ⟨congrArg Value.bool (decide_eq_true (p := t.size < 4 ∨ x1.toNat < LO ∨ HI < x1.toNat ∨ x2.toNat < 128 ∨ 191 < x2.toNat ∨ x3.toNat < 128 ∨ 191 < x3.toNat) (by omega)).symm, below_dN hba _, hca.drewN _⟩
                            · have q5z : ¬ ((x3.toNat : Int) < 128) := by omega
                              by_cases q6 : 191 < x3.toNat
                              · have q6z : (191 : Int) < (x3.toNat : Int) := by omega
                                go_big_quiet (fail)
                                go_wp2_with fail
                                go_meet
                                exact ⟨congrArg Value.bool (decide_eq_true (p := t.size < 4 ∨ x1.toNat < LO ∨ HI < x1.toNat ∨ x2.toNat < 128 ∨ 191 < x2.toNat ∨ x3.toNat < 128 ∨ 191 < x3.toNat) (by omega)).symm, below_dN hba _, hca.drewN _⟩
                              · have q6z : ¬ ((191 : Int) < (x3.toNat : Int)) := by omega
                                go_big_quiet (fail)
                                go_wp2_with fail
                                go_meet
                                exact ⟨congrArg Value.bool (decide_eq_false (p := t.size < 4 ∨ x1.toNat < LO ∨ HI < x1.toNat ∨ x2.toNat < 128 ∨ 191 < x2.toNat ∨ x3.toNat < 128 ∨ 191 < x3.toNat) (by omega)).symm, below_dN hba _, hca.drewN _⟩
              case rest => as_aux_lemma =>
                  obtain ⟨rfl, hbc, hcc⟩ := hcut
                  by_cases hb : t.size < 4 ∨ x1.toNat < LO ∨ HI < x1.toNat ∨ x2.toNat < 128 ∨ 191 < x2.toNat ∨ x3.toNat < 128 ∨ 191 < x3.toNat
                  · have hbd : decide (t.size < 4 ∨ x1.toNat < LO ∨ HI < x1.toNat ∨ x2.toNat < 128 ∨ 191 < x2.toNat ∨ x3.toNat < 128 ∨ 191 < x3.toNat) = true := decide_eq_true hb
                    rw [if_pos hb] at hlead
                    go_wp2_with fail
                    all_goals (go_ret; exact ⟨by first | rfl | rw [hlead], hbc⟩)
                  · have hbd : decide (t.size < 4 ∨ x1.toNat < LO ∨ HI < x1.toNat ∨ x2.toNat < 128 ∨ 191 < x2.toNat ∨ x3.toNat < 128 ∨ 191 < x3.toNat) = false := decide_eq_false hb
                    rw [if_neg hb] at hlead
                    obtain ⟨t1, p1, z1, ht1, c1, sl1⟩ := cl_tail _ b o1 t hcc 4 4 rfl (by omega)
                    go_wp2_with fail
                    go_roundg g'
                    case measure => omega
                    case rel => exact ⟨hbc, t1, p1, rfl, c1, by rw [← ht1, Lib.ext_list, hlead], by omega, by omega⟩
          have e2 : ¬ ((X : Int) % 8 = 2) := by omega
          have e3 : ¬ ((X : Int) % 8 = 3) := by omega
          have e4 : ¬ ((X : Int) % 8 = 4) := by omega
          have e2b : (((X : Int) % 8) == 2) = false := by simp; omega
          have e3b : (((X : Int) % 8) == 3) = false := by simp; omega
          have e4b : (((X : Int) % 8) == 4) = false := by simp; omega
          simp only [Lib.checkN, s2, s3, s4, if_false] at hlead
          go_wp2_with fail
          all_goals (go_ret; exact ⟨by first | rfl | rw [hlead], hbw.alloc hbw.size _⟩)
    · have h0z : ¬ ((0 : Int) < (t.size : Int)) := by omega
      have ht0 : t.data.toList = [] := List.eq_nil_of_length_eq_zero (by rw [← Lib.size_eq]; omega)
      rw [ht0, Lib.validD_nil] at hv
      subst hv
      go_wp2_with fail
      go_ret
      exact ⟨rfl, hbw⟩
set_option maxRecDepth 100000 in
theorem valid_nil (A0 : Option Addr) (c0 : Nat) (w : World) : Calls Tryd.prog 20 #[.slice A0 0 c0] w fun e w' => e = .returned (.bool (Lib.validD (strOfNums []).data.toList)) ∧ Below w.heap.size w w' := by
  have hz : (0 : Int) ≤ (c0 : Int) := by omega
  have hv : Lib.validD (strOfNums []).data.toList = true := rfl
  rw [hv]
  cases A0 with
  | none =>
    go_enter Tryd.func20, Tryd.ntmps20
    go_upto_region 2 with fail
    go_wp2_with fail
    go_loopg [0] 1 (fun gk s0 wx => Below w.heap.size w wx ∧ ∃ A1, s0 = .slice A1 0 0)
    case atStart => exact ⟨Below.refl _ _, _, by simp; rfl⟩
    case round =>
      obtain ⟨hbw, A1, rfl⟩ := hrel
      go_wp2_with fail
      go_ret
      exact ⟨rfl, hbw⟩
  | some ad =>
    go_enter Tryd.func20, Tryd.ntmps20
    go_upto_region 2 with fail
    go_wp2_with fail
    go_loopg [0] 1 (fun gk s0 wx => Below w.heap.size w wx ∧ ∃ A1, s0 = .slice A1 0 0)
    case atStart => exact ⟨Below.refl _ _, _, by simp; rfl⟩
    case round =>
      obtain ⟨hbw, A1, rfl⟩ := hrel
      go_wp2_with fail
      go_ret
      exact ⟨rfl, hbw⟩
def inB (x : Int) : Bool := decide (0 ≤ x) && decide (x ≤ 255)
theorem get_byte (l : List Int) (hb : l.all inB = true) (j : Nat) (hj : j < l.length) : (((strOfNums l).get! j).toNat : Int) = l.getD j 0 := by
  have hs : j < (strOfNums l).size := by rw [strOfNums_size]; exact hj
  have e : (strOfNums l).get! j = (strOfNums l)[j]'hs := by
    show (strOfNums l).get! j = _
    simp [ByteArray.get!, getElem!_pos, hs]
    rfl
  have hr := List.all_eq_true.1 hb _ (List.getElem_mem hj)
  unfold inB at hr
  rw [Bool.and_eq_true, decide_eq_true_eq, decide_eq_true_eq] at hr
  rw [e, List.getD_eq_getElem?_getD, List.getElem?_eq_getElem hj]
  have e2 : (strOfNums l)[j]'hs = UInt8.ofNat (l[j]).toNat := by
    have h1 : (strOfNums l).data.toList[j]? = some (UInt8.ofNat (l[j]).toNat) := by
      show (l.map fun n => UInt8.ofNat n.toNat)[j]? = _
      rw [List.getElem?_map, List.getElem?_eq_getElem hj]
      rfl
    have h2 : (strOfNums l).data.toList[j]? = some ((strOfNums l)[j]'hs) := by
      rw [List.getElem?_eq_getElem (show j < (strOfNums l).data.toList.length by rw [Array.length_toList]; exact hs)]
      exact congrArg some (Array.getElem_toList ..)
    exact Option.some.inj (h2.symm.trans h1)
  rw [e2, UInt8.toNat_ofNat', Option.getD_some]
  omega

#print axioms valid_calls
end Go.Proofs.YtinjbabmpnljoaaDoor.Vb
