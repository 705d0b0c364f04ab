/-
  The law's Merge (fn 26), walked: rows as footprints; what it gives is mgL [].
-/
import Derived.Test.YtcdkcnegejhnhaaArPutWalk
namespace Go.Proofs.Ytcdkcnegejhnhaa.Ar
open Go.RowKit Go.Proofs.Ytcdkcnegejhnhaa.PAr Go.Proofs.YtcdkcnegejhnhaaW.PrintWords Go.Proofs.YtcdkcnegejhnhaaW.PrintLast Go.Proofs.YtcdkcnegejhnhaaW.PrintMore
set_option linter.unusedVariables false
set_option linter.unusedSimpArgs false
theorem info38 : (Try.prog.info? 38).map (fun i => (i.zero, i.size, i.bytes)) = some (some (.agg #[(.string ⟨#[]⟩), (.slice none 0 0), (.string ⟨#[]⟩), (.slice none 0 0)]), 4, 80) := by kernel_rfl
theorem lit38 (w : World) : Kd.N k38 38 (w.alloc (.cells #[] 38)) w.heap.size (fun k => w.heap.size ≤ k) (.slice (some ⟨w.heap.size, 0, none⟩) 0 0) [] :=
  Kd.R_N (Kd.R_lower ⟨fun k hk => by cases hk; exact Nat.le_refl _, OwnRow.lit w w.heap.size (Reps.none _ _) (Nat.le_refl _) (by simp)⟩ (Nat.le_refl _))
theorem fat_T38 {w : World} {ok : Nat → Prop} {A : Option Addr} {n : Nat} {xs : List S38} (h : Kd.F k38 w ok A n xs) (i : Int) (h0 : 0 ≤ i) (h1 : i < n) :
    ∃ ad A1 c1 A3 c3, A = some ad ∧ w.cell? (ad.add (i.toNat * 4)) = some (.string (rd_T38 xs i).f0) ∧ w.cell? ⟨(ad.add (i.toNat * 4)).block, (ad.add (i.toNat * 4)).off + 1, none⟩ = some (.slice A1 (rd_T38 xs i).f1.length c1) ∧
      w.cell? ⟨(ad.add (i.toNat * 4)).block, (ad.add (i.toNat * 4)).off + 2, none⟩ = some (.string (rd_T38 xs i).f2) ∧ w.cell? ⟨(ad.add (i.toNat * 4)).block, (ad.add (i.toNat * 4)).off + 3, none⟩ = some (.slice A3 (rd_T38 xs i).f3.length c3) ∧
      (rd_T38 xs i).f1.length ≤ c1 ∧ Kd.F k106 w ok A1 (rd_T38 xs i).f1.length (rd_T38 xs i).f1 ∧ (rd_T38 xs i).f3.length ≤ c3 ∧ Kd.F k38 w ok A3 (rd_T38 xs i).f3.length (rd_T38 xs i).f3 := by
  obtain ⟨ad, c, e, _, hK, hc0, _⟩ := Kd.F_get h z38 i h0 h1
  have hc : ∀ j u, c[j]? = some u → w.cell? (ad.add (i.toNat * 4 + j)) = some u := hc0
  obtain ⟨A1, c1, A3, c3, rfl, l1, g1, l3, g3⟩ := k38_openF hK
  exact ⟨ad, A1, c1, A3, c3, e, hc 0 _ rfl, by rw [← add_field _ _ 1 (by omega)]; exact hc 1 _ rfl, by rw [← add_field _ _ 2 (by omega)]; exact hc 2 _ rfl, by rw [← add_field _ _ 3 (by omega)]; exact hc 3 _ rfl, l1, g1, l3, g3⟩
theorem mgL_snoc : ∀ (a : List S38) (out : List S38) (x : S38), mgL out (a ++ [x]) = mgN (mgL out a) x
  | [], out, x => by rw [List.nil_append, mgL_cons, mgL_nil, mgL_nil]
  | y :: a, out, x => by rw [List.cons_append, mgL_cons, mgL_snoc a, mgL_cons]
theorem snocT_len (out : List S38) (s : ByteArray) : (snocT out s).length ≤ out.length + 1 := by
  unfold snocT
  cases hl : out.getLast? with
  | none => dsimp only; split <;> simp
  | some y =>
    obtain ⟨ys, rfl⟩ := List.getLast?_eq_some_iff.1 hl
    dsimp only
    split
    · rw [List.dropLast_concat]; simp
    · split <;> simp
theorem mgN_len (out : List S38) (x : S38) : (mgN out x).length ≤ out.length + 1 := by
  rw [mgN_eq]
  split
  · exact snocT_len _ _
  · simp
theorem mgL_len : ∀ (l out : List S38), (mgL out l).length ≤ out.length + l.length
  | [], out => by rw [mgL_nil]; simp
  | x :: r, out => by
    rw [mgL_cons]
    have h1 := mgL_len r (mgN out x)
    have h2 := mgN_len out x
    rw [List.length_cons]
    omega
theorem snocT_txt (out : List S38) (s : ByteArray) (B : Nat) (h : ∀ y ∈ out, y.f2.size ≤ B) : ∀ y ∈ snocT out s, y.f2.size ≤ B + s.size := by
  have hold : ∀ y ∈ out, y.f2.size ≤ B + s.size := fun y hy => Nat.le_trans (h y hy) (Nat.le_add_right _ _)
  have hnew : ∀ y ∈ (if s.toList = [] then out else out ++ [(⟨⟨#[]⟩, [], s, []⟩ : S38)]), y.f2.size ≤ B + s.size := by
    intro y hy
    split at hy
    · exact hold y hy
    · rcases List.mem_append.1 hy with hy | hy
      · exact hold y hy
      · obtain rfl := List.mem_singleton.1 hy
        exact Nat.le_add_left _ _
  unfold snocT
  cases hl : out.getLast? with
  | none => exact hnew
  | some y =>
    obtain ⟨ys, rfl⟩ := List.getLast?_eq_some_iff.1 hl
    dsimp only
    split
    · intro z hz
      rw [List.dropLast_concat] at hz
      rcases List.mem_append.1 hz with hz | hz
      · exact hold z (List.mem_append.2 (.inl hz))
      · obtain rfl := List.mem_singleton.1 hz
        have := h y (List.mem_append.2 (.inr (List.mem_singleton.2 rfl)))
        show (y.f2 ++ s).size ≤ _
        rw [ByteArray.size_append]
        omega
    · exact hnew
theorem mgL_txt : ∀ (l out : List S38) (B : Nat), (∀ y ∈ out, y.f2.size ≤ B) → ∀ y ∈ mgL out l, y.f2.size ≤ B + tL l
  | [], out, B, h, y, hy => by
    rw [mgL_nil] at hy
    exact Nat.le_trans (h y hy) (Nat.le_add_right _ _)
  | x :: r, out, B, h, y, hy => by
    rw [mgL_cons] at hy
    have e := tN_eq x
    have h1 : ∀ z ∈ mgN out x, z.f2.size ≤ B + tN x := by
      intro z hz
      rw [mgN_eq] at hz
      split at hz
      · have := snocT_txt out x.f2 B h z hz
        omega
      · rcases List.mem_append.1 hz with hz | hz
        · exact Nat.le_trans (h z hz) (Nat.le_add_right _ _)
        · obtain rfl := List.mem_singleton.1 hz
          exact Nat.zero_le _
    have := mgL_txt r (mgN out x) (B + tN x) h1 y hy
    rw [tL]
    omega
/-- Where the row of merged nodes may lie, and what it leads to. -/
def Mo (ok : Nat → Prop) (w : World) (k : Nat) : Prop := (ok k ∧ k < w.heap.size) ∨ w.heap.size ≤ k
set_option maxRecDepth 100000 in
set_option maxHeartbeats 16000000 in
theorem merge_calls : ∀ (N : Nat) (l : List S38), wL l ≤ N → ∀ (A0 : Option Addr) (c0 : Nat) (w : World) (ok : Nat → Prop), Kd.F k38 w ok A0 l.length l → l.length ≤ c0 → wL l ≤ 4000000 → tL l ≤ 4000000000 →
    Calls Try.prog 26 #[.slice A0 l.length c0] w fun e w' => ∃ v, e = .returned v ∧ Kd.N k38 38 w' w.heap.size (Mo ok w) v (mgL [] l) ∧ Below w.heap.size w w' := by
  intro N
  induction N using Nat.strongRecOn with
  | _ N ih =>
  intro l hN A0 c0 w ok hF hc hw hT
  have HF := Lib.hid (Kd.F_bound hF)
  have HC := Lib.hid hc
  have IH := Lib.hid ih
  have hlen := len_wL l
  have HNS := Lib.hid (And.intro hw (And.intro hT hN))
  have hl0 : (l.length : Int) ≤ 4000000 := by omega
  have HL0 := Lib.hid (Kd.N_mono (lit38 w) (fun k hk => (.inr hk : Mo ok w k)))
  have HB0 := Lib.hid (show Below w.heap.size w (w.alloc (.cells #[] 38)) from (Below.refl _ _).alloc (Nat.le_refl _) _)
  clear hF hc ih hw hT hN
  go_enter Try.func26, Try.ntmps26
  go_upto_region 3 with fail
  go_loopg [3, 10] (l.length + 1) (fun gg s3 s10 wr => ∃ j : Nat, s10 = .int .i64 (j : Int) ∧ j ≤ l.length ∧ j + gg = l.length + 1 ∧ Hid (Kd.N k38 38 wr w.heap.size (Mo ok w) s3 (mgL [] (l.take j))) ∧ Hid (Below w.heap.size w wr))
  case atStart => exact ⟨0, rfl, Nat.zero_le _, by omega, Lib.hid (by rw [List.take_zero, mgL_nil]; exact HL0.out), HB0⟩
  case round =>
    clear HL0 HB0
    obtain ⟨j, rfl, hj, hgk, HR, HB⟩ := hrel
    by_cases hlt : j < l.length
    · obtain ⟨x, hx⟩ : ∃ x, l[j]? = some x := ⟨_, List.getElem?_eq_getElem hlt⟩
      have hltz : (j : Int) < (l.length : Int) := by omega
      have hj0 : (0 : Int) ≤ (j : Int) := by omega
      obtain ⟨q1, q2, q3, q4⟩ := parts_at hx
      have HFr := Lib.hid (Kd.F_step HF.out (fun k hk hlt => HB.out.block k hlt))
      obtain ⟨ad, A1, c1, A3, c3, hAd, y0, y1, y2, y3, le1, F1, le3, F3⟩ := fat_T38 HFr.out (j : Int) hj0 (by omega)
      cases hAd
      rw [rd38 hx] at y0 y1 y2 y3 le1 F1 le3 F3
      rw [Int.toNat_natCast] at y0 y1 y2 y3
      have HLE1 := Lib.hid le1
      have HF1 := Lib.hid F1
      have HLE3 := Lib.hid le3
      have HF3 := Lib.hid F3
      have e1 := wN_eq x
      have e3 := tN_eq x
      have HQ := Lib.hid (And.intro q1 (And.intro q3 (And.intro e1 e3)))
      have hms : mgL [] (l.take (j + 1)) = mgN (mgL [] (l.take j)) x := by rw [q4, mgL_snoc]
      rw [mgN_eq] at hms
      have hml := mgL_len (l.take j) []
      rw [List.length_take, List.length_nil] at hml
      have HML := Lib.hid (show (mgL [] (l.take j)).length ≤ 4000000 by omega)
      have HTX := Lib.hid (mgL_txt (l.take j) [] 0 (fun y hy => by cases hy))
      clear le1 F1 le3 F3 q1 q2 q3 q4 e1 e3 hml HFr
      generalize mgL [] (l.take j) = xs at *
      have HMS := Lib.hid hms
      clear hms
      go_upto_region 5 with fail
      have X1 := Lib.hid (heap_alloc_new wr (.cells #[.string x.f0, .slice A1 x.f1.length c1, .string x.f2, .slice A3 x.f3.length c3] 38))
      have W1 := Lib.hid (show Below wr.heap.size wr (wr.alloc (.cells #[.string x.f0, .slice A1 x.f1.length c1, .string x.f2, .slice A3 x.f3.length c3] 38)) from (Below.refl _ _).alloc (Nat.le_refl _) _)
      have hne : some wr.heap.size ≠ u3.ownBlock := fun e => by have := Kd.N_lt HR.out _ e.symm; omega
      generalize hw1 : wr.alloc (.cells #[.string x.f0, .slice A1 x.f1.length c1, .string x.f2, .slice A3 x.f3.length c3] 38) = w1 at *
      clear hw1 y0 y1 y2 y3
      have HNE := Lib.hid hne
      clear hne
      have R1 := Lib.hid (Kd.N_below HR.out W1.out)
      have B1 := Lib.hid (show Below w.heap.size w w1 from HB.out.trans (W1.out.mono HB.out.size))
      have HS := Lib.hid (show wr.heap.size ≤ w1.heap.size from W1.out.size)
      have G1 := Lib.hid (fun b (hb : u3.ownBlock = some b) => And.intro (Kd.N_base HR.out b hb) (Kd.N_lt HR.out b hb))
      have FA1 := Lib.hid (Kd.F_below HF1.out W1.out)
      have FA3 := Lib.hid (Kd.F_below HF3.out W1.out)
      clear HF1 HF3 HR HB W1
      have z0 := blk_cell X1.out 0
      have z1 := blk_cell X1.out 1
      have z2 := blk_cell X1.out 2
      have z3 := blk_cell X1.out 3
      try simp only [List.getElem?_toArray, List.getElem?_cons_zero, List.getElem?_cons_succ] at z0 z1 z2 z3
      by_cases hn0 : x.f0.toList = []
      · rw [if_pos hn0] at HMS
        have x1 : (x.f0.toList == []) = true := by rw [hn0]; rfl
        have TX := Lib.hid (k38_mkF w1 (fun _ => False) (⟨⟨#[]⟩, [], x.f2, []⟩ : S38) (A1 := none) (c1 := 0) (Nat.le_refl _) (Kd.F_nil _ _ _) (A3 := none) (c3 := 0) (Nat.le_refl _) (Kd.F_nil _ _ _))
        rcases hxs : xs.getLast? with _ | y
        · obtain rfl : xs = [] := by simpa using hxs
          obtain ⟨A9, k9, hu, _, _⟩ := Kd.N_reads R1.out
          rw [List.length_nil] at hu
          subst hu
          by_cases hs0 : x.f2.toList = []
          · have x2 : (x.f2.toList == []) = true := by rw [hs0]; rfl
            go_wp2_with fail
            go_roundg (gk - 1)
            case measure => omega
            case rel => exact ⟨j + 1, by first | rfl | go_num, by omega, by omega, Lib.hid (by rw [HMS.out, snocT_nil _ hs0]; exact R1.out), B1⟩
          · have x2 : (x.f2.toList == []) = false := by
              cases e : x.f2.toList with
              | nil => exact absurd e hs0
              | cons _ _ => rfl
            go_wp2_with (refine Kd.N_append k38 (w0 := w) (W := w1) w.heap.size rfl (.tmp 55) (.tmp 59) 22 38 (.agg #[(.string ⟨#[]⟩), (.slice none 0 0), (.string ⟨#[]⟩), (.slice none 0 0)]) 80 rfl Try.underlying22 info38 rfl (by decide) (by decide) (.slice A9 0 k9) [] (⟨⟨#[]⟩, [], x.f2, []⟩ : S38) [.string ⟨#[]⟩, .slice none 0 0, .string x.f2, .slice none 0 0] (Mo ok w) (fun _ => False) rfl (by first | (go_simp; done) | (go_simp; rfl)) TX.out (fun _ hk => hk.elim) (fun k hk => .inr (Nat.le_trans B1.out.size hk)) R1.out B1.out B1.out.size (by first | omega | (simp; done)) ?_; intro v4 w4 hR4 hb4 hg4 _; have R4 := Lib.hid hR4; have B4 := Lib.hid hb4; clear hR4 hb4 hg4)
            go_roundg (gk - 1)
            case measure => omega
            case rel => exact ⟨j + 1, by first | rfl | go_num, by omega, by omega, Lib.hid (by rw [HMS.out, snocT_new _ hs0 (fun a y e => by simp at e)]; exact R4.out), B4⟩
        · obtain ⟨ys, rfl⟩ := List.getLast?_eq_some_iff.1 hxs
          obtain ⟨gb, cap, hu, hgb1, hgb2, _⟩ := Kd.N_form R1.out (by simp)
          rw [List.length_append, List.length_singleton] at hu
          subst hu
          obtain ⟨q, hq⟩ : ∃ q, ys.length = q := ⟨_, rfl⟩
          rw [hq] at R1 ⊢
          have hq9 : q + 1 ≤ 4000000 := by have := HML.out; rw [List.length_append, List.length_singleton] at this; omega
          obtain ⟨c, hcl, hK, hcc, hfr⟩ := Kd.N_elem R1.out z38 (q : Int) (by omega) (by omega)
          have hy : (ys ++ [y]).getD (q : Int).toNat z38 = y := by rw [Int.toNat_natCast, List.getD_eq_getElem?_getD, List.getElem?_append_right (by omega), hq, Nat.sub_self]; rfl
          rw [hy] at hK
          obtain ⟨Y1, n1, Y3, n3, rfl, hm1, hG1, hm3, hG3⟩ := k38_openF hK
          rw [Int.toNat_natCast] at hcc hfr
          have d0 : w1.cell? ⟨gb, q * 4, none⟩ = some (.string y.f0) := hcc 0 _ rfl
          have d2 : w1.cell? ⟨gb, q * 4 + 2, none⟩ = some (.string y.f2) := hcc 2 _ rfl
          have fz : w1.frozen? ⟨gb, q * 4 + 2, none⟩ = false := hfr 2
          have n0 : (0 : Int) < ((q + 1 : Nat) : Int) := by omega
          have nb : ((q + 1 : Nat) : Int) ≤ 4000000 := by omega
          have l0 : (0 : Int) ≤ (q : Int) := by omega
          have wl : IntKind.i64.wrap (q : Int) = (q : Int) := IntWalk.i64_in _ (by omega)
          have hty := HTX.out y (List.mem_append.2 (.inr (List.mem_singleton.2 rfl)))
          have szz : (y.f2.size : Int) + (x.f2.size : Int) ≤ 9223372036854775807 := by have := HNS.out; have := HQ.out; omega
          have sz2 : decide (y.f2.size + x.f2.size ≤ 9223372036854775807) = true := decide_eq_true (by omega)
          have HCC := Lib.hid (show ∀ j u, [.string y.f0, .slice Y1 y.f1.length n1, .string y.f2, .slice Y3 y.f3.length n3][j]? = some u → w1.cell? ⟨gb, q * 4 + j, none⟩ = some u from hcc)
          have NK := Lib.hid (fun s => k38_mkF w1 _ (⟨y.f0, y.f1, s, y.f3⟩ : S38) hm1 hG1 hm3 hG3)
          clear hcc hfr hK hm1 hG1 hm3 hG3 hcl hy hty hxs
          have HGB := Lib.hid (And.intro hgb1 hgb2)
          clear hgb1 hgb2
          have HQQ := Lib.hid hq
          by_cases hy0 : y.f0.toList = []
          · have x3 : (y.f0.toList == []) = true := by rw [hy0]; rfl
            go_wp2_with fail
            go_region
            all_goals
              go_wp2_with fail
              go_roundg (gk - 1)
              case measure => omega
              case rel =>
                refine ⟨j + 1, by first | rfl | go_num, by omega, by omega, Lib.hid ?_, Lib.hid (B1.out.drew.setCell (p := ⟨gb, q * 4 + 2, none⟩) HGB.out.1 _)⟩
                have hseg := (Kd.N_seg (Kd.N_drew R1.out) (q : Int) (by omega) (by omega) (c := [.string y.f0, .slice Y1 y.f1.length n1, .string y.f2, .slice Y3 y.f3.length n3]) (seg := [.string (y.f2 ++ x.f2)]) (j := 2) rfl (fun j u h => by rw [Int.toNat_natCast]; exact HCC.out j u h) (show 2 + 1 ≤ 4 by decide) (x' := ⟨y.f0, y.f1, y.f2 ++ x.f2, y.f3⟩) (Foot.step (NK.out (y.f2 ++ x.f2)) (fun _ _ _ => rfl)) (fun k hk => hk)).1
                rw [HMS.out, snocT_text _ _ _ hy0]
                rw [Int.toNat_natCast, List.set_append_right _ _ (by rw [HQQ.out]; exact Nat.le_refl _), HQQ.out, Nat.sub_self] at hseg
                exact hseg
          · have x3 : (y.f0.toList == []) = false := by
              cases e : y.f0.toList with
              | nil => exact absurd e hy0
              | cons _ _ => rfl
            by_cases hs0 : x.f2.toList = []
            · have x2 : (x.f2.toList == []) = true := by rw [hs0]; rfl
              go_wp2_with fail
              go_roundg (gk - 1)
              case measure => omega
              case rel => exact ⟨j + 1, by first | rfl | go_num, by omega, by omega, Lib.hid (by rw [HMS.out, snocT_nil _ hs0]; exact R1.out), B1⟩
            · have x2 : (x.f2.toList == []) = false := by
                cases e : x.f2.toList with
                | nil => exact absurd e hs0
                | cons _ _ => rfl
              have hxl : (ys ++ [y]).length + 1 ≤ 4000001 := by rw [List.length_append, List.length_singleton]; omega
              go_wp2_with (refine Kd.N_append k38 (w0 := w) (W := w1) w.heap.size rfl (.tmp 55) (.tmp 59) 22 38 (.agg #[(.string ⟨#[]⟩), (.slice none 0 0), (.string ⟨#[]⟩), (.slice none 0 0)]) 80 rfl Try.underlying22 info38 rfl (by decide) (by decide) (.slice (some ⟨gb, 0, none⟩) (q + 1) cap) (ys ++ [y]) (⟨⟨#[]⟩, [], x.f2, []⟩ : S38) [.string ⟨#[]⟩, .slice none 0 0, .string x.f2, .slice none 0 0] (Mo ok w) (fun _ => False) rfl (by first | (go_simp; done) | (go_simp; rfl)) TX.out (fun _ hk => hk.elim) (fun k hk => .inr (Nat.le_trans B1.out.size hk)) R1.out B1.out B1.out.size (by first | omega | (simp; done)) ?_; intro v4 w4 hR4 hb4 hg4 _; have R4 := Lib.hid hR4; have B4 := Lib.hid hb4; clear hR4 hb4 hg4)
              go_roundg (gk - 1)
              case measure => omega
              case rel => exact ⟨j + 1, by first | rfl | go_num, by omega, by omega, Lib.hid (by rw [HMS.out, snocT_new _ hs0 (fun a z e => by obtain ⟨_, e2⟩ := List.append_inj' e rfl; obtain rfl := (List.cons.inj e2).1; exact hy0)]; exact R4.out), B4⟩
      · rw [if_neg hn0] at HMS
        have x1 : (x.f0.toList == []) = false := by
          cases e : x.f0.toList with
          | nil => exact absurd e hn0
          | cons _ _ => rfl
        have R1d := Lib.hid (Kd.N_drew R1.out)
        have X1d := Lib.hid (show w1.drew.heap[wr.heap.size]? = some (.cells #[.string x.f0, .slice A1 x.f1.length c1, .string x.f2, .slice A3 x.f3.length c3] 38 (0, 0)) from X1.out)
        have B1d := Lib.hid (show Below w.heap.size w w1.drew from B1.out.drew)
        have C26 := Lib.hid (IH.out (wL x.f3) (by have := HNS.out; have := HQ.out; omega) x.f3 (Nat.le_refl _) A3 c3 w1.drew (fun k => ok k ∧ k < w.heap.size) (Kd.F_drew FA3.out) HLE3.out (by have := HNS.out; have := HQ.out; omega) (by have := HNS.out; have := HQ.out; omega))
        have t0 : w1.drew.cell? ⟨wr.heap.size, 0, none⟩ = some (.string x.f0) := z0
        have t1 : w1.drew.cell? ⟨wr.heap.size, 1, none⟩ = some (.slice A1 x.f1.length c1) := z1
        have t3 : w1.drew.cell? ⟨wr.heap.size, 3, none⟩ = some (.slice A3 x.f3.length c3) := z3
        have hxl : xs.length + 1 ≤ 4000001 := by have := HML.out; omega
        go_wp2_with fail
        clear z0 z1 z2 z3
        go_region_held3 (fun w' => w'.cell? ⟨wr.heap.size, 0, none⟩ = some (.string x.f0) ∧ w'.cell? ⟨wr.heap.size, 1, none⟩ = some (.slice A1 x.f1.length c1) ∧ w'.cell? ⟨wr.heap.size, 3, none⟩ = some (.slice A3 x.f3.length c3)) (first | assumption | exact ⟨t0, t1, t3⟩ | exact ⟨blk_cell (blk_alloc X2.out _) 0, blk_cell (blk_alloc X2.out _) 1, blk_cell (blk_alloc X2.out _) 3⟩) (first
          | (go_at_call 26; refine C26.out.mono ?_; rintro e w2 ⟨v2, rfl, hN2, hB2⟩; have B2 := Lib.hid hB2; have X2 := Lib.hid (blk_below X1d.out hB2); obtain ⟨A5, k5, rfl, hle5, hC5⟩ := Kd.N_reads hN2; have HLE5 := Lib.hid hle5; have N2 := Lib.hid hN2; have R2 := Lib.hid (Kd.N_below R1d.out hB2); have EP := Lib.hid (show Kd.FK k38 w2 (fun k => (ok k ∧ k < w.heap.size) ∨ w1.heap.size ≤ k) (⟨x.f0, x.f1, ⟨#[]⟩, mgL [] x.f3⟩ : S38) [.string x.f0, .slice A1 x.f1.length c1, .string ⟨#[]⟩, .slice A5 (mgL [] x.f3).length k5] from k38_mkF w2 _ (⟨x.f0, x.f1, ⟨#[]⟩, mgL [] x.f3⟩ : S38) HLE1.out (Kd.F_mono (Kd.F_below (Kd.F_drew FA1.out) hB2) fun k hk => .inl hk) HLE5.out (Kd.F_mono (Kd.N_F hN2) fun k hk => hk.elim (fun h => .inl h.1) (fun h => .inr h))); have s2 : w2.cell? ⟨wr.heap.size, 0, none⟩ = some (.string x.f0) ∧ w2.cell? ⟨wr.heap.size, 1, none⟩ = some (.slice A1 x.f1.length c1) ∧ w2.cell? ⟨wr.heap.size, 3, none⟩ = some (.slice A3 x.f3.length c3) := ⟨blk_cell X2.out 0, blk_cell X2.out 1, blk_cell X2.out 3⟩; clear hN2 hB2 hle5 hC5)
          | (refine Kd.N_append_step k38 (w0 := w2) w.heap.size (by rfl) (.tmp 17) (.tmp 26) 22 38 (.agg #[(.string ⟨#[]⟩), (.slice none 0 0), (.string ⟨#[]⟩), (.slice none 0 0)]) 80 ?_ Try.underlying22 info38 rfl (by decide) (by decide) u3 xs (⟨x.f0, x.f1, ⟨#[]⟩, mgL [] x.f3⟩ : S38) [.string x.f0, .slice A1 x.f1.length c1, .string ⟨#[]⟩, .slice A5 (mgL [] x.f3).length k5] (Mo ok w) (fun k => (ok k ∧ k < w.heap.size) ∨ w1.heap.size ≤ k) ?_ ?_ EP.out (fun k hk => ⟨hk.elim .inl (fun h => .inr (Nat.le_trans B1.out.size h)), fun e => by have h1 := G1.out k e.symm; have h2 := HS.out; rcases hk with hk | hk <;> omega⟩) (fun k hk => .inr (Nat.le_trans B1.out.size (Nat.le_trans B2.out.size hk))) R2.out (Below.refl _ _) (Nat.le_trans B1.out.size B2.out.size) (by omega) ?_; rfl; rfl; rfl; intro v4 w4 hR4 hb4 hg4 hat4; have R4 := Lib.hid hR4; have B4 := Lib.hid hb4; have X4 := Lib.hid (blk_grown X2.out hg4 HNE.out); have s4 : w4.cell? ⟨wr.heap.size, 0, none⟩ = some (.string x.f0) ∧ w4.cell? ⟨wr.heap.size, 1, none⟩ = some (.slice A1 x.f1.length c1) ∧ w4.cell? ⟨wr.heap.size, 3, none⟩ = some (.slice A3 x.f3.length c3) := ⟨blk_cell X4.out 0, blk_cell X4.out 1, blk_cell X4.out 3⟩; clear hR4 hb4 hg4 hat4))
        have B5 := Lib.hid (show Below w.heap.size w w4 from (B1d.out.trans (B2.out.mono B1d.out.size)).trans B4.out)
        clear t0 t1 t3 s2 s4
        go_wp2_with fail
        go_roundg (gk - 1)
        case measure => omega
        case rel => exact ⟨j + 1, by first | rfl | go_num, by omega, by omega, Lib.hid (by rw [HMS.out]; exact R4.out), B5⟩
    · obtain rfl : j = l.length := by omega
      have hltz : ¬ ((l.length : Int) < (l.length : Int)) := by omega
      go_wp2_with fail
      go_ret
      exact ⟨_, rfl, by have := HR.out; rwa [List.take_length] at this, HB.out⟩
end Go.Proofs.Ytcdkcnegejhnhaa.Ar
