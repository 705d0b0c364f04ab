/-
  ArenaActs: the document's Nodes (fn 49).
-/
import Derived.Test.YtcdkcnegejhnhaaAaTree
import Derived.Deep.LoopGhost
import Derived.Deep.RegionHeld3
namespace Go.Proofs.Ytcdkcnegejhnhaa.Aa
open Go.RowKit Go.Proofs.Ytcdkcnegejhnhaa.PAr Go.Proofs.Ytcdkcnegejhnhaa.Ar Go.Proofs.YtcdkcnegejhnhaaW.PrintWords Go.Proofs.YtcdkcnegejhnhaaW.PrintLast Go.Proofs.YtcdkcnegejhnhaaW.PrintMore
set_option linter.unusedVariables false
set_option linter.unusedSimpArgs false
theorem nodL_get {R : Rm} {E : Nat → Option (List S38)} : ∀ {ys : List S115} {l : List S38}, nodL R E ys = some l → l.length = ys.length ∧ ∀ (j : Nat) (y : S115), ys[j]? = some y →
    (y.f1 = 0 ∧ l[j]? = some ⟨⟨#[]⟩, [], y.f0, []⟩) ∨ (y.f1 ≠ 0 ∧ ∃ nm a inn, R.names[y.f1.toNat]? = some nm ∧ R.attrs[y.f1.toNat]? = some a ∧ E y.f1.toNat = some inn ∧ l[j]? = some ⟨nm, a, ⟨#[]⟩, inn⟩)
  | [], l, h => by
    rw [nodL] at h
    obtain rfl := Option.some.inj h
    exact ⟨rfl, fun j y hj => by simp at hj⟩
  | y :: ys, l, h => by
    rw [nodL] at h
    by_cases e : y.f1 = 0
    · rw [if_pos e] at h
      obtain ⟨t, ht, rfl⟩ := Option.map_eq_some_iff.1 h
      obtain ⟨h1, h2⟩ := nodL_get ht
      refine ⟨by rw [List.length_cons, List.length_cons, h1], fun j z hj => ?_⟩
      cases j with
      | zero =>
        obtain rfl : y = z := by simpa using hj
        exact .inl ⟨e, rfl⟩
      | succ j => exact h2 j z (by simpa using hj)
    · rw [if_neg e] at h
      split at h
      · rename_i nm a hn ha
        obtain ⟨inn, hE, h⟩ := Option.bind_eq_some_iff.1 h
        obtain ⟨t, ht, rfl⟩ := Option.map_eq_some_iff.1 h
        obtain ⟨h1, h2⟩ := nodL_get ht
        refine ⟨by rw [List.length_cons, List.length_cons, h1], fun j z hj => ?_⟩
        cases j with
        | zero =>
          obtain rfl : y = z := by simpa using hj
          exact .inr ⟨e, nm, a, inn, hn, ha, hE, rfl⟩
        | succ j => exact h2 j z (by simpa using hj)
      · cases h
theorem info38 : (Try.prog.info? 38).map (fun i => (i.zero, i.size, i.bytes)) = some (some (.agg #[(.string ⟨#[]⟩), (.slice none 0 0), (.string ⟨#[]⟩), (.slice none 0 0)]), 4, 80) := by kernel_rfl
theorem cell_grown {w w1 : World} {a : Addr} {v : Value} {row : Option Nat} (h : w.cell? a = some v) (hg : w.grownBy w1 row) (hr : row ≠ some a.block) : w1.cell? a = some v :=
  (World.cell?_of_block (w := w) (hg.block _ (World.block_lt_of_cell? w _ h) (fun e => hr e.symm))).trans h
/-- What the last region of a round of Nodes reads. -/
def NdS (B X : Nat) (u0 u1 u2 u3 cp x1 : Value) (an aa : Addr) (nm at_ : Value) (w : World) : Prop := w.cell? ⟨B, 0, none⟩ = some u0 ∧ w.cell? ⟨B, 1, none⟩ = some u1 ∧ w.cell? ⟨B, 2, none⟩ = some u2 ∧ w.cell? ⟨B, 3, none⟩ = some u3 ∧ w.cell? ⟨B, 4, none⟩ = some cp ∧ w.cell? ⟨X, 1, none⟩ = some x1 ∧ w.cell? an = some nm ∧ w.cell? aa = some at_
theorem NdS.below {B X : Nat} {u0 u1 u2 u3 cp x1 : Value} {an aa : Addr} {nm at_ : Value} {w w1 : World} (h : NdS B X u0 u1 u2 u3 cp x1 an aa nm at_ w) (hb : Below w.heap.size w w1) : NdS B X u0 u1 u2 u3 cp x1 an aa nm at_ w1 := by
  obtain ⟨h0, h1, h2, h3, h4, h5, h6, h7⟩ := h
  exact ⟨pw_cell_below hb h0, pw_cell_below hb h1, pw_cell_below hb h2, pw_cell_below hb h3, pw_cell_below hb h4, pw_cell_below hb h5, pw_cell_below hb h6, pw_cell_below hb h7⟩
theorem NdS.grown {B X : Nat} {u0 u1 u2 u3 cp x1 : Value} {an aa : Addr} {nm at_ : Value} {w w1 : World} {row : Option Nat} (h : NdS B X u0 u1 u2 u3 cp x1 an aa nm at_ w) (hg : w.grownBy w1 row) (g1 : row ≠ some B) (g2 : row ≠ some X) (g3 : row ≠ some an.block) (g4 : row ≠ some aa.block) : NdS B X u0 u1 u2 u3 cp x1 an aa nm at_ w1 := by
  obtain ⟨h0, h1, h2, h3, h4, h5, h6, h7⟩ := h
  exact ⟨cell_grown h0 hg g1, cell_grown h1 hg g1, cell_grown h2 hg g1, cell_grown h3 hg g1, cell_grown h4 hg g1, cell_grown h5 hg g2, cell_grown h6 hg g3, cell_grown h7 hg g4⟩
set_option maxRecDepth 100000 in
set_option maxHeartbeats 16000000 in
theorem nodes12_calls {u0 u1 u2 u3 : Value} {R : Rm} (hn : R.inner.length ≤ 1000) (hx : ∀ l ∈ R.inner, l.length ≤ 100000) (hy : ∀ l ∈ R.inner, ∀ y ∈ l, 0 ≤ y.f1) :
    ∀ (f i : Nat) (l : List S38) (w : World) (ok : Nat → Prop), RA w ok u0 u1 u2 u3 R → nodF R f i = some l →
    Calls Try.prog 49 #[.agg #[u0, u1, u2, u3, .int .i64 R.copies], .int .i64 (i : Int)] w fun e w' => ∃ v, e = .returned v ∧ Kd.N k38 38 w' w.heap.size (fun k => ok k ∨ w.heap.size ≤ k) v l ∧ Below w.heap.size w w' := by
  intro f
  induction f with
  | zero => intro i l w ok _ he; rw [nodF] at he; cases he
  | succ f ih =>
  intro i l w ok h he
  obtain ⟨ys, hys⟩ : ∃ ys, R.inner[i]? = some ys := by
    cases hi : R.inner[i]? with
    | none => rw [nodF, hi] at he; cases he
    | some ys => exact ⟨ys, rfl⟩
  rw [nodF_at hys] at he
  obtain ⟨hlen, hget⟩ := nodL_get he
  have hra := h.bound2
  obtain ⟨B0, d0, rfl, _, _⟩ := hra.r0
  obtain ⟨B1, d1, rfl, _, _⟩ := hra.r1
  obtain ⟨B2, d2, rfl, _, _⟩ := hra.r2
  obtain ⟨B3, d3, rfl, _, _⟩ := hra.r3
  have HRA := Lib.hid hra
  have HYS := Lib.hid hys
  have HG := Lib.hid hget
  have HLEN := Lib.hid hlen
  have IH := Lib.hid ih
  have hys2 := hx ys (List.mem_of_getElem? hys)
  have HY := Lib.hid (hy ys (List.mem_of_getElem? hys))
  have hil := (List.getElem?_eq_some_iff.1 hys).1
  obtain ⟨n, hnn⟩ : ∃ n, ys.length = n := ⟨_, rfl⟩
  have HNN := Lib.hid hnn
  have n0 : (n : Int) ≤ 100000 := by omega
  have i0 : (0 : Int) ≤ (i : Int) := by omega
  have i1 : (i : Int) < (R.inner.length : Int) := by omega
  have HB1 := Lib.hid (show Below w.heap.size w (w.alloc (.cells #[.slice B0 R.names.length d0, .slice B1 R.attrs.length d1, .slice B2 R.inner.length d2, .slice B3 R.par.length d3, .int .i64 R.copies] 62)) from (Below.refl w.heap.size w).alloc (Nat.le_refl _) (.cells #[.slice B0 R.names.length d0, .slice B1 R.attrs.length d1, .slice B2 R.inner.length d2, .slice B3 R.par.length d3, .int .i64 R.copies] 62))
  have XB1 := Lib.hid (blk_new w (.cells #[.slice B0 R.names.length d0, .slice B1 R.attrs.length d1, .slice B2 R.inner.length d2, .slice B3 R.par.length d3, .int .i64 R.copies] 62))
  have HS1 := Lib.hid (show w.heap.size + 1 ≤ (w.alloc (.cells #[.slice B0 R.names.length d0, .slice B1 R.attrs.length d1, .slice B2 R.inner.length d2, .slice B3 R.par.length d3, .int .i64 R.copies] 62)).heap.size from by rw [World.size_alloc]; exact Nat.le_refl _)
  clear hra h he hlen hget ih hx hy hn hys hys2 hnn
  go_enter Try.func49, Try.ntmps49
  go_upto_region 1 with (fail)
  generalize hw : w.alloc (.cells #[.slice B0 R.names.length d0, .slice B1 R.attrs.length d1, .slice B2 R.inner.length d2, .slice B3 R.par.length d3, .int .i64 R.copies] 62) = w1 at *
  clear hw
  have NL := Lib.hid (Kd.N_mono (ok' := (fun k => (ok k ∧ k < w.heap.size) ∨ w.heap.size + 1 ≤ k)) (Kd.N_lower (N_lit k38 38 w1 w1.heap.size (Nat.le_refl _)) HS1.out) (fun k hk => .inr (by have := HS1.out; omega)))
  have BL := Lib.hid (HB1.out.alloc HB1.out.size (.cells #[] 38))
  have XL := Lib.hid (blk_alloc XB1.out (.cells #[] 38))
  go_upto_region 2 with (fail)
  generalize hw : w1.alloc (.cells #[] 38) = w2 at *
  clear hw HB1 XB1
  go_wp2_with fail
  go_loopg [5, 6] (n + 1) (fun gg s5 s6 wr => ∃ j : Nat, s6 = .int .i64 (j : Int) ∧ j ≤ n ∧ j + gg = n + 1 ∧ Hid (Kd.N k38 38 wr (w.heap.size + 1) (fun k => (ok k ∧ k < w.heap.size) ∨ w.heap.size + 1 ≤ k) s5 (l.take j)) ∧ Hid (Below w.heap.size w wr) ∧ Hid (wr.heap[w.heap.size]? = some (.cells #[.slice B0 R.names.length d0, .slice B1 R.attrs.length d1, .slice B2 R.inner.length d2, .slice B3 R.par.length d3, .int .i64 R.copies] 62 (0, 0))))
  case atStart => exact ⟨0, rfl, Nat.zero_le _, by omega, NL, BL, XL⟩
  case round =>
    clear NL BL XL
    obtain ⟨j, rfl, hj, hgk, HNr, HBr, HXr⟩ := hrel
    have HA := Lib.hid (HRA.out.step (W1 := wr) fun k hk _ => HBr.out.block k hk.2)
    obtain ⟨ai, A5, c5, hAi, y5, le5, F5, _⟩ := HA.out.r2.rows_at HYS.out
    subst hAi
    have hnc := HNN.out
    rw [hnc] at y5
    have b2 := blk_cell HXr.out 2
    try simp only [List.getElem?_toArray, List.getElem?_cons_zero, List.getElem?_cons_succ] at b2
    have hj0 : (0 : Int) ≤ (j : Int) := by omega
    by_cases hlt : j < n
    · have hltz : (j : Int) < (n : Int) := by omega
      obtain ⟨y, hy⟩ : ∃ y, ys[j]? = some y := ⟨_, List.getElem?_eq_getElem (by omega)⟩
      obtain ⟨ad, hAd, y0, y1⟩ := at_T115 (Kd.F_now F5) (j : Int) hj0 (by omega)
      subst hAd
      rw [rdT hy, Int.toNat_natCast] at y0 y1
      have HGy := Lib.hid (HG.out j y hy)
      have hy0 := HY.out y (List.mem_of_getElem? hy)
      have HF5 := Lib.hid F5
      clear F5 le5 hnc hy
      go_upto_region 6 with fail
      have X3 := Lib.hid (heap_alloc_new wr (.cells #[.string y.f0, .int .i64 y.f1] 115))
      have B3h := Lib.hid (show Below wr.heap.size wr (wr.alloc (.cells #[.string y.f0, .int .i64 y.f1] 115)) from (Below.refl _ _).alloc (Nat.le_refl _) _)
      generalize hw3 : wr.alloc (.cells #[.string y.f0, .int .i64 y.f1] 115) = w3 at *
      clear hw3 y0 y1 y5 b2
      have N3 := Lib.hid (Kd.N_below HNr.out B3h.out)
      have HOW := Lib.hid (fun k (hk : u5.ownBlock = some k) => And.intro (Kd.N_base HNr.out k hk) (Kd.N_lt HNr.out k hk))
      have XB3 := Lib.hid (blk_below HXr.out B3h.out)
      have HB3 := Lib.hid (HBr.out.trans (B3h.out.mono HBr.out.size))
      have HA3 := Lib.hid (HRA.out.step (W1 := w3) fun k hk _ => HB3.out.block k hk.2)
      have HZ := Lib.hid (show wr.heap.size < w3.heap.size from blk_lt X3.out)
      have HZ0 := Lib.hid (blk_lt HXr.out)
      have HLT := Lib.hid (show (l.take j).length ≤ 100000 by have h1 := List.length_take_le j l; have h2 := HLEN.out; have h3 := HNN.out; have h4 := List.length_take_le' j l; omega)
      have z0 := blk_cell X3.out 0
      have z1 := blk_cell X3.out 1
      try simp only [List.getElem?_toArray, List.getElem?_cons_zero, List.getElem?_cons_succ] at z0 z1
      clear HNr HXr HA HF5
      rcases HGy.out with ⟨hz, hl⟩ | ⟨hz, nm, a, inn, hnm, ha, hE, hl⟩
      · have HL := Lib.hid hl
        rw [hz] at z1
        clear hl HGy hz hy0
        go_wp2_with (refine Kd.N_append k38 (w0 := w3) (W := w3) (w.heap.size + 1) rfl (.tmp 30) (.tmp 34) 22 38 (.agg #[(.string ⟨#[]⟩), (.slice none 0 0), (.string ⟨#[]⟩), (.slice none 0 0)]) 80 rfl Try.underlying22 info38 rfl (by decide) (by decide) u5 (l.take j) (⟨⟨#[]⟩, [], y.f0, []⟩ : S38) [.string ⟨#[]⟩, .slice none 0 0, .string y.f0, .slice none 0 0] (fun k => (ok k ∧ k < w.heap.size) ∨ w.heap.size + 1 ≤ k) (fun _ => False) rfl (by first | (go_simp; done) | (go_simp; rfl)) (k38_mkF _ _ (⟨⟨#[]⟩, [], y.f0, []⟩ : S38) (A1 := none) (c1 := 0) (Nat.le_refl _) (Kd.F_nil _ _ _) (A3 := none) (c3 := 0) (Nat.le_refl _) (Kd.F_nil _ _ _)) (fun _ hk => hk.elim) (fun k hk => .inr (by have := HZ.out; have := HZ0.out; omega)) N3.out (Below.refl _ _) (by have := HZ.out; have := HZ0.out; omega) (by have := HLT.out; omega) ?_; intro v4 w4 hn4 hb4 hg4 hat4; have N4 := Lib.hid (show Kd.N k38 38 w4 (w.heap.size + 1) (fun k => (ok k ∧ k < w.heap.size) ∨ w.heap.size + 1 ≤ k) v4 (l.take (j + 1)) by rw [take_snoc' HL.out]; exact hn4); have B4 := Lib.hid (HB3.out.trans (hb4.mono (Nat.le_succ _))); have XB4 := Lib.hid ((hb4.block _ (Nat.lt_succ_self _)).trans XB3.out); clear hn4 hb4 hg4 hat4)
        go_roundg (gk - 1)
        case measure => omega
        case rel => exact ⟨j + 1, by first | rfl | go_num, by omega, by omega, N4, B4, XB4⟩
      · obtain ⟨e, he⟩ : ∃ e : Nat, y.f1 = (e : Int) := ⟨y.f1.toNat, by omega⟩
        have het : y.f1.toNat = e := by omega
        rw [het] at hnm ha hE
        rw [he] at z1
        have he0 : (e : Int) ≠ 0 := by omega
        have HL := Lib.hid hl
        have hel := (List.getElem?_eq_some_iff.1 hnm).1
        have hal := (List.getElem?_eq_some_iff.1 ha).1
        have HAd := Lib.hid (HA3.out.step (W1 := w3.drew) fun k hk _ => rfl)
        obtain ⟨an, hAn, n7, kn⟩ := HAd.out.r0.string_at hnm
        obtain ⟨aa, A6, c6, hAa, n8, le6, F6, ka⟩ := HAd.out.r1.rows_at ha
        subst hAn hAa
        have HLE6 := Lib.hid le6
        have HF6 := Lib.hid F6
        have e0 : (0 : Int) ≤ (e : Int) := by omega
        have e1 : (e : Int) < (R.names.length : Int) := by omega
        have e2 : (e : Int) < (R.attrs.length : Int) := by omega
        have C49 := Lib.hid (IH.out e inn w3.drew _ HAd.out hE)
        have HKA := Lib.hid (And.intro kn.2 ka.2)
        clear hl HGy hy0 hnm ha hE het hel hal le6 F6 kn ka hz he
        have XBd := Lib.hid (show w3.drew.heap[w.heap.size]? = _ from XB3.out)
        have b0 := blk_cell XBd.out 0
        have b1 := blk_cell XBd.out 1
        have b2 := blk_cell XBd.out 2
        have b3 := blk_cell XBd.out 3
        have b4 := blk_cell XBd.out 4
        try simp only [List.getElem?_toArray, List.getElem?_cons_zero, List.getElem?_cons_succ] at b0 b1 b2 b3 b4
        have hz1 : w3.drew.cell? ⟨wr.heap.size, 1, none⟩ = some (.int .i64 (e : Int)) := z1
        have HS := Lib.hid (show NdS w.heap.size wr.heap.size (.slice (some an) R.names.length d0) (.slice (some aa) R.attrs.length d1) (.slice (some ai) R.inner.length d2) (.slice B3 R.par.length d3) (.int .i64 R.copies) (.int .i64 (e : Int)) (an.add e) (aa.add e) (.string nm) (.slice A6 a.length c6) w3.drew from ⟨b0, b1, b2, b3, b4, hz1, n7, n8⟩)
        have N3d := Lib.hid (Kd.N_drew N3.out)
        go_upto_region 8 with fail
        clear z0 z1
        go_region_held3 (fun w' => w'.cell? ⟨w.heap.size, 0, none⟩ = some (.slice (some an) R.names.length d0) ∧ w'.cell? ⟨w.heap.size, 1, none⟩ = some (.slice (some aa) R.attrs.length d1) ∧ w'.cell? ⟨w.heap.size, 2, none⟩ = some (.slice (some ai) R.inner.length d2) ∧ w'.cell? ⟨w.heap.size, 3, none⟩ = some (.slice B3 R.par.length d3) ∧ w'.cell? ⟨w.heap.size, 4, none⟩ = some (.int .i64 R.copies) ∧ w'.cell? ⟨wr.heap.size, 1, none⟩ = some (.int .i64 (e : Int)) ∧ w'.cell? (an.add e) = some (.string nm) ∧ w'.cell? (aa.add e) = some (.slice A6 a.length c6)) (first | assumption | exact HS5.out | exact HS5.out.below ((Below.refl _ _).alloc (Nat.le_refl _) _) | exact HS7.out) (first
          | (go_at_call 49; refine C49.out.mono ?_; rintro e w5 ⟨v5, rfl, hN5, hB5⟩; obtain ⟨A5, k5, rfl⟩ := Kd.N_slice hN5; have HS5 := Lib.hid (HS.out.below hB5); have N5 := Lib.hid (Kd.N_below N3d.out hB5); have F5 := Lib.hid (Kd.N_F hN5); have L5 := Lib.hid (Kd.N_reads' hN5).2.1; have B5 := Lib.hid hB5; have s5 := HS5.out; clear hN5 hB5)
          | (refine Kd.N_append_step k38 (w0 := w5) (W := w5) (w.heap.size + 1) (by rfl) (.tmp 36) (.tmp 54) 22 38 (.agg #[(.string ⟨#[]⟩), (.slice none 0 0), (.string ⟨#[]⟩), (.slice none 0 0)]) 80 ?_ Try.underlying22 info38 rfl (by decide) (by decide) u5 (l.take j) (⟨nm, a, ⟨#[]⟩, inn⟩ : S38) [.string nm, .slice A6 a.length c6, .string ⟨#[]⟩, .slice A5 inn.length k5] (fun k => (ok k ∧ k < w.heap.size) ∨ w.heap.size + 1 ≤ k) (fun k => (ok k ∧ k < w.heap.size) ∨ w3.drew.heap.size ≤ k) ?_ ?_ (k38_mkF _ _ (⟨nm, a, ⟨#[]⟩, inn⟩ : S38) HLE6.out (Kd.F_mono (Kd.F_below HF6.out B5.out) fun k hk => .inl hk) L5.out F5.out) (fun k hk => ⟨hk.imp id (fun h => by have h1 := HZ.out; have h2 := HZ0.out; have h3 : w3.drew.heap.size = w3.heap.size := rfl; omega), fun h => by have h1 := Kd.N_lt N3d.out k h.symm; have h2 := Kd.N_base N3d.out k h.symm; rcases hk with h | h <;> omega⟩) (fun k hk => .inr (by have h1 := B5.out.size; have h2 := HZ.out; have h3 := HZ0.out; have h4 : w3.drew.heap.size = w3.heap.size := rfl; omega)) N5.out (Below.refl _ _) (by have h1 := B5.out.size; have h2 := HZ.out; have h3 := HZ0.out; have h4 : w3.drew.heap.size = w3.heap.size := rfl; omega) (by have := HLT.out; omega) ?_; rfl; rfl; rfl; intro v7 w7 hn7 hb7 hg7 hat7; have N7 := Lib.hid (show Kd.N k38 38 w7 (w.heap.size + 1) (fun k => (ok k ∧ k < w.heap.size) ∨ w.heap.size + 1 ≤ k) v7 (l.take (j + 1)) by rw [take_snoc' HL.out]; exact hn7); have B7 := Lib.hid hb7; have HS7 := Lib.hid (HS5.out.grown hg7 (fun h => by have h2 := HOW.out w.heap.size h; omega) (fun h => by have h2 := HOW.out wr.heap.size h; omega) (fun h => by rw [add_block] at h; have h2 := HOW.out an.block h; have h3 := HKA.out.1; omega) (fun h => by rw [add_block] at h; have h2 := HOW.out aa.block h; have h3 := HKA.out.2; omega)); have s7 := HS7.out; clear hn7 hb7 hg7 hat7))
        have B8 := Lib.hid (show Below w.heap.size w w7 from (HB3.out.drew.trans (B5.out.mono HB3.out.size)).trans (B7.out.mono (Nat.le_succ _)))
        have XB8 := Lib.hid ((B7.out.block w.heap.size (Nat.lt_succ_self _)).trans ((B5.out.block w.heap.size (by have h1 := HZ.out; have h2 := HZ0.out; have h4 : w3.drew.heap.size = w3.heap.size := rfl; omega)).trans XBd.out))
        clear s5 s7 b0 b1 b2 b3 b4 hz1 n7 n8
        go_wp2_with fail
        go_roundg (gk - 1)
        case measure => omega
        case rel => exact ⟨j + 1, by first | rfl | go_num, by omega, by omega, N7, B8, XB8⟩
    · obtain rfl : j = n := by omega
      have hltz : ¬ ((j : Int) < (j : Int)) := by omega
      have HF := Lib.hid (show Kd.N k38 38 wr (w.heap.size + 1) (fun k => (ok k ∧ k < w.heap.size) ∨ w.heap.size + 1 ≤ k) u5 l by have := HNr.out; rwa [List.take_of_length_le (by rw [HLEN.out, HNN.out]; exact Nat.le_refl _)] at this)
      clear HNr F5 le5 hnc
      go_wp2_with fail
      go_ret
      exact ⟨_, rfl, Kd.N_mono (Kd.N_lower HF.out (Nat.le_succ _)) (fun k hk => hk.elim (fun h => .inl h.1) (fun h => .inr (by omega))), HBr.out⟩
end Go.Proofs.Ytcdkcnegejhnhaa.Aa
