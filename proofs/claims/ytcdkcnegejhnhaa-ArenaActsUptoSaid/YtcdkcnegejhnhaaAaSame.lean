/-
  ArenaActs: the document's Same (fn 23), asked of two rows that read as one: it says so.
-/
import Derived.Test.YtcdkcnegejhnhaaAaTree
import Derived.Deep.LoopGhost
import Derived.Deep.RegionHeld3
namespace Go.Proofs.Ytcdkcnegejhnhaa.Aa
open Go.RowKit Go.Proofs.Ytcdkcnegejhnhaa.PAr Go.Proofs.Ytcdkcnegejhnhaa.Ar Go.Proofs.YtcdkcnegejhnhaaW.PrintWords Go.Proofs.YtcdkcnegejhnhaaW.PrintLast Go.Proofs.YtcdkcnegejhnhaaW.PrintMore
set_option linter.unusedVariables false
set_option linter.unusedSimpArgs false
mutual
def zL : List S38 → Nat
  | [] => 0
  | x :: r => zN x + zL r
def zN : S38 → Nat
  | ⟨_, _, _, i⟩ => zL i + 1
end
theorem zN_eq (x : S38) : zN x = zL x.f3 + 1 := by cases x; rfl
theorem zL_at : ∀ {l : List S38} {i : Nat} {x : S38}, l[i]? = some x → zL x.f3 < zL l
  | [], i, x, h => by simp at h
  | y :: r, 0, x, h => by
    obtain rfl : y = x := by simpa using h
    rw [zL, zN_eq]
    omega
  | y :: r, i + 1, x, h => by
    have := zL_at (l := r) (i := i) (x := x) (by simpa using h)
    rw [zL]
    omega
theorem rdS38 {l : List S38} {i : Nat} {x : S38} (h : l[i]? = some x) : rd_T38 l (i : Int) = x := by
  unfold rd_T38
  rw [Int.toNat_natCast, List.getD_eq_getElem?_getD, h, Option.getD_some]
/-- What a round reads. -/
def SmS (a b : Addr) (u v p q s t : Value) (w : World) : Prop := w.cell? a = some u ∧ w.cell? ⟨a.block, a.off + 1, none⟩ = some p ∧ w.cell? ⟨a.block, a.off + 2, none⟩ = some v ∧ w.cell? ⟨a.block, a.off + 3, none⟩ = some q ∧ w.cell? b = some u ∧ w.cell? ⟨b.block, b.off + 1, none⟩ = some s ∧ w.cell? ⟨b.block, b.off + 2, none⟩ = some v ∧ w.cell? ⟨b.block, b.off + 3, none⟩ = some t
theorem SmS.below {a b : Addr} {u v p q s t : Value} {w w1 : World} (h : SmS a b u v p q s t w) (hb : Below w.heap.size w w1) : SmS a b u v p q s t w1 := by
  obtain ⟨h0, h1, h2, h3, h4, h5, h6, h7⟩ := h
  exact ⟨pw_cell_below hb h0, pw_cell_below hb h1, pw_cell_below hb h2, pw_cell_below hb h3, pw_cell_below hb h4, pw_cell_below hb h5, pw_cell_below hb h6, pw_cell_below hb h7⟩
set_option maxRecDepth 100000 in
set_option maxHeartbeats 16000000 in
theorem same12_calls : ∀ (W : Nat) (l : List S38), zL l ≤ W → l.length ≤ 1000 → dM l → ∀ (A0 : Option Addr) (c0 : Nat) (A1 : Option Addr) (c1 : Nat) (w : World), Kd.C k38 w A0 l.length l → l.length ≤ c0 → Kd.C k38 w A1 l.length l → l.length ≤ c1 →
    Calls Try.prog 23 #[.slice A0 l.length c0, .slice A1 l.length c1] w fun e w' => e = .returned (.bool true) ∧ Below w.heap.size w w' := by
  intro W
  induction W using Nat.strongRecOn with
  | _ W ih =>
  intro l hW hl hd A0 c0 A1 c1 w hC0 hc0 hC1 hc1
  have IH := Lib.hid ih
  have HD := Lib.hid hd
  have HW := Lib.hid hW
  have HC0 := Lib.hid hC0
  have HC1 := Lib.hid hC1
  have ll : (l.length : Int) ≤ 1000 := by omega
  clear ih hd hW hC0 hC1 hc0 hc1
  go_enter Try.func23, Try.ntmps23
  go_wp2_with fail
  go_loopg [5] (l.length + 1) (fun gg s5 wr => ∃ j : Nat, s5 = .int .i64 (j : Int) ∧ j ≤ l.length ∧ j + gg = l.length + 1 ∧ Hid (Below w.heap.size w wr))
  case atStart => exact ⟨0, rfl, Nat.zero_le _, by omega, Lib.hid (Below.refl _ _)⟩
  case round =>
    obtain ⟨j, rfl, hj, hgk, HB⟩ := hrel
    have hj0 : (0 : Int) ≤ (j : Int) := by omega
    by_cases hlt : j < l.length
    · have hltz : (j : Int) < (l.length : Int) := by omega
      obtain ⟨x, hx⟩ : ∃ x, l[j]? = some x := ⟨_, List.getElem?_eq_getElem hlt⟩
      have hdx := dM_at HD.out hx
      have hzx := zL_at hx
      obtain ⟨a0, B1, k1, B3, k3, hA0, y0, y1, y2, y3, le1, C1, le3, C3⟩ := at_T38 (Kd.C_below HC0.out (HB.out.trans (show Below w.heap.size wr wr.drew from ⟨rfl, rfl, rfl, Nat.le_refl _, fun _ _ => rfl⟩))) (j : Int) hj0 (by omega)
      obtain ⟨a1, D1, m1, D3, m3, hA1, z0, z1, z2, z3, ge1, E1, ge3, E3⟩ := at_T38 (Kd.C_below HC1.out (HB.out.trans (show Below w.heap.size wr wr.drew from ⟨rfl, rfl, rfl, Nat.le_refl _, fun _ _ => rfl⟩))) (j : Int) hj0 (by omega)
      subst hA0 hA1
      rw [rdS38 hx] at y0 y1 y2 y3 le1 C1 le3 C3 z0 z1 z2 z3 ge1 E1 ge3 E3
      rw [Int.toNat_natCast] at y0 y1 y2 y3 z0 z1 z2 z3
      have HS := Lib.hid (show SmS (a0.add (j * 4)) (a1.add (j * 4)) (.string x.f0) (.string x.f2) (.slice B1 x.f1.length k1) (.slice B3 x.f3.length k3) (.slice D1 x.f1.length m1) (.slice D3 x.f3.length m3) wr.drew from ⟨y0, y1, y2, y3, z0, z1, z2, z3⟩)
      have C46 := Lib.hid (decanterref06_Alike.calls (x.f1.length + 1) B1 k1 x.f1 D1 m1 x.f1 true wr.drew C1 le1 E1 ge1 (alike_self x.f1 (by omega) _ (Nat.le_refl _)))
      have C23 := Lib.hid (fun (w5 : World) (hb : Below wr.drew.heap.size wr.drew w5) => IH.out (zL x.f3) (by have := HW.out; omega) x.f3 (Nat.le_refl _) hdx.2.1 hdx.2.2 B3 k3 D3 m3 w5 (Kd.C_below C3 hb) le3 (Kd.C_below E3 hb) ge3)
      clear C1 le1 E1 ge1 C3 le3 E3 ge3 hdx hzx hx
      go_upto_region 6 with fail
      go_region_held3 (fun w' => w'.cell? (a0.add (j * 4)) = some (.string x.f0) ∧ w'.cell? ⟨(a0.add (j * 4)).block, (a0.add (j * 4)).off + 1, none⟩ = some (.slice B1 x.f1.length k1) ∧ w'.cell? ⟨(a0.add (j * 4)).block, (a0.add (j * 4)).off + 2, none⟩ = some (.string x.f2) ∧ w'.cell? ⟨(a0.add (j * 4)).block, (a0.add (j * 4)).off + 3, none⟩ = some (.slice B3 x.f3.length k3) ∧ w'.cell? (a1.add (j * 4)) = some (.string x.f0) ∧ w'.cell? ⟨(a1.add (j * 4)).block, (a1.add (j * 4)).off + 1, none⟩ = some (.slice D1 x.f1.length m1) ∧ w'.cell? ⟨(a1.add (j * 4)).block, (a1.add (j * 4)).off + 2, none⟩ = some (.string x.f2) ∧ w'.cell? ⟨(a1.add (j * 4)).block, (a1.add (j * 4)).off + 3, none⟩ = some (.slice D3 x.f3.length m3)) (first | assumption | exact HS.out | exact HS4.out | exact HS5.out) (first
        | (go_at_call 46; go_loud (refine C46.out.mono ?_; rintro e w4 ⟨rfl, hd4⟩; have hB4 := Drawn0.below hd4; clear hd4; have B4 := Lib.hid hB4; have HS4 := Lib.hid (HS.out.below hB4); have s4 := HS4.out; clear hB4))
        | (go_at_call 23; refine (C23.out w4 B4.out).mono ?_; rintro e w5 ⟨rfl, hB5⟩; have B5 := Lib.hid (B4.out.trans (hB5.mono B4.out.size)); have HS5 := Lib.hid (HS4.out.below hB5); have s5 := HS5.out; clear hB5))
      have HB6 := Lib.hid (HB.out.drew.trans (B5.out.mono HB.out.size))
      clear s4 s5 y0 y1 y2 y3 z0 z1 z2 z3
      go_wp2_with fail
      go_roundg (gk - 1)
      case measure => omega
      case rel => exact ⟨j + 1, by first | rfl | go_num, by omega, by omega, HB6⟩
    · obtain rfl : j = l.length := by omega
      have hltz : ¬ ((l.length : Int) < (l.length : Int)) := by omega
      go_wp2_with fail
      go_ret
      exact ⟨rfl, HB.out⟩
end Go.Proofs.Ytcdkcnegejhnhaa.Aa
