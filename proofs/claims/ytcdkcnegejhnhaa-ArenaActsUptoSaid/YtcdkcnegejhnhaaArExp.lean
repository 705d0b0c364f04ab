/-
  Arenas: the walks of export, Nodes.
-/
import Derived.Test.YtcdkcnegejhnhaaArRead
import Derived.Deep.RegionHeld3
namespace Go.Proofs.Ytcdkcnegejhnhaa.Ar
open Go.RowKit Go.Proofs.Ytcdkcnegejhnhaa.PAr Go.Proofs.YtcdkcnegejhnhaaW.PrintWords Go.Proofs.YtcdkcnegejhnhaaW.PrintLast Go.Proofs.YtcdkcnegejhnhaaW.PrintMore
set_option linter.unusedVariables false
namespace M
/-- What stands in places, each as a node; E: what stands in one. -/
def expL (m : M) (E : Nat → Option (List S31)) : List Nat → Option (List S31)
  | [] => some []
  | k :: r => match m.nodes[k]? with
    | none => none
    | some kd => (E k).bind fun inn => (expL m E r).map fun t => ⟨kd.name, kd.attrs, kd.text, inn⟩ :: t
def exp (m : M) : Nat → Nat → Option (List S31)
  | 0, _ => none
  | f + 1, place => match m.nodes[place]? with
    | none => none
    | some nd => m.expL (fun k => m.exp f k) nd.inner
end M
theorem expL_get {m : M} {E : Nat → Option (List S31)} : ∀ {ks : List Nat} {l : List S31}, m.expL E ks = some l → l.length = ks.length ∧ ∀ (i k : Nat), ks[i]? = some k → ∃ kd inn, m.nodes[k]? = some kd ∧ E k = some inn ∧ l[i]? = some ⟨kd.name, kd.attrs, kd.text, inn⟩
  | [], l, h => by
    obtain rfl : [] = l := by simpa [M.expL] using h
    exact ⟨rfl, fun i k hi => by simp at hi⟩
  | k :: r, l, h => by
    unfold M.expL at h
    split at h
    · cases h
    · rename_i kd hk
      obtain ⟨inn, hE, h⟩ := Option.bind_eq_some_iff.1 h
      obtain ⟨t, ht, rfl⟩ := Option.map_eq_some_iff.1 h
      obtain ⟨h1, h2⟩ := expL_get ht
      refine ⟨by simp [h1], fun i k' hi => ?_⟩
      cases i with
      | zero =>
        obtain rfl : k = k' := by simpa using hi
        exact ⟨kd, inn, hk, hE, rfl⟩
      | succ i => exact h2 i k' (by simpa using hi)
/-- What the walk of export asks of a model. -/
structure Sm (m : M) : Prop where
  att : ∀ (i : Nat) (nd : Nd), m.nodes[i]? = some nd → nd.attrs.length < 4398046511104 ∧ nd.inner.length ≤ 1000000
  len : m.nodes.length ≤ 1000000
theorem exp_parts {wr w1 w2 w3 : World} {B : Nat} {u5 v2 v3 : Value} {xs inn : List S31} {at_ : List S105} (nm tx : ByteArray) (HR : Kd.R k31 31 wr B (fun _ => True) u5 xs) (hB : B ≤ wr.heap.size) (b1 : Below wr.heap.size wr w1)
    (b2 : Below w1.heap.size w1 w2) (b3 : Below w2.heap.size w2 w3) (r2 : Kd.R k105 105 w2 w1.heap.size (fun _ => True) v2 at_) (r3 : Kd.R k31 31 w3 w2.heap.size (fun _ => True) v3 inn) :
    Kd.R k31 31 w3 B (fun _ => True) u5 xs ∧ k31.M w3 B (fun k => True ∧ some k ≠ u5.ownBlock) ⟨nm, at_, tx, inn⟩ [.string nm, v2, .string tx, v3] := by
  have R1 := Kd.R_below HR b1
  have R2 := Kd.R_below R1 b2
  obtain ⟨i1, o1⟩ := Kd.R_own R1
  obtain ⟨i2, o2⟩ := Kd.R_own R2
  have s1 := b1.size
  have s2 := b2.size
  exact ⟨Kd.R_below R2 b3, k31_mkM _ _ _ (⟨nm, at_, tx, inn⟩ : S31) (Kd.R_mono (Kd.R_lower (Kd.R_below (Kd.R_new r2 o1) b3) (by omega)) (fun k hk => ⟨trivial, hk.2⟩)) (Kd.R_mono (Kd.R_lower (Kd.R_new r3 o2) (by omega)) (fun k hk => ⟨trivial, hk.2⟩))⟩
theorem take_snoc' {α : Type} {l : List α} {i : Nat} {x : α} (h : l[i]? = some x) : l.take (i + 1) = l.take i ++ [x] := by
  rw [List.take_add_one, h]
  rfl
/-- The variable n of a round. -/
def BoxC (B : Nat) (a b c : Value) (w : World) : Prop := w.cell? ⟨B, 0, none⟩ = some a ∧ w.cell? ⟨B, 1, none⟩ = some b ∧ w.cell? ⟨B, 2, none⟩ = some c
theorem boxC {w : World} {B : Nat} {a b c d e : Value} (h : w.heap[B]? = some (.cells #[a, b, c, d, e] 99 (0, 0))) : w.cell? ⟨B, 0, none⟩ = some a ∧ w.cell? ⟨B, 1, none⟩ = some b ∧ w.cell? ⟨B, 2, none⟩ = some c := ⟨blk_cell h 0, blk_cell h 1, blk_cell h 2⟩
set_option maxRecDepth 100000 in
set_option maxHeartbeats 4000000 in
theorem export_calls {base g : Nat} {m : M} {nv ev : Value} {vs : List NV} (hS : Sm m) : ∀ (f place : Nat) (l : List S31) (w : World), At w base g m nv ev vs → m.exp f place = some l →
    Calls Try.prog 73 #[.pointer (some ⟨g, 0, none⟩), .int .i64 (place : Int)] w fun e w' => ∃ v, e = .returned v ∧ Kd.R k31 31 w' w.heap.size (fun _ => True) v l ∧ Below w.heap.size w w' := by
  intro f
  induction f with
  | zero => intro place l w h he; cases he
  | succ f ih =>
  intro place l w h he
  unfold M.exp at he
  split at he
  · cases he
  rename_i nd hnd
  obtain ⟨hlen, hget⟩ := expL_get he
  obtain ⟨N, cap, v, rfl, hv, z0, z1, z2, z3, c4, z5, hlt⟩ := h.node hnd
  have hIR := (h.rest.inn place nd v hnd hv).1
  obtain ⟨A1, k1, hiv⟩ := own_slice hIR
  have hcell : ∀ (i k : Nat), nd.inner[i]? = some k → ∃ I, A1 = some ⟨I, 0, none⟩ ∧ w.cell? ⟨I, i, none⟩ = some (.int .i64 (k : Int)) := fun i k hi => by
    have hil : i < nd.inner.length := (List.getElem?_eq_some_iff.1 hi).1
    obtain ⟨b, c, hb', _, _⟩ := World.ownsRow.form hIR (by rw [zn_length]; omega)
    rw [hiv] at hb'
    injection hb' with hb1 hb2 hb3
    subst hb1
    refine ⟨b, rfl, ?_⟩
    have hR : w.ownsRow base 3 1 (.slice (some ⟨b, 0, none⟩) (zn nd.inner).length k1) (zn nd.inner).length (nums .i64 (zn nd.inner)) := by have := hIR; unfold IR at this; rwa [hiv] at this
    rw [World.ownsRow.cellAt hR i (by rw [zn_length]; omega)]
    simp [nums, zn, hi]
  rw [hiv, zn_length] at c4
  have hsm := (hS.att place nd hnd).2
  have g0 : w.cell? ⟨g, 0, none⟩ = some (.slice (some ⟨N, 0, none⟩) m.nodes.length cap) := blk_cell h.hg 0
  have p0 : (0 : Int) ≤ (place : Int) := by omega
  have p1 : (place : Int) < (m.nodes.length : Int) := by omega
  have s1 : (nd.inner.length : Int) ≤ 1000000 := by omega
  have A := Lib.hid h
  have HC := Lib.hid hcell
  have HG := Lib.hid hget
  have HL := Lib.hid hlen
  have IH := Lib.hid ih
  have SM := Lib.hid hS
  clear h he hnd hv z0 z1 z2 z3 z5 hIR hiv hcell hget hlen hlt ih
  obtain ⟨n, hn⟩ : ∃ n, nd.inner.length = n := ⟨_, rfl⟩
  rw [hn] at c4 s1 hsm
  have HN := Lib.hid hn
  clear hn
  go_enter Try.func73, Try.ntmps73
  go_wp2_with fail
  go_loopg [5, 18] (n + 1) (fun gg s5 s18 wr => ∃ i : Nat, s18 = .int .i64 (i : Int) ∧ i ≤ n ∧ i + gg = n + 1 ∧ Hid (Kd.R k31 31 wr w.heap.size (fun _ => True) s5 (l.take i)) ∧ Hid (Below w.heap.size w wr))
  case atStart => exact ⟨0, rfl, Nat.zero_le _, by omega, Lib.hid (Kd.R_nil _ _ _ _ _), Lib.hid (Below.refl _ _)⟩
  case round =>
    obtain ⟨i, rfl, hi, hgk, HR, HB⟩ := hrel
    by_cases hlt : i < n
    · obtain ⟨k, hk⟩ : ∃ k, nd.inner[i]? = some k := ⟨_, List.getElem?_eq_getElem (by rw [HN.out]; exact hlt)⟩
      obtain ⟨I, rfl, hI⟩ := HC.out i k hk
      obtain ⟨kd, inn, hkd, hE, hl⟩ := HG.out i k hk
      have hA := A.out.below HB.out
      obtain ⟨N', cap', u, hN', hu, d0, d1, d2, d3, d4, d5, hltk⟩ := hA.node hkd
      obtain ⟨rfl, rfl⟩ : N = N' ∧ cap = cap' := by injection hN' with h1 h1a h1b; injection h1 with h1; injection h1 with h1; exact ⟨h1, h1b⟩
      replace hI := pw_cell_below HB.out hI
      have g1 := pw_cell_below HB.out g0
      have k0 : (0 : Int) ≤ (k : Int) := by omega
      have k1' : (k : Int) < (m.nodes.length : Int) := by omega
      obtain ⟨hIRk, hRk⟩ := hA.rest.inn k kd u hkd hu
      obtain ⟨A2, k2, hiv2⟩ := own_slice hIRk
      obtain ⟨A3, k3, hav3, hle3, hC3⟩ := Kd.R_reads hRk
      rw [hiv2] at d4
      rw [hav3] at d1
      have H2 := Lib.hid hA
      have HC3 := Lib.hid hC3
      have HL3 := Lib.hid hle3
      have HE := Lib.hid hE
      have HLG := Lib.hid hl
      have HSM := Lib.hid (SM.out.att k kd hkd)
      clear hk hkd hE hl hA hN' hu d5 hltk hIRk hRk hiv2 hav3 hC3 hle3
      go_wp2_with fail
      have B1 := Lib.hid ((Below.refl wr.heap.size wr).alloc (Nat.le_refl _) (.cells #[.string kd.name, .slice A3 kd.attrs.length k3, .string kd.text, .int .i64 (pz kd.parent), .slice A2 (zn kd.inner).length k2] 99))
      have X1 := Lib.hid (heap_alloc_new wr (.cells #[.string kd.name, .slice A3 kd.attrs.length k3, .string kd.text, .int .i64 (pz kd.parent), .slice A2 (zn kd.inner).length k2] 99))
      generalize hw1 : wr.alloc (.cells #[.string kd.name, .slice A3 kd.attrs.length k3, .string kd.text, .int .i64 (pz kd.parent), .slice A2 (zn kd.inner).length k2] 99) = w1 at *
      clear hw1 d0 d1 d2 d3 d4 hI g1
      have q1 := boxC X1.out
      have hB1 : Below wr.heap.size wr w1.drew := B1.out.drew
      have HB1 := Lib.hid hB1
      have C71 := Lib.hid (api_Attr_.calls A3 k3 kd.attrs kd.attrs w1.drew (Kd.C_below HC3.out hB1) HL3.out (by unfold api_Attr_.f; rw [if_pos HSM.out.1]))
      have X1d := Lib.hid (show w1.drew.heap[wr.heap.size]? = some (.cells #[.string kd.name, .slice A3 kd.attrs.length k3, .string kd.text, .int .i64 (pz kd.parent), .slice A2 (zn kd.inner).length k2] 99 (0, 0)) from X1.out)
      have H1d := Lib.hid (H2.out.below hB1)
      have hLB := HB.out.size
      have HLB := Lib.hid hLB
      have hlen1 : (l.take i).length + 1 ≤ 1000001 := by have := List.length_take_le i l; omega
      clear hB1 hLB
      have q1d : w1.drew.cell? ⟨wr.heap.size, 0, none⟩ = some (.string kd.name) ∧ w1.drew.cell? ⟨wr.heap.size, 1, none⟩ = some (.slice A3 kd.attrs.length k3) ∧ w1.drew.cell? ⟨wr.heap.size, 2, none⟩ = some (.string kd.text) := q1
      go_region_held3 (fun w' => w'.cell? ⟨wr.heap.size, 0, none⟩ = some (.string kd.name) ∧ w'.cell? ⟨wr.heap.size, 1, none⟩ = some (.slice A3 kd.attrs.length k3) ∧ w'.cell? ⟨wr.heap.size, 2, none⟩ = some (.string kd.text)) (first | assumption | (exact boxC (blk_alloc X3.out _))) (first
        | (go_at_call 71; refine C71.out.mono ?_; rintro e w2 ⟨v2, rfl, hR2, hB2⟩; have B2 := Lib.hid hB2; have X2 := Lib.hid (blk_below X1d.out hB2); have R2 := Lib.hid hR2; obtain ⟨A4, k4, rfl⟩ := Kd.R_slice hR2; have q2 := boxC X2.out; clear hR2 hB2)
        | (go_at_call 73; refine (IH.out k inn w2 (H1d.out.below B2.out) HE.out).mono ?_; rintro e w3 ⟨v3, rfl, hR3, hB3⟩; have B3 := Lib.hid hB3; have X3 := Lib.hid (blk_below X2.out hB3); have R3 := Lib.hid hR3; obtain ⟨A5, k5, rfl⟩ := Kd.R_slice hR3; have q3 := boxC X3.out; clear hR3 hB3; have EP := Lib.hid (exp_parts kd.name kd.text HR.out HLB.out HB1.out B2.out B3.out R2.out R3.out))
        | (refine Kd.R_append_step k31 (w0 := w3) w.heap.size (by rfl) (.tmp 29) (.tmp 41) 25 31 (.agg #[(.string ⟨#[]⟩), (.slice none 0 0), (.string ⟨#[]⟩), (.slice none 0 0)]) 80 ?_ Try.underlying25 info31 rfl (by decide) (by decide) u5 (l.take i) (⟨kd.name, kd.attrs, kd.text, inn⟩ : S31) [.string kd.name, .slice A4 kd.attrs.length k4, .string kd.text, .slice A5 inn.length k5] (fun _ => True) (fun k => True ∧ some k ≠ u5.ownBlock) ?_ ?_ EP.out.2 (fun _ hk => hk) (fun _ _ => trivial) EP.out.1 (Below.refl _ _) (Nat.le_trans HLB.out (Nat.le_trans HB1.out.size (Nat.le_trans B2.out.size B3.out.size))) (by omega) ?_; rfl; rfl; rfl; intro v4 w4 hR4 hb4 hg4 hat4; have X4 := Lib.hid (blk_grown X3.out hg4 (Kd.R_ne EP.out.1 X3.out (by decide))); have R4 := Lib.hid hR4; have B4 := Lib.hid hb4; have q4 := boxC X4.out; clear hR4 hb4 hg4 hat4))
      have R5 := Lib.hid (show Kd.R k31 31 w4 w.heap.size (fun _ => True) v4 (l.take (i + 1)) by rw [take_snoc' HLG.out]; exact R4.out)
      have B5 := Lib.hid (show Below w.heap.size w w4 from ((HB.out.trans (HB1.out.mono HLB.out)).trans (B2.out.mono (Nat.le_trans HLB.out HB1.out.size))).trans ((B3.out.mono (Nat.le_trans HLB.out (Nat.le_trans HB1.out.size B2.out.size))).trans B4.out))
      clear q1 q1d q2 q3 q4
      go_wp2
      go_roundg (gk - 1)
      case measure => omega
      case rel => exact ⟨i + 1, by first | rfl | go_num, by omega, by omega, R5, B5⟩
    · obtain rfl : i = n := by omega
      have HF := Lib.hid (show Kd.R k31 31 wr w.heap.size (fun _ => True) u5 l by have := HR.out; rwa [List.take_of_length_le (by rw [HL.out, HN.out]; exact Nat.le_refl _)] at this)
      clear HR
      go_wp2
      go_ret
      exact ⟨_, rfl, HF.out, HB.out⟩
theorem nodes_calls {w : World} {base g i p : Nat} {m : M} {nv ev : Value} {vs : List NV} (h : At w base g m nv ev vs) (hS : Sm m) (f : Nat) (l : List S31) (hi : m.elems[i]? = some p) (he : m.exp f p = some l) (hl : m.elems.length ≤ 1000000) :
    Calls Try.prog 25 #[.pointer (some ⟨g, 0, none⟩), .int .i64 (i : Int)] w fun e w' => ∃ v, e = .returned v ∧ Kd.R k31 31 w' w.heap.size (fun _ => True) v l ∧ Below w.heap.size w w' := by
  have CE := Lib.hid (export_calls hS f p l w h he)
  obtain ⟨E, ce, rfl, he1, hlt⟩ := h.elem hi
  have g1 : w.cell? ⟨g, 1, none⟩ = some (.slice (some ⟨E, 0, none⟩) m.elems.length ce) := blk_cell h.hg 1
  have i0 : (0 : Int) ≤ (i : Int) := by omega
  have i1 : (i : Int) < (m.elems.length : Int) := by omega
  clear h hi he hlt
  go_enter Try.func25, Try.ntmps25
  go_wp2_with (go_at_call 73; refine CE.out.mono ?_; rintro e w1 ⟨v1, rfl, hR1, hB1⟩)
  go_ret
  exact ⟨_, rfl, hR1, hB1⟩
end Go.Proofs.Ytcdkcnegejhnhaa.Ar
