/-
  Arenas: the walks of Append, Text, Move, Copy.
-/
import Derived.Test.YtcdkcnegejhnhaaArRead
import Derived.Deep.RegionWith
import Derived.IntWalk
namespace Go.Proofs.Ytcdkcnegejhnhaa.Ar
open Go.RowKit Go.Proofs.Ytcdkcnegejhnhaa.PAr Go.Proofs.YtcdkcnegejhnhaaW.PrintWords Go.Proofs.YtcdkcnegejhnhaaW.PrintLast Go.Proofs.YtcdkcnegejhnhaaW.PrintMore
set_option linter.unusedVariables false
/-- What the arena's own numbers lead to. -/
structure WF (m : M) (B T : Nat) : Prop where
  els : ∀ (i p : Nat), m.elems[i]? = some p → p < m.nodes.length
  par : ∀ (i : Nat) (nd : Nd), m.nodes[i]? = some nd → ∀ p, nd.parent = some p → p < m.nodes.length
  inn : ∀ (i : Nat) (nd : Nd), m.nodes[i]? = some nd → (∀ k ∈ nd.inner, k < m.nodes.length) ∧ nd.inner.length ≤ B ∧ nd.text.size ≤ T
  nlen : m.nodes.length ≤ B
  elen : m.elems.length ≤ B
namespace M
def append (m : M) (i j : Nat) : M :=
  match m.elems[i]?, m.elems[j]? with
  | some p, some q => m.put p q
  | _, _ => m
end M
theorem Left.drew' {w w' : World} {base g : Nat} {m : M} {nv ev : Value} {vs : List NV} (h : Left w.drew base g m nv ev vs w') : Left w base g m nv ev vs w' := Left.of_below (w1 := w.drew) ⟨rfl, rfl, rfl, Nat.le_refl _, fun _ _ => rfl⟩ h
set_option maxHeartbeats 1000000 in
theorem append_calls {w : World} {base g : Nat} {m : M} {nv ev : Value} {vs : List NV} (h : At w base g m nv ev vs) {B T : Nat} (hW : WF m B T) (hB : B ≤ 1000000) (i j p q : Nat) (hi : m.elems[i]? = some p) (hj : m.elems[j]? = some q) (hb : base ≤ w.heap.size) :
    Calls Try.prog 21 #[.pointer (some ⟨g, 0, none⟩), .int .i64 (i : Int), .int .i64 (j : Int)] w fun e w' => e = .returned (.tuple #[]) ∧ Left w base g (m.append i j) nv ev vs w' := by
  have hm : m.append i j = m.put p q := by unfold M.append; rw [hi, hj]
  rw [hm]
  obtain ⟨pd, hpd⟩ : ∃ pd, m.nodes[p]? = some pd := ⟨_, List.getElem?_eq_getElem (hW.els i p hi)⟩
  obtain ⟨qd, hqd⟩ : ∃ qd, m.nodes[q]? = some qd := ⟨_, List.getElem?_eq_getElem (hW.els j q hj)⟩
  have hn := hW.nlen
  have CP := Lib.hid (fun (hb : base ≤ w.drew.heap.size) => put_calls (show At w.drew base g m nv ev vs from h.below ⟨rfl, rfl, rfl, Nat.le_refl _, fun _ _ => rfl⟩) p q hqd hpd (fun r hr => by
    have := hW.par q qd hqd r hr
    exact ⟨_, List.getElem?_eq_getElem this, by have := (hW.inn r _ (List.getElem?_eq_getElem this)).2.1; omega⟩) (by omega) hb (by have := (hW.inn p pd hpd).2.1; omega))
  obtain ⟨E, ce, rfl, he1, hlt1⟩ := h.elem hi
  obtain ⟨E', ce', hE, he2, hlt2⟩ := h.elem hj
  obtain ⟨rfl, rfl⟩ : E = E' ∧ ce = ce' := by injection hE with h1 h1a h1b; injection h1 with h1; injection h1 with h1; exact ⟨h1, h1b⟩
  have g1 : w.cell? ⟨g, 1, none⟩ = some (.slice (some ⟨E, 0, none⟩) m.elems.length ce) := blk_cell h.hg 1
  have i0 : (0 : Int) ≤ (i : Int) := by omega
  have j0 : (0 : Int) ≤ (j : Int) := by omega
  have i1 : (i : Int) < (m.elems.length : Int) := by omega
  have j1 : (j : Int) < (m.elems.length : Int) := by omega
  have HB := Lib.hid hb
  clear h hW hi hj hm hpd hqd hE hb hn hlt1 hlt2
  go_enter Try.func21, Try.ntmps21
  go_wp2
  go_region_with (go_at_call 69; refine (CP.out HB.out).mono ?_; rintro e w1 ⟨rfl, hL1⟩; have L1 := Lib.hid hL1; clear hL1)
  all_goals
    go_wp2
    go_end0
    exact ⟨rfl, L1.out.drew'⟩
namespace M
def addText (m : M) (p : Nat) (s : ByteArray) : M := ({ m with nodes := m.nodes ++ [⟨⟨#[]⟩, [], s, none, []⟩] } : M).put p m.nodes.length
def setText (m : M) (k : Nat) (kd : Nd) (s : ByteArray) : M := { m with nodes := m.nodes.set k { kd with text := kd.text ++ s } }
def text (m : M) (i : Nat) (s : ByteArray) : M :=
  if s.toList.isEmpty then m else
  match m.elems[i]? with
  | none => m
  | some p => match m.nodes[p]? with
    | none => m
    | some pd => match pd.inner.getLast? with
      | none => m.addText p s
      | some k => match m.nodes[k]? with
        | none => m
        | some kd => if isT k kd then m.setText k kd s else m.addText p s
end M
/-- What add leaves, whole. -/
def Added (w : World) (base g : Nat) (m : M) (nv ev : Value) (vs : List NV) (nd : Nd) (w' : World) : Prop := ∃ nv1 av, At w' base g { m with nodes := m.nodes ++ [nd] } nv1 ev (vs ++ [⟨av, .slice none 0 0⟩]) ∧
  (∀ k, Foot g nv1 ev (vs ++ [⟨av, .slice none 0 0⟩]) k → Foot g nv ev vs k ∨ w.heap.size ≤ k) ∧ Kp (Foot g nv ev vs) w w'
theorem addText_calls {w : World} {base g : Nat} {m : M} {nv ev : Value} {vs : List NV} (h : At w base g m nv ev vs) (s : ByteArray) (hb : base ≤ w.heap.size) (hn : m.nodes.length ≤ 1000000) :
    Calls Try.prog 70 #[.pointer (some ⟨g, 0, none⟩), .agg #[.string ⟨#[]⟩, .slice none 0 0, .string s, .int .i64 (-1), .slice none 0 0]] w fun e w' => e = .returned (.int .i64 (m.nodes.length : Int)) ∧ Added w base g m nv ev vs ⟨⟨#[]⟩, [], s, none, []⟩ w' := by
  refine (add_calls h ⟨⟨#[]⟩, [], s, none, []⟩ (.slice none 0 0) rfl (Kd.R_nil _ _ _ _ _) hb (by omega)).mono ?_
  rintro e w' ⟨nv1, rfl, h1, h2, h3⟩
  refine ⟨rfl, nv1, _, h1, fun k hk => ?_, h3.imp fun k hk => ?_⟩
  · rcases hk with rfl | hk | hk | ⟨v, hv, hk⟩
    · exact .inl (.inl rfl)
    · rcases h2 with e | ⟨b, e1, e2⟩
      · exact .inl (.inr (.inl (by rw [← e]; exact hk)))
      · rw [e1] at hk
        cases hk
        exact .inr e2
    · exact .inl (.inr (.inr (.inl hk)))
    · rcases List.mem_append.1 hv with hv | hv
      · exact .inl (.inr (.inr (.inr ⟨v, hv, hk⟩)))
      · obtain rfl := List.mem_singleton.1 hv
        cases hk
  · rcases hk with e | e
    · exact .inl e
    · exact .inr (.inl e)
/-- What the last region of Text asks. -/
structure TextFacts (w : World) (base g : Nat) (m : M) (nv ev : Value) (vs : List NV) (i p : Nat) (s : ByteArray) : Prop where
  a : At w base g m nv ev vs
  b : base ≤ w.heap.size
  put : ∀ (w1 : World) (nv1 : Value) (vs1 : List NV), At w1 base g { m with nodes := m.nodes ++ [⟨⟨#[]⟩, [], s, none, []⟩] } nv1 ev vs1 → base ≤ w1.heap.size →
    Calls Try.prog 69 #[.pointer (some ⟨g, 0, none⟩), .int .i64 (p : Int), .int .i64 (m.nodes.length : Int)] w1 fun e w' => e = .returned (.tuple #[]) ∧ Left w1 base g (m.addText p s) nv1 ev vs1 w'
theorem textFacts {w : World} {base g : Nat} {m : M} {nv ev : Value} {vs : List NV} (h : At w base g m nv ev vs) {B T : Nat} (hW : WF m B T) (hB : B ≤ 999999) (i p : Nat) (hi : m.elems[i]? = some p) (hb : base ≤ w.heap.size) (s : ByteArray) : TextFacts w base g m nv ev vs i p s where
  a := h
  b := hb
  put := fun w1 nv1 vs1 h1 hb1 => by
    have hp := hW.els i p hi
    have hn := hW.nlen
    refine put_calls h1 p m.nodes.length (nd := ⟨⟨#[]⟩, [], s, none, []⟩) (pd := m.nodes[p]) (by simp) (by rw [List.getElem?_append_left hp]; exact List.getElem?_eq_getElem hp) (fun r hr => by simp at hr) (by simp; omega) hb1 (by have := (hW.inn p _ (List.getElem?_eq_getElem hp)).2.1; omega)
theorem TextFacts.at_drewN {w : World} {base g : Nat} {m : M} {nv ev : Value} {vs : List NV} {i p : Nat} {s : ByteArray} (h : TextFacts w base g m nv ev vs i p s) (n : Nat) : TextFacts (w.drewN n) base g m nv ev vs i p s :=
  ⟨h.a.below (below_drewN0 w n), h.b, h.put⟩
theorem TextFacts.cells {w : World} {base g E ne ce : Nat} {m : M} {nv : Value} {vs : List NV} {i p : Nat} {s : ByteArray} (h : TextFacts w base g m nv (.slice (some ⟨E, 0, none⟩) ne ce) vs i p s) (hi : m.elems[i]? = some p) :
    w.cell? ⟨g, 1, none⟩ = some (.slice (some ⟨E, 0, none⟩) ne ce) ∧ w.cell? ⟨E, i, none⟩ = some (.int .i64 (p : Int)) := by
  obtain ⟨E', ce', hE, he, _⟩ := h.a.elem hi
  obtain rfl : E = E' := by injection hE with h1 h1a h1b; injection h1 with h1; injection h1 with h1
  exact ⟨blk_cell h.a.hg 1, he⟩
theorem added_cells {w : World} {base g E ne ce : Nat} {m : M} {l : List Nd} {nv : Value} {vs : List NV} {i p : Nat} (h : At w base g { m with nodes := l } nv (.slice (some ⟨E, 0, none⟩) ne ce) vs) (hi : m.elems[i]? = some p) :
    w.cell? ⟨g, 1, none⟩ = some (.slice (some ⟨E, 0, none⟩) ne ce) ∧ w.cell? ⟨E, i, none⟩ = some (.int .i64 (p : Int)) := by
  obtain ⟨E', ce', hE, he, _⟩ := h.elem hi
  obtain rfl : E = E' := by injection hE with h1 h1a h1b; injection h1 with h1; injection h1 with h1
  exact ⟨blk_cell h.hg 1, he⟩
set_option maxRecDepth 100000 in
set_option maxHeartbeats 4000000 in
theorem text_calls {w : World} {base g : Nat} {m : M} {nv ev : Value} {vs : List NV} (h : At w base g m nv ev vs) {B T : Nat} (hW : WF m B T) (hB : B ≤ 999999) (i p : Nat) (hi : m.elems[i]? = some p) (hb : base ≤ w.heap.size) (s : ByteArray) (hT : T + s.size ≤ 9223372036854775807) :
    Calls Try.prog 18 #[.pointer (some ⟨g, 0, none⟩), .int .i64 (i : Int), .string s] w fun e w' => e = .returned (.tuple #[]) ∧ Left w base g (m.text i s) nv ev vs w' := by
  rcases hS : s.toList with _ | ⟨b0, bs⟩
  · have hm : m.text i s = m := by unfold M.text; rw [hS]; rfl
    rw [hm]
    have HL := Lib.hid (Left.refl h)
    have x1 : (s.toList == []) = true := by rw [hS]; rfl
    clear h hW hi hb hT hm
    go_enter Try.func18, Try.ntmps18
    go_wp2
    refine bodyPost_ret (results_none rfl _ _ _) rfl ?_
    exact ⟨rfl, HL.out⟩
  · have x1 : (s.toList == []) = false := by rw [hS]; rfl
    obtain ⟨pd, hpd⟩ : ∃ pd, m.nodes[p]? = some pd := ⟨_, List.getElem?_eq_getElem (hW.els i p hi)⟩
    have TF := Lib.hid (textFacts h hW hB i p hi hb s)
    have HN := Lib.hid hW.nlen
    obtain ⟨N, cap, v, rfl, hv, z0, z1, z2, z3, c4, z5, hltp⟩ := h.node hpd
    obtain ⟨E, ce, rfl, he1, hlt1⟩ := h.elem hi
    have g1 : w.cell? ⟨g, 1, none⟩ = some (.slice (some ⟨E, 0, none⟩) m.elems.length ce) := blk_cell h.hg 1
    have i0 : (0 : Int) ≤ (i : Int) := by omega
    have i1 : (i : Int) < (m.elems.length : Int) := by omega
    have CA := Lib.hid (at_calls h hi hltp)
    have hIR := (h.rest.inn p pd v hpd hv).1
    rcases hin : pd.inner.getLast? with _ | k
    · have hnil : pd.inner = [] := by simpa using hin
      have hm : m.text i s = m.addText p s := by unfold M.text; rw [hS, hi]; simp [hpd, hin]
      rw [hm]
      rw [hnil] at hIR
      obtain ⟨A1, k1, hv1⟩ := own_slice hIR
      rw [hv1] at c4
      have HI := Lib.hid hi
      clear h hW hi hb hT hm hpd hv z0 z1 z2 z3 z5 hltp hlt1 hIR hin hnil hv1 g1 he1
      simp only [zn, List.map_nil, List.length_nil] at c4
      go_enter Try.func18, Try.ntmps18
      go_wp2_with (go_at_call 67; refine CA.out.mono ?_; rintro e w1 ⟨rfl, n1, rfl⟩)
      have B1 := Lib.hid (below_drewN0 w n1)
      have TF1 := Lib.hid (TF.out.at_drewN n1)
      generalize hw1 : w.drewN n1 = w1 at *
      clear hw1
      obtain ⟨g2, e2⟩ := TF1.out.cells HI.out
      have CT := Lib.hid (addText_calls (show At w1.drew base g m _ _ vs from TF1.out.a.below ⟨rfl, rfl, rfl, Nat.le_refl _, fun _ _ => rfl⟩) s TF1.out.b (by have := HN.out; omega))
      go_region_with (first
        | (go_at_call 70; refine CT.out.mono ?_; rintro e w2 ⟨rfl, nv2, av2, hA2, hF2, hK2⟩; obtain ⟨g3, e3⟩ := added_cells hA2 HI.out; have A2 := Lib.hid hA2; have F2 := Lib.hid hF2; have K2 := Lib.hid hK2; clear hA2 hF2 hK2)
        | (go_at_call 69; refine (TF1.out.put w2 nv2 _ A2.out (Nat.le_trans TF1.out.b K2.out.size)).mono ?_; rintro e w3 ⟨rfl, hL3⟩; have L3 := Lib.hid hL3; clear hL3))
      all_goals
        go_wp2
        go_end0
        exact ⟨rfl, Left.of_below B1.out (Left.drew' (Left.trans K2.out.size F2.out K2.out L3.out))⟩
    · obtain ⟨hkin⟩ : Nonempty (k ∈ pd.inner) := ⟨List.mem_of_getLast? hin⟩
      obtain ⟨kd, hkd⟩ : ∃ kd, m.nodes[k]? = some kd := ⟨_, List.getElem?_eq_getElem ((hW.inn p pd hpd).1 k hkin)⟩
      have hlen0 : 0 < pd.inner.length := List.length_pos_of_mem hkin
      have hlenB := (hW.inn p pd hpd).2.1
      have htx := (hW.inn k kd hkd).2.2
      obtain ⟨I1, ki, hiv⟩ : ∃ I1 ki, v.iv = .slice (some ⟨I1, 0, none⟩) pd.inner.length ki := by
        obtain ⟨b, c, hb', _, _⟩ := World.ownsRow.form hIR (by rw [zn_length]; exact hlen0)
        exact ⟨b, c, by rw [hb', zn_length]⟩
      rw [hiv] at hIR
      have cl : w.cell? ⟨I1, pd.inner.length - 1, none⟩ = some (.int .i64 (k : Int)) := by
        have hR : w.ownsRow base 3 1 (.slice (some ⟨I1, 0, none⟩) pd.inner.length ki) pd.inner.length (nums .i64 (zn pd.inner)) := by have := hIR; unfold IR at this; rwa [zn_length] at this
        have := World.ownsRow.cellAt hR (pd.inner.length - 1) (by omega)
        rw [this]
        have hk2 : pd.inner[pd.inner.length - 1]? = some k := by rw [← List.getLast?_eq_getElem?]; exact hin
        simp [nums, zn, hk2]
      rw [hiv] at c4
      have CI := Lib.hid (fun n => isText_calls (h.below (below_drewN0 w n)) hkd)
      have n0 : (0 : Int) < (pd.inner.length : Int) := by omega
      have n1b : (pd.inner.length : Int) ≤ 1000000 := by omega
      rcases hT2 : isT k kd with _ | _
      · have hm : m.text i s = m.addText p s := by unfold M.text; rw [hS, hi]; simp [hpd, hin, hkd, hT2]
        rw [hm]
        rw [hT2] at CI
        obtain ⟨l, hl⟩ : ∃ l, pd.inner.length = l + 1 := ⟨pd.inner.length - 1, by omega⟩
        rw [hl] at c4 cl n0 n1b
        have hl2 : l + 1 - 1 = l := rfl
        rw [hl2] at cl
        have l0 : (0 : Int) ≤ (l : Int) := by omega
        have k0 : (0 : Int) ≤ (k : Int) := by omega
        have HI := Lib.hid hi
        clear h hW hi hb hT hm hpd hv z0 z1 z2 z3 z5 hltp hlt1 hIR hin hiv hkin hkd hlen0 hlenB htx g1 he1 hl hl2 hT2
        go_enter Try.func18, Try.ntmps18
        go_wp2_with (first | (go_at_call 67; refine CA.out.mono ?_; rintro e w1 ⟨rfl, n1, rfl⟩) | (go_at_call 68; refine (CI.out _).mono ?_; rintro e w1 ⟨rfl, rfl⟩))
        have B1 := Lib.hid (below_drewN0 w n1)
        have TF1 := Lib.hid (TF.out.at_drewN n1)
        generalize hw1 : w.drewN n1 = w1 at *
        clear hw1
        obtain ⟨g2, e2⟩ := TF1.out.cells HI.out
        have CT := Lib.hid (addText_calls (show At w1.drew base g m _ _ vs from TF1.out.a.below ⟨rfl, rfl, rfl, Nat.le_refl _, fun _ _ => rfl⟩) s TF1.out.b (by have := HN.out; omega))
        go_region_with (first
          | (go_at_call 70; refine CT.out.mono ?_; rintro e w2 ⟨rfl, nv2, av2, hA2, hF2, hK2⟩; obtain ⟨g3, e3⟩ := added_cells hA2 HI.out; have A2 := Lib.hid hA2; have F2 := Lib.hid hF2; have K2 := Lib.hid hK2; clear hA2 hF2 hK2)
          | (go_at_call 69; refine (TF1.out.put w2 nv2 _ A2.out (Nat.le_trans TF1.out.b K2.out.size)).mono ?_; rintro e w3 ⟨rfl, hL3⟩; have L3 := Lib.hid hL3; clear hL3))
        all_goals
          go_wp2
          go_end0
          exact ⟨rfl, Left.of_below B1.out (Left.drew' (Left.trans K2.out.size F2.out K2.out L3.out))⟩
      · have hm : m.text i s = m.setText k kd s := by unfold M.text; rw [hS, hi]; simp [hpd, hin, hkd, hT2]
        rw [hm]
        rw [hT2] at CI
        obtain ⟨l, hl⟩ : ∃ l, pd.inner.length = l + 1 := ⟨pd.inner.length - 1, by omega⟩
        rw [hl] at c4 cl n0 n1b
        have hl2 : l + 1 - 1 = l := rfl
        rw [hl2] at cl
        have l0 : (0 : Int) ≤ (l : Int) := by omega
        have k0 : (0 : Int) ≤ (k : Int) := by omega
        have HI := Lib.hid hi
        obtain ⟨N', cap', v', hN', hv', y0, y1, c2, y3, y4, y5, hltk⟩ := h.node hkd
        obtain ⟨rfl, rfl⟩ : N = N' ∧ cap = cap' := by injection hN' with h1 h1a h1b; injection h1 with h1; injection h1 with h1; exact ⟨h1, h1b⟩
        have f2 := y5 (k * 5 + 2)
        have g0 : w.cell? ⟨g, 0, none⟩ = some (.slice (some ⟨N, 0, none⟩) m.nodes.length cap) := blk_cell h.hg 0
        have k1 : (k : Int) < (m.nodes.length : Int) := by omega
        have sz : (kd.text.size : Int) + (s.size : Int) ≤ 9223372036854775807 := by omega
        have sz2 : decide (kd.text.size + s.size ≤ 9223372036854775807) = true := decide_eq_true (by omega)
        have A := Lib.hid h
        have HKD := Lib.hid hkd
        have HVK := Lib.hid hv'
        clear h hW hi hb hT hm hpd hv z0 z1 z2 z3 z5 hltp hlt1 hIR hin hiv hkin hkd hlen0 hlenB htx hl hl2 hT2 hN' hv' y0 y1 y3 y4 y5 g1 he1 hltk
        go_enter Try.func18, Try.ntmps18
        go_wp2_with (first | (go_at_call 67; refine CA.out.mono ?_; rintro e w1 ⟨rfl, n1, rfl⟩) | (go_at_call 68; refine (CI.out _).mono ?_; rintro e w1 ⟨rfl, rfl⟩))
        have B1 := Lib.hid (below_drewN0 w n1)
        have A1 := Lib.hid (show At (w.drewN n1).drew base g m _ _ vs from A.out.below ⟨rfl, rfl, rfl, Nat.le_refl _, fun _ _ => rfl⟩)
        have g1 : (w.drewN n1).cell? ⟨g, 0, none⟩ = some (.slice (some ⟨N, 0, none⟩) m.nodes.length cap) := g0
        have d2 : (w.drewN n1).cell? ⟨N, k * 5 + 2, none⟩ = some (.string kd.text) := c2
        have dl : (w.drewN n1).cell? ⟨I1, l, none⟩ = some (.int .i64 (k : Int)) := cl
        have e2 : (w.drewN n1).frozen? ⟨N, k * 5 + 2, none⟩ = false := f2
        generalize hw1 : w.drewN n1 = w1 at *
        clear hw1 g0 c2 cl f2 CA CI c4
        have wl : IntKind.i64.wrap (l : Int) = (l : Int) := IntWalk.i64_in _ (by omega)
        go_region
        all_goals
          go_wp2
          refine bodyPost_ret (results_none rfl _ _ _) rfl ?_
          refine ⟨rfl, Left.of_below B1.out (Left.drew' ⟨_, _, vs, A1.out.setField HKD.out HVK.out (j := 2) (nd' := { kd with text := kd.text ++ s }) (by omega) rfl rfl rfl, fun _ hk => .inl hk, ?_⟩)⟩
          exact (Kp.refl _ _).setCell (p := ⟨N, k * 5 + 2, none⟩) (.inr (.inl rfl)) _
end Go.Proofs.Ytcdkcnegejhnhaa.Ar
