/-
  Arenas: the walks of what is read: at, Name, Attrs, Parent, Copies, isText; Element, New.
-/
import Derived.Test.YtcdkcnegejhnhaaArWalk
namespace Go.Proofs.Ytcdkcnegejhnhaa.Ar
open Go.RowKit Go.Proofs.Ytcdkcnegejhnhaa.PAr Go.Proofs.YtcdkcnegejhnhaaW.PrintWords Go.Proofs.YtcdkcnegejhnhaaW.PrintLast Go.Proofs.YtcdkcnegejhnhaaW.PrintMore
set_option linter.unusedVariables false
theorem below_drewN0 (w : World) (n : Nat) : Below w.heap.size w (w.drewN n) := ⟨rfl, rfl, rfl, Nat.le_refl _, fun _ _ => rfl⟩
theorem at_calls {w : World} {base g N cap i p : Nat} {m : M} {ev : Value} {vs : List NV} (h : At w base g m (.slice (some ⟨N, 0, none⟩) m.nodes.length cap) ev vs) (hi : m.elems[i]? = some p) (hp : p < m.nodes.length) :
    Calls Try.prog 67 #[.pointer (some ⟨g, 0, none⟩), .int .i64 (i : Int)] w fun e w' => e = .returned (.pointer (some ⟨N, p * 5, none⟩)) ∧ ∃ n, w' = w.drewN n := by
  obtain ⟨E, ce, rfl, he, hlt⟩ := h.elem hi
  have h0 : w.cell? ⟨g, 0, none⟩ = some (.slice (some ⟨N, 0, none⟩) m.nodes.length cap) := blk_cell h.hg 0
  have h1 : w.cell? ⟨g, 1, none⟩ = some (.slice (some ⟨E, 0, none⟩) m.elems.length ce) := blk_cell h.hg 1
  have i0 : (0 : Int) ≤ (i : Int) := by omega
  have p0 : (0 : Int) ≤ (p : Int) := by omega
  have i1 : (i : Int) < (m.elems.length : Int) := by omega
  have p1 : (p : Int) < (m.nodes.length : Int) := by omega
  clear h hi hlt hp
  go_enter Try.func67, Try.ntmps67
  go_wp2
  go_quiet (fail)
  go_wp2
  go_ret
  exact ⟨rfl, _, rfl⟩
theorem At.form {w : World} {base g p : Nat} {m : M} {nv ev : Value} {vs : List NV} (h : At w base g m nv ev vs) (hp : p < m.nodes.length) : ∃ N cap, nv = .slice (some ⟨N, 0, none⟩) m.nodes.length cap := by
  obtain ⟨N, cap, hnv, _, _⟩ := World.ownsRow.form h.row (by omega)
  exact ⟨N, cap, hnv⟩
theorem name_calls {w : World} {base g i p : Nat} {m : M} {nv ev : Value} {vs : List NV} {nd : Nd} (h : At w base g m nv ev vs) (hi : m.elems[i]? = some p) (hp : m.nodes[p]? = some nd) :
    Calls Try.prog 45 #[.pointer (some ⟨g, 0, none⟩), .int .i64 (i : Int)] w fun e w' => e = .returned (.string nd.name) ∧ ∃ n, w' = w.drewN n := by
  obtain ⟨N, cap, v, rfl, hv, c0, z1, z2, z3, z4, z5, hlt⟩ := h.node hp
  have CA := Lib.hid (at_calls h hi hlt)
  clear h hi hp hv z1 z2 z3 z4 z5
  go_enter Try.func45, Try.ntmps45
  go_wp2_with (go_at_call 67; refine CA.out.mono ?_; rintro e w1 ⟨rfl, n1, rfl⟩)
  go_ret
  exact ⟨rfl, _, rfl⟩
theorem attrs_calls {w : World} {base g i p : Nat} {m : M} {nv ev : Value} {vs : List NV} {nd : Nd} (h : At w base g m nv ev vs) (hi : m.elems[i]? = some p) (hp : m.nodes[p]? = some nd) (hl : nd.attrs.length < 4398046511104) :
    Calls Try.prog 48 #[.pointer (some ⟨g, 0, none⟩), .int .i64 (i : Int)] w fun e w' => ∃ v, e = .returned v ∧ Kd.R k105 105 w' w.heap.size (fun _ => True) v nd.attrs ∧ Below w.heap.size w w' := by
  obtain ⟨N, cap, v, rfl, hv, z0, c1, z2, z3, z4, z5, hlt⟩ := h.node hp
  have CA := Lib.hid (at_calls h hi hlt)
  have hR := (h.rest.inn p nd v hp hv).2
  obtain ⟨A, c, hav, hle, hC⟩ := Kd.R_reads hR
  rw [hav] at c1
  have CC := Lib.hid (fun n => api_Attr_.calls A c nd.attrs nd.attrs (w.drewN n) (Kd.C_below hC (below_drewN0 w n)) hle (by unfold api_Attr_.f; rw [if_pos hl]))
  clear h hi hp hv z0 z2 z3 z4 z5 hR hC hav hle
  go_enter Try.func48, Try.ntmps48
  go_wp2_with (first | (go_at_call 67; refine CA.out.mono ?_; rintro e w1 ⟨rfl, n1, rfl⟩) | (go_at_call 71; refine (CC.out _).mono ?_; rintro e w2 ⟨v2, rfl, hR2, hB2⟩))
  go_ret
  exact ⟨_, rfl, hR2, ⟨hB2.os, hB2.tape, hB2.output, hB2.size, hB2.block⟩⟩
theorem parent_calls {w : World} {base g i p : Nat} {m : M} {nv ev : Value} {vs : List NV} {nd : Nd} (h : At w base g m nv ev vs) (hi : m.elems[i]? = some p) (hp : m.nodes[p]? = some nd) (hl : m.elems.length ≤ 9223372036854775807) :
    Calls Try.prog 22 #[.pointer (some ⟨g, 0, none⟩), .int .i64 (i : Int)] w fun e w' => e = .returned (.int .i64 (Lib.idxOf (zn m.elems) (pz nd.parent))) ∧ ∃ n, w' = w.drewN n := by
  obtain ⟨N, cap, v, rfl, hv, z0, z1, z2, c3, z4, z5, hlt⟩ := h.node hp
  have CA := Lib.hid (fun n => at_calls (h.below (below_drewN0 w n)) hi hlt)
  have h1 : w.cell? ⟨g, 1, none⟩ = some ev := blk_cell h.hg 1
  have CI := Lib.hid (fun n => index_calls ev (zn m.elems) (pz nd.parent) (w.drewN n) (h.below (below_drewN0 w n)).rest.els (by rw [zn_length]; exact hl))
  clear h hi hp hv z0 z1 z2 z4 z5
  generalize pz nd.parent = P at *
  go_enter Try.func22, Try.ntmps22
  go_wp2
  go_quiet ((first | (go_at_call 67; exact Calls.quiet_of (CA.out _)) | (go_at_call 72; exact Calls.quiet_of_same (CI.out _))))
  go_wp2
  go_ret
  exact ⟨rfl, _, rfl⟩
theorem copies_calls {w : World} {base g : Nat} {m : M} {nv ev : Value} {vs : List NV} (h : At w base g m nv ev vs) :
    Calls Try.prog 27 #[.pointer (some ⟨g, 0, none⟩)] w fun e w' => e = .returned (.int .i64 (m.copies : Int)) ∧ w' = w := by
  have h2 : w.cell? ⟨g, 2, none⟩ = some (.int .i64 (m.copies : Int)) := blk_cell h.hg 2
  clear h
  go_enter Try.func27, Try.ntmps27
  go_wp2
  go_ret
  exact ⟨rfl, rfl⟩
/-- Is a node a text? -/
def isT (k : Nat) (nd : Nd) : Bool := decide (0 < k) && (nd.name.toList.isEmpty && !nd.text.toList.isEmpty)
theorem isText_calls {w : World} {base g p : Nat} {m : M} {nv ev : Value} {vs : List NV} {nd : Nd} (h : At w base g m nv ev vs) (hp : m.nodes[p]? = some nd) :
    Calls Try.prog 68 #[.pointer (some ⟨g, 0, none⟩), .int .i64 (p : Int)] w fun e w' => e = .returned (.bool (isT p nd)) ∧ w' = w := by
  obtain ⟨N, cap, v, rfl, hv, c0, z1, c2, z3, z4, z5, hlt⟩ := h.node hp
  have g0 : w.cell? ⟨g, 0, none⟩ = some (.slice (some ⟨N, 0, none⟩) m.nodes.length cap) := blk_cell h.hg 0
  have p0 : (0 : Int) ≤ (p : Int) := by omega
  have p1 : (p : Int) < (m.nodes.length : Int) := by omega
  clear h hp hv z1 z3 z4 z5
  unfold isT
  generalize nd.name = X at *
  generalize nd.text = Y at *
  by_cases h0 : 0 < p
  · have d0 : decide (0 < p) = true := decide_eq_true h0
    have d1 : decide ((0 : Int) < (p : Int)) = true := decide_eq_true (by omega)
    rw [d0]
    rcases hX : X.toList with _ | ⟨x, xs⟩
    · have x1 : (X.toList == []) = true := by rw [hX]; rfl
      rcases hY : Y.toList with _ | ⟨y, ys⟩
      · have y1 : (Y.toList != []) = false := by rw [hY]; rfl
        go_enter Try.func68, Try.ntmps68
        go_wp2
        go_ret
        exact ⟨rfl, rfl⟩
      · have y1 : (Y.toList != []) = true := by rw [hY]; rfl
        go_enter Try.func68, Try.ntmps68
        go_wp2
        go_ret
        exact ⟨rfl, rfl⟩
    · have x1 : (X.toList == []) = false := by rw [hX]; rfl
      go_enter Try.func68, Try.ntmps68
      go_wp2
      go_ret
      exact ⟨rfl, rfl⟩
  · have d0 : decide (0 < p) = false := decide_eq_false h0
    have d1 : decide ((0 : Int) < (p : Int)) = false := decide_eq_false (by omega)
    rw [d0]
    go_enter Try.func68, Try.ntmps68
    go_wp2
    go_ret
    exact ⟨rfl, rfl⟩
set_option maxHeartbeats 1000000 in
theorem element_calls {w : World} {base g : Nat} {m : M} {nv ev : Value} {vs : List NV} (h : At w base g m nv ev vs) (name : ByteArray) (A0 : Option Addr) (c0 : Nat) (attrs : List S105) (hC : Kd.C k105 w A0 attrs.length attrs) (hc : attrs.length ≤ c0)
    (hl : attrs.length < 4398046511104) (hb : base ≤ w.heap.size) (hn : m.nodes.length ≤ 1000000) (he : m.elems.length ≤ 1000000) :
    Calls Try.prog 19 #[.pointer (some ⟨g, 0, none⟩), .string name, .slice A0 attrs.length c0] w fun e w' => e = .returned (.int .i64 (m.elems.length : Int)) ∧ Left w base g (m.element name attrs) nv ev vs w' := by
  have CC := Lib.hid (api_Attr_.calls A0 c0 attrs attrs w hC hc (by unfold api_Attr_.f; rw [if_pos hl]))
  have H := Lib.hid h
  have HB := Lib.hid hb
  have HN := Lib.hid hn
  have HE := Lib.hid he
  clear h hC hc hl hb hn he
  go_enter Try.func19, Try.ntmps19
  go_wp2_with fail
  refine CC.out.mono ?_
  rintro e w1 ⟨av, rfl, hR1, hB1⟩
  have H1 := Lib.hid (H.out.below hB1)
  have CN := Lib.hid (show Calls Try.prog 66 #[.pointer (some ⟨g, 0, none⟩), .agg #[.string name, av, .string ⟨#[]⟩, .int .i64 (-1), .slice none 0 0]] w1 (Numbered w1 base g m nv ev vs ⟨name, attrs, ⟨#[]⟩, none, []⟩ av) from
    number_calls H1.out ⟨name, attrs, ⟨#[]⟩, none, []⟩ av rfl (Kd.R_lower hR1 HB.out) (Nat.le_trans HB.out hB1.size) HN.out HE.out)
  have B1 := Lib.hid hB1
  obtain ⟨A1, k1, rfl⟩ := Kd.R_slice hR1
  clear hR1 hB1 CC
  go_wp2_with fail
  refine CN.out.mono ?_
  rintro e w2 ⟨nv2, ev2, rfl, hA2, hF2, hK2⟩
  have L2 := Lib.hid (show Left w1 base g (m.element name attrs) nv ev vs w2 from ⟨nv2, ev2, _, hA2, hF2, hK2⟩)
  clear hA2 hF2 hK2 CN
  go_wp2
  go_ret
  exact ⟨rfl, Left.of_below B1.out L2.out⟩
theorem At.zero (w : World) {g base : Nat} (hg : w.heap[g]? = some (.cells #[.slice none 0 0, .slice none 0 0, .int .i64 0] 96 (0, 0))) (hb : base ≤ g) : At w base g ⟨[], [], 0⟩ (.slice none 0 0) (.slice none 0 0) [] :=
  ⟨hg, hb, own_nil _ _ _ _, rfl, IR.nil _ _, fun i nd v h => by simp at h, fun i v h => by simp at h, fun i j v u _ h => by simp at h⟩
set_option maxHeartbeats 1000000 in
theorem new_calls (w : World) : Calls Try.prog 16 #[] w fun e w' => e = .returned (.pointer (some ⟨w.heap.size, 0, none⟩)) ∧ IsA w' w.heap.size w.heap.size M.new (fun k => w.heap.size ≤ k ∧ k < w'.heap.size) ∧ Below w.heap.size w w' := by
  have B0 := Lib.hid ((Below.refl w.heap.size w).alloc (Nat.le_refl _) (.cells #[.slice none 0 0, .slice none 0 0, .int .i64 0] 96))
  have H0 := Lib.hid (At.zero (w.alloc (.cells #[.slice none 0 0, .slice none 0 0, .int .i64 0] 96)) (base := w.heap.size) (heap_alloc_new w _) (Nat.le_refl _))
  have CN := Lib.hid (show Calls Try.prog 66 #[.pointer (some ⟨w.heap.size, 0, none⟩), .agg #[.string ⟨#[]⟩, .slice none 0 0, .string ⟨#[]⟩, .int .i64 (-1), .slice none 0 0]] (w.alloc (.cells #[.slice none 0 0, .slice none 0 0, .int .i64 0] 96)) (Numbered (w.alloc (.cells #[.slice none 0 0, .slice none 0 0, .int .i64 0] 96)) w.heap.size w.heap.size ⟨[], [], 0⟩ (.slice none 0 0) (.slice none 0 0) [] ⟨⟨#[]⟩, [], ⟨#[]⟩, none, []⟩ (.slice none 0 0)) from
    number_calls H0.out ⟨⟨#[]⟩, [], ⟨#[]⟩, none, []⟩ (.slice none 0 0) rfl (Kd.R_nil _ _ _ _ _) (by rw [World.size_alloc]; omega) (by simp) (by simp))
  have S0 : (w.alloc (.cells #[.slice none 0 0, .slice none 0 0, .int .i64 0] 96)).heap.size = w.heap.size + 1 := World.size_alloc _ _
  have HS := Lib.hid S0
  clear S0
  go_enter Try.func16, Try.ntmps16
  go_wp2_with fail
  refine CN.out.mono ?_
  rintro e w2 ⟨nv2, ev2, rfl, hA2, hF2, hK2⟩
  have A2 := Lib.hid hA2
  have F2 := Lib.hid hF2
  have K2 := Lib.hid hK2
  clear hA2 hF2 hK2 CN
  go_wp2
  go_ret
  refine ⟨rfl, ⟨nv2, ev2, _, A2.out, fun k hk => ⟨(A2.out.foot_lt k hk).1, (A2.out.foot_lt k hk).2⟩⟩, ?_⟩
  refine B0.out.trans (K2.out.below (by rw [HS.out]; omega) fun k hk => (H0.out.foot_lt k hk).1)
end Go.Proofs.Ytcdkcnegejhnhaa.Ar
