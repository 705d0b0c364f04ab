/-
  Arenas: the walks of add, number, Element, New.
-/
import Derived.Test.YtcdkcnegejhnhaaArLib
import Derived.Deep.RegionLaw
namespace Go.Proofs.Ytcdkcnegejhnhaa.Ar
open Go.RowKit Go.Proofs.Ytcdkcnegejhnhaa.PAr Go.Proofs.YtcdkcnegejhnhaaW.PrintWords Go.Proofs.YtcdkcnegejhnhaaW.PrintLast Go.Proofs.YtcdkcnegejhnhaaW.PrintMore
set_option linter.unusedVariables false
theorem Kp.of_drew {foot : Nat → Prop} {w w1 : World} (h : Kp foot w.drew w1) : Kp foot w w1 := ⟨h.os, h.tape, h.output, h.size, h.block⟩
theorem Kp.drewN {foot : Nat → Prop} {w w1 : World} (h : Kp foot w w1) (n : Nat) : Kp foot w (w1.drewN n) := ⟨h.os, h.tape, h.output, h.size, h.block⟩
theorem info99 : (Try.prog.info? 99).map (fun i => (i.zero, i.size, i.bytes)) = some (some (.agg #[(.string ⟨#[]⟩), (.slice none 0 0), (.string ⟨#[]⟩), (.int .i64 0), (.slice none 0 0)]), 5, 88) := by kernel_rfl
/-- append of one element as a step of a region: X is W and the element's box. -/
theorem step_add {P : Program} {ops : Array Oper} {o : Oper} {a : Act} {Q : Exit → Act → World → Prop} {K : Act → World → Prop} {E : Prop} (W X : World) {e : TypeId} {ys : List Value} (hX : X = W.alloc (.cells ys.toArray e)) (base : Nat) (hw : Region.wanted o (yielded ops a.tmps) = true) (s x : Operand) (t : TypeId) (z : Value) (size bytes : Nat)
    (ho : o.op = .call { callee := .builtin .append, args := #[s, x], argTypes := #[t, t] })
    (ht : P.underlying t = some (.slice e)) (hinfo : (P.info? e).map (fun i => (i.zero, i.size, i.bytes)) = some (some z, size, bytes)) (hz : z.cells.size = size) (hs0 : 0 < size) (hb0 : 0 < bytes)
    (v : Value) (n : Nat) (xs : List Value) (hs : a.eval s = v) (hx : a.eval x = .slice (some ⟨W.heap.size, 0, none⟩) 1 1) (hys : ys.length = size) (h1 : ∀ u ∈ ys, u.oneCell' = true)
    (HO : W.ownsRow base e size v n xs) (hbase : base ≤ W.heap.size) (hl : (n + 1) * bytes ≤ 140737488355328)
    (h : ∀ v1 w1, w1.ownsRow base e size v1 (n + 1) (xs ++ ys) → W.grownBy w1 v.ownBlock → (v1.ownBlock = v.ownBlock ∨ ∃ b, v1.ownBlock = some b ∧ W.heap.size ≤ b) → K (a.put o.dst v1) w1) :
    if Region.wanted o (yielded ops a.tmps) = true then Oper.wp P o a X K Q else E := by
  have := step_append_cells (P := P) (Q := Q) (K := K) (w0 := W) base hw s x t e z size bytes ho ht hinfo hz hs0 hb0 v n xs ys hs hx hys h1 HO (Below.refl _ _) hbase hl (fun v1 w1 a b c d => h v1 w1 a c d)
  rw [if_pos hw] at this ⊢
  rw [hX]
  exact this
theorem add_facts {W w1 : World} {g base n : Nat} {nv c1 c2 v1 : Value} {inner ys : List Value} (G0 : W.heap[g]? = some (.cells #[nv, c1, c2] 96 (0, 0))) (O0 : W.ownsRow base 99 5 nv n inner) (hg1 : W.grownBy w1 nv.ownBlock)
    (ho1 : w1.ownsRow base 99 5 v1 (n + 1) (inner ++ ys)) (hat1 : v1.ownBlock = nv.ownBlock ∨ ∃ b, v1.ownBlock = some b ∧ W.heap.size ≤ b) :
    ∃ A1 k1, v1 = .slice A1 (n + 1) k1 ∧ w1.cell? ⟨g, 0, none⟩ = some nv ∧ w1.frozen? ⟨g, 0, none⟩ = false ∧
      Hid ((w1.setCell ⟨g, 0, none⟩ (.slice A1 (n + 1) k1)).heap[g]? = some (.cells #[.slice A1 (n + 1) k1, c1, c2] 96 (0, 0)) ∧ (w1.setCell ⟨g, 0, none⟩ (.slice A1 (n + 1) k1)).ownsRow base 99 5 (.slice A1 (n + 1) k1) (n + 1) (inner ++ ys) ∧
        ((Value.slice A1 (n + 1) k1).ownBlock = nv.ownBlock ∨ ∃ b, (Value.slice A1 (n + 1) k1).ownBlock = some b ∧ W.heap.size ≤ b) ∧ Kp (fun k => k = g ∨ nv.ownBlock = some k) W (w1.setCell ⟨g, 0, none⟩ (.slice A1 (n + 1) k1))) := by
  obtain ⟨A1, k1, rfl⟩ := own_slice ho1
  have G1 := blk_grown G0 hg1 (own_ne O0 G0 (by decide))
  refine ⟨A1, k1, rfl, blk_cell G1 0, blk_frozen G1 0, Lib.hid ⟨blk_set G1 0 _, own_setCell ho1 (own_ne ho1 G1 (by decide)) _, hat1, ?_⟩⟩
  exact (Kp.of_grown hg1 (fun k hk => .inr hk)).setCell (.inl rfl) _
set_option maxHeartbeats 1000000 in
theorem add_raw (w : World) (g base n : Nat) (nv c1 c2 : Value) (x0 x1 x2 x3 x4 : Value) (inner : List Value) (hG : w.heap[g]? = some (.cells #[nv, c1, c2] 96 (0, 0)))
    (ho : w.ownsRow base 99 5 nv n inner) (hb : base ≤ w.heap.size) (hx : ∀ u ∈ [x0, x1, x2, x3, x4], u.oneCell' = true) (hn : (n + 1) * 88 ≤ 140737488355328) :
    Calls Try.prog 70 #[.pointer (some ⟨g, 0, none⟩), .agg #[x0, x1, x2, x3, x4]] w fun e w' => ∃ v1, e = .returned (.int .i64 (n : Int)) ∧ w'.heap[g]? = some (.cells #[v1, c1, c2] 96 (0, 0)) ∧
      w'.ownsRow base 99 5 v1 (n + 1) (inner ++ [x0, x1, x2, x3, x4]) ∧ (v1.ownBlock = nv.ownBlock ∨ ∃ b, v1.ownBlock = some b ∧ w.heap.size ≤ b) ∧ Kp (fun k => k = g ∨ nv.ownBlock = some k) w w' := by
  have HO := Lib.hid ho
  have HG := Lib.hid hG
  have HX := Lib.hid hx
  have hn2 : (n : Int) + 1 ≤ 9223372036854775807 := by omega
  have hnn : (0 : Int) ≤ (n : Int) := by omega
  clear ho hG hx
  go_enter Try.func70, Try.ntmps70
  go_wp2_with fail
  have B0 := Lib.hid ((Below.refl w.heap.size w).alloc (Nat.le_refl _) (.cells #[x0, x1, x2, x3, x4] 99))
  have X0 := Lib.hid (heap_alloc_new w (.cells #[x0, x1, x2, x3, x4] 99))
  generalize hw0 : w.alloc (.cells #[x0, x1, x2, x3, x4] 99) = w0 at *
  clear hw0
  have b0 := blk_cell X0.out 0
  have b1 := blk_cell X0.out 1
  have b2 := blk_cell X0.out 2
  have b3 := blk_cell X0.out 3
  have b4 := blk_cell X0.out 4
  simp only [List.getElem?_toArray, List.getElem?_cons_zero, List.getElem?_cons_succ] at b0 b1 b2 b3 b4
  have G0 := Lib.hid (blk_below HG.out B0.out)
  have g0 := blk_cell G0.out 0
  simp only [List.getElem?_toArray, List.getElem?_cons_zero] at g0
  have O0 := Lib.hid (pw_own_below HO.out B0.out)
  have S0 := Lib.hid B0.out.size
  have gA : (w0.alloc (.cells #[x0, x1, x2, x3, x4] 99)).cell? ⟨g, 0, none⟩ = some nv := (World.cell?_alloc_lt _ _ ⟨g, 0, none⟩ (blk_lt G0.out)).trans g0
  go_region_law (refine step_add w0.drew _ (e := 99) (ys := [x0, x1, x2, x3, x4]) ?_ base ?_ (.tmp 9) (.tmp 11) 94 (.agg #[(.string ⟨#[]⟩), (.slice none 0 0), (.string ⟨#[]⟩), (.int .i64 0), (.slice none 0 0)]) 5 88 ?_ Try.underlying94 info99 rfl (by decide) (by decide) nv n inner ?_ ?_ rfl HX.out O0.out (Nat.le_trans hb S0.out) hn ?_; rfl; rfl; rfl; rfl; rfl; intro v1 w1 ho1 hg1 hat1; obtain ⟨A1, k1, rfl, g1, f1, FF⟩ := add_facts (W := w0.drew) G0.out O0.out hg1 ho1 hat1; clear ho1 hg1 hat1)
  all_goals
    generalize hw2 : w1.setCell ⟨g, 0, none⟩ (.slice A1 (n + 1) k1) = w2 at *
    have g2 := blk_cell FF.out.1 0
    simp only [List.getElem?_toArray, List.getElem?_cons_zero] at g2
    clear hw2
    go_wp2
    go_ret
    refine ⟨_, rfl, FF.out.1, FF.out.2.1, ?_, (Kp.of_below B0.out).trans' FF.out.2.2.2.of_drew⟩
    rcases FF.out.2.2.1 with e | ⟨b, e1, e2⟩
    · exact .inl e
    · exact .inr ⟨b, e1, Nat.le_trans S0.out e2⟩
/-- A node of the arena's, and its attributes' row, as it is handed over. -/
theorem nodeCells_eq (nd : Nd) (v : NV) : nodeCells nd v = [.string nd.name, v.av, .string nd.text, .int .i64 (pz nd.parent), v.iv] := rfl
theorem R_one {w : World} {base : Nat} {v : Value} {l : List S105} (h : Kd.R k105 105 w base (fun _ => True) v l) : v.oneCell' = true := by
  obtain ⟨A, c, rfl⟩ := Kd.R_slice h
  rfl
theorem nodeCells_one {w : World} {base : Nat} {nd : Nd} {av : Value} (h : Kd.R k105 105 w base (fun _ => True) av nd.attrs) : ∀ u ∈ nodeCells nd ⟨av, .slice none 0 0⟩, u.oneCell' = true := by
  intro u hu
  simp only [nodeCells, List.mem_cons, List.not_mem_nil, or_false] at hu
  rcases hu with rfl | rfl | rfl | rfl | rfl
  · rfl
  · exact R_one h
  · rfl
  · rfl
  · rfl
theorem add_calls {w : World} {base g : Nat} {m : M} {nv ev : Value} {vs : List NV} (h : At w base g m nv ev vs) (nd : Nd) (av : Value) (hi : nd.inner = []) (hr : Kd.R k105 105 w base (fun _ => True) av nd.attrs)
    (hb : base ≤ w.heap.size) (hn : (m.nodes.length + 1) * 88 ≤ 140737488355328) :
    Calls Try.prog 70 #[.pointer (some ⟨g, 0, none⟩), .agg #[.string nd.name, av, .string nd.text, .int .i64 (pz nd.parent), .slice none 0 0]] w fun e w' => ∃ nv1, e = .returned (.int .i64 (m.nodes.length : Int)) ∧
      At w' base g { m with nodes := m.nodes ++ [nd] } nv1 ev (vs ++ [⟨av, .slice none 0 0⟩]) ∧ (nv1.ownBlock = nv.ownBlock ∨ ∃ b, nv1.ownBlock = some b ∧ w.heap.size ≤ b) ∧ Kp (fun k => k = g ∨ nv.ownBlock = some k) w w' := by
  refine (add_raw w g base m.nodes.length nv ev (.int .i64 (m.copies : Int)) (.string nd.name) av (.string nd.text) (.int .i64 (pz nd.parent)) (.slice none 0 0) _ h.hg h.row hb (nodeCells_one hr) hn).mono ?_
  rintro e w' ⟨nv1, rfl, h1, h2, h3, h4⟩
  exact ⟨nv1, rfl, h.add nd av hi hr h4 h1 h2, h3, h4⟩
theorem els_facts {W w1 : World} {g base : Nat} {els : List Int} {x : Int} {c0 c2 ev v1 : Value} (G0 : W.heap[g]? = some (.cells #[c0, ev, c2] 96 (0, 0))) (O0 : IR W base ev els) (hg1 : W.grownBy w1 ev.ownBlock)
    (ho1 : w1.ownsRow base 3 1 v1 (els.length + 1) (nums .i64 els ++ [.int .i64 x])) (hat1 : v1.ownBlock = ev.ownBlock ∨ ∃ b, v1.ownBlock = some b ∧ W.heap.size ≤ b) :
    ∃ A1 k1, v1 = .slice A1 (els.length + 1) k1 ∧ w1.cell? ⟨g, 1, none⟩ = some ev ∧ w1.frozen? ⟨g, 1, none⟩ = false ∧
      Hid ((w1.setCell ⟨g, 1, none⟩ (.slice A1 (els.length + 1) k1)).heap[g]? = some (.cells #[c0, .slice A1 (els.length + 1) k1, c2] 96 (0, 0)) ∧ IR (w1.setCell ⟨g, 1, none⟩ (.slice A1 (els.length + 1) k1)) base (.slice A1 (els.length + 1) k1) (els ++ [x]) ∧
        ((Value.slice A1 (els.length + 1) k1).ownBlock = ev.ownBlock ∨ ∃ b, (Value.slice A1 (els.length + 1) k1).ownBlock = some b ∧ W.heap.size ≤ b) ∧ Kp (fun k => k = g ∨ ev.ownBlock = some k) W (w1.setCell ⟨g, 1, none⟩ (.slice A1 (els.length + 1) k1))) := by
  obtain ⟨A1, k1, rfl⟩ := own_slice ho1
  have G1 := blk_grown G0 hg1 (own_ne O0 G0 (by decide))
  refine ⟨A1, k1, rfl, blk_cell G1 1, blk_frozen G1 1, Lib.hid ⟨blk_set G1 1 _, ?_, hat1, ?_⟩⟩
  · unfold IR
    rw [List.length_append, List.length_singleton, nums_append]
    exact own_setCell ho1 (own_ne ho1 G1 (by decide)) _
  · exact (Kp.of_grown hg1 (fun k hk => .inr hk)).setCell (.inl rfl) _
theorem number_done {w w0 w1 w3 : World} {base g : Nat} {m : M} {nv ev nv1 ev1 av : Value} {vs : List NV} {nd : Nd} (h : At w base g m nv ev vs) (B0 : Below w.heap.size w w0)
    (A1 : At w1 base g { m with nodes := m.nodes ++ [nd] } nv1 ev (vs ++ [⟨av, .slice none 0 0⟩])) (T1 : nv1.ownBlock = nv.ownBlock ∨ ∃ b, nv1.ownBlock = some b ∧ w0.drew.heap.size ≤ b) (K1 : Kp (fun k => k = g ∨ nv.ownBlock = some k) w0.drew w1)
    (FF : w3.heap[g]? = some (.cells #[nv1, ev1, .int .i64 (m.copies : Int)] 96 (0, 0)) ∧ IR w3 base ev1 (zn m.elems ++ [(m.nodes.length : Int)]) ∧ (ev1.ownBlock = ev.ownBlock ∨ ∃ b, ev1.ownBlock = some b ∧ w1.heap.size ≤ b) ∧ Kp (fun k => k = g ∨ ev.ownBlock = some k) w1 w3) :
    At w3 base g { m with nodes := m.nodes ++ [nd], elems := m.elems ++ [m.nodes.length] } nv1 ev1 (vs ++ [⟨av, .slice none 0 0⟩]) ∧ (∀ k, Foot g nv1 ev1 (vs ++ [⟨av, .slice none 0 0⟩]) k → Foot g nv ev vs k ∨ w.heap.size ≤ k) ∧ Kp (Foot g nv ev vs) w w3 := by
  obtain ⟨F1, F2, F3, F4⟩ := FF
  have s1 : w.heap.size ≤ w0.heap.size := B0.size
  have s2 : w0.heap.size ≤ w1.heap.size := K1.size
  refine ⟨A1.setEls (els1 := m.elems ++ [m.nodes.length]) F4 F1 (by rw [zn_append]; exact F2) ?_, fun k hk => ?_, ?_⟩
  · rcases F3 with e | ⟨b, e1, e2⟩
    · exact .inl e
    · exact .inr fun k hk => by rw [e1] at hk; cases hk; exact e2
  · rcases hk with rfl | hk | hk | ⟨v, hv, hk⟩
    · exact .inl (.inl rfl)
    · rcases T1 with e | ⟨b, e1, e2⟩
      · exact .inl (.inr (.inl (by rw [← e]; exact hk)))
      · rw [e1] at hk
        cases hk
        exact .inr (Nat.le_trans s1 e2)
    · rcases F3 with e | ⟨b, e1, e2⟩
      · exact .inl (.inr (.inr (.inl (by rw [← e]; exact hk))))
      · rw [e1] at hk
        cases hk
        exact .inr (by omega)
    · rcases List.mem_append.1 hv with hv | hv
      · exact .inl (.inr (.inr (.inr ⟨v, hv, hk⟩)))
      · obtain rfl := List.mem_singleton.1 hv
        cases hk
  · refine (Kp.of_below B0).trans' ((K1.of_drew.imp fun k hk => ?_).trans' (F4.imp fun k hk => ?_))
    · rcases hk with e | e
      · exact .inl e
      · exact .inr (.inl e)
    · rcases hk with e | e
      · exact .inl e
      · exact .inr (.inr (.inl e))
/-- What a node with a number leaves. -/
def Numbered (w : World) (base g : Nat) (m : M) (nv ev : Value) (vs : List NV) (nd : Nd) (av : Value) (e : Ending) (w' : World) : Prop := ∃ nv1 ev1, e = .returned (.int .i64 (m.elems.length : Int)) ∧
      At w' base g { m with nodes := m.nodes ++ [nd], elems := m.elems ++ [m.nodes.length] } nv1 ev1 (vs ++ [⟨av, .slice none 0 0⟩]) ∧ (∀ k, Foot g nv1 ev1 (vs ++ [⟨av, .slice none 0 0⟩]) k → Foot g nv ev vs k ∨ w.heap.size ≤ k) ∧ Kp (Foot g nv ev vs) w w'
set_option maxRecDepth 100000 in
set_option maxHeartbeats 2000000 in
theorem number_calls {w : World} {base g : Nat} {m : M} {nv ev : Value} {vs : List NV} (h : At w base g m nv ev vs) (nd : Nd) (av : Value) (hi : nd.inner = []) (hr : Kd.R k105 105 w base (fun _ => True) av nd.attrs)
    (hb : base ≤ w.heap.size) (hn : m.nodes.length ≤ 1000000) (he : m.elems.length ≤ 1000000) :
    Calls Try.prog 66 #[.pointer (some ⟨g, 0, none⟩), .agg #[.string nd.name, av, .string nd.text, .int .i64 (pz nd.parent), .slice none 0 0]] w (Numbered w base g m nv ev vs nd av) := by
  have H := Lib.hid h
  have HR := Lib.hid hr
  have HI := Lib.hid hi
  have n1 : (m.elems.length : Int) + 1 ≤ 9223372036854775807 := by omega
  have n0 : (0 : Int) ≤ (m.elems.length : Int) := by omega
  have HB := Lib.hid hb
  have HN := Lib.hid hn
  have HE := Lib.hid he
  obtain ⟨A0, k0, hav⟩ := Kd.R_slice hr
  subst hav
  clear h hr hi hb hn he
  go_enter Try.func66, Try.ntmps66
  go_wp2_with fail
  have B0 := Lib.hid ((Below.refl w.heap.size w).alloc (Nat.le_refl _) (.cells #[.string nd.name, .slice A0 nd.attrs.length k0, .string nd.text, .int .i64 (pz nd.parent), .slice none 0 0] 99))
  have X0 := Lib.hid (heap_alloc_new w (.cells #[.string nd.name, .slice A0 nd.attrs.length k0, .string nd.text, .int .i64 (pz nd.parent), .slice none 0 0] 99))
  generalize hw0 : w.alloc (.cells #[.string nd.name, .slice A0 nd.attrs.length k0, .string nd.text, .int .i64 (pz nd.parent), .slice none 0 0] 99) = w0 at *
  clear hw0
  have b0 := blk_cell X0.out 0
  have b1 := blk_cell X0.out 1
  have b2 := blk_cell X0.out 2
  have b3 := blk_cell X0.out 3
  have b4 := blk_cell X0.out 4
  simp only [List.getElem?_toArray, List.getElem?_cons_zero, List.getElem?_cons_succ] at b0 b1 b2 b3 b4
  have S0 := Lib.hid (show base ≤ w0.drew.heap.size from Nat.le_trans HB.out B0.out.size)
  have H0 := Lib.hid (show At w0.drew base g m nv ev vs from (H.out.below B0.out).below ((Below.refl _ _).drew))
  have HR0 := Lib.hid (show Kd.R k105 105 w0.drew base (fun _ => True) (.slice A0 nd.attrs.length k0) nd.attrs from Kd.R_below (Kd.R_below HR.out B0.out) ((Below.refl _ _).drew))
  have g0 : w0.cell? ⟨g, 1, none⟩ = some ev := blk_cell H0.out.hg 1
  have CA := Lib.hid (add_calls H0.out nd (.slice A0 nd.attrs.length k0) HI.out HR0.out S0.out (by have := HN.out; omega))
  go_region_law (first
    | (refine step_add w1 _ (e := 3) (ys := [.int .i64 (m.nodes.length : Int)]) ?_ base ?_ (.tmp 9) (.tmp 13) 53 (.int .i64 0) 1 8 ?_ Try.underlying53 info3 rfl (by decide) (by decide) ev (zn m.elems).length (nums .i64 (zn m.elems)) ?_ ?_ rfl (by simp [Value.oneCell']) A1.out.rest.els (Nat.le_trans S0.out K1.out.size) (by rw [zn_length]; have := HE.out; omega) ?_; rfl; rfl; rfl; rfl; rfl; intro v2 w2 ho2 hg2 hat2; obtain ⟨A2, k2, rfl, g2, f2, FF⟩ := els_facts A1.out.hg A1.out.rest.els hg2 ho2 hat2; clear ho2 hg2 hat2)
    | (go_simp; go_at_call 70; refine CA.out.mono ?_; rintro e w1 ⟨nv1, rfl, hA1, hat1, hK1⟩; have A1 := Lib.hid hA1; have T1 := Lib.hid hat1; have K1 := Lib.hid hK1; clear hA1 hat1 hK1; have g1 : w1.cell? ⟨g, 1, none⟩ = some ev := blk_cell A1.out.hg 1; have g1a : (w1.alloc (.cells #[.int .i64 (m.nodes.length : Int)] 3)).cell? ⟨g, 1, none⟩ = some ev := (World.cell?_alloc_lt _ _ ⟨g, 1, none⟩ A1.out.lt).trans g1))
  all_goals
    generalize hw3 : w2.setCell ⟨g, 1, none⟩ (.slice A2 ((zn m.elems).length + 1) k2) = w3 at *
    have g3 := blk_cell FF.out.1 1
    simp only [List.getElem?_toArray, List.getElem?_cons_zero, List.getElem?_cons_succ] at g3
    have D := Lib.hid (number_done H.out B0.out A1.out T1.out K1.out FF.out)
    clear hw3
    rw [zn_length] at *
    go_wp2
    go_ret
    exact ⟨_, _, rfl, D.out⟩
end Go.Proofs.Ytcdkcnegejhnhaa.Ar
