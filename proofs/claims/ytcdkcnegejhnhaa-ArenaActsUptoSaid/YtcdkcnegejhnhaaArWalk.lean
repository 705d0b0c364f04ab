/-
  Arenas: the walks of leave, put.
-/
import Derived.Test.YtcdkcnegejhnhaaArSet
namespace Go.Proofs.Ytcdkcnegejhnhaa.Ar
open Go.RowKit Go.Proofs.Ytcdkcnegejhnhaa.PAr Go.Proofs.YtcdkcnegejhnhaaW.PrintWords Go.Proofs.YtcdkcnegejhnhaaW.PrintLast Go.Proofs.YtcdkcnegejhnhaaW.PrintMore
set_option linter.unusedVariables false
namespace M
def new : M := ⟨[⟨⟨#[]⟩, [], ⟨#[]⟩, none, []⟩], [0], 0⟩
def element (m : M) (name : ByteArray) (attrs : List S105) : M := { m with nodes := m.nodes ++ [⟨name, attrs, ⟨#[]⟩, none, []⟩], elems := m.elems ++ [m.nodes.length] }
def leave (m : M) (place : Nat) : M :=
  match m.nodes[place]? with
  | none => m
  | some nd => match nd.parent with
    | none => m
    | some p => match m.nodes[p]? with
      | none => m
      | some np => { m with nodes := m.nodes.set p { np with inner := np.inner.filter (· != place) } }
def setPar (m : M) (place parent : Nat) : M :=
  match m.nodes[place]? with
  | none => m
  | some nd => { m with nodes := m.nodes.set place { nd with parent := some parent } }
def addInner (m : M) (parent place : Nat) : M :=
  match m.nodes[parent]? with
  | none => m
  | some nd => { m with nodes := m.nodes.set parent { nd with inner := nd.inner ++ [place] } }
def put (m : M) (parent place : Nat) : M := ((m.leave place).setPar place parent).addInner parent place
end M
/-- What a call of the arena's own leaves: another model, a foot that grew by new blocks at most. -/
def Left (w : World) (base g : Nat) (m : M) (nv ev : Value) (vs : List NV) (w' : World) : Prop := ∃ nv' ev' vs', At w' base g m nv' ev' vs' ∧ (∀ k, Foot g nv' ev' vs' k → Foot g nv ev vs k ∨ w.heap.size ≤ k) ∧ Kp (Foot g nv ev vs) w w'
theorem Left.refl {w : World} {base g : Nat} {m : M} {nv ev : Value} {vs : List NV} (h : At w base g m nv ev vs) : Left w base g m nv ev vs w := ⟨nv, ev, vs, h, fun _ hk => .inl hk, Kp.refl _ _⟩
theorem Left.trans {w w1 w2 : World} {base g : Nat} {m2 : M} {nv ev nv1 ev1 : Value} {vs vs1 : List NV} (hs : w.heap.size ≤ w1.heap.size) (hf : ∀ k, Foot g nv1 ev1 vs1 k → Foot g nv ev vs k ∨ w.heap.size ≤ k) (hk : Kp (Foot g nv ev vs) w w1)
    (h2 : Left w1 base g m2 nv1 ev1 vs1 w2) : Left w base g m2 nv ev vs w2 := by
  obtain ⟨nv', ev', vs', h3, h4, h5⟩ := h2
  refine ⟨nv', ev', vs', h3, fun k hk' => ?_, ?_⟩
  · rcases h4 k hk' with e | e
    · exact hf k e
    · exact .inr (by omega)
  · refine ⟨h5.os.trans hk.os, h5.tape.trans hk.tape, h5.output.trans hk.output, Nat.le_trans hs h5.size, fun k h6 h7 => (h5.block k (by omega) (fun e => ?_)).trans (hk.block k h6 h7)⟩
    rcases hf k e with e' | e'
    · exact h7 e'
    · omega
theorem Left.of_below {w w1 w2 : World} {base g : Nat} {m2 : M} {nv ev : Value} {vs : List NV} (hb : Below w.heap.size w w1) (h2 : Left w1 base g m2 nv ev vs w2) : Left w base g m2 nv ev vs w2 :=
  Left.trans hb.size (fun _ h => .inl h) (Kp.of_below hb) h2
theorem Left.isA {w w' : World} {base g : Nat} {m : M} {nv ev : Value} {vs : List NV} {foot : Nat → Prop} (h : Left w base g m nv ev vs w') (hf : ∀ k, Foot g nv ev vs k → foot k) : IsA w' base g m (Gr foot w w') ∧ Kp foot w w' := by
  obtain ⟨nv', ev', vs', h1, h2, h3⟩ := h
  refine ⟨IsA.mk' h1 fun k hk => ?_, h3.imp hf⟩
  rcases h2 k hk with e | e
  · exact .inl (hf k e)
  · exact .inr e
theorem zn_filter (xs : List Nat) (p : Nat) : (zn xs).filter (fun x => !(x == (p : Int))) = zn (xs.filter (· != p)) := by
  induction xs with
  | nil => rfl
  | cons x r ih =>
    have e : (((x : Nat) : Int) == (p : Int)) = (x == p) := by
      rw [Bool.eq_iff_iff, beq_iff_eq, beq_iff_eq]
      omega
    simp only [zn, List.map_cons, List.filter_cons] at *
    rw [e]
    cases hx : (x == p) <;> simp [hx, bne, ih]
theorem Left.drewN {w : World} {base g : Nat} {m : M} {nv ev : Value} {vs : List NV} (h : At w base g m nv ev vs) (n : Nat) : Left w base g m nv ev vs (w.drewN n) :=
  ⟨nv, ev, vs, h.below ⟨rfl, rfl, rfl, Nat.le_refl _, fun _ _ => rfl⟩, fun _ hk => .inl hk, ⟨rfl, rfl, rfl, Nat.le_refl _, fun _ _ _ => rfl⟩⟩
theorem Left.kp {w w' : World} {base g : Nat} {m : M} {nv ev : Value} {vs : List NV} (h : Left w base g m nv ev vs w') : Kp (Foot g nv ev vs) w w' := by
  obtain ⟨_, _, _, _, _, h⟩ := h
  exact h
theorem Left.size' {w w' : World} {base g : Nat} {m : M} {nv ev : Value} {vs : List NV} (h : Left w base g m nv ev vs w') : w.heap.size ≤ w'.heap.size := h.kp.size
theorem leave_cells {w w1 : World} {base g N cap p : Nat} {m : M} {ev : Value} {vs : List NV} {np : Nd} {v : NV} (h : At w base g m (.slice (some ⟨N, 0, none⟩) m.nodes.length cap) ev vs) (hi : m.nodes[p]? = some np) (hv : vs[p]? = some v) (hg : w.grownBy w1 v.iv.ownBlock) :
    w1.cell? ⟨N, p * 5 + 4, none⟩ = some v.iv ∧ w1.frozen? ⟨N, p * 5 + 4, none⟩ = false := by
  have hne : some N ≠ v.iv.ownBlock := fun e => (h.typed_n N rfl).ne ((h.rest.inn p np v hi hv).1.typed N e.symm) (by decide) rfl
  have hb := hg.block N (h.typed_n N rfl).lt hne
  obtain ⟨N', cap', v', hN', hv', _, _, _, _, d4, hfr, _⟩ := h.node hi
  obtain ⟨rfl, rfl⟩ : N = N' ∧ cap = cap' := by injection hN' with h1 h1a h1b; injection h1 with h1; injection h1 with h1; exact ⟨h1, h1b⟩
  obtain rfl : v = v' := Option.some.inj (hv.symm.trans hv')
  exact ⟨(World.cell?_of_block (a := ⟨N, p * 5 + 4, none⟩) hb).trans d4, (World.frozen?_of_block (a := ⟨N, p * 5 + 4, none⟩) hb).trans (hfr _)⟩
theorem leave_done {w w1 : World} {base g N cap p : Nat} {m : M} {ev iv' : Value} {vs : List NV} {np : Nd} {v : NV} {inner' : List Nat} (h : At w base g m (.slice (some ⟨N, 0, none⟩) m.nodes.length cap) ev vs) (hi : m.nodes[p]? = some np) (hv : vs[p]? = some v)
    (hO : IR w1 base iv' (zn inner')) (ho : iv'.ownBlock = v.iv.ownBlock ∨ ∀ k, iv'.ownBlock = some k → w.heap.size ≤ k) (hg : w.grownBy w1 v.iv.ownBlock) :
    Left w base g { m with nodes := m.nodes.set p { np with inner := inner' } } (.slice (some ⟨N, 0, none⟩) m.nodes.length cap) ev vs (w1.setCell ⟨N, p * 5 + 4, none⟩ iv') := by
  have hk : Kp (fun k => v.iv.ownBlock = some k) w w1 := Kp.of_grown hg (fun k e => e)
  refine ⟨_, _, _, h.setInner hi hv hk hO ho, fun k hk' => foot_set k hv ho hk', ?_⟩
  exact (hk.imp (fun k e => .inr (.inr (.inr ⟨v, List.mem_of_getElem? hv, e⟩)))).setCell (p := ⟨N, p * 5 + 4, none⟩) (.inr (.inl rfl)) _
set_option maxHeartbeats 1000000 in
theorem leave_calls {w : World} {base g : Nat} {m : M} {nv ev : Value} {vs : List NV} (h : At w base g m nv ev vs) (place : Nat) {nd : Nd} (hi : m.nodes[place]? = some nd) (hp : ∀ p, nd.parent = some p → ∃ np, m.nodes[p]? = some np ∧ np.inner.length ≤ 9223372036854775807)
    (hn : m.nodes.length ≤ 9223372036854775807) :
    Calls Try.prog 86 #[.pointer (some ⟨g, 0, none⟩), .int .i64 (place : Int)] w fun e w' => e = .returned (.tuple #[]) ∧ Left w base g (m.leave place) nv ev vs w' := by
  have hb0 := (Below.refl w.heap.size w).alloc (Nat.le_refl _) (.cells #[.int .i64 (place : Int)] 3)
  have h0 := h.below hb0
  have hx0 := heap_alloc_new w (.cells #[.int .i64 (place : Int)] 3)
  have i0 : (0 : Int) ≤ (place : Int) := by omega
  rcases hpar : nd.parent with _ | p
  · have hm : m.leave place = m := by unfold M.leave; rw [hi]; simp [hpar]
    rw [hm]
    obtain ⟨N, cap, v, rfl, hv, c0, c1, c2, c3, c4, hfr, hlt⟩ := h0.node hi
    rw [hpar] at c3
    have hlt' : (place : Int) < (m.nodes.length : Int) := by omega
    have H := Lib.hid h0
    have B0 := Lib.hid hb0
    have g0 : (w.alloc (.cells #[.int .i64 (place : Int)] 3)).cell? ⟨g, 0, none⟩ = some (.slice (some ⟨N, 0, none⟩) m.nodes.length cap) := blk_cell h0.hg 0
    have b0 : (w.alloc (.cells #[.int .i64 (place : Int)] 3)).cell? ⟨w.heap.size, 0, none⟩ = some (.int .i64 (place : Int)) := blk_cell hx0 0
    clear h h0 hi hp hpar hm c0 c1 c2 c4 hfr hb0 hx0
    simp only [pz] at c3
    go_enter Try.func86, Try.ntmps86
    go_wp2_with fail
    generalize hw0 : w.alloc (.cells #[.int .i64 (place : Int)] 3) = w0 at *
    clear hw0
    go_quiet (fail)
    go_wp2
    go_end0
    exact ⟨rfl, Left.of_below B0.out (Left.drewN H.out _)⟩
  · obtain ⟨np, hnp, hil⟩ := hp p hpar
    have hm : m.leave place = { m with nodes := m.nodes.set p { np with inner := np.inner.filter (· != place) } } := by unfold M.leave; rw [hi]; simp [hpar, hnp]
    rw [hm]
    obtain ⟨N, cap, v, rfl, hv, c0, c1, c2, c3, c4, hfr, hlt⟩ := h0.node hi
    rw [hpar] at c3
    have hlt' : (place : Int) < (m.nodes.length : Int) := by omega
    obtain ⟨N', cap', v', hN', hv', _, _, _, _, d4, _, hltp⟩ := h0.node hnp
    obtain ⟨rfl, rfl⟩ : N = N' ∧ cap = cap' := by injection hN' with h1 h1a h1b; injection h1 with h1; injection h1 with h1; exact ⟨h1, h1b⟩
    have hltp' : (p : Int) < (m.nodes.length : Int) := by omega
    have p0 : (0 : Int) ≤ (p : Int) := by omega
    have H := Lib.hid h0
    have B0 := Lib.hid hb0
    have HNP := Lib.hid hnp
    have HV := Lib.hid hv'
    have HIL := Lib.hid hil
    have hbx : ∀ k, v'.iv.ownBlock = some k → k < w.heap.size := fun k hk => ((h.rest.inn p np v' hnp hv').1.lt k hk).2
    have g0 : (w.alloc (.cells #[.int .i64 (place : Int)] 3)).cell? ⟨g, 0, none⟩ = some (.slice (some ⟨N, 0, none⟩) m.nodes.length cap) := blk_cell h0.hg 0
    have b0 : (w.alloc (.cells #[.int .i64 (place : Int)] 3)).cell? ⟨w.heap.size, 0, none⟩ = some (.int .i64 (place : Int)) := blk_cell hx0 0
    have HBX := Lib.hid (show v'.iv.ownBlock ≠ some w.heap.size from fun e => by have := hbx _ e; omega)
    clear h h0 hi hp hpar hm c0 c1 c2 c4 hfr hb0 hx0 hnp hv' hil hbx hN'
    simp only [pz] at c3
    go_enter Try.func86, Try.ntmps86
    go_wp2_with fail
    generalize hw0 : w.alloc (.cells #[.int .i64 (place : Int)] 3) = w0 at *
    clear hw0
    go_quiet (fail)
    have H1 := Lib.hid (Left.drewN H.out nq)
    have I1 := Lib.hid (H.out.below (w1 := w0.drewN nq) ⟨rfl, rfl, rfl, Nat.le_refl _, fun _ _ => rfl⟩)
    have e4 : (w0.drewN nq).cell? ⟨N, p * 5 + 4, none⟩ = some v'.iv := d4
    have eg : (w0.drewN nq).cell? ⟨g, 0, none⟩ = some (.slice (some ⟨N, 0, none⟩) m.nodes.length cap) := g0
    have eb : (w0.drewN nq).cell? ⟨w.heap.size, 0, none⟩ = some (.int .i64 (place : Int)) := b0
    generalize hw1 : w0.drewN nq = w1 at *
    clear hw1 g0 b0 d4 c3
    have CD := Lib.hid (deleteFunc_calls v'.iv (zn np.inner) (place : Int) w.heap.size w1 (I1.out.rest.inn p np v' HNP.out HV.out).1 eb HBX.out (by rw [zn_length]; exact HIL.out))
    go_wp2_with (go_at_call 91; refine CD.out.mono ?_; rintro e w2 ⟨iv2, rfl, hO2, ho2, hg2⟩; rw [zn_filter] at hO2; obtain ⟨A2, k2, rfl⟩ := own_slice hO2; have F := Lib.hid (leave_done I1.out HNP.out HV.out hO2 (.inl ho2) hg2); obtain ⟨f1, f2⟩ := leave_cells I1.out HNP.out HV.out hg2; clear hO2 ho2 hg2)
    go_end0
    exact ⟨rfl, Left.of_below B0.out (Left.trans H1.out.size' (fun _ hk => .inl hk) H1.out.kp F.out)⟩
theorem leave_get (m : M) (place : Nat) {i : Nat} {nd : Nd} (h : m.nodes[i]? = some nd) : ∃ nd', (m.leave place).nodes[i]? = some nd' ∧ nd'.inner.length ≤ nd.inner.length ∧ nd'.parent = nd.parent ∧ nd'.name = nd.name ∧ nd'.text = nd.text ∧ nd'.attrs = nd.attrs := by
  unfold M.leave
  split
  · exact ⟨nd, h, Nat.le_refl _, rfl, rfl, rfl, rfl⟩
  · split
    · exact ⟨nd, h, Nat.le_refl _, rfl, rfl, rfl, rfl⟩
    · split
      · exact ⟨nd, h, Nat.le_refl _, rfl, rfl, rfl, rfl⟩
      · rename_i p _ _ np hnp
        by_cases hpi : p = i
        · subst hpi
          obtain rfl : np = nd := Option.some.inj (hnp.symm.trans h)
          exact ⟨_, List.getElem?_set_self (List.getElem?_eq_some_iff.1 h).1, List.length_filter_le _ _, rfl, rfl, rfl, rfl⟩
        · exact ⟨nd, by rw [List.getElem?_set_ne hpi]; exact h, Nat.le_refl _, rfl, rfl, rfl, rfl⟩
theorem leave_len (m : M) (place : Nat) : (m.leave place).nodes.length = m.nodes.length ∧ (m.leave place).elems = m.elems ∧ (m.leave place).copies = m.copies := by
  unfold M.leave
  split
  · exact ⟨rfl, rfl, rfl⟩
  · split
    · exact ⟨rfl, rfl, rfl⟩
    · split
      · exact ⟨rfl, rfl, rfl⟩
      · exact ⟨List.length_set, rfl, rfl⟩
/-- The last piece of put: a place behind the others. -/
theorem inner_facts {w w1 : World} {base g N cap p x : Nat} {m : M} {ev v1 : Value} {vs : List NV} {np : Nd} {v : NV} (h : At w base g m (.slice (some ⟨N, 0, none⟩) m.nodes.length cap) ev vs) (hi : m.nodes[p]? = some np) (hv : vs[p]? = some v)
    (hg1 : w.grownBy w1 v.iv.ownBlock) (ho1 : w1.ownsRow base 3 1 v1 ((zn np.inner).length + 1) (nums .i64 (zn np.inner) ++ [.int .i64 (x : Int)])) (hat1 : v1.ownBlock = v.iv.ownBlock ∨ ∃ b, v1.ownBlock = some b ∧ w.heap.size ≤ b) :
    ∃ A1 k1, v1 = .slice A1 (np.inner.length + 1) k1 ∧ w1.cell? ⟨N, p * 5 + 4, none⟩ = some v.iv ∧ w1.frozen? ⟨N, p * 5 + 4, none⟩ = false ∧ w1.cell? ⟨g, 0, none⟩ = some (.slice (some ⟨N, 0, none⟩) m.nodes.length cap) ∧
      Hid (Left w base g { m with nodes := m.nodes.set p { np with inner := np.inner ++ [x] } } (.slice (some ⟨N, 0, none⟩) m.nodes.length cap) ev vs (w1.setCell ⟨N, p * 5 + 4, none⟩ (.slice A1 (np.inner.length + 1) k1))) := by
  obtain ⟨A1, k1, rfl⟩ := own_slice ho1
  obtain ⟨f1, f2⟩ := leave_cells h hi hv hg1
  have hO : IR w1 base (.slice A1 ((zn np.inner).length + 1) k1) (zn (np.inner ++ [x])) := by
    unfold IR
    rw [zn_append, List.length_append, nums_append]
    exact ho1
  have L := leave_done h hi hv hO (by
    rcases hat1 with e | ⟨b, e1, e2⟩
    · exact .inl e
    · exact .inr fun k hk => by rw [e1] at hk; cases hk; exact e2) hg1
  have hne : some g ≠ v.iv.ownBlock := fun e => h.typed_g.ne ((h.rest.inn p np v hi hv).1.typed g e.symm) (by decide) rfl
  rw [zn_length] at L ⊢
  exact ⟨A1, k1, rfl, f1, f2, (World.cell?_of_block (a := ⟨g, 0, none⟩) (hg1.block g h.lt hne)).trans (blk_cell h.hg 0), Lib.hid L⟩
theorem Left.of_kp {w w1 w2 : World} {base g N n n1 cap : Nat} {m : M} {ev : Value} {vs : List NV} (hk : Kp (Foot g (.slice (some ⟨N, 0, none⟩) n cap) ev vs) w w1) (hn : n1 = n) (h : Left w1.drew base g m (.slice (some ⟨N, 0, none⟩) n1 cap) ev vs w2) : Left w base g m (.slice (some ⟨N, 0, none⟩) n cap) ev vs w2 := by
  subst hn
  obtain ⟨a, b, c, h1, h2, h3⟩ := h
  exact Left.trans hk.size (fun _ h => .inl h) hk ⟨a, b, c, h1, h2, h3.of_drew⟩
set_option maxRecDepth 100000 in
set_option maxHeartbeats 2000000 in
theorem put_calls {w : World} {base g : Nat} {m : M} {nv ev : Value} {vs : List NV} (h : At w base g m nv ev vs) (parent place : Nat) {nd pd : Nd} (hi : m.nodes[place]? = some nd) (hpp : m.nodes[parent]? = some pd) (hp : ∀ p, nd.parent = some p → ∃ np, m.nodes[p]? = some np ∧ np.inner.length ≤ 9223372036854775807)
    (hn : m.nodes.length ≤ 9223372036854775807) (hb : base ≤ w.heap.size) (hil : pd.inner.length ≤ 1000000) :
    Calls Try.prog 69 #[.pointer (some ⟨g, 0, none⟩), .int .i64 (parent : Int), .int .i64 (place : Int)] w fun e w' => e = .returned (.tuple #[]) ∧ Left w base g (m.put parent place) nv ev vs w' := by
  have CL := Lib.hid (leave_calls h place hi hp hn)
  obtain ⟨nd1, hi1, hz0, hz1, hz2⟩ := leave_get m place hi
  obtain ⟨pd1, hp1, hle1, hz3⟩ := leave_get m place hpp
  obtain ⟨hl1, hz4, hz5⟩ := leave_len m place
  clear hz0 hz1 hz2 hz3 hz4 hz5
  have hlt : place < m.nodes.length := (List.getElem?_eq_some_iff.1 hi).1
  have hltp : parent < m.nodes.length := (List.getElem?_eq_some_iff.1 hpp).1
  obtain ⟨m1, hm1⟩ : ∃ m1, m.leave place = m1 := ⟨_, rfl⟩
  have hput : m.put parent place = (m1.setPar place parent).addInner parent place := by rw [← hm1]; rfl
  rw [hput]
  rw [hm1] at hi1 hp1 hl1 CL
  obtain ⟨m2, hm2⟩ : ∃ m2 : M, { m1 with nodes := m1.nodes.set place { nd1 with parent := some parent } } = m2 := ⟨_, rfl⟩
  have hset : m1.setPar place parent = m2 := by unfold M.setPar; rw [hi1, ← hm2]
  -- the parent's node, behind that store
  obtain ⟨pd2, hp2, hin2⟩ : ∃ pd2, m2.nodes[parent]? = some pd2 ∧ pd2.inner = pd1.inner := by
    rw [← hm2]
    by_cases e : place = parent
    · subst e
      obtain rfl : nd1 = pd1 := Option.some.inj (hi1.symm.trans hp1)
      exact ⟨_, List.getElem?_set_self (by omega), rfl⟩
    · exact ⟨pd1, by simp only; rw [List.getElem?_set_ne e]; exact hp1, rfl⟩
  have hadd : (m1.setPar place parent).addInner parent place = { m2 with nodes := m2.nodes.set parent { pd2 with inner := pd2.inner ++ [place] } } := by
    rw [hset]
    unfold M.addInner
    rw [hp2]
  rw [hadd]
  have HI1 := Lib.hid hi1
  have HP2 := Lib.hid hp2
  have hl2 : pd2.inner.length ≤ 1000000 := by rw [hin2]; omega
  have HL1 := Lib.hid hl1
  have hls : m2.nodes.length = m1.nodes.length := by rw [← hm2]; exact List.length_set
  have HM2 := Lib.hid hm2
  have HLS := Lib.hid hls
  have i0 : (0 : Int) ≤ (place : Int) := by omega
  have p0 : (0 : Int) ≤ (parent : Int) := by omega
  have i1 : (place : Int) < (m1.nodes.length : Int) := by omega
  have p1 : (parent : Int) < (m2.nodes.length : Int) := by omega
  have HB := Lib.hid hb
  clear h hi hpp hp hi1 hp1 hl1 hput hset hp2 hin2 hadd hm1 hm2 hle1 hlt hltp hls hil
  go_enter Try.func69, Try.ntmps69
  go_wp2_with fail
  refine CL.out.mono ?_
  rintro e w1 ⟨rfl, nv1, ev1, vs1, hA1, hF1, hK1⟩
  obtain ⟨N, cap, v, rfl, hv, z0, z1, z2, c3, z3, hfr, z4⟩ := hA1.node HI1.out
  clear z0 z1 z2 z3 z4
  have A1 := Lib.hid hA1
  have F1 := Lib.hid hF1
  have K1 := Lib.hid hK1
  have V1 := Lib.hid hv
  have g0 : w1.cell? ⟨g, 0, none⟩ = some (.slice (some ⟨N, 0, none⟩) m1.nodes.length cap) := blk_cell hA1.hg 0
  have f3 := hfr (place * 5 + 3)
  clear hA1 hF1 hK1 hv hfr CL
  go_wp2_with fail
  have A2 := Lib.hid (A1.out.setField HI1.out V1.out (j := 3) (u := .int .i64 (parent : Int)) (nd' := { nd1 with parent := some parent }) (by omega) rfl rfl rfl)
  have K2 := Lib.hid (show Kp (Foot g (.slice (some ⟨N, 0, none⟩) m1.nodes.length cap) ev1 vs1) w1 (w1.setCell ⟨N, place * 5 + 3, none⟩ (.int .i64 (parent : Int))) from (Kp.refl _ _).setCell (p := ⟨N, place * 5 + 3, none⟩) (.inr (.inl rfl)) _)
  rw [HM2.out] at A2
  generalize hw2 : w1.setCell ⟨N, place * 5 + 3, none⟩ (.int .i64 (parent : Int)) = w2 at *
  clear hw2 g0 f3 c3
  have hA2 : At w2 base g m2 (.slice (some ⟨N, 0, none⟩) m2.nodes.length cap) ev1 vs1 := by rw [HLS.out]; exact A2.out
  obtain ⟨N', cap', v2, hN', hv2, z0, z1, z2, z3, c4, hfr, z4⟩ := hA2.node HP2.out
  clear z0 z1 z2 z3 z4
  obtain ⟨rfl, rfl⟩ : N = N' ∧ cap = cap' := by injection hN' with h1 h1a h1b; injection h1 with h1; injection h1 with h1; exact ⟨h1, h1b⟩
  clear hN'
  have f4 := hfr (parent * 5 + 4)
  have g0 : w2.cell? ⟨g, 0, none⟩ = some (.slice (some ⟨N, 0, none⟩) m2.nodes.length cap) := blk_cell hA2.hg 0
  have gA : (w2.alloc (.cells #[.int .i64 (place : Int)] 3)).cell? ⟨g, 0, none⟩ = some (.slice (some ⟨N, 0, none⟩) m2.nodes.length cap) := (World.cell?_alloc_lt _ _ ⟨g, 0, none⟩ hA2.lt).trans g0
  have cA : (w2.alloc (.cells #[.int .i64 (place : Int)] 3)).cell? ⟨N, parent * 5 + 4, none⟩ = some v2.iv := (World.cell?_alloc_lt _ _ ⟨N, parent * 5 + 4, none⟩ (hA2.typed_n N rfl).lt).trans c4
  have HA2 := Lib.hid (show At w2.drew base g m2 (.slice (some ⟨N, 0, none⟩) m2.nodes.length cap) ev1 vs1 from hA2.below ⟨rfl, rfl, rfl, Nat.le_refl _, fun _ _ => rfl⟩)
  have V2 := Lib.hid hv2
  have S2 := Lib.hid (show base ≤ w2.drew.heap.size from Nat.le_trans HB.out (Nat.le_trans K1.out.size K2.out.size))
  clear hA2 hv2 hfr
  go_region_law (refine step_add w2.drew _ (e := 3) (ys := [.int .i64 (place : Int)]) ?_ base ?_ (.tmp 29) (.tmp 31) 53 (.int .i64 0) 1 8 ?_ Try.underlying53 info3 rfl (by decide) (by decide) v2.iv (zn pd2.inner).length (nums .i64 (zn pd2.inner)) ?_ ?_ rfl (by simp [Value.oneCell']) (HA2.out.rest.inn parent pd2 v2 HP2.out V2.out).1 S2.out (by rw [zn_length]; omega) ?_; rfl; rfl; rfl; rfl; rfl; intro v3 w3 ho3 hg3 hat3; obtain ⟨A3, k3, rfl, f5, f6, f7, FF⟩ := inner_facts HA2.out HP2.out V2.out hg3 ho3 hat3; clear ho3 hg3 hat3)
  all_goals
    go_wp2
    go_end0
    exact ⟨rfl, Left.trans K1.out.size F1.out K1.out (Left.of_kp K2.out HLS.out FF.out)⟩
end Go.Proofs.Ytcdkcnegejhnhaa.Ar
