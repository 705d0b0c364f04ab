/-
  Arenas: Move (fn 29), walked: all that stands in an element is put behind what stands in another one.
-/
import Derived.Test.YtcdkcnegejhnhaaArText
import Derived.Deep.LoopGhost
namespace Go.Proofs.Ytcdkcnegejhnhaa.Ar
open Go.RowKit Go.Proofs.Ytcdkcnegejhnhaa.PAr Go.Proofs.YtcdkcnegejhnhaaW.PrintWords Go.Proofs.YtcdkcnegejhnhaaW.PrintLast Go.Proofs.YtcdkcnegejhnhaaW.PrintMore
set_option linter.unusedVariables false
set_option linter.unusedSimpArgs false
def M.moveL (m : M) (q : Nat) (ks : List Nat) : M := ks.foldl (fun m k => m.put q k) m
theorem moveL_snoc (m : M) (q : Nat) (ks : List Nat) (k : Nat) : m.moveL q (ks ++ [k]) = (m.moveL q ks).put q k := by
  unfold M.moveL
  rw [List.foldl_append]
  rfl
theorem moveL_nil (m : M) (q : Nat) : m.moveL q [] = m := rfl
theorem moveL_cons (m : M) (q k : Nat) (ks : List Nat) : m.moveL q (k :: ks) = (m.put q k).moveL q ks := rfl
/-- What a put makes of a node. -/
theorem put_back (m : M) (parent place : Nat) {i : Nat} {nd' : Nd} (h : (m.put parent place).nodes[i]? = some nd') :
    ∃ nd, m.nodes[i]? = some nd ∧ (nd'.parent = nd.parent ∨ nd'.parent = some parent) ∧ (∀ k ∈ nd'.inner, k ∈ nd.inner ∨ k = place) ∧ nd'.inner.length ≤ nd.inner.length + 1 ∧ nd'.text = nd.text := by
  have h3 : ∀ (m : M) (nd' : Nd), (m.addInner parent place).nodes[i]? = some nd' → ∃ nd, m.nodes[i]? = some nd ∧ nd'.parent = nd.parent ∧ (∀ k ∈ nd'.inner, k ∈ nd.inner ∨ k = place) ∧ nd'.inner.length ≤ nd.inner.length + 1 ∧ nd'.text = nd.text := by
    intro m nd' h
    unfold M.addInner at h
    split at h
    · exact ⟨nd', h, rfl, fun k hk => .inl hk, Nat.le_succ _, rfl⟩
    · rename_i pd hpd
      rcases get_set h with ⟨rfl, rfl, _⟩ | ⟨_, h⟩
      · refine ⟨pd, hpd, rfl, fun k hk => ?_, by simp, rfl⟩
        rcases List.mem_append.1 hk with hk | hk
        · exact .inl hk
        · exact .inr (List.mem_singleton.1 hk)
      · exact ⟨nd', h, rfl, fun k hk => .inl hk, Nat.le_succ _, rfl⟩
  have h2 : ∀ (m : M) (nd' : Nd), (m.setPar place parent).nodes[i]? = some nd' → ∃ nd, m.nodes[i]? = some nd ∧ (nd'.parent = nd.parent ∨ nd'.parent = some parent) ∧ nd'.inner = nd.inner ∧ nd'.text = nd.text := by
    intro m nd' h
    unfold M.setPar at h
    split at h
    · exact ⟨nd', h, .inl rfl, rfl, rfl⟩
    · rename_i pd hpd
      rcases get_set h with ⟨rfl, rfl, _⟩ | ⟨_, h⟩
      · exact ⟨pd, hpd, .inr rfl, rfl, rfl⟩
      · exact ⟨nd', h, .inl rfl, rfl, rfl⟩
  have h1 : ∀ (nd' : Nd), (m.leave place).nodes[i]? = some nd' → ∃ nd, m.nodes[i]? = some nd ∧ nd'.parent = nd.parent ∧ (∀ k ∈ nd'.inner, k ∈ nd.inner) ∧ nd'.inner.length ≤ nd.inner.length ∧ nd'.text = nd.text := by
    intro nd' h
    unfold M.leave at h
    split at h
    · exact ⟨nd', h, rfl, fun k hk => hk, Nat.le_refl _, rfl⟩
    · split at h
      · exact ⟨nd', h, rfl, fun k hk => hk, Nat.le_refl _, rfl⟩
      · split at h
        · exact ⟨nd', h, rfl, fun k hk => hk, Nat.le_refl _, rfl⟩
        · rename_i np hnp
          rcases get_set h with ⟨rfl, rfl, _⟩ | ⟨_, h⟩
          · exact ⟨np, hnp, rfl, fun k hk => (List.mem_filter.1 hk).1, List.length_filter_le _ _, rfl⟩
          · exact ⟨nd', h, rfl, fun k hk => hk, Nat.le_refl _, rfl⟩
  obtain ⟨n3, e3, a3, b3, c3, d3⟩ := h3 _ nd' h
  obtain ⟨n2, e2, a2, b2, d2⟩ := h2 _ n3 e3
  obtain ⟨n1, e1, a1, b1, c1, d1⟩ := h1 n2 e2
  refine ⟨n1, e1, ?_, fun k hk => ?_, by rw [b2] at c3; omega, d3.trans (d2.trans d1)⟩
  · rcases a2 with a2 | a2
    · exact .inl (a3.trans (a2.trans a1))
    · exact .inr (a3.trans a2)
  · rcases b3 k hk with h | h
    · exact .inl (b1 k (b2 ▸ h))
    · exact .inr h
theorem put_len (m : M) (parent place : Nat) : (m.put parent place).nodes.length = m.nodes.length ∧ (m.put parent place).elems = m.elems ∧ (m.put parent place).copies = m.copies := by
  have h1 := leave_len m place
  have h2 : ∀ m : M, (m.setPar place parent).nodes.length = m.nodes.length ∧ (m.setPar place parent).elems = m.elems ∧ (m.setPar place parent).copies = m.copies := by
    intro m
    unfold M.setPar
    split
    · exact ⟨rfl, rfl, rfl⟩
    · exact ⟨List.length_set, rfl, rfl⟩
  have h3 : ∀ m : M, (m.addInner parent place).nodes.length = m.nodes.length ∧ (m.addInner parent place).elems = m.elems ∧ (m.addInner parent place).copies = m.copies := by
    intro m
    unfold M.addInner
    split
    · exact ⟨rfl, rfl, rfl⟩
    · exact ⟨List.length_set, rfl, rfl⟩
  unfold M.put
  have a := h3 ((m.leave place).setPar place parent)
  have b := h2 (m.leave place)
  exact ⟨a.1.trans (b.1.trans h1.1), a.2.1.trans (b.2.1.trans h1.2.1), a.2.2.trans (b.2.2.trans h1.2.2)⟩
theorem WF.put {m : M} {B T : Nat} (h : WF m B T) (parent place : Nat) (h1 : parent < m.nodes.length) (h2 : place < m.nodes.length) : WF (m.put parent place) (B + 1) T := by
  obtain ⟨l1, l2, l3⟩ := put_len m parent place
  constructor
  · intro i p hi
    rw [l2] at hi
    rw [l1]
    exact h.els i p hi
  · intro i nd' hi p hp
    rw [l1]
    obtain ⟨nd, e1, e2, _⟩ := put_back m parent place hi
    rcases e2 with e2 | e2
    · exact h.par i nd e1 p (e2 ▸ hp)
    · rw [e2] at hp
      cases hp
      exact h1
  · intro i nd' hi
    rw [l1]
    obtain ⟨nd, e1, _, e3, e4, e5⟩ := put_back m parent place hi
    have := h.inn i nd e1
    refine ⟨fun k hk => ?_, by omega, by rw [e5]; exact this.2.2⟩
    rcases e3 k hk with hk | rfl
    · exact this.1 k hk
    · exact h2
  · rw [l1]
    exact Nat.le_succ_of_le h.nlen
  · rw [l2]
    exact Nat.le_succ_of_le h.elen
theorem WF.moveL {T q : Nat} : ∀ (ks : List Nat) {m : M} {B : Nat}, WF m B T → q < m.nodes.length → (∀ k ∈ ks, k < m.nodes.length) → WF (m.moveL q ks) (B + ks.length) T
  | [], m, B, h, _, _ => h
  | k :: ks, m, B, h, hq, hk => by
    have h1 := h.put q k hq (hk k (List.mem_cons_self ..))
    obtain ⟨l1, _, _⟩ := put_len m q k
    have h2 := WF.moveL ks h1 (by rw [l1]; exact hq) (fun j hj => by rw [l1]; exact hk j (List.mem_cons_of_mem _ hj))
    rw [moveL_cons, List.length_cons, show B + (ks.length + 1) = B + 1 + ks.length by omega]
    exact h2
theorem moveL_len (q : Nat) : ∀ (ks : List Nat) (m : M), (m.moveL q ks).nodes.length = m.nodes.length ∧ (m.moveL q ks).elems = m.elems ∧ (m.moveL q ks).copies = m.copies
  | [], m => ⟨rfl, rfl, rfl⟩
  | k :: ks, m => by
    obtain ⟨a1, a2, a3⟩ := put_len m q k
    obtain ⟨b1, b2, b3⟩ := moveL_len q ks (m.put q k)
    rw [moveL_cons]
    exact ⟨b1.trans a1, b2.trans a2, b3.trans a3⟩
set_option maxRecDepth 100000 in
set_option maxHeartbeats 8000000 in
theorem move_calls {w : World} {base g : Nat} {m : M} {nv ev : Value} {vs : List NV} (h : At w base g m nv ev vs) {B T : Nat} (hW : WF m B T) {i j p q : Nat} {pd : Nd} (hi : m.elems[i]? = some p) (hj : m.elems[j]? = some q) (hpd : m.nodes[p]? = some pd)
    (hB : B + pd.inner.length ≤ 900000) (hb : base ≤ w.heap.size) :
    Calls Try.prog 29 #[.pointer (some ⟨g, 0, none⟩), .int .i64 (i : Int), .int .i64 (j : Int)] w fun e w' => e = .returned (.tuple #[]) ∧ Left w base g (m.moveL q pd.inner) nv ev vs w' := by
  have hq := hW.els j q hj
  obtain ⟨N, cap, v, rfl, hv, z0, z1, z2, z3, c4, z5, hltp⟩ := h.node hpd
  have hIR := (h.rest.inn p pd v hpd hv).1
  obtain ⟨A1, k1, hiv⟩ := own_slice hIR
  rw [hiv, zn_length] at c4
  have hlen : pd.inner.length ≤ 900000 := by omega
  have CA := Lib.hid (at_calls h hi hltp)
  have CC := Lib.hid (fun n => clone_calls v.iv (zn pd.inner) (w.drewN n) (base := base) (hIR.move fun _ _ => rfl) (by rw [zn_length]; omega))
  rw [hiv, zn_length] at CC
  have H := Lib.hid h
  have HW := Lib.hid hW
  have HJ := Lib.hid hj
  have HP := Lib.hid hpd
  have HB := Lib.hid (And.intro hB (And.intro hb (And.intro hq hlen)))
  have HK := Lib.hid (fun k (hk : k ∈ pd.inner) => (hW.inn p pd hpd).1 k hk)
  obtain ⟨n, hn⟩ : ∃ n, pd.inner.length = n := ⟨_, rfl⟩
  have HN := Lib.hid hn
  rw [hn] at c4 CC hlen
  have hn0 : (n : Int) ≤ 900000 := by omega
  clear h hW hi hj hpd hB hb hq hIR hiv hv z0 z1 z2 z3 z5 hltp hn
  go_enter Try.func29, Try.ntmps29
  go_upto_region 1 with (first | (go_at_call 67; refine CA.out.mono ?_; rintro e w1 ⟨rfl, n1, rfl⟩) | (go_at_call 74; refine (CC.out _).mono ?_; rintro e w2 ⟨v2, rfl, hR2, hB2⟩; have hvv : ∃ A2 k2, v2 = .slice A2 n k2 := (by obtain ⟨A2, k2, e⟩ := own_slice hR2; exact ⟨A2, k2, by rw [e, zn_length, HN.out]⟩); obtain ⟨A2, k2, rfl⟩ := hvv; have R2 := Lib.hid hR2; have B2 := Lib.hid (show Below w.heap.size w w2 from ⟨hB2.os, hB2.tape, hB2.output, hB2.size, hB2.block⟩); clear hR2 hB2))
  have A2h := Lib.hid (H.out.below B2.out)
  have HX := Lib.hid (fun k (hk : (Value.slice A2 n k2).ownBlock = some k) => And.intro (show w.heap.size ≤ k from (R2.out.lt k hk).1) (R2.out.lt k hk).2)
  go_loopg [16] (n + 1) (fun gg s16 wr => ∃ t : Nat, s16 = .int .i64 (t : Int) ∧ t ≤ n ∧ t + gg = n + 1 ∧ Hid (Left w2 base g (m.moveL q (pd.inner.take t)) (.slice (some ⟨N, 0, none⟩) m.nodes.length cap) ev vs wr))
  case atStart => exact ⟨0, rfl, Nat.zero_le _, by omega, Lib.hid (by rw [List.take_zero]; exact Left.refl A2h.out)⟩
  case round =>
    obtain ⟨t, rfl, ht, hgk, HL⟩ := hrel
    by_cases hlt : t < n
    · obtain ⟨k, hk⟩ : ∃ k, pd.inner[t]? = some k := ⟨_, List.getElem?_eq_getElem (by rw [HN.out]; exact hlt)⟩
      have hltz : (t : Int) < (n : Int) := by omega
      have ht0 : (0 : Int) ≤ (t : Int) := by omega
      have hkm : k ∈ pd.inner := List.mem_of_getElem? hk
      obtain ⟨nv1, ev1, vs1, hA1, hF1, hK1⟩ := HL.out
      have ll := moveL_len q (pd.inner.take t) m
      -- the copied row's cell
      have hcell : ∃ I, A2 = some ⟨I, 0, none⟩ ∧ wr.cell? ⟨I, t, none⟩ = some (.int .i64 (k : Int)) := by
        obtain ⟨b, c, hb', _, _⟩ := World.ownsRow.form R2.out (by rw [zn_length, HN.out]; omega)
        have hb2 := hb'
        injection hb' with hb1 _ _
        subst hb1
        refine ⟨b, rfl, ?_⟩
        have hR : w2.ownsRow (w.drewN n1).heap.size 3 1 (.slice (some ⟨b, 0, none⟩) (zn pd.inner).length k2) (zn pd.inner).length (nums .i64 (zn pd.inner)) := by
          have := R2.out
          unfold IR at this
          rw [zn_length, HN.out]
          rw [zn_length, HN.out] at this
          exact this
        have hc := World.ownsRow.cellAt hR t (by rw [zn_length, HN.out]; omega)
        have hbl := HX.out b rfl
        have hnf : ¬ Foot g (.slice (some ⟨N, 0, none⟩) m.nodes.length cap) ev vs b := fun e => by
          have := (H.out.foot_lt b e).2
          omega
        have hsame : wr.cell? ⟨b, t, none⟩ = w2.cell? ⟨b, t, none⟩ := World.cell?_of_block (w := w2) (hK1.block b hbl.2 hnf)
        rw [hsame, hc]
        simp [nums, zn, hk]
      obtain ⟨I, rfl, hI⟩ := hcell
      have hj1 : (m.moveL q (pd.inner.take t)).elems[j]? = some q := by rw [ll.2.1]; exact HJ.out
      obtain ⟨E, ce, rfl, he1, hlt1⟩ := hA1.elem hj1
      have g1 : wr.cell? ⟨g, 1, none⟩ = some (.slice (some ⟨E, 0, none⟩) (m.moveL q (pd.inner.take t)).elems.length ce) := blk_cell hA1.hg 1
      have hWt := WF.moveL (q := q) (pd.inner.take t) HW.out HB.out.2.2.1 (fun k hk => HK.out k (List.mem_of_mem_take hk))
      have hBt : B + (pd.inner.take t).length ≤ 900000 := by have := HB.out.1; have := List.length_take_le t pd.inner; have := HN.out; rw [List.length_take]; omega
      obtain ⟨kd, hkd⟩ : ∃ kd, (m.moveL q (pd.inner.take t)).nodes[k]? = some kd := ⟨_, List.getElem?_eq_getElem (by rw [ll.1]; exact HK.out k hkm)⟩
      obtain ⟨qd, hqd⟩ : ∃ qd, (m.moveL q (pd.inner.take t)).nodes[q]? = some qd := ⟨_, List.getElem?_eq_getElem (by rw [ll.1]; exact HB.out.2.2.1)⟩
      have hb2 : base ≤ wr.heap.size := Nat.le_trans HB.out.2.1 (Nat.le_trans B2.out.size hK1.size)
      have CP := Lib.hid (put_calls hA1 q k hkd hqd (fun r hr => by
        have := hWt.par k kd hkd r hr
        exact ⟨_, List.getElem?_eq_getElem this, by have := (hWt.inn r _ (List.getElem?_eq_getElem this)).2.1; omega⟩) (by have := hWt.nlen; omega) hb2 (by have := (hWt.inn q qd hqd).2.1; omega))
      rw [← moveL_snoc] at CP
      have htk : pd.inner.take (t + 1) = pd.inner.take t ++ [k] := by rw [List.take_add_one, hk]; rfl
      rw [← htk] at CP
      have F1 := Lib.hid hF1
      have K1 := Lib.hid hK1
      have j0 : (0 : Int) ≤ (j : Int) := by omega
      have j1 : (j : Int) < ((m.moveL q (pd.inner.take t)).elems.length : Int) := by have := (List.getElem?_eq_some_iff.1 hj1).1; omega
      clear hA1 hF1 hK1 hWt hBt hkd hqd hb2 ll hkm hk hj1 htk hlt1 HL
      go_wp2_with (go_at_call 69; refine CP.out.mono ?_; rintro e w3 ⟨rfl, hL3⟩; have L3 := Lib.hid hL3; clear hL3)
      go_roundg (gk - 1)
      case measure => omega
      case rel => exact ⟨t + 1, by first | rfl | go_num, by omega, by omega, Lib.hid (Left.trans K1.out.size F1.out K1.out L3.out)⟩
    · obtain rfl : t = n := by omega
      have hltz : ¬ ((t : Int) < (t : Int)) := by omega
      go_wp2_with fail
      go_end0
      refine ⟨rfl, Left.of_below B2.out ?_⟩
      have := HL.out
      rwa [List.take_of_length_le (by rw [HN.out]; exact Nat.le_refl _)] at this
end Go.Proofs.Ytcdkcnegejhnhaa.Ar
