/-
  ArenaActs: both arenas in memory; what each call leaves of them. The program's Copy (fn 40) is walked here, too.
-/
import Derived.Test.YtcdkcnegejhnhaaAaCopy
import Derived.Test.YtcdkcnegejhnhaaAaNodes
namespace Go.Proofs.Ytcdkcnegejhnhaa.Ar
open Go.RowKit Go.Proofs.Ytcdkcnegejhnhaa.PAr Go.Proofs.YtcdkcnegejhnhaaW.PrintWords Go.Proofs.YtcdkcnegejhnhaaW.PrintLast Go.Proofs.YtcdkcnegejhnhaaW.PrintMore
set_option linter.unusedVariables false
set_option linter.unusedSimpArgs false
/-! ### the program's Copy -/
/-- One copy more. -/
def M.more (m : M) : M := ⟨m.nodes, m.elems, m.copies + 1⟩
theorem At.more {w : World} {base g : Nat} {m : M} {nv ev : Value} {vs : List NV} (h : At w base g m nv ev vs) : At (w.setCell ⟨g, 2, none⟩ (.int .i64 ((m.copies : Int) + 1))) base g m.more nv ev vs := by
  have hmv : ∀ k, k ≠ g → (w.setCell ⟨g, 2, none⟩ (.int .i64 ((m.copies : Int) + 1))).heap[k]? = w.heap[k]? := fun k hk => Below.heap_setCell w _ _ k hk
  have R := h.rest.move (w1 := w.setCell ⟨g, 2, none⟩ (.int .i64 ((m.copies : Int) + 1))) fun k hk => hmv k (by
    rcases hk with e | e
    · exact e.ne h.typed_g (by decide)
    · exact e.ne h.typed_g (by decide))
  exact {
    hg := blk_put h.hg 2 (.int .i64 ((m.copies : Int) + 1)) rfl
    hbg := h.hbg
    row := own_move h.row fun k hk => hmv k ((h.typed_n k hk).ne h.typed_g (by decide))
    rest := ⟨R.len, R.els, R.inn, R.sep, R.sep2⟩ }
set_option maxRecDepth 100000 in
set_option maxHeartbeats 4000000 in
theorem copy_calls {w : World} {base g i p : Nat} {m : M} {nv ev : Value} {vs : List NV} {nd : Nd} (h : At w base g m nv ev vs) (hi : m.elems[i]? = some p) (hp : m.nodes[p]? = some nd) (hl : nd.attrs.length < 4398046511104) (hb : base ≤ w.heap.size)
    (hn : m.nodes.length ≤ 1000000) (he : m.elems.length ≤ 1000000) (hc : m.copies ≤ 1000000) :
    Calls Try.prog 40 #[.pointer (some ⟨g, 0, none⟩), .int .i64 (i : Int)] w fun e w' => e = .returned (.int .i64 (m.elems.length : Int)) ∧ Left w base g (m.more.element nd.name nd.attrs) nv ev vs w' := by
  have g2 : w.cell? ⟨g, 2, none⟩ = some (.int .i64 (m.copies : Int)) := blk_cell h.hg 2
  have f2 : w.frozen? ⟨g, 2, none⟩ = false := blk_frozen h.hg 2
  have hwc : IntKind.i64.wrap ((m.copies : Int) + 1) = (m.copies : Int) + 1 := IntWalk.i64_in _ (by omega)
  have H1 := Lib.hid h.more
  have HS := Lib.hid (show (w.setCell ⟨g, 2, none⟩ (.int .i64 ((m.copies : Int) + 1))).heap.size = w.heap.size by simp [World.setCell])
  have HK := Lib.hid ((Kp.refl (Foot g nv ev vs) w).setCell (p := ⟨g, 2, none⟩) (.inl rfl) (.int .i64 ((m.copies : Int) + 1)))
  have HI := Lib.hid (And.intro hi hp)
  have HN := Lib.hid (And.intro hl (And.intro hb (And.intro hn he)))
  clear h hi hp hl hb hn he hc
  go_enter Try.func40, Try.ntmps40
  go_upto_region 2 with fail
  generalize hw1 : w.setCell ⟨g, 2, none⟩ (.int .i64 ((m.copies : Int) + 1)) = w1 at *
  clear hw1 g2 f2
  have C45 := Lib.hid (name_calls H1.out HI.out.1 HI.out.2)
  have C48 := Lib.hid (fun n => attrs_calls (H1.out.below (below_drewN0 w1 n)) HI.out.1 HI.out.2 HN.out.1)
  go_wp2_with (first
    | (go_at_call 45; refine C45.out.mono ?_; rintro e w2 ⟨rfl, n2, rfl⟩)
    | (go_at_call 48; refine (C48.out n2).mono ?_; rintro e w3 ⟨v3, rfl, hR3, hB3⟩; obtain ⟨A3, k3, rfl, hle3, hC3⟩ := Kd.R_reads hR3; have HB3 := Lib.hid hB3; have C3 := Lib.hid hC3; have L3 := Lib.hid hle3; clear hR3 hB3 hC3 hle3)
    | (go_at_call 19; refine (element_calls ((H1.out.below (below_drewN0 w1 n2)).below HB3.out) nd.name A3 k3 nd.attrs C3.out L3.out HN.out.1 (by have h1 := HB3.out.size; have h2 := HS.out; have h3 := HN.out.2.1; have h4 : (w1.drewN n2).heap.size = w1.heap.size := rfl; omega) HN.out.2.2.1 HN.out.2.2.2).mono ?_; rintro e w4 ⟨rfl, hL4⟩; have L4 := Lib.hid hL4; clear hL4))
  go_ret
  exact ⟨rfl, Left.trans (by rw [HS.out]; exact Nat.le_refl _) (fun _ hk => .inl hk) HK.out (Left.of_below (show Below w1.heap.size w1 w3 from (below_drewN0 w1 n2).trans HB3.out) L4.out)⟩
/-! ### blocks of other types stay -/
def Kq (w w' : World) : Prop := ∀ (k : Nat) (cs : Array Value) (q : Nat), q ≠ 96 → q ≠ 99 → q ≠ 3 → w.heap[k]? = some (.cells cs q (0, 0)) → w'.heap[k]? = some (.cells cs q (0, 0))
section
variable {w w1 : World} {base g : Nat} {m m' : M} {nv ev : Value} {vs : List NV}
theorem At.apart (h : At w base g m nv ev vs) {k q : Nat} {cs : Array Value} (hk : w.heap[k]? = some (.cells cs q (0, 0))) (h1 : q ≠ 96) (h2 : q ≠ 99) (h3 : q ≠ 3) : ¬ Foot g nv ev vs k := by
  rintro (rfl | h4 | h4 | ⟨v, hv, h4⟩)
  · exact Typed.ne ⟨_, hk⟩ h.typed_g h1 rfl
  · exact Typed.ne ⟨_, hk⟩ (h.typed_n k h4) h2 rfl
  · exact Typed.ne ⟨_, hk⟩ (h.rest.els.typed k h4) h3 rfl
  · obtain ⟨i, hi⟩ := List.getElem?_of_mem hv
    obtain ⟨nd, hnd⟩ : ∃ nd, m.nodes[i]? = some nd := ⟨_, List.getElem?_eq_getElem (by have := (List.getElem?_eq_some_iff.1 hi).1; rw [← h.rest.len]; exact this)⟩
    exact Typed.ne ⟨_, hk⟩ ((h.rest.inn i nd v hnd hi).1.typed k h4) h3 rfl
theorem Kq.of_left (h : At w base g m nv ev vs) (hL : Left w base g m' nv ev vs w1) : Kq w w1 := fun k cs q h1 h2 h3 hk =>
  (hL.kp.block k (Array.getElem?_eq_some_iff.1 hk).1 (h.apart hk h1 h2 h3)).trans hk
end
end Go.Proofs.Ytcdkcnegejhnhaa.Ar
namespace Go.Proofs.Ytcdkcnegejhnhaa.Aa
open Go.RowKit Go.Proofs.Ytcdkcnegejhnhaa.PAr Go.Proofs.Ytcdkcnegejhnhaa.Ar Go.Proofs.YtcdkcnegejhnhaaW.PrintWords Go.Proofs.YtcdkcnegejhnhaaW.PrintLast Go.Proofs.YtcdkcnegejhnhaaW.PrintMore
set_option linter.unusedVariables false
set_option linter.unusedSimpArgs false
theorem zn_getD (xs : List Nat) (j q : Nat) (h : xs[j]? = some q) : (zn xs).getD j 0 = (q : Int) := by
  unfold zn
  rw [List.getD_eq_getElem?_getD, List.getElem?_map, h]
  rfl
theorem idx_of (xs : List Nat) (i p : Nat) (hi : xs[i]? = some p) (hu : ∀ j, xs[j]? = some p → j = i) : Lib.idxOf (zn xs) (p : Int) = (i : Int) := by
  have hl := (List.getElem?_eq_some_iff.1 hi).1
  have h := Lib.idxFrom_hit (p : Int) (zn xs) i 0 (by rw [zn_length]; exact hl) (zn_getD xs i p hi) fun j hj e => by
    obtain ⟨q, hq⟩ : ∃ q, xs[j]? = some q := ⟨_, List.getElem?_eq_getElem (by omega)⟩
    rw [zn_getD xs j q hq] at e
    obtain rfl : q = p := by omega
    have := hu j hq
    omega
  rw [Nat.zero_add] at h
  exact h
theorem idx_none (xs : List Nat) : Lib.idxOf (zn xs) (pz none) = -1 := by
  have h := Lib.idxOf_miss (zn xs) xs.length (-1) fun j hj e => by
    rw [zn_getD xs j _ (List.getElem?_eq_getElem hj)] at e
    omega
  rw [List.take_of_length_le (by rw [zn_length]; exact Nat.le_refl _)] at h
  exact h
/-! ### both arenas -/
structure St (W0 w : World) (g b4 : Nat) (m : M) (u0 u1 u2 u3 : Value) (R : Rm) : Prop where
  both : ∃ (nv ev : Value) (vs : List NV) (ok : Nat → Prop), At w W0.heap.size g m nv ev vs ∧ RA w ok u0 u1 u2 u3 R ∧ ∀ k, ok k → ¬ Foot g nv ev vs k ∧ k < w.heap.size ∧ k ≠ b4
  b0 : Below W0.heap.size W0 w
  lt4 : b4 < w.heap.size
section
variable {W0 w w1 : World} {g b4 : Nat} {m m' : M} {u0 u1 u2 u3 : Value} {R R' : Rm} {d : Nat → Nat} {t i p k q : Nat} {nd : Nd}
theorem St.below (h : St W0 w g b4 m u0 u1 u2 u3 R) (hb : Below w.heap.size w w1) : St W0 w1 g b4 m u0 u1 u2 u3 R := by
  obtain ⟨nv, ev, vs, ok, h1, h2, h3⟩ := h.both
  have hs := hb.size
  exact ⟨⟨nv, ev, vs, ok, h1.below hb, h2.step fun k hk hlt => hb.block k hlt, fun k hk => by have := h3 k hk; exact ⟨this.1, by omega, this.2.2⟩⟩, h.b0.trans (hb.mono h.b0.size), by have := h.lt4; omega⟩
theorem St.arena {f : FuncId} {args : Array Value} {E : Ending} (h : St W0 w g b4 m u0 u1 u2 u3 R)
    (hc : ∀ (nv ev : Value) (vs : List NV), At w W0.heap.size g m nv ev vs → W0.heap.size ≤ w.heap.size → Calls Try.prog f args w fun e w' => e = E ∧ Ar.Left w W0.heap.size g m' nv ev vs w') :
    Calls Try.prog f args w fun e w' => e = E ∧ St W0 w' g b4 m' u0 u1 u2 u3 R ∧ Kq w w' := by
  obtain ⟨nv, ev, vs, ok, h1, h2, h3⟩ := h.both
  refine (hc nv ev vs h1 h.b0.size).mono ?_
  rintro e w' ⟨rfl, hL⟩
  refine ⟨rfl, ?_, Kq.of_left h1 hL⟩
  have hK := hL.kp
  have hs := hK.size
  obtain ⟨nv', ev', vs', g1, g2, _⟩ := hL
  refine ⟨⟨nv', ev', vs', ok, g1, h2.step fun k hk hlt => hK.block k hlt (h3 k hk).1, fun k hk => ?_⟩, h.b0.trans (hK.below h.b0.size fun k hk => (h1.foot_lt k hk).1), by have := h.lt4; omega⟩
  have := h3 k hk
  refine ⟨fun hf => ?_, by omega, this.2.2⟩
  rcases g2 k hf with e | e
  · exact this.1 e
  · omega
theorem St.rm {f : FuncId} {args : Array Value} {E : Value → Value → Value → Value → Ending} (h : St W0 w g b4 m u0 u1 u2 u3 R)
    (hc : ∀ ok : Nat → Prop, RA w ok u0 u1 u2 u3 R → (∀ k, ok k → k < w.heap.size) → Calls Try.prog f args w fun e w' => ∃ v0 v1 v2 v3, e = E v0 v1 v2 v3 ∧ RA w' (fun k => ok k ∨ w.heap.size ≤ k) v0 v1 v2 v3 R' ∧ Below w.heap.size w w') :
    Calls Try.prog f args w fun e w' => ∃ v0 v1 v2 v3, e = E v0 v1 v2 v3 ∧ St W0 w' g b4 m v0 v1 v2 v3 R' ∧ Below w.heap.size w w' := by
  obtain ⟨nv, ev, vs, ok, h1, h2, h3⟩ := h.both
  refine (hc ok h2 fun k hk => (h3 k hk).2.1).mono ?_
  rintro e w' ⟨v0, v1, v2, v3, rfl, hR, hB⟩
  have hs := hB.size
  have hl := h.lt4
  refine ⟨v0, v1, v2, v3, rfl, ⟨⟨nv, ev, vs, _, h1.below hB, hR.bound2, fun k hk => ?_⟩, h.b0.trans (hB.mono h.b0.size), by omega⟩, hB⟩
  rcases hk with ⟨hk | hk, hk2⟩
  · have := h3 k hk
    exact ⟨this.1, hk2, this.2.2⟩
  · exact ⟨fun hf => by have := (h1.foot_lt k hf).2; omega, hk2, by omega⟩
/-- The document's box is written. -/
theorem St.box (h : St W0 w g b4 m u0 u1 u2 u3 R) {cs : Array Value} (hx : w.heap[b4]? = some (.cells cs 62 (0, 0))) (hk : Kp (fun k => k = b4) w w1) (hb : Below W0.heap.size W0 w1) : St W0 w1 g b4 m u0 u1 u2 u3 R := by
  obtain ⟨nv, ev, vs, ok, h1, h2, h3⟩ := h.both
  have hs := hk.size
  have hl := h.lt4
  refine ⟨⟨nv, ev, vs, ok, h1.keep hk fun k e => ?_, h2.step fun k hok hlt => hk.block k hlt (h3 k hok).2.2, fun k hok => by have := h3 k hok; exact ⟨this.1, by omega, this.2.2⟩⟩, hb, by omega⟩
  subst e
  exact ⟨h1.apart hx (by decide) (by decide) (by decide), fun e => Typed.ne ⟨_, hx⟩ e (by decide) rfl⟩
/-- The document's arena is stored into its box. -/
theorem St.store {v0 v1 v2 v3 : Value} {c c' : Int} (h : St W0 w g b4 m v0 v1 v2 v3 R) (hx : w.heap[b4]? = some (.cells #[u0, u1, u2, u3, .int .i64 c] 62 (0, 0))) (hb4 : W0.heap.size ≤ b4) :
    St W0 (w.setCells b4 0 [v0, v1, v2, v3, .int .i64 c']) g b4 m v0 v1 v2 v3 R ∧ (w.setCells b4 0 [v0, v1, v2, v3, .int .i64 c']).heap[b4]? = some (.cells #[v0, v1, v2, v3, .int .i64 c'] 62 (0, 0)) := by
  have hk : Kp (fun k => k = b4) w (w.setCells b4 0 [v0, v1, v2, v3, .int .i64 c']) :=
    (((((Kp.refl (fun k => k = b4) w).setCell (p := ⟨b4, 0, none⟩) rfl v0).setCell (p := ⟨b4, 1, none⟩) rfl v1).setCell (p := ⟨b4, 2, none⟩) rfl v2).setCell (p := ⟨b4, 3, none⟩) rfl v3).setCell (p := ⟨b4, 4, none⟩) rfl (.int .i64 c')
  refine ⟨h.box hx hk (((((h.b0.setCell (p := ⟨b4, 0, none⟩) hb4 v0).setCell (p := ⟨b4, 1, none⟩) hb4 v1).setCell (p := ⟨b4, 2, none⟩) hb4 v2).setCell (p := ⟨b4, 3, none⟩) hb4 v3).setCell (p := ⟨b4, 4, none⟩) hb4 (.int .i64 c')), ?_⟩
  exact blk_put (blk_put (blk_put (blk_put (blk_put hx 0 v0 rfl) 1 v1 rfl) 2 v2 rfl) 3 v3 rfl) 4 (.int .i64 c') rfl
/-! ### the program's calls -/
theorem St.text (h : St W0 w g b4 m u0 u1 u2 u3 R) (hr : Rel m R' d t) (ht : t ≤ 900) (hi : i < m.elems.length) (s : ByteArray) (hs : s.size ≤ 2000000) :
    Calls Try.prog 18 #[.pointer (some ⟨g, 0, none⟩), .int .i64 (i : Int), .string s] w fun e w' => e = .returned (.tuple #[]) ∧ St W0 w' g b4 (m.text i s) u0 u1 u2 u3 R ∧ Kq w w' := by
  obtain ⟨p, hp⟩ : ∃ p, m.elems[i]? = some p := ⟨_, List.getElem?_eq_getElem hi⟩
  exact h.arena fun nv ev vs hA hb => text_calls hA hr.wf (by omega) i p hp hb s (by omega)
theorem St.element (h : St W0 w g b4 m u0 u1 u2 u3 R) (hr : Rel m R' d t) (ht : t ≤ 900) (name : ByteArray) (A0 : Option Addr) (c0 : Nat) (attrs : List S105) (hC : Kd.C k105 w A0 attrs.length attrs) (hc : attrs.length ≤ c0) (hl : attrs.length ≤ 1000) :
    Calls Try.prog 19 #[.pointer (some ⟨g, 0, none⟩), .string name, .slice A0 attrs.length c0] w fun e w' => e = .returned (.int .i64 (m.elems.length : Int)) ∧ St W0 w' g b4 (m.element name attrs) u0 u1 u2 u3 R ∧ Kq w w' :=
  h.arena fun nv ev vs hA hb => element_calls hA name A0 c0 attrs hC hc (by omega) hb (by have := hr.nlen; omega) (by have := hr.elen; omega)
theorem St.copy (h : St W0 w g b4 m u0 u1 u2 u3 R) (hr : Rel m R' d t) (ht : t ≤ 900) (hi : m.elems[i]? = some p) (hp : m.nodes[p]? = some nd) :
    Calls Try.prog 40 #[.pointer (some ⟨g, 0, none⟩), .int .i64 (i : Int)] w fun e w' => e = .returned (.int .i64 (m.elems.length : Int)) ∧ St W0 w' g b4 (m.more.element nd.name nd.attrs) u0 u1 u2 u3 R ∧ Kq w w' :=
  h.arena fun nv ev vs hA hb => copy_calls hA hi hp (by have := (hr.all p nd hp).2.2.1; omega) hb (by have := hr.nlen; omega) (by have := hr.elen; omega) (by have := hr.cle; omega)
theorem St.append (h : St W0 w g b4 m u0 u1 u2 u3 R) (hr : Rel m R' d t) (ht : t ≤ 900) (hk : m.elems[k]? = some q) (hi : m.elems[i]? = some p) :
    Calls Try.prog 21 #[.pointer (some ⟨g, 0, none⟩), .int .i64 (k : Int), .int .i64 (i : Int)] w fun e w' => e = .returned (.tuple #[]) ∧ St W0 w' g b4 (m.put q p) u0 u1 u2 u3 R ∧ Kq w w' := by
  have hm : m.append k i = m.put q p := by unfold M.append; rw [hk, hi]
  exact h.arena fun nv ev vs hA hb => hm ▸ append_calls hA hr.wf (by omega) k i q p hk hi hb
theorem St.move (h : St W0 w g b4 m u0 u1 u2 u3 R) (hr : Rel m R' d t) (ht : t ≤ 900) (hi : m.elems[i]? = some p) (hk : m.elems[k]? = some q) (hp : m.nodes[p]? = some nd) :
    Calls Try.prog 29 #[.pointer (some ⟨g, 0, none⟩), .int .i64 (i : Int), .int .i64 (k : Int)] w fun e w' => e = .returned (.tuple #[]) ∧ St W0 w' g b4 (m.moveL q nd.inner) u0 u1 u2 u3 R ∧ Kq w w' :=
  h.arena fun nv ev vs hA hb => move_calls hA hr.wf hi hk hp (by have h1 := (hr.inn_lt hi hp).2; have h2 := hr.nlen; omega) hb
theorem St.name (h : St W0 w g b4 m u0 u1 u2 u3 R) (hi : m.elems[i]? = some p) (hp : m.nodes[p]? = some nd) :
    Calls Try.prog 45 #[.pointer (some ⟨g, 0, none⟩), .int .i64 (i : Int)] w fun e w' => e = .returned (.string nd.name) ∧ Below w.heap.size w w' := by
  obtain ⟨nv, ev, vs, ok, h1, h2, h3⟩ := h.both
  refine (name_calls h1 hi hp).mono ?_
  rintro e w' ⟨rfl, n, rfl⟩
  exact ⟨rfl, below_drewN0 w n⟩
theorem St.attrs (h : St W0 w g b4 m u0 u1 u2 u3 R) (hr : Rel m R d t) (hi : m.elems[i]? = some p) (hp : m.nodes[p]? = some nd) :
    Calls Try.prog 48 #[.pointer (some ⟨g, 0, none⟩), .int .i64 (i : Int)] w fun e w' => ∃ A c, e = .returned (.slice A nd.attrs.length c) ∧ nd.attrs.length ≤ c ∧ Kd.C k105 w' A nd.attrs.length nd.attrs ∧ Below w.heap.size w w' := by
  obtain ⟨nv, ev, vs, ok, h1, h2, h3⟩ := h.both
  refine (attrs_calls h1 hi hp (by have := (hr.all p nd hp).2.2.1; omega)).mono ?_
  rintro e w' ⟨v, rfl, hR, hB⟩
  obtain ⟨A, c, rfl, hl, hC⟩ := Kd.R_reads hR
  exact ⟨A, c, rfl, hl, hC, hB⟩
theorem St.nodes (h : St W0 w g b4 m u0 u1 u2 u3 R) (hr : Rel m R d t) (ht : t ≤ 900) (f : Nat) (l : List S31) (hi : m.elems[i]? = some p) (he : m.exp f p = some l) :
    Calls Try.prog 25 #[.pointer (some ⟨g, 0, none⟩), .int .i64 (i : Int)] w fun e w' => ∃ A c, e = .returned (.slice A l.length c) ∧ l.length ≤ c ∧ Kd.C k31 w' A l.length l ∧ Below w.heap.size w w' := by
  obtain ⟨nv, ev, vs, ok, h1, h2, h3⟩ := h.both
  refine (nodes_calls h1 (hr.sm (by omega)) f l hi he (by have := hr.elen; omega)).mono ?_
  rintro e w' ⟨v, rfl, hR, hB⟩
  obtain ⟨A, c, rfl, hl, hC⟩ := Kd.R_reads hR
  exact ⟨A, c, rfl, hl, hC, hB⟩
theorem St.parent (h : St W0 w g b4 m u0 u1 u2 u3 R) (hr : Rel m R d t) (ht : t ≤ 900) {x : Int} (hi : m.elems[i]? = some p) (hp : m.nodes[p]? = some nd) (hx : R.par[i]? = some x) :
    Calls Try.prog 22 #[.pointer (some ⟨g, 0, none⟩), .int .i64 (i : Int)] w fun e w' => e = .returned (.int .i64 x) ∧ Below w.heap.size w w' := by
  obtain ⟨nv, ev, vs, ok, h1, h2, h3⟩ := h.both
  have hidx : Lib.idxOf (zn m.elems) (pz nd.parent) = x := by
    obtain ⟨p', nd', nm, a, l, x', g0, g1, _, _, _, g5, hE⟩ := hr.at (List.getElem?_eq_some_iff.1 hi).1
    obtain rfl := Option.some.inj (hi.symm.trans g0)
    obtain rfl := Option.some.inj (hp.symm.trans g1)
    obtain rfl := Option.some.inj (hx.symm.trans g5)
    rcases hE.par with ⟨e1, e2⟩ | ⟨j, q, e1, e2, e3⟩
    · rw [e1, e2]
      exact idx_none m.elems
    · rw [e3, e1]
      exact idx_of m.elems j q e2 fun j' hj => hr.uni j' j q hj e2
  have := parent_calls h1 hi hp (by have := hr.elen; omega)
  rw [hidx] at this
  refine this.mono ?_
  rintro e w' ⟨rfl, n, rfl⟩
  exact ⟨rfl, below_drewN0 w n⟩
theorem St.copies (h : St W0 w g b4 m u0 u1 u2 u3 R) : Calls Try.prog 27 #[.pointer (some ⟨g, 0, none⟩)] w fun e w' => e = .returned (.int .i64 (m.copies : Int)) ∧ w' = w := by
  obtain ⟨nv, ev, vs, ok, h1, h2, h3⟩ := h.both
  exact copies_calls h1
/-! ### the document's calls -/
theorem Rel.names_lt (hr : Rel m R d t) (ht : t ≤ 900) : R.names.length ≤ 1000 ∧ R.attrs.length ≤ 1000 ∧ R.inner.length ≤ 1000 ∧ R.par.length ≤ 1000 := (hr.rows ht).1
theorem St.element12 (h : St W0 w g b4 m u0 u1 u2 u3 R) (hr : Rel m R d t) (ht : t ≤ 900) (name : ByteArray) (A5 : Option Addr) (c5 : Nat) (a : List S106) (hF : Kd.F k106 w (fun k => k < W0.heap.size) A5 a.length a) (hc5 : a.length ≤ c5) (hb4 : W0.heap.size ≤ b4) :
    Calls Try.prog 38 #[.agg #[u0, u1, u2, u3, .int .i64 R.copies], .string name, .slice A5 a.length c5] w fun e w' => ∃ v0 v1 v2 v3, e = .returned (.tuple #[.agg #[v0, v1, v2, v3, .int .i64 R.copies], .int .i64 (R.names.length : Int)]) ∧ St W0 w' g b4 m v0 v1 v2 v3 (R.element name a) ∧ Below w.heap.size w w' := by
  obtain ⟨nv, ev, vs, ok, h1, h2, h3⟩ := h.both
  have hl := h.lt4
  refine (elem12_calls (ok := fun k => ok k ∨ k < W0.heap.size) (h2.mono fun k hk => .inl hk) name A5 c5 a (Kd.F_mono hF fun k hk => .inr hk) hc5 (hr.names_lt ht)).mono ?_
  rintro e w' ⟨v0, v1, v2, v3, rfl, hR, hB⟩
  have hs := hB.size
  refine ⟨v0, v1, v2, v3, rfl, ⟨⟨nv, ev, vs, _, h1.below hB, hR.bound2, fun k hk => ?_⟩, h.b0.trans (hB.mono h.b0.size), by omega⟩, hB⟩
  rcases hk with ⟨(hk | hk) | hk, hk2⟩
  · have := h3 k hk
    exact ⟨this.1, hk2, this.2.2⟩
  · exact ⟨fun hf => by have := (h1.foot_lt k hf).1; omega, hk2, by omega⟩
  · exact ⟨fun hf => by have := (h1.foot_lt k hf).2; omega, hk2, by omega⟩
theorem St.copy12 (h : St W0 w g b4 m u0 u1 u2 u3 R) (hr : Rel m R d t) (ht : t ≤ 900) {nm : ByteArray} {a : List S106} (hnm : R.names[i]? = some nm) (ha : R.attrs[i]? = some a) :
    Calls Try.prog 39 #[.agg #[u0, u1, u2, u3, .int .i64 R.copies], .int .i64 (i : Int)] w fun e w' => ∃ v0 v1 v2 v3, e = .returned (.tuple #[.agg #[v0, v1, v2, v3, .int .i64 (R.copies + 1)], .int .i64 (R.names.length : Int)]) ∧ St W0 w' g b4 m v0 v1 v2 v3 (R.more.element nm a) ∧ Below w.heap.size w w' :=
  h.rm (E := fun v0 v1 v2 v3 => .returned (.tuple #[.agg #[v0, v1, v2, v3, .int .i64 (R.copies + 1)], .int .i64 (R.names.length : Int)])) fun ok hR _ => copy12_calls hR hnm ha (hr.names_lt ht) (by have h1 := hr.cp; have h2 := hr.cle; omega)
theorem St.append12 (h : St W0 w g b4 m u0 u1 u2 u3 R) (hr : Rel m R d t) (ht : t ≤ 900) (hk : k < m.elems.length) (hi : i < m.elems.length) :
    Calls Try.prog 42 #[.agg #[u0, u1, u2, u3, .int .i64 R.copies], .int .i64 (k : Int), .int .i64 (i : Int)] w fun e w' => ∃ v0 v1 v2 v3, e = .returned (.agg #[v0, v1, v2, v3, .int .i64 R.copies]) ∧ St W0 w' g b4 m v0 v1 v2 v3 (R.append k i) ∧ Below w.heap.size w w' :=
  h.rm (E := fun v0 v1 v2 v3 => .returned (.agg #[v0, v1, v2, v3, .int .i64 R.copies])) fun ok hR _ => by
    have hn := hr.names_lt ht
    refine (append12_calls hR k i (by rw [hr.ni]; exact hk) (by rw [hr.np]; exact hi) (fun x hx => by have := hr.par_lt x hx; rw [hr.ni]; exact this) ⟨hn.2.2.1, hn.2.2.2⟩ (hr.rows ht).2.1).mono ?_
    rintro e w' ⟨v2, v3, rfl, h1, h2⟩
    exact ⟨u0, u1, v2, v3, rfl, h1, h2⟩
theorem St.text12 (h : St W0 w g b4 m u0 u1 u2 u3 R) (hr : Rel m R d t) (ht : t ≤ 900) (hi : i < m.elems.length) (s : ByteArray) (hs : s.size ≤ 2000000) :
    Calls Try.prog 43 #[.agg #[u0, u1, u2, u3, .int .i64 R.copies], .int .i64 (i : Int), .string s] w fun e w' => ∃ v0 v1 v2 v3, e = .returned (.agg #[v0, v1, v2, v3, .int .i64 R.copies]) ∧ St W0 w' g b4 m v0 v1 v2 v3 (R.text i s) ∧ Below w.heap.size w w' :=
  h.rm (E := fun v0 v1 v2 v3 => .returned (.agg #[v0, v1, v2, v3, .int .i64 R.copies])) fun ok hR _ => by
    have hn := hr.names_lt ht
    refine (text12_calls hR i (by rw [hr.ni]; exact hi) s (by omega) (hr.rows ht).2.2.2 hn.2.2.1 (hr.rows ht).2.1).mono ?_
    rintro e w' ⟨v2, rfl, h1, h2⟩
    exact ⟨u0, u1, v2, u3, rfl, h1, h2⟩
theorem St.move12 (h : St W0 w g b4 m u0 u1 u2 u3 R) (hr : Rel m R d t) (ht : t ≤ 900) (hi : i < m.elems.length) (hk : k < m.elems.length) :
    Calls Try.prog 44 #[.agg #[u0, u1, u2, u3, .int .i64 R.copies], .int .i64 (i : Int), .int .i64 (k : Int)] w fun e w' => ∃ v0 v1 v2 v3, e = .returned (.agg #[v0, v1, v2, v3, .int .i64 R.copies]) ∧ St W0 w' g b4 m v0 v1 v2 v3 (R.move i k) ∧ Below w.heap.size w w' :=
  h.rm (E := fun v0 v1 v2 v3 => .returned (.agg #[v0, v1, v2, v3, .int .i64 R.copies])) fun ok hR _ => by
    have hn := hr.names_lt ht
    refine (move12_calls hR i k (by rw [hr.ni]; exact hi) (by rw [hr.ni]; exact hk) (by rw [hr.np]; omega) (fun l hl y hy => ((hr.rows ht).2.2.1 l hl y hy).1) ⟨hn.2.2.1, hn.2.2.2⟩ (hr.rows ht).2.1).mono ?_
    rintro e w' ⟨v2, v3, rfl, h1, h2⟩
    exact ⟨u0, u1, v2, v3, rfl, h1, h2⟩
theorem St.under12 (h : St W0 w g b4 m u0 u1 u2 u3 R) (hr : Rel m R d t) (hi : i < m.elems.length) :
    Calls Try.prog 41 #[.agg #[u0, u1, u2, u3, .int .i64 R.copies], .int .i64 (i : Int), .int .i64 (k : Int)] w fun e w' => e = .returned (.bool (und R.par k (d i) i)) ∧ Below w.heap.size w w' := by
  obtain ⟨nv, ev, vs, ok, h1, h2, h3⟩ := h.both
  obtain ⟨A0, c0, rfl, l0, C0⟩ := h2.r0.now
  obtain ⟨A1, c1, rfl, l1, C1⟩ := h2.r1.now
  obtain ⟨A2, c2, rfl, l2, C2⟩ := h2.r2.now
  obtain ⟨A3, c3, rfl, l3, C3⟩ := h2.r3.now
  exact decanterlaw12_under.calls (d i + 2) A0 c0 R.names A1 c1 R.attrs A2 c2 R.inner A3 c3 R.par R.copies (i : Int) (k : Int) _ w C0 l0 C1 l1 C2 l2 C3 l3 (under_eq R.copies hr.acy (fun x hx => by have := hr.par_lt x hx; rw [hr.np]; exact this) k (d i) i (d i + 2) (Nat.le_refl _) (Nat.le_refl _) (by rw [hr.np]; exact hi))
theorem St.nodes12 (h : St W0 w g b4 m u0 u1 u2 u3 R) (hr : Rel m R d t) (ht : t ≤ 900) (f : Nat) (l : List S38) (he : nodF R f i = some l) :
    Calls Try.prog 49 #[.agg #[u0, u1, u2, u3, .int .i64 R.copies], .int .i64 (i : Int)] w fun e w' => ∃ A c, e = .returned (.slice A l.length c) ∧ l.length ≤ c ∧ Kd.C k38 w' A l.length l ∧ Below w.heap.size w w' := by
  obtain ⟨nv, ev, vs, ok, h1, h2, h3⟩ := h.both
  refine (nodes12_calls (hr.names_lt ht).2.2.1 (hr.rows ht).2.1 (fun l hl y hy => ((hr.rows ht).2.2.1 l hl y hy).2) f i l w ok h2 he).mono ?_
  rintro e w' ⟨v, rfl, hN, hB⟩
  obtain ⟨A, c, rfl, hl, hC⟩ := Kd.N_reads hN
  exact ⟨A, c, rfl, hl, hC, hB⟩
end
/-! ### a place -/
theorem pick_eq (a : Int) (h : -9223372036854775808 ≤ a ∧ a ≤ 9223372036854775807) (n : Nat) (hn : 0 < n) : ∃ P : Nat, decanterlaw12_pick.f a (n : Int) = some (P : Int) ∧ P < n := by
  have hn0 : ¬ (n : Int) = 0 := by omega
  have key : ∀ b : Int, 0 ≤ b → ∃ P : Nat, Int.tmod b (n : Int) = (P : Int) ∧ P < n := fun b hb => by
    have h1 := Int.emod_nonneg b (b := (n : Int)) hn0
    have h2 := Int.emod_lt_of_pos b (b := (n : Int)) (by omega)
    rw [Int.tmod_eq_emod_of_nonneg hb]
    generalize b % (n : Int) = r at *
    exact ⟨r.toNat, (Int.toNat_of_nonneg h1).symm, by omega⟩
  unfold decanterlaw12_pick.f
  by_cases h0 : a < 0
  · have e1 : wrap64 (a + 1) = a + 1 := IntWalk.wrap64_in _ (by omega)
    have e2 : wrap64 (-(a + 1)) = -(a + 1) := IntWalk.wrap64_in _ (by omega)
    rw [if_pos h0, if_neg hn0, e1, e2]
    obtain ⟨P, hP, hl⟩ := key (-(a + 1)) (by omega)
    exact ⟨P, by rw [hP], hl⟩
  · rw [if_neg h0, if_neg hn0]
    obtain ⟨P, hP, hl⟩ := key a (by omega)
    exact ⟨P, by rw [hP], hl⟩
end Go.Proofs.Ytcdkcnegejhnhaa.Aa
