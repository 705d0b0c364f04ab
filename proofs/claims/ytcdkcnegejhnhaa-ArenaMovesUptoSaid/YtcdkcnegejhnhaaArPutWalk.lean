/-
  Arenas: the laws' closures put, walked (fn 17, fn 28).
-/
import Derived.Test.YtcdkcnegejhnhaaArPut
import Derived.Deep.LoopGhost
import Derived.Deep.RegionHeld3
import Derived.Laws.EntriesVeiled
namespace Go.Proofs.Ytcdkcnegejhnhaa.Ar
open Go.RowKit Go.Proofs.Ytcdkcnegejhnhaa.PAr Go.Proofs.YtcdkcnegejhnhaaW.PrintWords Go.Proofs.YtcdkcnegejhnhaaW.PrintLast Go.Proofs.YtcdkcnegejhnhaaW.PrintMore
set_option linter.unusedVariables false
set_option linter.unusedSimpArgs false
/-! ### blocks of other types stay -/
def Kq (w w' : World) : Prop := ∀ (k : Nat) (cs : Array Value) (q : Nat), q ≠ 96 → q ≠ 99 → q ≠ 3 → w.heap[k]? = some (.cells cs q (0, 0)) → w'.heap[k]? = some (.cells cs q (0, 0))
theorem Kq.refl (w : World) : Kq w w := fun _ _ _ _ _ _ h => h
theorem Kq.trans {w w1 w2 : World} (h : Kq w w1) (k : Kq w1 w2) : Kq w w2 := fun b cs q h1 h2 h3 hb => k b cs q h1 h2 h3 (h b cs q h1 h2 h3 hb)
theorem Kq.of_below {w w1 : World} (h : Below w.heap.size w w1) : Kq w w1 := fun k cs q _ _ _ hk => (h.block k (Array.getElem?_eq_some_iff.1 hk).1).trans hk
section
variable {w w1 : World} {base g : Nat} {m m' : M} {nv ev : Value} {vs : List NV}
theorem At.apart (h : At w base g m nv ev vs) {k q : Nat} {cs : Array Value} (hk : w.heap[k]? = some (.cells cs q (0, 0))) (h1 : q ≠ 96) (h2 : q ≠ 99) (h3 : q ≠ 3) : ¬ Foot g nv ev vs k := by
  rintro (rfl | h4 | h4 | ⟨v, hv, h4⟩)
  · exact Typed.ne ⟨_, hk⟩ h.typed_g h1 rfl
  · exact Typed.ne ⟨_, hk⟩ (h.typed_n k h4) h2 rfl
  · exact Typed.ne ⟨_, hk⟩ (h.rest.els.typed k h4) h3 rfl
  · obtain ⟨i, hi⟩ := List.getElem?_of_mem hv
    obtain ⟨nd, hnd⟩ : ∃ nd, m.nodes[i]? = some nd := ⟨_, List.getElem?_eq_getElem (by have := (List.getElem?_eq_some_iff.1 hi).1; rw [← h.rest.len]; exact this)⟩
    exact Typed.ne ⟨_, hk⟩ ((h.rest.inn i nd v hnd hi).1.typed k h4) h3 rfl
theorem Kq.of_left (h : At w base g m nv ev vs) (hL : Left w base g m' nv ev vs w1) : Kq w w1 := fun k cs q h1 h2 h3 hk =>
  (hL.kp.block k (Array.getElem?_eq_some_iff.1 hk).1 (h.apart hk h1 h2 h3)).trans hk
end
/-- An arena on its way: what it was at w it is at wr, but for what has been put; all that is older than W0's end stays. -/
structure Ps (W0 w : World) (g : Nat) (nv ev : Value) (vs : List NV) (m : M) (wr : World) : Prop where
  left : Left w W0.heap.size g m nv ev vs wr
  b0 : Below W0.heap.size W0 wr
section
variable {W0 w wr w1 : World} {g i j p q T : Nat} {m : M} {nv ev : Value} {vs : List NV}
theorem Ps.start (h : At w W0.heap.size g m nv ev vs) (hb : Below W0.heap.size W0 w) : Ps W0 w g nv ev vs m w := ⟨Left.refl h, hb⟩
theorem Ps.below (h : Ps W0 w g nv ev vs m wr) (hb : Below wr.heap.size wr w1) : Ps W0 w g nv ev vs m w1 := by
  obtain ⟨nv1, ev1, vs1, hA, hF, hK⟩ := h.left
  exact ⟨⟨nv1, ev1, vs1, hA.below hb, hF, hK.trans' (Kp.of_below hb)⟩, h.b0.trans (hb.mono h.b0.size)⟩
theorem Ps.on {m' : M} {nv1 ev1 : Value} {vs1 : List NV} (h : Ps W0 w g nv ev vs m wr) (hA : At wr W0.heap.size g m nv1 ev1 vs1) (hF : ∀ k, Foot g nv1 ev1 vs1 k → Foot g nv ev vs k ∨ w.heap.size ≤ k) (hK : Kp (Foot g nv ev vs) w wr)
    (hL : Left wr W0.heap.size g m' nv1 ev1 vs1 w1) : Ps W0 w g nv ev vs m' w1 ∧ Kq wr w1 :=
  ⟨⟨Left.trans hK.size hF hK hL, h.b0.trans (hL.kp.below h.b0.size fun k hk => (hA.foot_lt k hk).1)⟩, Kq.of_left hA hL⟩
theorem Ps.text (h : Ps W0 w g nv ev vs m wr) (hI : Inv m T) (hn : m.nodes.length ≤ 999999) (hi : m.elems[i]? = some p) (s : ByteArray) (hT : T + s.size ≤ 9223372036854775807) :
    Calls Try.prog 18 #[.pointer (some ⟨g, 0, none⟩), .int .i64 (i : Int), .string s] wr fun e w' => e = .returned (.tuple #[]) ∧ Ps W0 w g nv ev vs (m.text i s) w' ∧ Kq wr w' := by
  obtain ⟨nv1, ev1, vs1, hA, hF, hK⟩ := h.left
  refine (text_calls hA (hI.wf hn) (Nat.le_refl _) i p hi h.b0.size s hT).mono ?_
  rintro e w2 ⟨rfl, hL⟩
  exact ⟨rfl, h.on hA hF hK hL⟩
theorem Ps.element (h : Ps W0 w g nv ev vs m wr) (hI : Inv m T) (hn : m.nodes.length ≤ 999999) (name : ByteArray) (A0 : Option Addr) (c0 : Nat) (attrs : List S105) (hC : Kd.C k105 wr A0 attrs.length attrs) (hc : attrs.length ≤ c0) (hl : attrs.length ≤ 4000000) :
    Calls Try.prog 19 #[.pointer (some ⟨g, 0, none⟩), .string name, .slice A0 attrs.length c0] wr fun e w' => e = .returned (.int .i64 (m.elems.length : Int)) ∧ Ps W0 w g nv ev vs (m.element name attrs) w' ∧ Kq wr w' := by
  obtain ⟨nv1, ev1, vs1, hA, hF, hK⟩ := h.left
  refine (element_calls hA name A0 c0 attrs hC hc (by omega) h.b0.size (by omega) (by have := hI.elen; omega)).mono ?_
  rintro e w2 ⟨rfl, hL⟩
  exact ⟨rfl, h.on hA hF hK hL⟩
theorem element_wf (hI : Inv m T) (name : ByteArray) (attrs : List S105) {B : Nat} (hB : m.nodes.length + 1 ≤ B) : WF (m.element name attrs) B T := by
  have hl : (m.element name attrs).nodes.length = m.nodes.length + 1 := by
    show (m.nodes ++ _).length = _
    rw [List.length_append]
    rfl
  have get : ∀ (k : Nat) (nd : Nd), (m.element name attrs).nodes[k]? = some nd → m.nodes[k]? = some nd ∨ nd = ⟨name, attrs, ⟨#[]⟩, none, []⟩ := by
    intro k nd hk
    have hk : (m.nodes ++ [⟨name, attrs, ⟨#[]⟩, none, []⟩])[k]? = some nd := hk
    by_cases h : k < m.nodes.length
    · rw [List.getElem?_append_left h] at hk
      exact .inl hk
    · rw [List.getElem?_append_right (by omega)] at hk
      exact .inr (List.mem_singleton.1 (List.mem_of_getElem? hk))
  have w := hI.wf (Nat.le_refl _)
  constructor
  · intro i p hi
    have hi : (m.elems ++ [m.nodes.length])[i]? = some p := hi
    rw [hl]
    by_cases h : i < m.elems.length
    · rw [List.getElem?_append_left h] at hi
      have := hI.els i p hi
      omega
    · rw [List.getElem?_append_right (by omega)] at hi
      have := List.mem_singleton.1 (List.mem_of_getElem? hi)
      omega
  · intro i nd hi p hp
    rw [hl]
    rcases get i nd hi with h | rfl
    · have := w.par i nd h p hp
      omega
    · cases hp
  · intro i nd hi
    rw [hl]
    rcases get i nd hi with h | rfl
    · have := w.inn i nd h
      exact ⟨fun k hk => by have := this.1 k hk; omega, by have := (hI.inn i nd h).1; omega, this.2.2⟩
    · exact ⟨fun k hk => (by cases hk), Nat.zero_le _, Nat.zero_le _⟩
  · rw [hl]
    exact hB
  · show (m.elems ++ [m.nodes.length]).length ≤ B
    rw [List.length_append, List.length_singleton]
    have := hI.elen
    omega
theorem Ps.append (h : Ps W0 w g nv ev vs m wr) {B : Nat} (hW : WF m B T) (hB : B ≤ 1000000) (hi : m.elems[i]? = some p) (hj : m.elems[j]? = some q) :
    Calls Try.prog 21 #[.pointer (some ⟨g, 0, none⟩), .int .i64 (i : Int), .int .i64 (j : Int)] wr fun e w' => e = .returned (.tuple #[]) ∧ Ps W0 w g nv ev vs (m.append i j) w' ∧ Kq wr w' := by
  obtain ⟨nv1, ev1, vs1, hA, hF, hK⟩ := h.left
  refine (append_calls hA hW hB i j p q hi hj h.b0.size).mono ?_
  rintro e w2 ⟨rfl, hL⟩
  exact ⟨rfl, h.on hA hF hK hL⟩
theorem Ps.parent (h : Ps W0 w g nv ev vs m wr) (hI : Inv m T) (hn : m.nodes.length ≤ 999999) (hj : m.elems[j]? = some q) {qd : Nd} (hq : m.nodes[q]? = some qd) (hi : m.elems[i]? = some p) (hp : qd.parent = some p) :
    Calls Try.prog 22 #[.pointer (some ⟨g, 0, none⟩), .int .i64 (j : Int)] wr fun e w' => e = .returned (.int .i64 (i : Int)) ∧ ∃ n, w' = wr.drewN n := by
  obtain ⟨nv1, ev1, vs1, hA, hF, hK⟩ := h.left
  have he : Lib.idxOf (zn m.elems) (pz qd.parent) = (i : Int) := by
    rw [hp]
    exact idx_of m.elems i p hi fun j hj => hI.uni j i p hj hi
  have := parent_calls hA hj hq (by have := hI.elen; omega)
  rw [he] at this
  exact this
end
/-- What a new child is. -/
theorem child_ok {m : M} {T i p : Nat} {pd : Nd} (hI : Inv m T) (hi : m.elems[i]? = some p) (hpd : m.nodes[p]? = some pd) {n : ByteArray} (hn : n.toList ≠ []) (a : List S105) (ha : a.length ≤ 4000000) :
    Inv (m.child i n a) T ∧ (m.child i n a).elems[i]? = some p ∧ (m.child i n a).elems[m.elems.length]? = some m.nodes.length ∧ (m.child i n a).nodes[m.nodes.length]? = some ⟨n, a, ⟨#[]⟩, some p, []⟩ ∧ (m.child i n a).nodes.length = m.nodes.length + 1 := by
  rw [child_eq hi hpd]
  refine ⟨hI.grow hpd rfl (fun e => absurd e hn) (Nat.zero_le _) ha (.inr rfl), ?_, ?_, grow_new, grow_len⟩
  · show (m.elems ++ [m.nodes.length])[i]? = _
    rw [List.getElem?_append_left (List.getElem?_eq_some_iff.1 hi).1, hi]
  · show (m.elems ++ [m.nodes.length])[m.elems.length]? = _
    rw [List.getElem?_append_right (Nat.le_refl _), Nat.sub_self]
    rfl
theorem element_els (m : M) (n : ByteArray) (a : List S105) {i p : Nat} (hi : m.elems[i]? = some p) : (m.element n a).elems[i]? = some p ∧ (m.element n a).elems[m.elems.length]? = some m.nodes.length := by
  constructor
  · show (m.elems ++ [m.nodes.length])[i]? = _
    rw [List.getElem?_append_left (List.getElem?_eq_some_iff.1 hi).1, hi]
  · show (m.elems ++ [m.nodes.length])[m.elems.length]? = _
    rw [List.getElem?_append_right (Nat.le_refl _), Nat.sub_self]
    rfl
theorem putL_snoc : ∀ (a : List S38) (m : M) (i : Nat) (x : S38), m.putL i (a ++ [x]) = (m.putL i a).putN i x
  | [], m, i, x => by rw [List.nil_append, putL_cons, putL_nil, putL_nil]
  | y :: a, m, i, x => by rw [List.cons_append, putL_cons, putL_snoc a, putL_cons]
theorem tL_append : ∀ l r : List S38, tL (l ++ r) = tL l + tL r
  | [], r => by simp [tL]
  | x :: l, r => by simp only [List.cons_append, tL, tL_append l r]; omega
theorem nL_append : ∀ l r : List S38, nL (l ++ r) = nL l + nL r
  | [], r => by simp [nL]
  | x :: l, r => by simp only [List.cons_append, nL, nL_append l r]; omega
/-- The numbers of what stands ahead of a node, and of the node. -/
theorem parts_at {l : List S38} {j : Nat} {x : S38} (h : l[j]? = some x) : wL (l.take j) + wN x ≤ wL l ∧ nL (l.take j) + nN x ≤ nL l ∧ tL (l.take j) + tN x ≤ tL l ∧ l.take (j + 1) = l.take j ++ [x] := by
  have e : l = l.take j ++ (x :: l.drop (j + 1)) := by rw [← drop_at h, List.take_append_drop]
  have h1 := congrArg wL e
  have h2 := congrArg nL e
  have h3 := congrArg tL e
  rw [wL_append, wL] at h1
  rw [nL_append, nL] at h2
  rw [tL_append, tL] at h3
  exact ⟨by omega, by omega, by omega, by rw [List.take_add_one, h]; rfl⟩
set_option maxRecDepth 100000 in
set_option maxHeartbeats 16000000 in
theorem put17 {W0 : World} {g bx b2 : Nat} : ∀ (N : Nat) (l : List S38), wL l ≤ N → ∀ (m : M) (T i p : Nat) (pd : Nd) (A0 : Option Addr) (c0 : Nat) (w : World) (nv ev : Value) (vs : List NV),
    At w W0.heap.size g m nv ev vs → Inv m T → m.elems[i]? = some p → m.nodes[p]? = some pd → Below W0.heap.size W0 w → Kd.C k38 W0 A0 l.length l → l.length ≤ c0 →
    w.heap[bx]? = some (.cells #[.pointer (some ⟨g, 0, none⟩)] 33 (0, 0)) → w.heap[b2]? = some (.cells #[.func (Fn.func 17) #[] #[.pointer (some ⟨bx, 0, none⟩), .pointer (some ⟨b2, 0, none⟩)]] 35 (0, 0)) →
    m.nodes.length + nL l ≤ 900000 → T + tL l ≤ 4000000000 → wL l ≤ 4000000 →
    Calls Try.prog 17 #[.int .i64 (i : Int), .slice A0 l.length c0, .pointer (some ⟨bx, 0, none⟩), .pointer (some ⟨b2, 0, none⟩)] w fun e w' => e = .returned (.bool true) ∧ Ps W0 w g nv ev vs (m.putL i l) w' ∧ Kq w w' := by
  intro N
  induction N using Nat.strongRecOn with
  | _ N ih =>
  intro l hN m T i p pd A0 c0 w nv ev vs hA hI hi hpd hB hC hc hbx hb2 hn hT hw
  have OK := Lib.hid (fun j => putL_ok (l.take j) m T i p pd hI hi hpd)
  have HA := Lib.hid (Ps.start hA hB)
  have HC := Lib.hid hC
  have HBX := Lib.hid hbx
  have HB2 := Lib.hid hb2
  have HI := Lib.hid hi
  have HPD := Lib.hid hpd
  have IH := Lib.hid ih
  have hlen := len_wL l
  have HNS := Lib.hid (And.intro hn (And.intro hT (And.intro hw hN)))
  clear hA hI hi hpd hB hC hc hbx hb2 ih hn hT hw hN
  have hl0 : (l.length : Int) ≤ 4000000 := by have := HNS.out.2.2.1; omega
  go_enter Try.func17, Try.ntmps17
  go_upto_region 2 with fail
  go_loopg [12] (l.length + 1) (fun gg s12 wr => ∃ j : Nat, s12 = .int .i64 (j : Int) ∧ j ≤ l.length ∧ j + gg = l.length + 1 ∧ Hid (Ps W0 w g nv ev vs (m.putL i (l.take j)) wr) ∧ Hid (Kq w wr))
  case atStart => exact ⟨0, rfl, Nat.zero_le _, by omega, Lib.hid (by rw [List.take_zero, putL_nil]; exact HA.out), Lib.hid (Kq.refl _)⟩
  case round =>
    clear HA
    obtain ⟨j, rfl, hj, hgk, HP, HK⟩ := hrel
    by_cases hlt : j < l.length
    · obtain ⟨x, hx⟩ : ∃ x, l[j]? = some x := ⟨_, List.getElem?_eq_getElem hlt⟩
      have hltz : (j : Int) < (l.length : Int) := by omega
      have hj0 : (0 : Int) ≤ (j : Int) := by omega
      obtain ⟨q1, q2, q3, q4⟩ := parts_at hx
      obtain ⟨F1, I1, L1, _⟩ := OK.out j (by have := HNS.out; omega)
      have hi1 := F1.els i p HI.out
      obtain ⟨ns, hpd1⟩ := F1.node pd HPD.out
      obtain ⟨ad, A1, c1, A3, c3, hAd, y0, y1, y2, y3, le1, C1, le3, C3⟩ := at_T38 HC.out (j : Int) hj0 (by omega)
      cases hAd
      rw [rd38 hx] at y0 y1 y2 y3 le1 C1 le3 C3
      have hcell : ∀ {a : Addr} {v : Value}, W0.cell? a = some v → wr.cell? a = some v := fun {a v} h => (HP.out.b0.cell (World.block_lt_of_cell? W0 _ h)).trans h
      replace y0 := hcell y0
      replace y1 := hcell y1
      replace y2 := hcell y2
      replace y3 := hcell y3
      rw [Int.toNat_natCast] at y0 y1 y2 y3
      clear hcell
      have HLE1 := Lib.hid le1
      have HC1 := Lib.hid C1
      have HLE3 := Lib.hid le3
      have HC3 := Lib.hid C3
      have e1 := wN_eq x
      have e2 := nN_eq x
      have e3 := tN_eq x
      have HX := Lib.hid hx
      have HQ := Lib.hid (And.intro q1 (And.intro q2 (And.intro q3 (And.intro e1 (And.intro e2 e3)))))
      have HQ4 := Lib.hid q4
      have hps : m.putL i (l.take (j + 1)) = (m.putL i (l.take j)).putN i x := by rw [q4, putL_snoc]
      rw [putN_eq] at hps
      have HI1 := Lib.hid I1
      have HL1 := Lib.hid L1
      have HE1 := Lib.hid hi1
      have HD1 := Lib.hid hpd1
      have HBXr := Lib.hid (HK.out bx _ _ (by decide) (by decide) (by decide) HBX.out)
      have HB2r := Lib.hid (HK.out b2 _ _ (by decide) (by decide) (by decide) HB2.out)
      clear le1 C1 le3 C3 q1 q2 q3 q4 F1 I1 L1 hi1 hpd1 e1 e2 e3 hx
      generalize m.putL i (l.take j) = m1 at *
      have HPS := Lib.hid hps
      clear hps
      go_upto_region 4 with fail
      have X1 := Lib.hid (heap_alloc_new wr (.cells #[.string x.f0, .slice A1 x.f1.length c1, .string x.f2, .slice A3 x.f3.length c3] 38))
      have W1 := Lib.hid (show Below wr.heap.size wr (wr.alloc (.cells #[.string x.f0, .slice A1 x.f1.length c1, .string x.f2, .slice A3 x.f3.length c3] 38)) from (Below.refl _ _).alloc (Nat.le_refl _) _)
      generalize hw1 : wr.alloc (.cells #[.string x.f0, .slice A1 x.f1.length c1, .string x.f2, .slice A3 x.f3.length c3] 38) = w1 at *
      clear hw1 y0 y1 y2 y3
      have P1 := Lib.hid (HP.out.below W1.out)
      have K1 := Lib.hid (HK.out.trans (Kq.of_below W1.out))
      have BX1 := Lib.hid (Kq.of_below W1.out bx _ _ (by decide) (by decide) (by decide) HBXr.out)
      have B21 := Lib.hid (Kq.of_below W1.out b2 _ _ (by decide) (by decide) (by decide) HB2r.out)
      clear HP HK HBXr HB2r W1
      have z0 := blk_cell X1.out 0
      have z1 := blk_cell X1.out 1
      have z2 := blk_cell X1.out 2
      have z3 := blk_cell X1.out 3
      have u0 := blk_cell BX1.out 0
      try simp only [List.getElem?_toArray, List.getElem?_cons_zero, List.getElem?_cons_succ] at z0 z1 z2 z3 u0
      by_cases hn0 : x.f0.toList = []
      · rw [if_pos hn0] at HPS
        have x1 : (x.f0.toList == []) = true := by rw [hn0]; rfl
        have CT := Lib.hid (P1.out.text HI1.out (by have := HL1.out; have := HNS.out; have := HQ.out; omega) HE1.out x.f2 (by have := HNS.out; have := HQ.out; omega))
        go_wp2_with (go_at_call 18; refine CT.out.mono ?_; rintro e w2 ⟨rfl, hP2, hK2⟩; have P2 := Lib.hid hP2; have K2 := Lib.hid hK2; clear hP2 hK2)
        go_roundg (gk - 1)
        case measure => omega
        case rel => exact ⟨j + 1, by first | rfl | go_num, by omega, by omega, Lib.hid (by rw [HPS.out]; exact P2.out), Lib.hid (K1.out.trans K2.out)⟩
      · rw [if_neg hn0] at HPS
        have x1 : (x.f0.toList == []) = false := by
          cases e : x.f0.toList with
          | nil => exact absurd e hn0
          | cons _ _ => rfl
        obtain ⟨IC, EC1, EC2, NC, LC⟩ := child_ok HI1.out HE1.out HD1.out hn0 (ofA x.f1) (by simp only [ofA, List.length_map]; have := HNS.out; have := HQ.out; omega)
        have HIC := Lib.hid IC
        have HEC := Lib.hid (And.intro EC1 (And.intro EC2 (And.intro NC LC)))
        clear IC EC1 EC2 NC LC
        have hD1 : Below wr.heap.size w1 w1.drew := ⟨rfl, rfl, rfl, Nat.le_refl _, fun _ _ => rfl⟩
        have P1d := Lib.hid (P1.out.below (w1 := w1.drew) ⟨rfl, rfl, rfl, Nat.le_refl _, fun _ _ => rfl⟩)
        have X1d := Lib.hid (show w1.drew.heap[wr.heap.size]? = some (.cells #[.string x.f0, .slice A1 x.f1.length c1, .string x.f2, .slice A3 x.f3.length c3] 38 (0, 0)) from X1.out)
        have BX1d := Lib.hid (show w1.drew.heap[bx]? = some (.cells #[.pointer (some ⟨g, 0, none⟩)] 33 (0, 0)) from BX1.out)
        have B21d := Lib.hid (show w1.drew.heap[b2]? = some (.cells #[.func (Fn.func 17) #[] #[.pointer (some ⟨bx, 0, none⟩), .pointer (some ⟨b2, 0, none⟩)]] 35 (0, 0)) from B21.out)
        have K1d := Lib.hid (show Kq w w1.drew from K1.out)
        have hf1 : x.f1.length ≤ 4000000 := by have := HNS.out; have := HQ.out; omega
        have HF1 := Lib.hid hf1
        have C20 := Lib.hid (decanterlaw06_Of.calls 4000001 A1 c1 x.f1 (ofA x.f1) w1.drew (Kd.C_below HC1.out P1d.out.b0) HLE1.out (ofA_eq x.f1 hf1 4000001 (by omega)))
        have hm1 := HL1.out
        have HM1 := Lib.hid (show m1.nodes.length + 1 + nL x.f3 ≤ 900000 ∧ T + tL (l.take j) + tL x.f3 ≤ 4000000000 ∧ wL x.f3 ≤ 4000000 ∧ wL x.f3 < N by have := HNS.out; have := HQ.out; omega)
        have hla : (ofA x.f1).length ≤ 4000000 := by simp only [ofA, List.length_map]; exact hf1
        have HLA := Lib.hid hla
        clear X1 BX1 B21 K1 P1 z2 z3 hD1 hf1 hm1 hla
        have t0 : w1.drew.cell? ⟨wr.heap.size, 0, none⟩ = some (.string x.f0) := z0
        have t1 : w1.drew.cell? ⟨wr.heap.size, 1, none⟩ = some (.slice A1 x.f1.length c1) := z1
        have tu : w1.drew.cell? ⟨bx, 0, none⟩ = some (.pointer (some ⟨g, 0, none⟩)) := u0
        go_wp2_with fail
        clear z0 z1 u0
        go_region_held3 (fun w' => w'.cell? ⟨bx, 0, none⟩ = some (.pointer (some ⟨g, 0, none⟩)) ∧ w'.cell? ⟨wr.heap.size, 0, none⟩ = some (.string x.f0) ∧ w'.cell? ⟨wr.heap.size, 1, none⟩ = some (.slice A1 x.f1.length c1)) (first | assumption | exact ⟨tu, t0, t1⟩) (first
          | (go_at_call 20; refine C20.out.mono ?_; rintro e w2 ⟨v2, rfl, hR2, hB2⟩; have P2 := Lib.hid (P1d.out.below hB2); have X2 := Lib.hid (blk_below X1d.out hB2); have BX2 := Lib.hid (blk_below BX1d.out hB2); have B22 := Lib.hid (blk_below B21d.out hB2); have K2 := Lib.hid (K1d.out.trans (Kq.of_below hB2)); obtain ⟨A4, k4, rfl, le4, C4⟩ := Kd.R_reads hR2; have HC4 := Lib.hid C4; have HLE4 := Lib.hid le4; have s2 : w2.cell? ⟨bx, 0, none⟩ = some (.pointer (some ⟨g, 0, none⟩)) ∧ w2.cell? ⟨wr.heap.size, 0, none⟩ = some (.string x.f0) ∧ w2.cell? ⟨wr.heap.size, 1, none⟩ = some (.slice A1 x.f1.length c1) := ⟨blk_cell BX2.out 0, blk_cell X2.out 0, blk_cell X2.out 1⟩; clear hR2 hB2 C4 le4)
          | (go_at_call 19; refine (P2.out.element HI1.out (by have := HM1.out; omega) x.f0 A4 k4 (ofA x.f1) HC4.out HLE4.out HLA.out).mono ?_; rintro e w3 ⟨rfl, hP3, hK3⟩; have P3 := Lib.hid hP3; have X3 := Lib.hid (hK3 _ _ _ (by decide) (by decide) (by decide) X2.out); have BX3 := Lib.hid (hK3 _ _ _ (by decide) (by decide) (by decide) BX2.out); have B23 := Lib.hid (hK3 _ _ _ (by decide) (by decide) (by decide) B22.out); have K3 := Lib.hid (K2.out.trans hK3); have s3 : w3.cell? ⟨bx, 0, none⟩ = some (.pointer (some ⟨g, 0, none⟩)) ∧ w3.cell? ⟨wr.heap.size, 0, none⟩ = some (.string x.f0) ∧ w3.cell? ⟨wr.heap.size, 1, none⟩ = some (.slice A1 x.f1.length c1) := ⟨blk_cell BX3.out 0, blk_cell X3.out 0, blk_cell X3.out 1⟩; clear hP3 hK3))
        have C21 := Lib.hid (P3.out.append (B := 1000000) (element_wf HI1.out x.f0 (ofA x.f1) (by have := HM1.out; omega)) (Nat.le_refl _) (element_els m1 x.f0 (ofA x.f1) HE1.out).1 (element_els m1 x.f0 (ofA x.f1) HE1.out).2)
        have u3 := blk_cell BX3.out 0
        try simp only [List.getElem?_toArray, List.getElem?_cons_zero, List.getElem?_cons_succ] at u3
        clear C20 s2 s3 t0 t1 tu
        go_upto_region 8 with (go_at_call 21; refine C21.out.mono ?_; rintro e w4 ⟨rfl, hP4, hK4⟩; have P4 := Lib.hid (show Ps W0 w g nv ev vs (m1.child i x.f0 (ofA x.f1)) w4 from hP4); have X4 := Lib.hid (hK4 _ _ _ (by decide) (by decide) (by decide) X3.out); have BX4 := Lib.hid (hK4 _ _ _ (by decide) (by decide) (by decide) BX3.out); have B24 := Lib.hid (hK4 _ _ _ (by decide) (by decide) (by decide) B23.out); have K4 := Lib.hid (K3.out.trans hK4); clear hP4 hK4)
        generalize m1.child i x.f0 (ofA x.f1) = m2 at *
        have C22 := Lib.hid (P4.out.parent HIC.out (by have := HM1.out; have := HEC.out; omega) HEC.out.2.1 HEC.out.2.2.1 HEC.out.1 rfl)
        have u4 := blk_cell BX4.out 0
        have v4 := blk_cell B24.out 0
        have z4 := blk_cell X4.out 3
        try simp only [List.getElem?_toArray, List.getElem?_cons_zero, List.getElem?_cons_succ] at u4 v4 z4
        obtain ⟨nv5, ev5, vs5, hA5, hF5, hK5⟩ := P4.out.left
        have A5 := Lib.hid hA5
        have F5 := Lib.hid hF5
        have K5 := Lib.hid hK5
        clear hA5 hF5 hK5 C21 u3
        have C17 := Lib.hid (fun n => IH.out (wL x.f3) HM1.out.2.2.2 x.f3 (Nat.le_refl _) m2 (T + tL (l.take j)) m1.elems.length m1.nodes.length _ A3 c3 (w4.drewN n) nv5 ev5 vs5 (A5.out.below ⟨rfl, rfl, rfl, Nat.le_refl _, fun _ _ => rfl⟩) HIC.out HEC.out.2.1 HEC.out.2.2.1 (P4.out.b0.trans ⟨rfl, rfl, rfl, Nat.le_refl _, fun _ _ => rfl⟩) HC3.out HLE3.out BX4.out B24.out (by have := HM1.out; have := HEC.out; omega) (by have := HM1.out; omega) HM1.out.2.2.1)
        go_wp2_with (first
          | (go_at_call 22; refine C22.out.mono ?_; rintro e w5 ⟨rfl, n5, rfl⟩)
          | (go_at_call 17; refine (C17.out n5).mono ?_; rintro e w6 ⟨rfl, hP6, hK6⟩; have P6 := Lib.hid (show Ps W0 w g nv ev vs (m2.putL m1.elems.length x.f3) w6 from ((P4.out.on A5.out F5.out K5.out (Left.of_below (w1 := w4.drewN n5) ⟨rfl, rfl, rfl, Nat.le_refl _, fun _ _ => rfl⟩ hP6.left)).1)); have K6 := Lib.hid (K4.out.trans (show Kq w4 w6 from hK6)); clear hP6 hK6))
        go_roundg (gk - 1)
        case measure => omega
        case rel => exact ⟨j + 1, by first | rfl | go_num, by omega, by omega, Lib.hid (by rw [HPS.out]; exact P6.out), K6⟩
    · obtain rfl : j = l.length := by omega
      have hltz : ¬ ((l.length : Int) < (l.length : Int)) := by omega
      go_wp2_with fail
      go_ret
      exact ⟨rfl, by have := HP.out; rwa [List.take_length] at this, HK.out⟩
set_option maxRecDepth 100000 in
set_option maxHeartbeats 16000000 in
theorem put28 {W0 : World} {g bx b2 : Nat} : ∀ (N : Nat) (l : List S38), wL l ≤ N → ∀ (m : M) (T i p : Nat) (pd : Nd) (A0 : Option Addr) (c0 : Nat) (w : World) (nv ev : Value) (vs : List NV),
    At w W0.heap.size g m nv ev vs → Inv m T → m.elems[i]? = some p → m.nodes[p]? = some pd → Below W0.heap.size W0 w → Kd.C k38 W0 A0 l.length l → l.length ≤ c0 →
    w.heap[bx]? = some (.cells #[.pointer (some ⟨g, 0, none⟩)] 33 (0, 0)) → w.heap[b2]? = some (.cells #[.func (Fn.func 28) #[] #[.pointer (some ⟨bx, 0, none⟩), .pointer (some ⟨b2, 0, none⟩)]] 48 (0, 0)) →
    m.nodes.length + nL l ≤ 900000 → T + tL l ≤ 4000000000 → wL l ≤ 4000000 →
    Calls Try.prog 28 #[.int .i64 (i : Int), .slice A0 l.length c0, .pointer (some ⟨bx, 0, none⟩), .pointer (some ⟨b2, 0, none⟩)] w fun e w' => e = .returned (.tuple #[]) ∧ Ps W0 w g nv ev vs (m.putL i l) w' ∧ Kq w w' := by
  intro N
  induction N using Nat.strongRecOn with
  | _ N ih =>
  intro l hN m T i p pd A0 c0 w nv ev vs hA hI hi hpd hB hC hc hbx hb2 hn hT hw
  have OK := Lib.hid (fun j => putL_ok (l.take j) m T i p pd hI hi hpd)
  have HA := Lib.hid (Ps.start hA hB)
  have HC := Lib.hid hC
  have HBX := Lib.hid hbx
  have HB2 := Lib.hid hb2
  have HI := Lib.hid hi
  have HPD := Lib.hid hpd
  have IH := Lib.hid ih
  have hlen := len_wL l
  have HNS := Lib.hid (And.intro hn (And.intro hT (And.intro hw hN)))
  clear hA hI hi hpd hB hC hc hbx hb2 ih hn hT hw hN
  have hl0 : (l.length : Int) ≤ 4000000 := by have := HNS.out.2.2.1; omega
  go_enter Try.func28, Try.ntmps28
  go_upto_region 1 with fail
  go_loopg [11] (l.length + 1) (fun gg s11 wr => ∃ j : Nat, s11 = .int .i64 (j : Int) ∧ j ≤ l.length ∧ j + gg = l.length + 1 ∧ Hid (Ps W0 w g nv ev vs (m.putL i (l.take j)) wr) ∧ Hid (Kq w wr))
  case atStart => exact ⟨0, rfl, Nat.zero_le _, by omega, Lib.hid (by rw [List.take_zero, putL_nil]; exact HA.out), Lib.hid (Kq.refl _)⟩
  case round =>
    clear HA
    obtain ⟨j, rfl, hj, hgk, HP, HK⟩ := hrel
    by_cases hlt : j < l.length
    · obtain ⟨x, hx⟩ : ∃ x, l[j]? = some x := ⟨_, List.getElem?_eq_getElem hlt⟩
      have hltz : (j : Int) < (l.length : Int) := by omega
      have hj0 : (0 : Int) ≤ (j : Int) := by omega
      obtain ⟨q1, q2, q3, q4⟩ := parts_at hx
      obtain ⟨F1, I1, L1, _⟩ := OK.out j (by have := HNS.out; omega)
      have hi1 := F1.els i p HI.out
      obtain ⟨ns, hpd1⟩ := F1.node pd HPD.out
      obtain ⟨ad, A1, c1, A3, c3, hAd, y0, y1, y2, y3, le1, C1, le3, C3⟩ := at_T38 HC.out (j : Int) hj0 (by omega)
      cases hAd
      rw [rd38 hx] at y0 y1 y2 y3 le1 C1 le3 C3
      have hcell : ∀ {a : Addr} {v : Value}, W0.cell? a = some v → wr.cell? a = some v := fun {a v} h => (HP.out.b0.cell (World.block_lt_of_cell? W0 _ h)).trans h
      replace y0 := hcell y0
      replace y1 := hcell y1
      replace y2 := hcell y2
      replace y3 := hcell y3
      rw [Int.toNat_natCast] at y0 y1 y2 y3
      clear hcell
      have HLE1 := Lib.hid le1
      have HC1 := Lib.hid C1
      have HLE3 := Lib.hid le3
      have HC3 := Lib.hid C3
      have e1 := wN_eq x
      have e2 := nN_eq x
      have e3 := tN_eq x
      have HX := Lib.hid hx
      have HQ := Lib.hid (And.intro q1 (And.intro q2 (And.intro q3 (And.intro e1 (And.intro e2 e3)))))
      have HQ4 := Lib.hid q4
      have hps : m.putL i (l.take (j + 1)) = (m.putL i (l.take j)).putN i x := by rw [q4, putL_snoc]
      rw [putN_eq] at hps
      have HI1 := Lib.hid I1
      have HL1 := Lib.hid L1
      have HE1 := Lib.hid hi1
      have HD1 := Lib.hid hpd1
      have HBXr := Lib.hid (HK.out bx _ _ (by decide) (by decide) (by decide) HBX.out)
      have HB2r := Lib.hid (HK.out b2 _ _ (by decide) (by decide) (by decide) HB2.out)
      clear le1 C1 le3 C3 q1 q2 q3 q4 F1 I1 L1 hi1 hpd1 e1 e2 e3 hx
      generalize m.putL i (l.take j) = m1 at *
      have HPS := Lib.hid hps
      clear hps
      go_upto_region 3 with fail
      have X1 := Lib.hid (heap_alloc_new wr (.cells #[.string x.f0, .slice A1 x.f1.length c1, .string x.f2, .slice A3 x.f3.length c3] 38))
      have W1 := Lib.hid (show Below wr.heap.size wr (wr.alloc (.cells #[.string x.f0, .slice A1 x.f1.length c1, .string x.f2, .slice A3 x.f3.length c3] 38)) from (Below.refl _ _).alloc (Nat.le_refl _) _)
      generalize hw1 : wr.alloc (.cells #[.string x.f0, .slice A1 x.f1.length c1, .string x.f2, .slice A3 x.f3.length c3] 38) = w1 at *
      clear hw1 y0 y1 y2 y3
      have P1 := Lib.hid (HP.out.below W1.out)
      have K1 := Lib.hid (HK.out.trans (Kq.of_below W1.out))
      have BX1 := Lib.hid (Kq.of_below W1.out bx _ _ (by decide) (by decide) (by decide) HBXr.out)
      have B21 := Lib.hid (Kq.of_below W1.out b2 _ _ (by decide) (by decide) (by decide) HB2r.out)
      clear HP HK HBXr HB2r W1
      have z0 := blk_cell X1.out 0
      have z1 := blk_cell X1.out 1
      have z2 := blk_cell X1.out 2
      have z3 := blk_cell X1.out 3
      have u0 := blk_cell BX1.out 0
      try simp only [List.getElem?_toArray, List.getElem?_cons_zero, List.getElem?_cons_succ] at z0 z1 z2 z3 u0
      by_cases hn0 : x.f0.toList = []
      · rw [if_pos hn0] at HPS
        have x1 : (x.f0.toList == []) = true := by rw [hn0]; rfl
        have CT := Lib.hid (P1.out.text HI1.out (by have := HL1.out; have := HNS.out; have := HQ.out; omega) HE1.out x.f2 (by have := HNS.out; have := HQ.out; omega))
        go_wp2_with (go_at_call 18; refine CT.out.mono ?_; rintro e w2 ⟨rfl, hP2, hK2⟩; have P2 := Lib.hid hP2; have K2 := Lib.hid hK2; clear hP2 hK2)
        go_roundg (gk - 1)
        case measure => omega
        case rel => exact ⟨j + 1, by first | rfl | go_num, by omega, by omega, Lib.hid (by rw [HPS.out]; exact P2.out), Lib.hid (K1.out.trans K2.out)⟩
      · rw [if_neg hn0] at HPS
        have x1 : (x.f0.toList == []) = false := by
          cases e : x.f0.toList with
          | nil => exact absurd e hn0
          | cons _ _ => rfl
        obtain ⟨IC, EC1, EC2, NC, LC⟩ := child_ok HI1.out HE1.out HD1.out hn0 (ofA x.f1) (by simp only [ofA, List.length_map]; have := HNS.out; have := HQ.out; omega)
        have HIC := Lib.hid IC
        have HEC := Lib.hid (And.intro EC1 (And.intro EC2 (And.intro NC LC)))
        clear IC EC1 EC2 NC LC
        have hD1 : Below wr.heap.size w1 w1.drew := ⟨rfl, rfl, rfl, Nat.le_refl _, fun _ _ => rfl⟩
        have P1d := Lib.hid (P1.out.below (w1 := w1.drew) ⟨rfl, rfl, rfl, Nat.le_refl _, fun _ _ => rfl⟩)
        have X1d := Lib.hid (show w1.drew.heap[wr.heap.size]? = some (.cells #[.string x.f0, .slice A1 x.f1.length c1, .string x.f2, .slice A3 x.f3.length c3] 38 (0, 0)) from X1.out)
        have BX1d := Lib.hid (show w1.drew.heap[bx]? = some (.cells #[.pointer (some ⟨g, 0, none⟩)] 33 (0, 0)) from BX1.out)
        have B21d := Lib.hid (show w1.drew.heap[b2]? = some (.cells #[.func (Fn.func 28) #[] #[.pointer (some ⟨bx, 0, none⟩), .pointer (some ⟨b2, 0, none⟩)]] 48 (0, 0)) from B21.out)
        have K1d := Lib.hid (show Kq w w1.drew from K1.out)
        have hf1 : x.f1.length ≤ 4000000 := by have := HNS.out; have := HQ.out; omega
        have HF1 := Lib.hid hf1
        have C20 := Lib.hid (decanterlaw06_Of.calls 4000001 A1 c1 x.f1 (ofA x.f1) w1.drew (Kd.C_below HC1.out P1d.out.b0) HLE1.out (ofA_eq x.f1 hf1 4000001 (by omega)))
        have hm1 := HL1.out
        have HM1 := Lib.hid (show m1.nodes.length + 1 + nL x.f3 ≤ 900000 ∧ T + tL (l.take j) + tL x.f3 ≤ 4000000000 ∧ wL x.f3 ≤ 4000000 ∧ wL x.f3 < N by have := HNS.out; have := HQ.out; omega)
        have hla : (ofA x.f1).length ≤ 4000000 := by simp only [ofA, List.length_map]; exact hf1
        have HLA := Lib.hid hla
        clear X1 BX1 B21 K1 P1 z2 z3 hD1 hf1 hm1 hla
        have t0 : w1.drew.cell? ⟨wr.heap.size, 0, none⟩ = some (.string x.f0) := z0
        have t1 : w1.drew.cell? ⟨wr.heap.size, 1, none⟩ = some (.slice A1 x.f1.length c1) := z1
        have tu : w1.drew.cell? ⟨bx, 0, none⟩ = some (.pointer (some ⟨g, 0, none⟩)) := u0
        go_wp2_with fail
        clear z0 z1 u0
        go_region_held3 (fun w' => w'.cell? ⟨bx, 0, none⟩ = some (.pointer (some ⟨g, 0, none⟩)) ∧ w'.cell? ⟨wr.heap.size, 0, none⟩ = some (.string x.f0) ∧ w'.cell? ⟨wr.heap.size, 1, none⟩ = some (.slice A1 x.f1.length c1)) (first | assumption | exact ⟨tu, t0, t1⟩) (first
          | (go_at_call 20; refine C20.out.mono ?_; rintro e w2 ⟨v2, rfl, hR2, hB2⟩; have P2 := Lib.hid (P1d.out.below hB2); have X2 := Lib.hid (blk_below X1d.out hB2); have BX2 := Lib.hid (blk_below BX1d.out hB2); have B22 := Lib.hid (blk_below B21d.out hB2); have K2 := Lib.hid (K1d.out.trans (Kq.of_below hB2)); obtain ⟨A4, k4, rfl, le4, C4⟩ := Kd.R_reads hR2; have HC4 := Lib.hid C4; have HLE4 := Lib.hid le4; have s2 : w2.cell? ⟨bx, 0, none⟩ = some (.pointer (some ⟨g, 0, none⟩)) ∧ w2.cell? ⟨wr.heap.size, 0, none⟩ = some (.string x.f0) ∧ w2.cell? ⟨wr.heap.size, 1, none⟩ = some (.slice A1 x.f1.length c1) := ⟨blk_cell BX2.out 0, blk_cell X2.out 0, blk_cell X2.out 1⟩; clear hR2 hB2 C4 le4)
          | (go_at_call 19; refine (P2.out.element HI1.out (by have := HM1.out; omega) x.f0 A4 k4 (ofA x.f1) HC4.out HLE4.out HLA.out).mono ?_; rintro e w3 ⟨rfl, hP3, hK3⟩; have P3 := Lib.hid hP3; have X3 := Lib.hid (hK3 _ _ _ (by decide) (by decide) (by decide) X2.out); have BX3 := Lib.hid (hK3 _ _ _ (by decide) (by decide) (by decide) BX2.out); have B23 := Lib.hid (hK3 _ _ _ (by decide) (by decide) (by decide) B22.out); have K3 := Lib.hid (K2.out.trans hK3); have s3 : w3.cell? ⟨bx, 0, none⟩ = some (.pointer (some ⟨g, 0, none⟩)) ∧ w3.cell? ⟨wr.heap.size, 0, none⟩ = some (.string x.f0) ∧ w3.cell? ⟨wr.heap.size, 1, none⟩ = some (.slice A1 x.f1.length c1) := ⟨blk_cell BX3.out 0, blk_cell X3.out 0, blk_cell X3.out 1⟩; clear hP3 hK3))
        have C21 := Lib.hid (P3.out.append (B := 1000000) (element_wf HI1.out x.f0 (ofA x.f1) (by have := HM1.out; omega)) (Nat.le_refl _) (element_els m1 x.f0 (ofA x.f1) HE1.out).1 (element_els m1 x.f0 (ofA x.f1) HE1.out).2)
        have u3 := blk_cell BX3.out 0
        try simp only [List.getElem?_toArray, List.getElem?_cons_zero, List.getElem?_cons_succ] at u3
        clear C20 s2 s3 t0 t1 tu
        go_upto_region 7 with (go_at_call 21; refine C21.out.mono ?_; rintro e w4 ⟨rfl, hP4, hK4⟩; have P4 := Lib.hid (show Ps W0 w g nv ev vs (m1.child i x.f0 (ofA x.f1)) w4 from hP4); have X4 := Lib.hid (hK4 _ _ _ (by decide) (by decide) (by decide) X3.out); have BX4 := Lib.hid (hK4 _ _ _ (by decide) (by decide) (by decide) BX3.out); have B24 := Lib.hid (hK4 _ _ _ (by decide) (by decide) (by decide) B23.out); have K4 := Lib.hid (K3.out.trans hK4); clear hP4 hK4)
        generalize m1.child i x.f0 (ofA x.f1) = m2 at *
        have u4 := blk_cell BX4.out 0
        have v4 := blk_cell B24.out 0
        have z4 := blk_cell X4.out 3
        try simp only [List.getElem?_toArray, List.getElem?_cons_zero, List.getElem?_cons_succ] at u4 v4 z4
        obtain ⟨nv5, ev5, vs5, hA5, hF5, hK5⟩ := P4.out.left
        have A5 := Lib.hid hA5
        have F5 := Lib.hid hF5
        have K5 := Lib.hid hK5
        clear hA5 hF5 hK5 C21 u3
        have C28 := Lib.hid (IH.out (wL x.f3) HM1.out.2.2.2 x.f3 (Nat.le_refl _) m2 (T + tL (l.take j)) m1.elems.length m1.nodes.length _ A3 c3 w4 nv5 ev5 vs5 A5.out HIC.out HEC.out.2.1 HEC.out.2.2.1 P4.out.b0 HC3.out HLE3.out BX4.out B24.out (by have := HM1.out; have := HEC.out; omega) (by have := HM1.out; omega) HM1.out.2.2.1)
        go_wp2_with (go_at_call 28; refine C28.out.mono ?_; rintro e w6 ⟨rfl, hP6, hK6⟩; have P6 := Lib.hid (P4.out.on A5.out F5.out K5.out hP6.left).1; have K6 := Lib.hid (K4.out.trans hK6); clear hP6 hK6)
        go_roundg (gk - 1)
        case measure => omega
        case rel => exact ⟨j + 1, by first | rfl | go_num, by omega, by omega, Lib.hid (by rw [HPS.out]; exact P6.out), K6⟩
    · obtain rfl : j = l.length := by omega
      have hltz : ¬ ((l.length : Int) < (l.length : Int)) := by omega
      go_wp2_with fail
      go_end0
      exact ⟨rfl, by have := HP.out; rwa [List.take_length] at this, HK.out⟩
end Go.Proofs.Ytcdkcnegejhnhaa.Ar
