/-
  The law ArenaMoves (fn 5), walked whole: it answers true of every two trees.
-/
import Derived.Test.YtcdkcnegejhnhaaArMoved
import Derived.Test.YtcdkcnegejhnhaaArBuilds
namespace Go.Proofs.Ytcdkcnegejhnhaa.Ar
open Go.RowKit Go.Proofs.Ytcdkcnegejhnhaa.PAr Go.Proofs.YtcdkcnegejhnhaaW.PrintWords Go.Proofs.YtcdkcnegejhnhaaW.PrintLast Go.Proofs.YtcdkcnegejhnhaaW.PrintMore
set_option linter.unusedVariables false
set_option linter.unusedSimpArgs false
section
variable {W0 w wr w1 : World} {g i j p q T : Nat} {m : M} {nv ev : Value} {vs : List NV}
theorem Ps.element' (h : Ps W0 w g nv ev vs m wr) (hn : m.nodes.length ≤ 999999) (he : m.elems.length ≤ 999999) (name : ByteArray) (A0 : Option Addr) (c0 : Nat) (attrs : List S105) (hC : Kd.C k105 wr A0 attrs.length attrs) (hc : attrs.length ≤ c0) (hl : attrs.length ≤ 4000000) :
    Calls Try.prog 19 #[.pointer (some ⟨g, 0, none⟩), .string name, .slice A0 attrs.length c0] wr fun e w' => e = .returned (.int .i64 (m.elems.length : Int)) ∧ Ps W0 w g nv ev vs (m.element name attrs) w' ∧ Kq wr w' := by
  obtain ⟨nv1, ev1, vs1, hA, hF, hK⟩ := h.left
  refine (element_calls hA name A0 c0 attrs hC hc (by omega) h.b0.size (by omega) (by omega)).mono ?_
  rintro e w2 ⟨rfl, hL⟩
  exact ⟨rfl, h.on hA hF hK hL⟩
theorem Ps.move (h : Ps W0 w g nv ev vs m wr) {B : Nat} (hW : WF m B T) {pd : Nd} (hi : m.elems[i]? = some p) (hj : m.elems[j]? = some q) (hpd : m.nodes[p]? = some pd) (hB : B + pd.inner.length ≤ 900000) :
    Calls Try.prog 29 #[.pointer (some ⟨g, 0, none⟩), .int .i64 (i : Int), .int .i64 (j : Int)] wr fun e w' => e = .returned (.tuple #[]) ∧ Ps W0 w g nv ev vs (m.moveL q pd.inner) w' ∧ Kq wr w' ∧ wr.heap.size ≤ w'.heap.size := by
  obtain ⟨nv1, ev1, vs1, hA, hF, hK⟩ := h.left
  refine (move_calls hA hW hi hj hpd hB h.b0.size).mono ?_
  rintro e w2 ⟨rfl, hL⟩
  exact ⟨rfl, (h.on hA hF hK hL).1, (h.on hA hF hK hL).2, hL.kp.size⟩
theorem Ps.nodes (h : Ps W0 w g nv ev vs m wr) (hS : Sm m) (f : Nat) (l : List S31) (hi : m.elems[i]? = some p) (he : m.exp f p = some l) (hl : m.elems.length ≤ 1000000) :
    Calls Try.prog 25 #[.pointer (some ⟨g, 0, none⟩), .int .i64 (i : Int)] wr fun e w' => ∃ v, e = .returned v ∧ Kd.R k31 31 w' wr.heap.size (fun _ => True) v l ∧ Below wr.heap.size wr w' := by
  obtain ⟨nv1, ev1, vs1, hA, hF, hK⟩ := h.left
  exact nodes_calls hA hS f l hi he hl
theorem Ps.parent' (h : Ps W0 w g nv ev vs m wr) (hn : m.elems.length ≤ 999999) (hj : m.elems[j]? = some q) {qd : Nd} (hq : m.nodes[q]? = some qd) (hi : m.elems[i]? = some p) (hu : ∀ k, m.elems[k]? = some p → k = i) (hp : qd.parent = some p) :
    Calls Try.prog 22 #[.pointer (some ⟨g, 0, none⟩), .int .i64 (j : Int)] wr fun e w' => e = .returned (.int .i64 (i : Int)) ∧ ∃ n, w' = wr.drewN n := by
  obtain ⟨nv1, ev1, vs1, hA, hF, hK⟩ := h.left
  have he : Lib.idxOf (zn m.elems) (pz qd.parent) = (i : Int) := by
    rw [hp]
    exact idx_of m.elems i p hi hu
  have := parent_calls hA hj hq (by omega)
  rw [he] at this
  exact this
/-- A row of another type has grown. -/
theorem Ps.grown (h : Ps W0 w g nv ev vs m wr) {row : Option Nat} (hg : wr.grownBy w1 row) (hr : ∀ k, row = some k → Typed wr 38 k ∧ W0.heap.size ≤ k ∧ w.heap.size ≤ k) : Ps W0 w g nv ev vs m w1 := by
  obtain ⟨nv1, ev1, vs1, hA, hF, hK⟩ := h.left
  have hK1 : Kp (fun k => row = some k) wr w1 := Kp.of_grown hg fun k hk => hk
  have hA1 : At w1 W0.heap.size g m nv1 ev1 vs1 := hA.keep hK1 fun k hk => by
    obtain ⟨⟨cs, hc⟩, _⟩ := hr k hk
    exact ⟨hA.apart hc (by decide) (by decide) (by decide), fun e => Typed.ne ⟨cs, hc⟩ e (by decide) rfl⟩
  refine ⟨⟨nv1, ev1, vs1, hA1, hF, ⟨hg.os.trans hK.os, hg.tape.trans hK.tape, hg.output.trans hK.output, Nat.le_trans hK.size hg.size, fun k hk hf => ?_⟩⟩, h.b0.trans (hK1.below h.b0.size fun k hk => (hr k hk).2.1)⟩
  exact (hg.block k (Nat.lt_of_lt_of_le hk hK.size) (fun e => by have := (hr k e.symm).2.2; omega)).trans (hK.block k hk hf)
end
/-- Rows of the document's nodes stay where an arena changes. -/
theorem nodes_kept {wb wm : World} {base n c : Nat} {A : Option Addr} {l : List S38} (h : Kd.R k38 38 wb base (fun _ => True) (.slice A n c) l) (hq : Kq wb wm) :
    ∃ ok : Nat → Prop, Kd.F k38 wm ok A n l ∧ (∀ k, ok k → base ≤ k ∧ k < wb.heap.size) := by
  have hb := Kd.R_bound h
  refine ⟨_, Kd.F_step (Kd.N_F (Kd.R_N hb)) (fun k hk _ => ?_), fun k hk => ⟨hk.2.1, hk.2.2.1⟩⟩
  obtain ⟨_, _, hlt, q, hq2, cells, hc⟩ := hk
  have hq3 : q = 38 ∨ q = 106 := by simpa [k38, Kd.fix] using hq2
  rw [hc]
  exact hq k cells q (by omega) (by omega) (by omega) hc
theorem nodes_keptR {wb wm : World} {base : Nat} {v : Value} {l : List S38} (h : Kd.R k38 38 wb base (fun _ => True) v l) (hq : Kq wb wm) : Kd.R k38 38 wm base (fun _ => True) v l := by
  refine Kd.R_mono (Kd.R_move (Kd.R_bound h) (fun k hk => ?_)) (fun _ _ => trivial)
  obtain ⟨_, _, hlt, q, hq2, cells, hc⟩ := hk
  have hq3 : q = 38 ∨ q = 106 := by simpa [k38, Kd.fix] using hq2
  rw [hc]
  exact hq k cells q (by omega) (by omega) (by omega) hc
/-- A row of the document's nodes stays where an older row grows. -/
theorem nodes_grown {wb wm : World} {base n c : Nat} {A : Option Addr} {l : List S38} {row : Option Nat} (h : Kd.R k38 38 wb base (fun _ => True) (.slice A n c) l) (hg : wb.grownBy wm row) (hr : ∀ k, row = some k → k < base) : Kd.C k38 wm A n l := by
  refine Kd.F_now (Kd.F_grown (Kd.N_F (Kd.R_N (Kd.R_bound h))) hg fun k hk e => ?_)
  have := hr k e.symm
  have := hk.2.1
  omega
theorem WF.element {m : M} {B T : Nat} (h : WF m B T) (name : ByteArray) (attrs : List S105) : WF (m.element name attrs) (B + 1) T := by
  have hl : (m.element name attrs).nodes.length = m.nodes.length + 1 := by
    show (m.nodes ++ _).length = _
    rw [List.length_append]
    rfl
  have get : ∀ (k : Nat) (nd : Nd), (m.element name attrs).nodes[k]? = some nd → m.nodes[k]? = some nd ∨ nd = ⟨name, attrs, ⟨#[]⟩, none, []⟩ := by
    intro k nd hk
    have hk : (m.nodes ++ [⟨name, attrs, ⟨#[]⟩, none, []⟩])[k]? = some nd := hk
    by_cases h : k < m.nodes.length
    · rw [List.getElem?_append_left h] at hk
      exact .inl hk
    · rw [List.getElem?_append_right (by omega)] at hk
      exact .inr (List.mem_singleton.1 (List.mem_of_getElem? hk))
  constructor
  · intro i p hi
    have hi : (m.elems ++ [m.nodes.length])[i]? = some p := hi
    rw [hl]
    by_cases h' : i < m.elems.length
    · rw [List.getElem?_append_left h'] at hi
      have := h.els i p hi
      omega
    · rw [List.getElem?_append_right (by omega)] at hi
      have := List.mem_singleton.1 (List.mem_of_getElem? hi)
      omega
  · intro i nd hi p hp
    rw [hl]
    rcases get i nd hi with h' | rfl
    · have := h.par i nd h' p hp
      omega
    · cases hp
  · intro i nd hi
    rw [hl]
    rcases get i nd hi with h' | rfl
    · have := h.inn i nd h'
      exact ⟨fun k hk => by have := this.1 k hk; omega, by omega, this.2.2⟩
    · exact ⟨fun k hk => (by cases hk), Nat.zero_le _, Nat.zero_le _⟩
  · rw [hl]
    have := h.nlen
    omega
  · show (m.elems ++ [m.nodes.length]).length ≤ B + 1
    rw [List.length_append, List.length_singleton]
    have := h.elen
    omega
theorem wf2 : WF ((M.new.element sP []).element sQ []) 3 0 := ((inv_new.wf (show 1 ≤ 1 from Nat.le_refl _)).element sP []).element sQ []
theorem wf3 : WF (((M.new.element sP []).element sQ []).append 0 1) 4 0 := wf2.put 0 1 (by decide) (by decide)
set_option maxRecDepth 100000 in
set_option maxHeartbeats 16000000 in
theorem moves_calls (a b : List S38) (A0 : Option Addr) (c0 : Nat) (A1 : Option Addr) (c1 : Nat) (w : World) (ha : wL a ≤ 1100000) (hta : tL a ≤ 2000000) (hb : wL b ≤ 1100000) (htb : tL b ≤ 2000000) (hCa : Kd.C k38 w A0 a.length a) (hca : a.length ≤ c0) (hCb : Kd.C k38 w A1 b.length b) (hcb : b.length ≤ c1) :
    Calls Try.prog 5 #[.slice A0 a.length c0, .slice A1 b.length c1] w fun e w' => e = .returned (.bool true) ∧ Below w.heap.size w w' := by
  have HS := Lib.hid (fun w => speaks12 w)
  have HFa := Lib.hid (fun (W : World) (hb : Below w.heap.size w W) => decanterlaw12_few.calls 8000002 A0 c0 a (decide (nL a ≤ 60 ∧ dL a ≤ 20)) W (Kd.C_below hCa hb) hca (few_eq a (by omega) _ (Nat.le_refl _)))
  have HFb := Lib.hid (fun (W : World) (hb : Below w.heap.size w W) => decanterlaw12_few.calls 8000002 A1 c1 b (decide (nL b ≤ 60 ∧ dL b ≤ 20)) W (Kd.C_below hCb hb) hcb (few_eq b (by omega) _ (Nat.le_refl _)))
  have HCa := Lib.hid hCa
  have HLa := Lib.hid hca
  have HCb := Lib.hid hCb
  have HLb := Lib.hid hcb
  have HW := Lib.hid (And.intro ha (And.intro hta (And.intro hb htb)))
  clear hCa hca hCb hcb ha hta hb htb
  by_cases hfa : nL a ≤ 60 ∧ dL a ≤ 20
  · rw [decide_eq_true hfa] at HFa
    by_cases hfb : nL b ≤ 60 ∧ dL b ≤ 20
    · rw [decide_eq_true hfb] at HFb
      obtain ⟨ks, qs, oa, ob, hFd⟩ := filled a b (by have := HW.out; omega) (by have := HW.out; omega)
      have hMv := hFd.moved (by have := hFd.l6; omega)
      obtain ⟨oc, hoc⟩ : ∃ oc, ob ++ oa = oc := ⟨_, rfl⟩
      obtain ⟨og, hog⟩ : ∃ og, mgL [] b ++ mgL [] a = og := ⟨_, rfl⟩
      rw [hoc] at hMv
      have HOC := Lib.hid hoc
      have HOG := Lib.hid hog
      have FD := Lib.hid hFd
      have MV := Lib.hid hMv
      clear hFd hMv hoc hog
      go_enter Try.func5, Try.ntmps5
      go_upto_region 3 with (first | (go_at_call 12; refine (HS.out _).mono ?_; rintro e w1 ⟨rfl, hb1⟩; have HB1 := Lib.hid hb1; clear hb1) | (go_at_call 13; first | (refine (HFb.out _ HBa.out).mono ?_; rintro e w2 ⟨rfl, q2, rfl⟩) | (refine (HFa.out _ HB1.out).mono ?_; rintro e w2 ⟨rfl, q1, rfl⟩; have HBa := Lib.hid (show Below w.heap.size w (w1.drewN q1) from HB1.out.trans ⟨rfl, rfl, rfl, Nat.le_refl _, fun _ _ => rfl⟩))))
      have HB2 := Lib.hid (show Below w.heap.size w (w1.drewN (q1 + q2)) from HBa.out.trans ⟨rfl, rfl, rfl, Nat.le_refl _, fun _ _ => rfl⟩)
      generalize w1.drewN (q1 + q2) = w2 at *
      have HCa2 := Lib.hid (Kd.C_below HCa.out HB2.out)
      have HCb2 := Lib.hid (Kd.C_below HCb.out HB2.out)
      clear HS HFa HFb HB1 HBa HCa HCb
      go_upto_region 6 with (go_at_call 16; refine (new_calls _).mono ?_; rintro e w3 ⟨rfl, hA3, hB3⟩; have HA3 := Lib.hid hA3; have HB3 := Lib.hid hB3; clear hA3 hB3)
      have X1 := Lib.hid (heap_alloc_new w3 (.cells #[.pointer (some ⟨w2.heap.size, 0, none⟩)] 33))
      have HB4 := Lib.hid (show Below w2.heap.size w2 (w3.alloc (.cells #[.pointer (some ⟨w2.heap.size, 0, none⟩)] 33)) from HB3.out.trans ((Below.refl _ _).alloc HB3.out.size _))
      have HZ := Lib.hid (show (w3.alloc (.cells #[.pointer (some ⟨w2.heap.size, 0, none⟩)] 33)).heap.size = w3.heap.size + 1 from World.size_alloc _ _)
      have HA4 := Lib.hid (HA3.out.below ((Below.refl _ _).alloc (Nat.le_refl _) (.cells #[.pointer (some ⟨w2.heap.size, 0, none⟩)] 33)))
      generalize hw4 : w3.alloc (.cells #[.pointer (some ⟨w2.heap.size, 0, none⟩)] 33) = w4 at *
      clear hw4
      go_upto_region 7 with fail
      have X2 := Lib.hid (heap_alloc_new w4 (.cells #[.nilFunc] 48))
      have Y1 := Lib.hid (blk_alloc X1.out (.cells #[.nilFunc] 48))
      have HB5 := Lib.hid (show Below w2.heap.size w2 (w4.alloc (.cells #[.nilFunc] 48)) from HB4.out.alloc HB4.out.size _)
      have HA5 := Lib.hid (HA4.out.below ((Below.refl _ _).alloc (Nat.le_refl _) (.cells #[.nilFunc] 48)))
      generalize hw5 : w4.alloc (.cells #[.nilFunc] 48) = w5 at *
      clear hw5
      have c2 := blk_cell X2.out 0
      have f2 := blk_frozen X2.out 0
      try simp only [List.getElem?_toArray, List.getElem?_cons_zero, List.getElem?_cons_succ] at c2
      go_upto_region 8 with fail
      have X3 := Lib.hid (show (w5.setCell ⟨w4.heap.size, 0, none⟩ (Value.func (Fn.func 28) #[] #[.pointer (some ⟨w3.heap.size, 0, none⟩), .pointer (some ⟨w4.heap.size, 0, none⟩)])).heap[w4.heap.size]? = some (.cells #[Value.func (Fn.func 28) #[] #[.pointer (some ⟨w3.heap.size, 0, none⟩), .pointer (some ⟨w4.heap.size, 0, none⟩)]] 48 (0, 0)) from blk_put X2.out 0 _ rfl)
      have Y3 := Lib.hid (show (w5.setCell ⟨w4.heap.size, 0, none⟩ (Value.func (Fn.func 28) #[] #[.pointer (some ⟨w3.heap.size, 0, none⟩), .pointer (some ⟨w4.heap.size, 0, none⟩)])).heap[w3.heap.size]? = some (.cells #[.pointer (some ⟨w2.heap.size, 0, none⟩)] 33 (0, 0)) from (Below.heap_setCell w5 _ _ _ (by have := HZ.out; simp; omega)).trans Y1.out)
      have HB6 := Lib.hid (HB5.out.setCell (p := ⟨w4.heap.size, 0, none⟩) HB4.out.size (Value.func (Fn.func 28) #[] #[.pointer (some ⟨w3.heap.size, 0, none⟩), .pointer (some ⟨w4.heap.size, 0, none⟩)]))
      have HA6 := Lib.hid (show ∃ nv ev vs, At (w5.setCell ⟨w4.heap.size, 0, none⟩ (Value.func (Fn.func 28) #[] #[.pointer (some ⟨w3.heap.size, 0, none⟩), .pointer (some ⟨w4.heap.size, 0, none⟩)])) w2.heap.size w2.heap.size M.new nv ev vs from by
        obtain ⟨nv, ev, vs, hA, hF⟩ := HA5.out
        refine ⟨nv, ev, vs, hA.keep (foot := fun k => k = w4.heap.size) (Kp.setCell (foot := fun k => k = w4.heap.size) (Kp.refl _ _) (p := ⟨w4.heap.size, 0, none⟩) rfl _) fun k hk => ?_⟩
        subst hk
        refine ⟨fun e => ?_, fun e => Typed.ne ⟨_, X2.out⟩ e (by decide) rfl⟩
        have := (hF _ e).2
        have := HZ.out
        omega)
      generalize hw6 : w5.setCell ⟨w4.heap.size, 0, none⟩ (Value.func (Fn.func 28) #[] #[.pointer (some ⟨w3.heap.size, 0, none⟩), .pointer (some ⟨w4.heap.size, 0, none⟩)]) = w6 at *
      clear hw6 c2 f2 HA3 HA4 HA5 HB3 HB4 HB5 X1 X2 Y1
      obtain ⟨nv, ev, vs, hA6⟩ := HA6.out
      have P6 := Lib.hid ((Ps.start hA6 HB6.out).below (w1 := w6.drew) ⟨rfl, rfl, rfl, Nat.le_refl _, fun _ _ => rfl⟩)
      have Y6 := Lib.hid (show w6.drew.heap[w3.heap.size]? = some (.cells #[.pointer (some ⟨w2.heap.size, 0, none⟩)] 33 (0, 0)) from Y3.out)
      have X6 := Lib.hid (show w6.drew.heap[w4.heap.size]? = some (.cells #[Value.func (Fn.func 28) #[] #[.pointer (some ⟨w3.heap.size, 0, none⟩), .pointer (some ⟨w4.heap.size, 0, none⟩)]] 48 (0, 0)) from X3.out)
      clear hA6 HA6 HB6 Y3 X3
      have t6 := blk_cell Y6.out 0
      try simp only [List.getElem?_toArray, List.getElem?_cons_zero, List.getElem?_cons_succ] at t6
      have C1 := Lib.hid (show Calls Try.prog 19 #[.pointer (some ⟨w2.heap.size, 0, none⟩), .string ⟨#[112]⟩, .slice none 0 0] w6.drew fun e w' => e = .returned (.int .i64 1) ∧ Ps w2 w6 w2.heap.size nv ev vs (M.new.element sP []) w' ∧ Kq w6.drew w' from P6.out.element' (by decide) (by decide) sP none 0 [] (Kd.C_nil _ _) (Nat.le_refl _) (Nat.zero_le _))
      go_region_held3 (fun w' => w'.cell? ⟨w3.heap.size, 0, none⟩ = some (.pointer (some ⟨w2.heap.size, 0, none⟩))) (first | assumption) (first
        | (go_at_call 19; refine (show Calls Try.prog 19 #[.pointer (some ⟨w2.heap.size, 0, none⟩), .string ⟨#[113]⟩, .slice none 0 0] w7 fun e w' => e = .returned (.int .i64 2) ∧ Ps w2 w6 w2.heap.size nv ev vs ((M.new.element sP []).element sQ []) w' ∧ Kq w7 w' from P7.out.element' (by decide) (by decide) sQ none 0 [] (Kd.C_nil _ _) (Nat.le_refl _) (Nat.zero_le _)).mono ?_; rintro e w8 ⟨rfl, hP8, hK8⟩; have P8 := Lib.hid hP8; have Y8 := Lib.hid (hK8 _ _ _ (by decide) (by decide) (by decide) Y7.out); have X8 := Lib.hid (hK8 _ _ _ (by decide) (by decide) (by decide) X7.out); have t8 := blk_cell Y8.out 0; (try simp only [List.getElem?_toArray, List.getElem?_cons_zero, List.getElem?_cons_succ] at t8); clear hP8 hK8)
        | (go_at_call 19; refine C1.out.mono ?_; rintro e w7 ⟨rfl, hP7, hK7⟩; have P7 := Lib.hid hP7; have Y7 := Lib.hid (hK7 _ _ _ (by decide) (by decide) (by decide) Y6.out); have X7 := Lib.hid (hK7 _ _ _ (by decide) (by decide) (by decide) X6.out); have t7 := blk_cell Y7.out 0; (try simp only [List.getElem?_toArray, List.getElem?_cons_zero, List.getElem?_cons_succ] at t7); clear hP7 hK7))
      clear t6 t7 C1 P6 P7 Y6 Y7 X6 X7
      have C2 := Lib.hid (show Calls Try.prog 21 #[.pointer (some ⟨w2.heap.size, 0, none⟩), .int .i64 0, .int .i64 1] w8 fun e w' => e = .returned (.tuple #[]) ∧ Ps w2 w6 w2.heap.size nv ev vs (((M.new.element sP []).element sQ []).append 0 1) w' ∧ Kq w8 w' from P8.out.append (B := 3) (i := 0) (j := 1) (p := 0) (q := 1) wf2 (by decide) rfl rfl)
      have u8 := blk_cell Y8.out 0
      try simp only [List.getElem?_toArray, List.getElem?_cons_zero, List.getElem?_cons_succ] at u8
      go_upto_region 10 with (go_at_call 21; refine C2.out.mono ?_; rintro e w9 ⟨rfl, hP9, hK9⟩; have P9 := Lib.hid hP9; have Y9 := Lib.hid (hK9 _ _ _ (by decide) (by decide) (by decide) Y8.out); have X9 := Lib.hid (hK9 _ _ _ (by decide) (by decide) (by decide) X8.out); clear hP9 hK9)
      have C3 := Lib.hid (show Calls Try.prog 21 #[.pointer (some ⟨w2.heap.size, 0, none⟩), .int .i64 0, .int .i64 2] w9 fun e w' => e = .returned (.tuple #[]) ∧ Ps w2 w6 w2.heap.size nv ev vs m4 w' ∧ Kq w9 w' from P9.out.append (B := 4) (i := 0) (j := 2) (p := 0) (q := 2) wf3 (by decide) rfl rfl)
      have u9 := blk_cell Y9.out 0
      try simp only [List.getElem?_toArray, List.getElem?_cons_zero, List.getElem?_cons_succ] at u9
      go_upto_region 11 with (go_at_call 21; refine C3.out.mono ?_; rintro e w10 ⟨rfl, hP10, hK10⟩; have P10 := Lib.hid hP10; have Y10 := Lib.hid (hK10 _ _ _ (by decide) (by decide) (by decide) Y9.out); have X10 := Lib.hid (hK10 _ _ _ (by decide) (by decide) (by decide) X9.out); clear hP10 hK10)
      clear u8 u9 C2 C3 P8 P9 Y8 Y9 X8 X9
      have u10 := blk_cell X10.out 0
      try simp only [List.getElem?_toArray, List.getElem?_cons_zero, List.getElem?_cons_succ] at u10
      obtain ⟨nvA, evA, vsA, hAA, hFA, hKA⟩ := P10.out.left
      have C4 := Lib.hid (show Calls Try.prog 28 #[.int .i64 1, .slice A0 a.length c0, .pointer (some ⟨w3.heap.size, 0, none⟩), .pointer (some ⟨w4.heap.size, 0, none⟩)] w10 fun e w' => e = .returned (.tuple #[]) ∧ Ps w2 w10 w2.heap.size nvA evA vsA (m4.putL 1 a) w' ∧ Kq w10 w' from
        put28 (W0 := w2) (g := w2.heap.size) (bx := w3.heap.size) (b2 := w4.heap.size) (wL a) a (Nat.le_refl _) m4 0 1 1 ⟨sP, [], e0, some 0, []⟩ A0 c0 w10 nvA evA vsA hAA inv4 rfl rfl P10.out.b0 HCa2.out HLa.out Y10.out X10.out (by have : m4.nodes.length = 3 := rfl; omega) (by have := HW.out; omega) (by have := HW.out; omega))
      have AA := Lib.hid hAA
      have FA := Lib.hid hFA
      have KA := Lib.hid hKA
      clear hAA hFA hKA
      go_upto_region 12 with (go_at_call 28; refine C4.out.mono ?_; rintro e w11 ⟨rfl, hP11, hK11⟩; have P11 := Lib.hid (P10.out.on AA.out FA.out KA.out hP11.left).1; have Y11 := Lib.hid (hK11 _ _ _ (by decide) (by decide) (by decide) Y10.out); have X11 := Lib.hid (hK11 _ _ _ (by decide) (by decide) (by decide) X10.out); clear hP11 hK11)
      clear u10 C4 P10 Y10 X10 AA FA KA
      generalize m4.putL 1 a = m5 at *
      have u11 := blk_cell X11.out 0
      try simp only [List.getElem?_toArray, List.getElem?_cons_zero, List.getElem?_cons_succ] at u11
      obtain ⟨nvB, evB, vsB, hAB, hFB, hKB⟩ := P11.out.left
      have C5 := Lib.hid (show Calls Try.prog 28 #[.int .i64 2, .slice A1 b.length c1, .pointer (some ⟨w3.heap.size, 0, none⟩), .pointer (some ⟨w4.heap.size, 0, none⟩)] w11 fun e w' => e = .returned (.tuple #[]) ∧ Ps w2 w11 w2.heap.size nvB evB vsB (m5.putL 2 b) w' ∧ Kq w11 w' from
        put28 (W0 := w2) (g := w2.heap.size) (bx := w3.heap.size) (b2 := w4.heap.size) (wL b) b (Nat.le_refl _) m5 (tL a) 2 2 ⟨sQ, [], e0, some 0, []⟩ A1 c1 w11 nvB evB vsB hAB FD.out.i5 FD.out.e5 FD.out.q5 P11.out.b0 HCb2.out HLb.out Y11.out X11.out (by have := FD.out.l5; omega) (by have := HW.out; omega) (by have := HW.out; omega))
      have AB := Lib.hid hAB
      have FB := Lib.hid hFB
      have KB := Lib.hid hKB
      clear hAB hFB hKB
      go_upto_region 13 with (go_at_call 28; refine C5.out.mono ?_; rintro e w12 ⟨rfl, hP12, hK12⟩; have P12 := Lib.hid (P11.out.on AB.out FB.out KB.out hP12.left).1; have Y12 := Lib.hid (hK12 _ _ _ (by decide) (by decide) (by decide) Y11.out); clear hP12 hK12)
      clear u11 C5 P11 Y11 X11 AB FB KB
      generalize m5.putL 2 b = m6 at *
      have P12d := Lib.hid (P12.out.below (w1 := w12.drew) ⟨rfl, rfl, rfl, Nat.le_refl _, fun _ _ => rfl⟩)
      have Y12d := Lib.hid (show w12.drew.heap[w3.heap.size]? = some (.cells #[.pointer (some ⟨w2.heap.size, 0, none⟩)] 33 (0, 0)) from Y12.out)
      have t12 := blk_cell Y12d.out 0
      try simp only [List.getElem?_toArray, List.getElem?_cons_zero, List.getElem?_cons_succ] at t12
      have hl6 : m6.nodes.length ≤ 200 := by have := FD.out.l6; omega
      have hks : ks.length ≤ 200 := Nat.le_trans (show ks.length ≤ m6.nodes.length from (FD.out.i6.inn 1 _ FD.out.p6).1) hl6
      have hel : m6.elems.length ≤ 200 := by have := FD.out.i6.elen; omega
      have HN6 := Lib.hid (And.intro hl6 (And.intro hks hel))
      clear hl6 hks hel P12 Y12
      have HXa := Lib.hid (show xL oa ≤ 4000000 by rw [xL_to, FD.out.ta]; exact Nat.le_trans (mgL_w0 a) (by have := HW.out; omega))
      have HXb := Lib.hid (show xL ob ≤ 4000000 by rw [xL_to, FD.out.tb]; exact Nat.le_trans (mgL_w0 b) (by have := HW.out; omega))
      have HXc := Lib.hid (show xL oc ≤ 4000000 by rw [← HOC.out, xL_append, xL_to, xL_to, FD.out.ta, FD.out.tb]; have := mgL_w0 a; have := mgL_w0 b; have := HW.out; omega)
      have HTc := Lib.hid (show toL oc = og by rw [← HOC.out, ← HOG.out, toL_append, FD.out.ta, FD.out.tb])
      have HLn := Lib.hid (show (mgL [] b).length + (mgL [] a).length ≤ 2200000 by have h1 := len_wL (mgL [] a); have h2 := len_wL (mgL [] b); have := mgL_w0 a; have := mgL_w0 b; have := HW.out; omega)
      have HWc := Lib.hid (show wL og ≤ 4000000 by rw [← HOG.out, wL_append]; have := mgL_w0 a; have := mgL_w0 b; have := HW.out; omega)
      have C6 := Lib.hid (show Calls Try.prog 25 #[.pointer (some ⟨w2.heap.size, 0, none⟩), .int .i64 1] w12.drew fun e w' => ∃ v, e = .returned v ∧ Kd.R k31 31 w' w12.drew.heap.size (fun _ => True) v oa ∧ Below w12.drew.heap.size w12.drew w' from P12d.out.nodes (i := 1) (p := 1) (FD.out.i6.sm (by have := HN6.out; omega)) (dL a + dL b + 1) oa FD.out.e61 FD.out.xa (by have := HN6.out; omega))
      go_region_held3 (fun w' => w'.cell? ⟨w3.heap.size, 0, none⟩ = some (.pointer (some ⟨w2.heap.size, 0, none⟩))) (first | assumption) (first
        | (go_at_call 24; refine (decanterlaw12_To.calls 8000002 A15 k15 ob (toL ob) _ C15.out L15.out (to_eq 4000000 ob HXb.out (Nat.le_refl _) _ (Nat.le_refl _))).mono ?_; rintro e w16 ⟨v16, rfl, hR16, hB16⟩; rw [FD.out.tb] at hR16; obtain ⟨A16, k16, rfl, hle16, hC16⟩ := Kd.R_reads hR16; have R16 := Lib.hid hR16; have KQ := Lib.hid ((Kq.of_below B15.out).trans (Kq.of_below hB16)); have S15 := Lib.hid (show w14.heap.size ≤ w15.heap.size from B15.out.size); have S2 := Lib.hid (show w2.heap.size ≤ w15.heap.size from P15.out.b0.size); have S6 := Lib.hid (show w6.heap.size ≤ w15.heap.size from P15.out.left.kp.size); have B16 := Lib.hid hB16; have P16 := Lib.hid (P15.out.below hB16); have Y16 := Lib.hid (blk_below Y15.out hB16); have t16 := blk_cell Y16.out 0; (try simp only [List.getElem?_toArray, List.getElem?_cons_zero, List.getElem?_cons_succ] at t16); clear hR16 hB16 hle16 hC16)
        | (go_at_call 25; refine (show Calls Try.prog 25 #[.pointer (some ⟨w2.heap.size, 0, none⟩), .int .i64 2] w14 fun e w' => ∃ v, e = .returned v ∧ Kd.R k31 31 w' w14.heap.size (fun _ => True) v ob ∧ Below w14.heap.size w14 w' from P14.out.nodes (i := 2) (p := 2) (FD.out.i6.sm (by have := HN6.out; omega)) (dL a + dL b + 1) ob FD.out.e62 FD.out.xb (by have := HN6.out; omega)).mono ?_; rintro e w15 ⟨v15, rfl, hR15, hB15⟩; obtain ⟨A15, k15, rfl, hle15, hC15⟩ := Kd.R_reads hR15; have C15 := Lib.hid hC15; have L15 := Lib.hid hle15; have B15 := Lib.hid hB15; have P15 := Lib.hid (P14.out.below hB15); have Y15 := Lib.hid (blk_below Y14.out hB15); have t15 := blk_cell Y15.out 0; (try simp only [List.getElem?_toArray, List.getElem?_cons_zero, List.getElem?_cons_succ] at t15); clear hR15 hB15 hle15 hC15)
        | (go_at_call 24; refine (decanterlaw12_To.calls 8000002 A13 k13 oa (toL oa) _ C13.out L13.out (to_eq 4000000 oa HXa.out (Nat.le_refl _) _ (Nat.le_refl _))).mono ?_; rintro e w14 ⟨v14, rfl, hR14, hB14⟩; rw [FD.out.ta] at hR14; obtain ⟨A14, k14, rfl, hle14, hC14⟩ := Kd.R_reads hR14; have R14 := Lib.hid hR14; have P14 := Lib.hid (P13.out.below hB14); have Y14 := Lib.hid (blk_below Y13.out hB14); have t14 := blk_cell Y14.out 0; (try simp only [List.getElem?_toArray, List.getElem?_cons_zero, List.getElem?_cons_succ] at t14); clear hR14 hB14 hle14 hC14)
        | (go_at_call 25; refine C6.out.mono ?_; rintro e w13 ⟨v13, rfl, hR13, hB13⟩; obtain ⟨A13, k13, rfl, hle13, hC13⟩ := Kd.R_reads hR13; have C13 := Lib.hid hC13; have L13 := Lib.hid hle13; have P13 := Lib.hid (P12d.out.below hB13); have Y13 := Lib.hid (blk_below Y12d.out hB13); have t13 := blk_cell Y13.out 0; (try simp only [List.getElem?_toArray, List.getElem?_cons_zero, List.getElem?_cons_succ] at t13); clear hR13 hB13 hle13 hC13))
      have C7 := Lib.hid (show Calls Try.prog 29 #[.pointer (some ⟨w2.heap.size, 0, none⟩), .int .i64 1, .int .i64 2] w16 fun e w' => e = .returned (.tuple #[]) ∧ Ps w2 w6 w2.heap.size nv ev vs (m6.moveL 2 ks) w' ∧ Kq w16 w' ∧ w16.heap.size ≤ w'.heap.size from P16.out.move (B := m6.nodes.length) (i := 1) (j := 2) (FD.out.i6.wf (Nat.le_refl _)) FD.out.e61 FD.out.e62 FD.out.p6 (by have := HN6.out; show m6.nodes.length + ks.length ≤ 900000; omega))
      have u16 := blk_cell Y16.out 0
      try simp only [List.getElem?_toArray, List.getElem?_cons_zero, List.getElem?_cons_succ] at u16
      clear t12 t13 t14 t15 t16 C6 P12d P13 P14 P15 Y12d Y13 Y14 Y15 C13 L13 C15 L15
      go_upto_region 15 with (go_at_call 29; refine C7.out.mono ?_; rintro e w17 ⟨rfl, hP17, hK17, hS17⟩; have P17 := Lib.hid hP17; have S16 := Lib.hid (show w15.heap.size ≤ w17.heap.size by have h1 := B16.out.size; omega); have K17 := Lib.hid hK17; have Y17 := Lib.hid (hK17 _ _ _ (by decide) (by decide) (by decide) Y16.out); clear hP17 hK17)
      clear u16 C7 P16 Y16
      generalize m6.moveL 2 ks = m7 at *
      have hl7 : m7.elems.length ≤ 200 := by rw [MV.out.els7]; exact HN6.out.2.2
      have f61 : m7.elems[1]? = some 1 := by rw [MV.out.els7]; exact FD.out.e61
      have f62 : m7.elems[2]? = some 2 := by rw [MV.out.els7]; exact FD.out.e62
      have HF1 := Lib.hid f61
      have HF2 := Lib.hid f62
      have C8 := Lib.hid (show Calls Try.prog 25 #[.pointer (some ⟨w2.heap.size, 0, none⟩), .int .i64 1] w17 fun e w' => ∃ v, e = .returned v ∧ Kd.R k31 31 w' w17.heap.size (fun _ => True) v [] ∧ Below w17.heap.size w17 w' from P17.out.nodes (i := 1) (p := 1) MV.out.s7 (dL a + dL b + 1) [] f61 MV.out.x1 (by omega))
      have C9 := Lib.hid (fun (W : World) (hb : Below w17.heap.size w17 W) => (show Calls Try.prog 25 #[.pointer (some ⟨w2.heap.size, 0, none⟩), .int .i64 2] W fun e w' => ∃ v, e = .returned v ∧ Kd.R k31 31 w' W.heap.size (fun _ => True) v oc ∧ Below W.heap.size W w' from (P17.out.below hb).nodes (i := 2) (p := 2) MV.out.s7 (dL a + dL b + 1) oc f62 MV.out.x2 (by omega)))
      have HL7 := Lib.hid hl7
      clear hl7 f61 f62
      have u17 := blk_cell Y17.out 0
      try simp only [List.getElem?_toArray, List.getElem?_cons_zero, List.getElem?_cons_succ] at u17
      have R17 := Lib.hid (nodes_keptR R16.out K17.out)
      obtain ⟨ok9, hF9, hok9⟩ := nodes_kept R14.out (show Kq w14 w17 from KQ.out.trans K17.out)
      have F9 := Lib.hid hF9
      have OK9 := Lib.hid hok9
      clear hF9 hok9 R14 R16
      go_upto_region 17 with (first
        | (go_at_call 23; refine (decanterref12_Same.calls 8000002 A20 k20 og A21 k21 og true _ C20.out L20.out C21.out L21.out (same_self 4000000 og HWc.out (Nat.le_refl _) _ (Nat.le_refl _))).mono ?_; rintro e w22 ⟨rfl, hB22⟩; have P22 := Lib.hid (P21.out.below hB22); have Y22 := Lib.hid (blk_below Y21.out hB22); clear hB22)
        | (go_at_call 24; refine (decanterlaw12_To.calls 8000002 A19 k19 oc (toL oc) _ C19.out L19.out (to_eq 4000000 oc HXc.out (Nat.le_refl _) _ (Nat.le_refl _))).mono ?_; rintro e w20 ⟨v20, rfl, hR20, hB20⟩; rw [HTc.out] at hR20; obtain ⟨A20, k20, rfl, hle20, hC20⟩ := Kd.R_reads hR20; have R20 := Lib.hid hR20; have L20 := Lib.hid hle20; have B20 := Lib.hid (B19.out.trans (hB20.mono B19.out.size)); have Y20 := Lib.hid (blk_below Y17.out B20.out); have HSZ := Lib.hid (show w17.heap.size ≤ w19.heap.size from B19.out.size); clear hR20 hB20 hle20 hC20)
        | (go_at_call 25; refine (C9.out _ B18.out).mono ?_; rintro e w19 ⟨v19, rfl, hR19, hB19⟩; obtain ⟨A19, k19, rfl, hle19, hC19⟩ := Kd.R_reads hR19; have C19 := Lib.hid hC19; have L19 := Lib.hid hle19; have B19 := Lib.hid (B18.out.trans (hB19.mono B18.out.size)); have Y19 := Lib.hid (blk_below Y17.out B19.out); clear hR19 hB19 hle19 hC19)
        | (go_at_call 25; refine C8.out.mono ?_; rintro e w18 ⟨v18, rfl, hR18, hB18⟩; obtain ⟨A18, k18, hv18, hle18, hC18⟩ := Kd.R_reads hR18; rw [List.length_nil] at hv18; subst hv18; have B18 := Lib.hid hB18; have u18 := blk_cell (blk_below Y17.out hB18) 0; (try simp only [List.getElem?_toArray, List.getElem?_cons_zero, List.getElem?_cons_succ] at u18); clear hR18 hB18 hle18 hC18)
        | ((with_reducible refine gate_dst (N := 71) rfl ?_); go_loud (refine gate_guard (by rfl) ?_; dsimp only; refine Kd.N_append_rows k38 (w0 := w20) (W := w20) w15.heap.size rfl (.tmp 69) (.tmp 70) 22 38 (.agg #[(.string ⟨#[]⟩), (.slice none 0 0), (.string ⟨#[]⟩), (.slice none 0 0)]) 80 rfl Try.underlying22 info38 rfl (by decide) (by decide) (.slice A16 (mgL [] b).length k16) (mgL [] b) (mgL [] a) A14 (mgL [] a).length k14 (fun _ => True) ok9 rfl rfl (Kd.R_N (Kd.R_below R17.out B20.out)) (Kd.F_below F9.out B20.out) (fun k hk => ⟨trivial, fun e => by have h1 := Kd.N_base (Kd.R_N R17.out) k e.symm; have h2 := OK9.out k hk; have h3 := S15.out; omega⟩) (fun _ _ => trivial) (Below.refl _ _) (by have := S16.out; have := B20.out.size; omega) (by have := HLn.out; omega) ?_); intro v21 w21 hN21 hb21 hg21 _; rw [HOG.out] at hN21; obtain ⟨A21, k21, rfl, hle21, hC21⟩ := Kd.N_reads hN21; have C21 := Lib.hid hC21; have L21 := Lib.hid hle21; have C20 := Lib.hid (nodes_grown R20.out hg21 (fun k e => by have h1 := Kd.N_lt (Kd.R_N R17.out) k e; have h2 := HSZ.out; omega)); have P21 := Lib.hid ((P17.out.below B20.out).grown hg21 (fun k e => ⟨by obtain ⟨cs, hc⟩ := Kd.N_typed (Kd.R_N (Kd.R_below R17.out B20.out)) k e; exact ⟨cs, hc⟩, by have h1 := Kd.N_base (Kd.R_N R17.out) k e; have h2 := S2.out; omega, by have h1 := Kd.N_base (Kd.R_N R17.out) k e; have h2 := S6.out; omega⟩)); have Y21 := Lib.hid (blk_grown Y20.out hg21 (fun e => by obtain ⟨cs, hc⟩ := Kd.N_typed (Kd.R_N (Kd.R_below R17.out B20.out)) _ e.symm; exact Typed.ne ⟨_, Y20.out⟩ ⟨cs, hc⟩ (by decide) rfl)); clear hN21 hb21 hg21 hle21 hC21))
      have hap : m7.append 1 2 = m7.put 1 2 := by unfold M.append; rw [HF1.out, HF2.out]
      have C10 := Lib.hid (show Calls Try.prog 21 #[.pointer (some ⟨w2.heap.size, 0, none⟩), .int .i64 1, .int .i64 2] w22 fun e w' => e = .returned (.tuple #[]) ∧ Ps w2 w6 w2.heap.size nv ev vs (m7.put 1 2) w' ∧ Kq w22 w' from hap ▸ P22.out.append (B := m6.nodes.length + ks.length) (i := 1) (j := 2) (p := 1) (q := 2) MV.out.w7 (by have := HN6.out; omega) HF1.out HF2.out)
      clear hap
      have u22 := blk_cell Y22.out 0
      try simp only [List.getElem?_toArray, List.getElem?_cons_zero, List.getElem?_cons_succ] at u22
      go_upto_region 18 with (go_at_call 21; refine C10.out.mono ?_; rintro e w23 ⟨rfl, hP23, hK23⟩; have P23 := Lib.hid hP23; have Y23 := Lib.hid (hK23 _ _ _ (by decide) (by decide) (by decide) Y22.out); clear hP23 hK23)
      clear u17 u18 u22 C8 C9 C10 R17 F9 OK9 B18 B19 B20 C19 L19 C20 L20 R20 C21 L21 Y17 Y19 Y20 Y21 Y22 P17 P21 P22 HXa HXb HXc HTc HLn HWc
      generalize m7.put 1 2 = m8 at *
      have g0 : m8.elems[0]? = some 0 := by rw [MV.out.els8]; exact FD.out.e60
      have g1 : m8.elems[1]? = some 1 := by rw [MV.out.els8]; exact FD.out.e61
      have g2 : m8.elems[2]? = some 2 := by rw [MV.out.els8]; exact FD.out.e62
      have hl8 : m8.elems.length ≤ 200 := by rw [MV.out.els8]; exact HN6.out.2.2
      have hun : ∀ i p, m8.elems[i]? = some p → ∀ k, m8.elems[k]? = some p → k = i := fun i p h1 k h2 => by
        rw [MV.out.els8] at h1 h2
        exact FD.out.i6.uni k i p h2 h1
      obtain ⟨nd1, hn1, hp1⟩ := MV.out.p8
      obtain ⟨nd2, hn2, hp2⟩ := MV.out.q8
      have C11 := Lib.hid (show Calls Try.prog 25 #[.pointer (some ⟨w2.heap.size, 0, none⟩), .int .i64 0] w23 fun e w' => ∃ v, e = .returned v ∧ Kd.R k31 31 w' w23.heap.size (fun _ => True) v [⟨sP, [], e0, [⟨sQ, [], e0, oc⟩]⟩] ∧ Below w23.heap.size w23 w' from P23.out.nodes (i := 0) (p := 0) MV.out.s8 (dL a + dL b + 1 + 2) _ g0 MV.out.x8 (by omega))
      have C12 := Lib.hid (fun (W : World) (hb : Below w23.heap.size w23 W) => (show Calls Try.prog 22 #[.pointer (some ⟨w2.heap.size, 0, none⟩), .int .i64 2] W fun e w' => e = .returned (.int .i64 1) ∧ ∃ n, w' = W.drewN n from (P23.out.below hb).parent' (i := 1) (j := 2) (p := 1) (q := 2) (by omega) g2 hn2 g1 (hun 1 1 g1) hp2))
      have C13 := Lib.hid (fun (W : World) (hb : Below w23.heap.size w23 W) => (show Calls Try.prog 22 #[.pointer (some ⟨w2.heap.size, 0, none⟩), .int .i64 1] W fun e w' => e = .returned (.int .i64 0) ∧ ∃ n, w' = W.drewN n from (P23.out.below hb).parent' (i := 0) (j := 1) (p := 0) (q := 1) (by omega) g1 hn1 g0 (hun 0 0 g0) hp1))
      clear g0 g1 g2 hl8 hun hn1 hp1 hn2 hp2
      have u23 := blk_cell Y23.out 0
      try simp only [List.getElem?_toArray, List.getElem?_cons_zero, List.getElem?_cons_succ] at u23
      go_upto_region 19 with (go_at_call 25; refine C11.out.mono ?_; rintro e w24 ⟨v24, rfl, hR24, hB24⟩; have R24 := Lib.hid hR24; have B24 := Lib.hid hB24; obtain ⟨A24, k24, rfl, _, hC24⟩ := Kd.R_reads hR24; have C24 := Lib.hid hC24; clear hR24 hB24 hC24)
      obtain ⟨ad, a1, k1, a3, k3, hA, q0, q1, q2, q3, _⟩ := at_T31 C24.out 0 (by omega) (by simp)
      cases hA
      have y0 : w24.cell? ad = some (.string sP) := by simpa [Addr.add, rd_T31] using q0
      have y3 : w24.cell? ⟨ad.block, ad.off + 3, none⟩ = some (.slice a3 1 k3) := by simpa [Addr.add, rd_T31] using q3
      have x1 : (sP.toList == [112]) = true := by decide +kernel
      have u24 := blk_cell (blk_below Y23.out B24.out) 0
      try simp only [List.getElem?_toArray, List.getElem?_cons_zero, List.getElem?_cons_succ] at u24
      clear q0 q1 q2 q3 C11 u23 C24 R24
      generalize sP = SP at *
      have P24 := Lib.hid (P23.out.b0.trans (B24.out.mono P23.out.b0.size))
      go_wp2_with (first
        | (go_at_call 22; refine (C13.out (w24.drewN n25) (B24.out.trans ⟨rfl, rfl, rfl, Nat.le_refl _, fun _ _ => rfl⟩)).mono ?_; rintro e w26 ⟨rfl, n26, rfl⟩)
        | (go_at_call 22; refine (C12.out w24 B24.out).mono ?_; rintro e w25 ⟨rfl, n25, rfl⟩))
      go_ret
      exact ⟨rfl, HB2.out.trans ((P24.out.trans (show Below w2.heap.size w24 (w24.drewN (n25 + n26)) from ⟨rfl, rfl, rfl, Nat.le_refl _, fun _ _ => rfl⟩)).mono HB2.out.size)⟩
    · rw [decide_eq_false hfb] at HFb
      go_enter Try.func5, Try.ntmps5
      go_upto_region 2 with (first | (go_at_call 12; refine (HS.out _).mono ?_; rintro e w1 ⟨rfl, hb1⟩; have HB1 := Lib.hid hb1; clear hb1) | (go_at_call 13; first | (refine (HFb.out _ HBa.out).mono ?_; rintro e w2 ⟨rfl, q2, rfl⟩; have HBb := Lib.hid (show Below w.heap.size w (w1.drewN (q1 + q2)) from HBa.out.trans ⟨rfl, rfl, rfl, Nat.le_refl _, fun _ _ => rfl⟩)) | (refine (HFa.out _ HB1.out).mono ?_; rintro e w2 ⟨rfl, q1, rfl⟩; have HBa := Lib.hid (show Below w.heap.size w (w1.drewN q1) from HB1.out.trans ⟨rfl, rfl, rfl, Nat.le_refl _, fun _ _ => rfl⟩))))
      go_wp2_with (go_at_call 12; refine (HS.out _).mono ?_; rintro e w3 ⟨rfl, hb3⟩; have HB3 := Lib.hid hb3; clear hb3)
      go_ret
      exact ⟨rfl, HBb.out.trans (HB3.out.mono HBb.out.size)⟩
  · rw [decide_eq_false hfa] at HFa
    go_enter Try.func5, Try.ntmps5
    go_upto_region 2 with (first | (go_at_call 12; refine (HS.out _).mono ?_; rintro e w1 ⟨rfl, hb1⟩; have HB1 := Lib.hid hb1; clear hb1) | (go_at_call 13; refine (HFa.out _ HB1.out).mono ?_; rintro e w2 ⟨rfl, q1, rfl⟩; have HBa := Lib.hid (show Below w.heap.size w (w1.drewN q1) from HB1.out.trans ⟨rfl, rfl, rfl, Nat.le_refl _, fun _ _ => rfl⟩)))
    go_wp2_with (go_at_call 12; refine (HS.out _).mono ?_; rintro e w3 ⟨rfl, hb3⟩; have HB3 := Lib.hid hb3; clear hb3)
    go_ret
    exact ⟨rfl, HBa.out.trans (HB3.out.mono HBa.out.size)⟩
end Go.Proofs.Ytcdkcnegejhnhaa.Ar
