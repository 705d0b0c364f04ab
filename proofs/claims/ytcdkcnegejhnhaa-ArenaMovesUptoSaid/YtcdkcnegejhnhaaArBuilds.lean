/-
  The law ArenaBuilds (fn 4), walked whole: it answers true of every tree.
-/
import Derived.Test.YtcdkcnegejhnhaaArMerge
import Derived.Test.YtcdkcnegejhnhaaArSpeaks
namespace Go.Proofs.Ytcdkcnegejhnhaa.Ar
open Go.RowKit Go.Proofs.Ytcdkcnegejhnhaa.PAr Go.Proofs.YtcdkcnegejhnhaaW.PrintWords Go.Proofs.YtcdkcnegejhnhaaW.PrintLast Go.Proofs.YtcdkcnegejhnhaaW.PrintMore
set_option linter.unusedVariables false
set_option linter.unusedSimpArgs false
theorem heap106' : Kd.Heap k106 := Kd.heap_iso _ (Kd.heap_pair Kd.heap_string Kd.heap_string)
theorem heap38 : Kd.Heap k38 := Kd.heap_fix fun d hd => Kd.heap_iso _ (Kd.heap_pair Kd.heap_string (Kd.heap_pair (Kd.heap_slice 106 heap106') (Kd.heap_pair Kd.heap_string (Kd.heap_slice 38 hd))))
mutual
theorem xL_to : ∀ l : List S31, xL l = wL (toL l)
  | [] => by rw [xL, toL, wL]
  | x :: r => by rw [xL, toL, wL, xL_to r, xN_to x]
theorem xN_to : ∀ x : S31, xN x = wN (toN x)
  | ⟨n, a, t, i⟩ => by rw [xN, toN, wN, xL_to i, toA, List.length_map]
end
theorem snocT_w (out : List S38) (s : ByteArray) : wL (snocT out s) ≤ wL out + 1 := by
  have h1 : wL [(⟨⟨#[]⟩, [], s, []⟩ : S38)] = 1 := by simp [wL, wN]
  unfold snocT
  cases hl : out.getLast? with
  | none =>
    dsimp only
    split
    · omega
    · rw [wL_append, h1]; omega
  | some y =>
    obtain ⟨ys, rfl⟩ := List.getLast?_eq_some_iff.1 hl
    dsimp only
    split
    · rw [List.dropLast_concat, wL_append, wL_append]
      have : wL [(⟨y.f0, y.f1, y.f2 ++ s, y.f3⟩ : S38)] = wL [y] := by cases y; simp [wL, wN]
      omega
    · split
      · omega
      · rw [wL_append, h1]; omega
mutual
theorem mgL_w : ∀ (l out : List S38), wL (mgL out l) ≤ wL out + wL l
  | [], out => by rw [mgL_nil]; omega
  | x :: r, out => by
    rw [mgL_cons, wL]
    have h1 := mgL_w r (mgN out x)
    have h2 := mgN_w x out
    omega
theorem mgN_w : ∀ (x : S38) (out : List S38), wL (mgN out x) ≤ wL out + wN x
  | ⟨n, a, t, i⟩, out => by
    rw [mgN]
    split
    · have := snocT_w out t
      rw [wN]
      omega
    · have h := mgL_w i []
      have e : wL [(⟨n, a, ⟨#[]⟩, mgL [] i⟩ : S38)] = a.length + wL (mgL [] i) + 1 := by simp [wL, wN]
      have e0 : wL ([] : List S38) = 0 := by simp [wL]
      rw [wL_append, e, wN]
      omega
end
theorem mgL_w0 (l : List S38) : wL (mgL [] l) ≤ wL l := by
  have h := mgL_w l []
  have e0 : wL ([] : List S38) = 0 := by simp [wL]
  omega
theorem inv_new : Inv M.new 0 := by
  have get : ∀ (k : Nat) (nd : Nd), M.new.nodes[k]? = some nd → k = 0 ∧ nd = ⟨⟨#[]⟩, [], ⟨#[]⟩, none, []⟩ := by
    intro k nd hk
    have hl := (List.getElem?_eq_some_iff.1 hk).1
    have hl1 : M.new.nodes.length = 1 := rfl
    obtain rfl : k = 0 := by omega
    exact ⟨rfl, (Option.some.inj hk).symm⟩
  constructor
  · intro i p hi
    have := List.mem_singleton.1 (List.mem_of_getElem? (show [0][i]? = some p from hi))
    subst this
    exact Nat.one_pos
  · intro i j p hi hj
    have h1 := (List.getElem?_eq_some_iff.1 (show [0][i]? = some p from hi)).1
    have h2 := (List.getElem?_eq_some_iff.1 (show [0][j]? = some p from hj)).1
    simp at h1 h2
    omega
  · intro i nd p hi hp
    obtain ⟨_, rfl⟩ := get i nd hi
    cases hp
  · intro k nd c hk hc
    obtain ⟨_, rfl⟩ := get k nd hk
    cases hc
  · intro k nd hk
    obtain ⟨_, rfl⟩ := get k nd hk
    exact List.nodup_nil
  · intro k nd hk h0
    obtain ⟨rfl, _⟩ := get k nd hk
    omega
  · intro k nd hk
    obtain ⟨_, rfl⟩ := get k nd hk
    exact ⟨Nat.zero_le _, Nat.zero_le _, Nat.zero_le _⟩
  · exact Nat.le_refl _
/-- What stands in the root then. -/
theorem built (l : List S38) (hw : wL l ≤ 4000000) : Inv (M.new.putL 0 l) (tL l) ∧ (M.new.putL 0 l).nodes.length ≤ 1 + nL l ∧ (M.new.putL 0 l).elems[0]? = some 0 ∧ (M.new.putL 0 l).copies = 0 ∧ ∃ out, (M.new.putL 0 l).exp (dL l + 1) 0 = some out ∧ toL out = mgL [] l := by
  obtain ⟨h1, h2, h3, h4⟩ := putL_ok l M.new 0 0 0 ⟨⟨#[]⟩, [], ⟨#[]⟩, none, []⟩ inv_new rfl rfl hw
  rw [Nat.zero_add] at h2
  obtain ⟨out, h5, h6⟩ := h4 (dL l + 1) [] (Nat.lt_succ_self _) (exp_leaf rfl rfl)
  rw [toL] at h6
  exact ⟨h2, h3, h1.els 0 0 rfl, h1.cop, out, h5, h6⟩
set_option maxRecDepth 100000 in
set_option maxHeartbeats 16000000 in
theorem builds_calls (l : List S38) (A0 : Option Addr) (c0 : Nat) (w : World) (hw : wL l ≤ 4000000) (ht : tL l ≤ 4000000000) (hC : Kd.C k38 w A0 l.length l) (hc : l.length ≤ c0) :
    Calls Try.prog 4 #[.slice A0 l.length c0] w fun e w' => e = .returned (.bool true) ∧ Below w.heap.size w w' := by
  have HS := Lib.hid (fun w => speaks12 w)
  have HF := Lib.hid (fun (W : World) (hb : Below w.heap.size w W) => decanterlaw12_few.calls 8000002 A0 c0 l (decide (nL l ≤ 60 ∧ dL l ≤ 20)) W (Kd.C_below hC hb) hc (few_eq l hw _ (Nat.le_refl _)))
  have HC := Lib.hid hC
  have HL := Lib.hid hc
  have HW := Lib.hid (And.intro hw ht)
  clear hC hc hw ht
  by_cases hf : nL l ≤ 60 ∧ dL l ≤ 20
  · rw [decide_eq_true hf] at HF
    obtain ⟨I9, L9, E9, C9, out, X9, O9⟩ := built l HW.out.1
    have I9 := Lib.hid I9
    have L9 := Lib.hid L9
    have E9 := Lib.hid E9
    have X9 := Lib.hid X9
    have O9 := Lib.hid O9
    have C9 := Lib.hid C9
    go_enter Try.func4, Try.ntmps4
    go_upto_region 3 with (first | (go_at_call 12; refine (HS.out _).mono ?_; rintro e w1 ⟨rfl, hb1⟩; have HB1 := Lib.hid hb1; clear hb1) | (go_at_call 13; refine (HF.out _ HB1.out).mono ?_; rintro e w2 ⟨rfl, q2, rfl⟩))
    have HB2 := Lib.hid (show Below w.heap.size w (w1.drewN q2) from HB1.out.trans ⟨rfl, rfl, rfl, Nat.le_refl _, fun _ _ => rfl⟩)
    generalize w1.drewN q2 = w2 at *
    have HC2 := Lib.hid (Kd.C_below HC.out HB2.out)
    have HF2 := Lib.hid (Kd.C_F heap38 HC2.out)
    clear HS HF HB1
    go_upto_region 6 with (go_at_call 16; refine (new_calls _).mono ?_; rintro e w3 ⟨rfl, hA3, hB3⟩; have HA3 := Lib.hid hA3; have HB3 := Lib.hid hB3; clear hA3 hB3)
    have X1 := Lib.hid (heap_alloc_new w3 (.cells #[.pointer (some ⟨w2.heap.size, 0, none⟩)] 33))
    have HB4 := Lib.hid (show Below w2.heap.size w2 (w3.alloc (.cells #[.pointer (some ⟨w2.heap.size, 0, none⟩)] 33)) from HB3.out.trans ((Below.refl _ _).alloc HB3.out.size _))
    have HZ := Lib.hid (show (w3.alloc (.cells #[.pointer (some ⟨w2.heap.size, 0, none⟩)] 33)).heap.size = w3.heap.size + 1 from World.size_alloc _ _)
    have HA4 := Lib.hid (HA3.out.below ((Below.refl _ _).alloc (Nat.le_refl _) (.cells #[.pointer (some ⟨w2.heap.size, 0, none⟩)] 33)))
    generalize hw4 : w3.alloc (.cells #[.pointer (some ⟨w2.heap.size, 0, none⟩)] 33) = w4 at *
    clear hw4
    go_upto_region 7 with fail
    have X2 := Lib.hid (heap_alloc_new w4 (.cells #[.nilFunc] 35))
    have Y1 := Lib.hid (blk_alloc X1.out (.cells #[.nilFunc] 35))
    have HB5 := Lib.hid (show Below w2.heap.size w2 (w4.alloc (.cells #[.nilFunc] 35)) from HB4.out.alloc HB4.out.size _)
    have HA5 := Lib.hid (HA4.out.below ((Below.refl _ _).alloc (Nat.le_refl _) (.cells #[.nilFunc] 35)))
    generalize hw5 : w4.alloc (.cells #[.nilFunc] 35) = w5 at *
    clear hw5
    have c2 := blk_cell X2.out 0
    have f2 := blk_frozen X2.out 0
    try simp only [List.getElem?_toArray, List.getElem?_cons_zero, List.getElem?_cons_succ] at c2
    go_upto_region 8 with fail
    have X3 := Lib.hid (show (w5.setCell ⟨w4.heap.size, 0, none⟩ (Value.func (Fn.func 17) #[] #[.pointer (some ⟨w3.heap.size, 0, none⟩), .pointer (some ⟨w4.heap.size, 0, none⟩)])).heap[w4.heap.size]? = some (.cells #[Value.func (Fn.func 17) #[] #[.pointer (some ⟨w3.heap.size, 0, none⟩), .pointer (some ⟨w4.heap.size, 0, none⟩)]] 35 (0, 0)) from blk_put X2.out 0 _ rfl)
    have Y3 := Lib.hid (show (w5.setCell ⟨w4.heap.size, 0, none⟩ (Value.func (Fn.func 17) #[] #[.pointer (some ⟨w3.heap.size, 0, none⟩), .pointer (some ⟨w4.heap.size, 0, none⟩)])).heap[w3.heap.size]? = some (.cells #[.pointer (some ⟨w2.heap.size, 0, none⟩)] 33 (0, 0)) from (Below.heap_setCell w5 _ _ _ (by have := HZ.out; simp; omega)).trans Y1.out)
    have HB6 := Lib.hid (HB5.out.setCell (p := ⟨w4.heap.size, 0, none⟩) HB4.out.size (Value.func (Fn.func 17) #[] #[.pointer (some ⟨w3.heap.size, 0, none⟩), .pointer (some ⟨w4.heap.size, 0, none⟩)]))
    have HA6 := Lib.hid (show ∃ nv ev vs, At (w5.setCell ⟨w4.heap.size, 0, none⟩ (Value.func (Fn.func 17) #[] #[.pointer (some ⟨w3.heap.size, 0, none⟩), .pointer (some ⟨w4.heap.size, 0, none⟩)])) w2.heap.size w2.heap.size M.new nv ev vs from by
      obtain ⟨nv, ev, vs, hA, hF⟩ := HA5.out
      refine ⟨nv, ev, vs, hA.keep (foot := fun k => k = w4.heap.size) (Kp.setCell (foot := fun k => k = w4.heap.size) (Kp.refl _ _) (p := ⟨w4.heap.size, 0, none⟩) rfl _) fun k hk => ?_⟩
      subst hk
      refine ⟨fun e => ?_, fun e => Typed.ne ⟨_, X2.out⟩ e (by decide) rfl⟩
      have := (hF _ e).2
      have := HZ.out
      omega)
    generalize hw6 : w5.setCell ⟨w4.heap.size, 0, none⟩ (Value.func (Fn.func 17) #[] #[.pointer (some ⟨w3.heap.size, 0, none⟩), .pointer (some ⟨w4.heap.size, 0, none⟩)]) = w6 at *
    clear hw6 c2 f2 HA3 HA4 HA5 HB3 HB4 HB5 X1 X2 Y1
    obtain ⟨nv, ev, vs, hA6⟩ := HA6.out
    have A6 := Lib.hid hA6
    have C17 := Lib.hid (put17 (W0 := w2) (g := w2.heap.size) (bx := w3.heap.size) (b2 := w4.heap.size) (wL l) l (Nat.le_refl _) M.new 0 0 0 ⟨⟨#[]⟩, [], ⟨#[]⟩, none, []⟩ A0 c0 w6 nv ev vs hA6 inv_new rfl rfl HB6.out HC2.out HL.out Y3.out X3.out (by have : M.new.nodes.length = 1 := rfl; omega) (by have := HW.out; omega) HW.out.1)
    have c3 := blk_cell X3.out 0
    have c4 := blk_cell Y3.out 0
    try simp only [List.getElem?_toArray, List.getElem?_cons_zero, List.getElem?_cons_succ] at c3 c4
    clear hA6 HA6
    have HX := Lib.hid (show xL out ≤ 4000000 by rw [xL_to, O9.out]; exact Nat.le_trans (mgL_w0 l) HW.out.1)
    have HMW := Lib.hid (show wL (mgL [] l) ≤ 4000000 from Nat.le_trans (mgL_w0 l) HW.out.1)
    go_wp2_with (first
      | (go_at_call 17; refine C17.out.mono ?_; rintro e w7 ⟨rfl, hP7, hK7⟩; obtain ⟨nv7, ev7, vs7, hA7, _, _⟩ := hP7.left; have A7 := Lib.hid hA7; have B7 := Lib.hid hP7.b0; have c7 := blk_cell (hK7 _ _ _ (by decide) (by decide) (by decide) Y3.out) 0; (try simp only [List.getElem?_toArray, List.getElem?_cons_zero, List.getElem?_cons_succ] at c7); have Y7 := Lib.hid (hK7 _ _ _ (by decide) (by decide) (by decide) Y3.out); clear hP7 hK7 hA7)
      | (go_at_call 25; refine (nodes_calls A7.out (I9.out.sm (by have := L9.out; omega)) (dL l + 1) out E9.out X9.out (by have := L9.out; have := I9.out.elen; omega)).mono ?_; rintro e w8 ⟨v8, rfl, hR8, hB8⟩; obtain ⟨A8, k8, rfl, hle8, hC8⟩ := Kd.R_reads hR8; have B8 := Lib.hid hB8; have C8 := Lib.hid hC8; have L8 := Lib.hid hle8; clear hR8 hB8 hle8 hC8)
      | (go_at_call 24; refine (decanterlaw12_To.calls 8000002 A8 k8 out (toL out) _ C8.out L8.out (to_eq 4000000 out HX.out (Nat.le_refl _) _ (Nat.le_refl _))).mono ?_; rintro e w9 ⟨v9, rfl, hR9, hB9⟩; rw [O9.out] at hR9; obtain ⟨A9, k9, rfl, hle9, hC9⟩ := Kd.R_reads hR9; have B9 := Lib.hid hB9; have C9' := Lib.hid hC9; have L9' := Lib.hid hle9; clear hR9 hB9 hle9 hC9)
      | (go_at_call 26; refine (merge_calls (wL l) l (Nat.le_refl _) A0 c0 _ (fun k => k < w2.heap.size) (Kd.F_step HF2.out fun k hk _ => (B7.out.trans ((B8.out.mono B7.out.size).trans (B9.out.mono (Nat.le_trans B7.out.size B8.out.size)))).block k hk) HL.out HW.out.1 HW.out.2).mono ?_; rintro e w10 ⟨v10, rfl, hN10, hB10⟩; obtain ⟨A10, k10, rfl, hle10, hC10⟩ := Kd.N_reads hN10; have B10 := Lib.hid hB10; have C10 := Lib.hid hC10; have L10 := Lib.hid hle10; clear hN10 hB10 hle10 hC10)
      | (go_at_call 23; refine (decanterref12_Same.calls 8000002 A9 k9 (mgL [] l) A10 k10 (mgL [] l) true _ (Kd.C_below C9'.out B10.out) L9'.out C10.out L10.out (same_self 4000000 (mgL [] l) HMW.out (Nat.le_refl _) _ (Nat.le_refl _))).mono ?_; rintro e w11 ⟨rfl, hB11⟩; have B11 := Lib.hid hB11; have BT := Lib.hid (show Below w7.heap.size w7 w11 from ((B8.out.trans (B9.out.mono B8.out.size)).trans (B10.out.mono (Nat.le_trans B8.out.size B9.out.size))).trans (hB11.mono (Nat.le_trans B8.out.size (Nat.le_trans B9.out.size B10.out.size)))); have c11 := blk_cell (blk_below Y7.out BT.out) 0; (try simp only [List.getElem?_toArray, List.getElem?_cons_zero, List.getElem?_cons_succ] at c11); clear hB11)
      | (go_at_call 27; refine (copies_calls (A7.out.below BT.out)).mono ?_; rintro e w12 ⟨rfl, rfl⟩; have hcp := C9.out))
    go_ret
    exact ⟨rfl, HB2.out.trans ((B7.out.trans (BT.out.mono B7.out.size)).mono HB2.out.size)⟩
  · rw [decide_eq_false hf] at HF
    go_enter Try.func4, Try.ntmps4
    go_upto_region 2 with (first | (go_at_call 12; refine (HS.out _).mono ?_; rintro e w1 ⟨rfl, hb1⟩; have HB1 := Lib.hid hb1; clear hb1) | (go_at_call 13; refine (HF.out _ HB1.out).mono ?_; rintro e w2 ⟨rfl, q2, rfl⟩))
    have HB2 := Lib.hid (show Below w.heap.size w (w1.drewN q2) from HB1.out.trans ⟨rfl, rfl, rfl, Nat.le_refl _, fun _ _ => rfl⟩)
    generalize w1.drewN q2 = w2 at *
    go_wp2_with (go_at_call 12; refine (HS.out _).mono ?_; rintro e w3 ⟨rfl, hb3⟩; have HB3 := Lib.hid hb3; clear hb3)
    go_ret
    exact ⟨rfl, HB2.out.trans (HB3.out.mono HB2.out.size)⟩
end Go.Proofs.Ytcdkcnegejhnhaa.Ar
