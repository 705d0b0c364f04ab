/-
  Arenas: the document's example.
-/
import Derived.Test.YtcdkcnegejhnhaaArText
import Derived.Test.YtcdkcnegejhnhaaArExp
namespace Go.Proofs.Ytcdkcnegejhnhaa.Ar
open Go.RowKit Go.Proofs.Ytcdkcnegejhnhaa.PAr Go.Proofs.YtcdkcnegejhnhaaW.PrintWords Go.Proofs.YtcdkcnegejhnhaaW.PrintLast Go.Proofs.YtcdkcnegejhnhaaW.PrintMore
set_option linter.unusedVariables false
def sA : ByteArray := ⟨#[97]⟩
def sB : ByteArray := ⟨#[98]⟩
def sAB : ByteArray := ⟨#[97, 98]⟩
def e0 : ByteArray := ⟨#[]⟩
def m1 : M := ⟨[⟨e0, [], e0, none, [1]⟩, ⟨e0, [], sA, some 0, []⟩], [0], 0⟩
def m2 : M := ⟨[⟨e0, [], e0, none, [1]⟩, ⟨e0, [], sAB, some 0, []⟩], [0], 0⟩
theorem sA_list : sA.toList.isEmpty = false := by decide +kernel
theorem sB_list : sB.toList.isEmpty = false := by decide +kernel
theorem text1 : M.new.text 0 sA = m1 := by
  unfold M.text
  rw [sA_list]
  rfl
theorem isT1 : isT 1 ⟨e0, [], sA, some 0, []⟩ = true := by decide +kernel
theorem text2 : m1.text 0 sB = m2 := by
  unfold M.text
  rw [sB_list]
  show (if isT 1 ⟨e0, [], sA, some 0, []⟩ then m1.setText 1 ⟨e0, [], sA, some 0, []⟩ sB else m1.addText 0 sB) = m2
  rw [isT1]
  have : sA ++ sB = sAB := by decide +kernel
  show (⟨[⟨e0, [], e0, none, [1]⟩, ⟨e0, [], sA ++ sB, some 0, []⟩], [0], 0⟩ : M) = m2
  rw [this]
  rfl
theorem exp2 : m2.exp 2 0 = some [⟨e0, [], sAB, []⟩] := rfl
theorem wf_of (m : M) (n B T : Nat) (hn : m.nodes.length = n) (h1 : ∀ p ∈ m.elems, p < n) (h2 : ∀ nd ∈ m.nodes, (∀ p, nd.parent = some p → p < n) ∧ (∀ k ∈ nd.inner, k < n) ∧ nd.inner.length ≤ B ∧ nd.text.size ≤ T) (h3 : n ≤ B) (h4 : m.elems.length ≤ B) : WF m B T where
  els := fun i p h => by rw [hn]; exact h1 p (List.mem_of_getElem? h)
  par := fun i nd h p hp => by rw [hn]; exact (h2 nd (List.mem_of_getElem? h)).1 p hp
  inn := fun i nd h => by rw [hn]; exact (h2 nd (List.mem_of_getElem? h)).2
  nlen := by rw [hn]; exact h3
  elen := h4
theorem wf0 : WF M.new 9 9 := wf_of _ 1 _ _ rfl (by simp [M.new]) (fun nd h => by
  obtain rfl : nd = ⟨⟨#[]⟩, [], ⟨#[]⟩, none, []⟩ := by simpa [M.new] using h
  exact ⟨fun p hp => (by cases hp), fun k hk => (by cases hk), Nat.zero_le _, Nat.zero_le _⟩) (by omega) (by simp [M.new])
theorem wf1 : WF m1 9 9 := wf_of _ 2 _ _ rfl (by simp [m1]) (fun nd h => by
  simp only [m1, List.mem_cons, List.not_mem_nil, or_false] at h
  rcases h with rfl | rfl
  · exact ⟨fun p hp => (by cases hp), fun k hk => (by obtain rfl := List.mem_singleton.1 hk; omega), by simp, Nat.zero_le _⟩
  · exact ⟨fun p hp => (by cases hp; omega), fun k hk => (by cases hk), by simp, by decide⟩) (by omega) (by simp [m1])
theorem sm2 : Sm m2 := ⟨fun i nd h => by
  have := List.mem_of_getElem? h
  simp only [m2, List.mem_cons, List.not_mem_nil, or_false] at this
  rcases this with rfl | rfl <;> simp, by simp [m2]⟩
set_option maxHeartbeats 1000000 in
theorem speaks12 (w : World) : Calls Try.prog 12 #[] w fun e w' => e = .returned (.bool true) ∧ Below w.heap.size w w' := by
  go_enter Try.func12, Try.ntmps12
  go_wp2_with fail
  refine (new_calls w).mono ?_
  rintro e w1 ⟨rfl, ⟨nv1, ev1, vs1, hA1, _⟩, hB1⟩
  have A1 := Lib.hid hA1
  have B1 := Lib.hid hB1
  have C1 := Lib.hid (text_calls hA1 wf0 (by omega) 0 0 rfl hB1.size sA (by decide +kernel))
  clear hA1 hB1
  go_wp2_with fail
  refine C1.out.mono ?_
  rintro e w2 ⟨rfl, nv2, ev2, vs2, hA2, hF2, hK2⟩
  rw [text1] at hA2
  have B2 := Lib.hid (B1.out.trans (hK2.below B1.out.size fun k hk => (A1.out.foot_lt k hk).1))
  have C2 := Lib.hid (text_calls hA2 wf1 (by omega) 0 0 rfl B2.out.size sB (by decide +kernel))
  have A2 := Lib.hid hA2
  clear hA2 hF2 hK2 C1
  go_wp2_with fail
  refine C2.out.mono ?_
  rintro e w3 ⟨rfl, nv3, ev3, vs3, hA3, hF3, hK3⟩
  rw [text2] at hA3
  have B3 := Lib.hid (B2.out.trans (hK3.below B2.out.size fun k hk => (A2.out.foot_lt k hk).1))
  have C3 := Lib.hid (nodes_calls (i := 0) (p := 0) hA3 sm2 2 _ rfl exp2 (by simp [m2]))
  clear hA3 hF3 hK3 C2
  go_wp2_with fail
  refine C3.out.mono ?_
  rintro e w4 ⟨v4, rfl, hR4, hB4⟩
  obtain ⟨A4, c4, rfl, _, hC⟩ := Kd.R_reads hR4
  obtain ⟨ad, a1, k1, a3, k3, hA, q0, q1, q2, q3, _⟩ := at_T31 hC 0 (by omega) (by simp)
  cases hA
  have y0 : w4.cell? ad = some (.string e0) := by simpa [Addr.add, rd_T31] using q0
  have y2 : w4.cell? ⟨ad.block, ad.off + 2, none⟩ = some (.string sAB) := by simpa [Addr.add, rd_T31] using q2
  have x1 : (sAB.toList == [97, 98]) = true := by decide +kernel
  have x2 : (e0.toList == []) = true := by decide +kernel
  have B4 := Lib.hid (B3.out.trans (hB4.mono B3.out.size))
  clear hR4 hB4 hC q0 q1 q2 q3 C3
  generalize sAB = S1 at *
  generalize e0 = S0 at *
  go_wp2
  go_ret
  exact ⟨rfl, B4.out⟩
end Go.Proofs.Ytcdkcnegejhnhaa.Ar
