import Derived.Test.YtinjbabmpnljoaaDoorProg
import Derived.Shelf.Unicode.WordAny
import Derived.Lib.ValidAsc
import Derived.Lib.Hide
import Derived.Deep.Quiet
import Derived.Deep.QuietTactic
import Derived.BigQuiet
set_option linter.unusedVariables false
/- utf8.word over a slice of bytes (fn 36): the number of the first eight bytes -/
namespace Go.Proofs.YtinjbabmpnljoaaDoor.Vb
open Go Go.Proofs

/-- the bytes of `t` lie in the block `b` from `o` on -/
def Cl (w : World) (b o : Nat) (t : ByteArray) : Prop := ∀ j, j < t.size → w.cell? ⟨b, o + j, none⟩ = some (.int .u8 (t.get! j).toNat)

set_option maxHeartbeats 8000000 in
set_option maxRecDepth 100000 in
theorem word_calls (t : ByteArray) (b o n cap : Nat) (w : World) (hn : t.size = n) (hcap : n ≤ cap) (hs : 8 ≤ n) (hc : Cl w b o t) :
    Calls Tryd.prog 36 #[.slice (some ⟨b, o, none⟩) n cap] w fun e w' => e = .returned (.int .u64 (Lib.leNat [t.get! 0, t.get! 1, t.get! 2, t.get! 3, t.get! 4, t.get! 5, t.get! 6, t.get! 7])) ∧ ∃ q, w' = w.drewN q := by
  have e0 : w.cell? ⟨b, o, none⟩ = some (.int .u8 (t.get! 0).toNat) := hc 0 (by omega)
  have e1 : w.cell? ⟨b, o + 1, none⟩ = some (.int .u8 (t.get! 1).toNat) := hc 1 (by omega)
  have e2 : w.cell? ⟨b, o + 2, none⟩ = some (.int .u8 (t.get! 2).toNat) := hc 2 (by omega)
  have e3 : w.cell? ⟨b, o + 3, none⟩ = some (.int .u8 (t.get! 3).toNat) := hc 3 (by omega)
  have e4 : w.cell? ⟨b, o + 4, none⟩ = some (.int .u8 (t.get! 4).toNat) := hc 4 (by omega)
  have e5 : w.cell? ⟨b, o + 5, none⟩ = some (.int .u8 (t.get! 5).toNat) := hc 5 (by omega)
  have e6 : w.cell? ⟨b, o + 6, none⟩ = some (.int .u8 (t.get! 6).toNat) := hc 6 (by omega)
  have e7 : w.cell? ⟨b, o + 7, none⟩ = some (.int .u8 (t.get! 7).toNat) := hc 7 (by omega)
  obtain ⟨x0, hx0⟩ : ∃ x0, t.get! 0 = x0 := ⟨_, rfl⟩
  rw [hx0] at e0
  have h0 : x0.toNat < 256 := x0.toNat_lt
  obtain ⟨x1, hx1⟩ : ∃ x1, t.get! 1 = x1 := ⟨_, rfl⟩
  rw [hx1] at e1
  have h1 : x1.toNat < 256 := x1.toNat_lt
  obtain ⟨x2, hx2⟩ : ∃ x2, t.get! 2 = x2 := ⟨_, rfl⟩
  rw [hx2] at e2
  have h2 : x2.toNat < 256 := x2.toNat_lt
  obtain ⟨x3, hx3⟩ : ∃ x3, t.get! 3 = x3 := ⟨_, rfl⟩
  rw [hx3] at e3
  have h3 : x3.toNat < 256 := x3.toNat_lt
  obtain ⟨x4, hx4⟩ : ∃ x4, t.get! 4 = x4 := ⟨_, rfl⟩
  rw [hx4] at e4
  have h4 : x4.toNat < 256 := x4.toNat_lt
  obtain ⟨x5, hx5⟩ : ∃ x5, t.get! 5 = x5 := ⟨_, rfl⟩
  rw [hx5] at e5
  have h5 : x5.toNat < 256 := x5.toNat_lt
  obtain ⟨x6, hx6⟩ : ∃ x6, t.get! 6 = x6 := ⟨_, rfl⟩
  rw [hx6] at e6
  have h6 : x6.toNat < 256 := x6.toNat_lt
  obtain ⟨x7, hx7⟩ : ∃ x7, t.get! 7 = x7 := ⟨_, rfl⟩
  rw [hx7] at e7
  have h7 : x7.toNat < 256 := x7.toNat_lt
  rw [hx0, hx1, hx2, hx3, hx4, hx5, hx6, hx7]
  have hv : ((Lib.leNat [x0, x1, x2, x3, x4, x5, x6, x7] : Nat) : Int) = (x0.toNat : Int) + (x1.toNat : Int) * 256 + (x2.toNat : Int) * 65536 + (x3.toNat : Int) * 16777216 + (x4.toNat : Int) * 4294967296 + (x5.toNat : Int) * 1099511627776 + (x6.toNat : Int) * 281474976710656 + (x7.toNat : Int) * 72057594037927936 := by
    simp only [Lib.leNat]
    push_cast
    omega
  have q0 : (0 : Int) < (n : Int) := by omega
  have q1 : (1 : Int) < (n : Int) := by omega
  have q2 : (2 : Int) < (n : Int) := by omega
  have q3 : (3 : Int) < (n : Int) := by omega
  have q4 : (4 : Int) < (n : Int) := by omega
  have q5 : (5 : Int) < (n : Int) := by omega
  have q6 : (6 : Int) < (n : Int) := by omega
  have q7 : (7 : Int) < (n : Int) := by omega
  clear hc
  go_enter Tryd.func36, Tryd.ntmps36
  go_wp2
  go_quiet (fail)
  go_wp2
  go_ret
  refine ⟨?_, _, rfl⟩
  simp (disch := omega) only [u64_or8, u64_or16, u64_or24, u64_or32, u64_or40, u64_or48, u64_or56]
  rw [hv]
  rfl

#print axioms word_calls
end Go.Proofs.YtinjbabmpnljoaaDoor.Vb
