import Derived.Test.YtnmjocoopbfpnaaDoorPRefAx9
import Derived.Test.YtnmjocoopbfpnaaDoorCharBase
import Derived.Stop.FmtQuoteTie
namespace Go.Proofs.YtnmjocoopbfpnaaDoor.CharPure
open Go.IntWalk Go.RowKit Go.Lib Go.Proofs.YtnmjocoopbfpnaaDoor.PRefA Go.Proofs.YtnmjocoopbfpnaaDoorW.PrintWords Go.Proofs.YtnmjocoopbfpnaaDoorW.PrintLast

abbrev runeB := ref_Text.runeB
theorem nat_byte (x : UInt8) : UInt8.ofNat x.toNat = x := UInt8.ofNat_toNat
theorem encode_rune (r : Nat) : (Utf8.encode (r : Int)).data.toList = runeB (r : Int) := by
  have h := Go.Extern.FmtText.encode_eq r
  have h2 := congrArg (List.map fun z : Int => UInt8.ofNat z.toNat) h
  have e : ∀ l : List UInt8, ((Go.Extern.FmtText.nums l).map fun z : Int => UInt8.ofNat z.toNat) = l := fun l => by
    unfold Go.Extern.FmtText.nums
    rw [List.map_map]
    exact (List.map_congr_left (g := id) fun x _ => by simp).trans (List.map_id _)
  rw [e] at h2
  exact h2
theorem rune_len (r : Int) : 1 ≤ (runeB r).length ∧ (runeB r).length ≤ 4 := by
  show 1 ≤ ((encodeRuneZ r).map _).length ∧ ((encodeRuneZ r).map _).length ≤ 4
  rw [List.length_map]
  exact encodeRuneZ_length r
theorem byte_mod (z : Int) (v : Nat) (h : z % 256 = (v : Int)) : UInt8.ofNat (z % 256).toNat = UInt8.ofNat v := by rw [h, Int.toNat_natCast]
theorem tdiv_nat (a b : Nat) : Int.tdiv (a : Int) (b : Int) = ((a / b : Nat) : Int) := rfl
theorem tmod_nat (a b : Nat) : Int.tmod (a : Int) (b : Int) = ((a % b : Nat) : Int) := rfl
theorem ref_utf (c : Nat) (hc : c < 55296 ∨ (57344 ≤ c ∧ c ≤ 1114111)) : ∃ t : List Int, decanterref02_UTF.f (c : Int) = some t ∧ (t.map fun z => UInt8.ofNat z.toNat) = runeB (c : Int) ∧ t.length ≤ 4 := by
  have d64 : Int.tdiv (c : Int) 64 = ((c / 64 : Nat) : Int) := tdiv_nat c 64
  have d4096 : Int.tdiv (c : Int) 4096 = ((c / 4096 : Nat) : Int) := tdiv_nat c 4096
  have d26 : Int.tdiv (c : Int) 262144 = ((c / 262144 : Nat) : Int) := tdiv_nat c 262144
  have m64 : Int.tmod (c : Int) 64 = ((c % 64 : Nat) : Int) := tmod_nat c 64
  have w1 : wrap64 ((c / 64 : Nat) : Int) = ((c / 64 : Nat) : Int) := wrap64_in _ (by omega)
  have w2 : wrap64 ((c / 4096 : Nat) : Int) = ((c / 4096 : Nat) : Int) := wrap64_in _ (by omega)
  have w3 : wrap64 ((c / 262144 : Nat) : Int) = ((c / 262144 : Nat) : Int) := wrap64_in _ (by omega)
  have n1 : Int.tmod ((c / 64 : Nat) : Int) 64 = ((c / 64 % 64 : Nat) : Int) := tmod_nat (c / 64) 64
  have n2 : Int.tmod ((c / 4096 : Nat) : Int) 64 = ((c / 4096 % 64 : Nat) : Int) := tmod_nat (c / 4096) 64
  unfold decanterref02_UTF.f runeB ref_Text.runeB
  rw [d64, d4096, d26, m64, w1, w2, w3, n1, n2]
  clear d64 d4096 d26 m64 w1 w2 w3 n1 n2
  by_cases c1 : c < 128
  · rw [if_pos (by omega), encodeRuneZ_one (by omega) (by omega)]
    refine ⟨_, rfl, ?_, by simp⟩
    simp only [List.map_cons, List.map_nil]
    rw [show (c : Int) % 256 = (c : Int) by omega]
  · rw [if_neg (by omega)]
    by_cases c2 : c < 2048
    · rw [if_pos (by omega), encodeRuneZ_two (by omega) (by omega), wrap64_in (192 + _) (by omega), wrap64_in (128 + _) (by omega)]
      refine ⟨_, rfl, ?_, by simp⟩
      simp only [List.map_cons, List.map_nil]
      rw [show (192 + ((c / 64 : Nat) : Int)) % 256 = 192 + (c : Int) / 64 by omega, show (128 + ((c % 64 : Nat) : Int)) % 256 = 128 + (c : Int) % 64 by omega]
    · rw [if_neg (by omega)]
      by_cases c3 : c < 65536
      · rw [if_pos (by omega), encodeRuneZ_three (by omega), wrap64_in (224 + _) (by omega), wrap64_in (128 + ((c / 64 % 64 : Nat) : Int)) (by omega), wrap64_in (128 + ((c % 64 : Nat) : Int)) (by omega)]
        refine ⟨_, rfl, ?_, by simp⟩
        simp only [List.map_cons, List.map_nil]
        rw [show (224 + ((c / 4096 : Nat) : Int)) % 256 = 224 + (c : Int) / 4096 by omega, show (128 + ((c / 64 % 64 : Nat) : Int)) % 256 = 128 + (c : Int) / 64 % 64 by omega, show (128 + ((c % 64 : Nat) : Int)) % 256 = 128 + (c : Int) % 64 by omega]
      · rw [if_neg (by omega), encodeRuneZ_four (by omega) (by omega), wrap64_in (240 + _) (by omega), wrap64_in (128 + ((c / 4096 % 64 : Nat) : Int)) (by omega), wrap64_in (128 + ((c / 64 % 64 : Nat) : Int)) (by omega), wrap64_in (128 + ((c % 64 : Nat) : Int)) (by omega)]
        refine ⟨_, rfl, ?_, by simp⟩
        simp only [List.map_cons, List.map_nil]
        rw [show (240 + ((c / 262144 : Nat) : Int)) % 256 = 240 + (c : Int) / 262144 by omega, show (128 + ((c / 4096 % 64 : Nat) : Int)) % 256 = 128 + (c : Int) / 4096 % 64 by omega, show (128 + ((c / 64 % 64 : Nat) : Int)) % 256 = 128 + (c : Int) / 64 % 64 by omega, show (128 + ((c % 64 : Nat) : Int)) % 256 = 128 + (c : Int) % 64 by omega]
end Go.Proofs.YtnmjocoopbfpnaaDoor.CharPure
