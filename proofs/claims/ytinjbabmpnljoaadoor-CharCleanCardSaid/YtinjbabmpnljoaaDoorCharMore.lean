import Derived.Test.YtinjbabmpnljoaaDoorPCharx3
import Derived.Test.YtinjbabmpnljoaaDoorCharBase
import Derived.Stop.FmtQuoteTie
namespace Go.Proofs.YtinjbabmpnljoaaDoor.CharPure
open Go.IntWalk Go.RowKit Go.Lib Go.Proofs.YtinjbabmpnljoaaDoor.PChar Go.Proofs.YtinjbabmpnljoaaDoorW.PrintWords Go.Proofs.YtinjbabmpnljoaaDoorW.PrintLast

abbrev runeB := char_All.runeB
theorem nat_byte (x : UInt8) : UInt8.ofNat x.toNat = x := UInt8.ofNat_toNat
theorem encode_rune (r : Nat) : (Utf8.encode (r : Int)).data.toList = runeB (r : Int) := by
  have h := Go.Extern.FmtText.encode_eq r
  have h2 := congrArg (List.map fun z : Int => UInt8.ofNat z.toNat) h
  have e : ∀ l : List UInt8, ((Go.Extern.FmtText.nums l).map fun z : Int => UInt8.ofNat z.toNat) = l := fun l => by
    unfold Go.Extern.FmtText.nums
    rw [List.map_map]
    exact (List.map_congr_left (g := id) fun x _ => by simp).trans (List.map_id _)
  rw [e] at h2
  exact h2
theorem rune_len (r : Int) : 1 ≤ (runeB r).length ∧ (runeB r).length ≤ 4 := by
  show 1 ≤ ((encodeRuneZ r).map _).length ∧ ((encodeRuneZ r).map _).length ≤ 4
  rw [List.length_map]
  exact encodeRuneZ_length r
def allN : Nat → List Int → Nat → Int → List UInt8
  | 0, _, _, _ => []
  | n + 1, l, p, q => if (p : Int) < q ∧ p < l.length then runeB ((nx l p).1 : Int) ++ allN n l (p + (nx l p).2) q else []
/-- The characters from a place up to another one. -/
def allB (l : List Int) (p : Nat) (q : Int) : List UInt8 := allN (l.length - p) l p q
theorem allN_eq (l : List Int) (hb : Bytes l) (q : Int) : ∀ n m p, l.length ≤ p + n → l.length ≤ p + m → allN n l p q = allN m l p q
  | 0, 0, _, _, _ => rfl
  | 0, m + 1, p, h, _ => by
    show [] = if (p : Int) < q ∧ p < l.length then _ else []
    rw [if_neg (by omega)]
  | n + 1, 0, p, _, h => by
    show (if (p : Int) < q ∧ p < l.length then _ else []) = []
    rw [if_neg (by omega)]
  | n + 1, m + 1, p, h1, h2 => by
    show (if (p : Int) < q ∧ p < l.length then _ else []) = if (p : Int) < q ∧ p < l.length then _ else []
    by_cases h : (p : Int) < q ∧ p < l.length
    · have hf := nx_facts l hb p h.2
      rw [if_pos h, if_pos h, allN_eq l hb q n m (p + (nx l p).2) (by omega) (by omega)]
    · rw [if_neg h, if_neg h]
theorem allB_cons (l : List Int) (hb : Bytes l) (p : Nat) (q : Int) (h1 : (p : Int) < q) (h2 : p < l.length) : allB l p q = runeB ((nx l p).1 : Int) ++ allB l (p + (nx l p).2) q := by
  have hf := nx_facts l hb p h2
  unfold allB
  obtain ⟨n, hn⟩ : ∃ n, l.length - p = n + 1 := ⟨l.length - p - 1, by omega⟩
  rw [hn]
  show (if (p : Int) < q ∧ p < l.length then _ else []) = _
  rw [if_pos ⟨h1, h2⟩, allN_eq l hb q n (l.length - (p + (nx l p).2)) (p + (nx l p).2) (by omega) (by omega)]
theorem allB_nil (l : List Int) (p : Nat) (q : Int) (h : q ≤ (p : Int) ∨ l.length ≤ p) : allB l p q = [] := by
  unfold allB
  cases hn : l.length - p with
  | zero => rfl
  | succ n =>
    show (if (p : Int) < q ∧ p < l.length then _ else []) = []
    rw [if_neg (by omega)]
theorem all_loop (l : List Int) (hb : Bytes l) (hl : l.length ≤ 1000) (q : Int) : ∀ n k p (acc : List UInt8), l.length ≤ p + n → n + 2 ≤ k → acc.length ≤ 4 * p → p ≤ l.length → char_All.l0 k l (p : Int) q acc = some ⟨(acc ++ allB l p q).toArray⟩
  | n, 0, p, acc, _, h, _, _ => by omega
  | n, k + 1, p, acc, hn, hk, ha, hp => by
    rw [char_All.l0]
    by_cases h1 : (p : Int) < q
    · rw [if_pos h1]
      obtain ⟨k', rfl⟩ : ∃ k', k = k' + 1 := ⟨k - 1, by omega⟩
      by_cases h2 : p < l.length
      · obtain ⟨f1, f2, f3, f4, f5, f6⟩ := nx_facts l hb p h2
        have hr := rune_len ((nx l p).1 : Int)
        rw [next_in l hb (by omega) p h2 k', Option.bind_some]
        dsimp only
        rw [if_neg (by omega), if_pos (by omega), wrap64_in _ (by omega)]
        obtain ⟨n', rfl⟩ : ∃ n', n = n' + 1 := ⟨n - 1, by omega⟩
        have ih := all_loop l hb hl q n' (k' + 1) (p + (nx l p).2) (acc ++ runeB ((nx l p).1 : Int)) (by omega) (by omega) (by rw [List.length_append]; omega) f3
        rw [allB_cons l hb p q h1 h2, ← List.append_assoc]
        rw [show ((p : Int) + ((nx l p).2 : Int)) = ((p + (nx l p).2 : Nat) : Int) by omega]
        exact ih
      · rw [next_out l (p : Int) (.inr (by omega)) k', Option.bind_some, if_pos rfl, allB_nil l p q (.inr (by omega)), List.append_nil]
    · rw [if_neg h1, allB_nil l p q (.inl (by omega)), List.append_nil]
theorem all_in (l : List Int) (hb : Bytes l) (hl : l.length ≤ 1000) (p : Nat) (hp : p ≤ l.length) (q : Int) (k : Nat) (hk : 1002 ≤ k) : char_All.f k l (p : Int) q = some ⟨(allB l p q).toArray⟩ := by
  unfold char_All.f
  rw [all_loop l hb hl q 1000 k p [] (by omega) (by omega) (by simp) hp]
  rfl
theorem all_out (l : List Int) (a q : Int) (ha : a < 0 ∨ (l.length : Int) ≤ a) (k : Nat) : char_All.f (k + 2) l a q = some ⟨#[]⟩ := by
  unfold char_All.f
  rw [char_All.l0]
  by_cases h : a < q
  · rw [if_pos h, next_out l a ha k, Option.bind_some, if_pos rfl]
  · rw [if_neg h]
/-! ### The document's -/
theorem byte_mod (z : Int) (v : Nat) (h : z % 256 = (v : Int)) : UInt8.ofNat (z % 256).toNat = UInt8.ofNat v := by rw [h, Int.toNat_natCast]
theorem tdiv_nat (a b : Nat) : Int.tdiv (a : Int) (b : Int) = ((a / b : Nat) : Int) := rfl
theorem tmod_nat (a b : Nat) : Int.tmod (a : Int) (b : Int) = ((a % b : Nat) : Int) := rfl
theorem ref_utf (c : Nat) (hc : c < 55296 ∨ (57344 ≤ c ∧ c ≤ 1114111)) : ∃ t : List Int, decanterref02_UTF.f (c : Int) = some t ∧ (t.map fun z => UInt8.ofNat z.toNat) = runeB (c : Int) ∧ t.length ≤ 4 := by
  have d64 : Int.tdiv (c : Int) 64 = ((c / 64 : Nat) : Int) := tdiv_nat c 64
  have d4096 : Int.tdiv (c : Int) 4096 = ((c / 4096 : Nat) : Int) := tdiv_nat c 4096
  have d26 : Int.tdiv (c : Int) 262144 = ((c / 262144 : Nat) : Int) := tdiv_nat c 262144
  have m64 : Int.tmod (c : Int) 64 = ((c % 64 : Nat) : Int) := tmod_nat c 64
  have w1 : wrap64 ((c / 64 : Nat) : Int) = ((c / 64 : Nat) : Int) := wrap64_in _ (by omega)
  have w2 : wrap64 ((c / 4096 : Nat) : Int) = ((c / 4096 : Nat) : Int) := wrap64_in _ (by omega)
  have w3 : wrap64 ((c / 262144 : Nat) : Int) = ((c / 262144 : Nat) : Int) := wrap64_in _ (by omega)
  have n1 : Int.tmod ((c / 64 : Nat) : Int) 64 = ((c / 64 % 64 : Nat) : Int) := tmod_nat (c / 64) 64
  have n2 : Int.tmod ((c / 4096 : Nat) : Int) 64 = ((c / 4096 % 64 : Nat) : Int) := tmod_nat (c / 4096) 64
  unfold decanterref02_UTF.f runeB char_All.runeB
  rw [d64, d4096, d26, m64, w1, w2, w3, n1, n2]
  clear d64 d4096 d26 m64 w1 w2 w3 n1 n2
  by_cases c1 : c < 128
  · rw [if_pos (by omega), encodeRuneZ_one (by omega) (by omega)]
    refine ⟨_, rfl, ?_, by simp⟩
    simp only [List.map_cons, List.map_nil]
    rw [show (c : Int) % 256 = (c : Int) by omega]
  · rw [if_neg (by omega)]
    by_cases c2 : c < 2048
    · rw [if_pos (by omega), encodeRuneZ_two (by omega) (by omega), wrap64_in (192 + _) (by omega), wrap64_in (128 + _) (by omega)]
      refine ⟨_, rfl, ?_, by simp⟩
      simp only [List.map_cons, List.map_nil]
      rw [show (192 + ((c / 64 : Nat) : Int)) % 256 = 192 + (c : Int) / 64 by omega, show (128 + ((c % 64 : Nat) : Int)) % 256 = 128 + (c : Int) % 64 by omega]
    · rw [if_neg (by omega)]
      by_cases c3 : c < 65536
      · rw [if_pos (by omega), encodeRuneZ_three (by omega), wrap64_in (224 + _) (by omega), wrap64_in (128 + ((c / 64 % 64 : Nat) : Int)) (by omega), wrap64_in (128 + ((c % 64 : Nat) : Int)) (by omega)]
        refine ⟨_, rfl, ?_, by simp⟩
        simp only [List.map_cons, List.map_nil]
        rw [show (224 + ((c / 4096 : Nat) : Int)) % 256 = 224 + (c : Int) / 4096 by omega, show (128 + ((c / 64 % 64 : Nat) : Int)) % 256 = 128 + (c : Int) / 64 % 64 by omega, show (128 + ((c % 64 : Nat) : Int)) % 256 = 128 + (c : Int) % 64 by omega]
      · rw [if_neg (by omega), encodeRuneZ_four (by omega) (by omega), wrap64_in (240 + _) (by omega), wrap64_in (128 + ((c / 4096 % 64 : Nat) : Int)) (by omega), wrap64_in (128 + ((c / 64 % 64 : Nat) : Int)) (by omega), wrap64_in (128 + ((c % 64 : Nat) : Int)) (by omega)]
        refine ⟨_, rfl, ?_, by simp⟩
        simp only [List.map_cons, List.map_nil]
        rw [show (240 + ((c / 262144 : Nat) : Int)) % 256 = 240 + (c : Int) / 262144 by omega, show (128 + ((c / 4096 % 64 : Nat) : Int)) % 256 = 128 + (c : Int) / 4096 % 64 by omega, show (128 + ((c / 64 % 64 : Nat) : Int)) % 256 = 128 + (c : Int) / 64 % 64 by omega, show (128 + ((c % 64 : Nat) : Int)) % 256 = 128 + (c : Int) % 64 by omega]
theorem ref_all_loop (l : List Int) (hb : Bytes l) (hl : l.length ≤ 1000) (q : Int) : ∀ n k p (acc : List Int), l.length ≤ p + n → 2 * n + 20 ≤ k → acc.length ≤ 4 * p → p ≤ l.length →
    ∃ t : List Int, decanterref02_All.l0 k l q acc (p : Int) = some (strOfNums (acc ++ t)) ∧ (t.map fun z => UInt8.ofNat z.toNat) = allB l p q
  | n, k, p, acc, hn, hk, ha, hp => by
    obtain ⟨k', rfl⟩ : ∃ k', k = k' + 11 + 1 + 1 := ⟨k - 13, by omega⟩
    have stop : decanterref02_All.j1 (k' + 11 + 1) l q acc (p : Int) false = some (strOfNums acc) := by rw [decanterref02_All.j1, if_neg (by decide)]
    rw [decanterref02_All.l0]
    by_cases h1 : (p : Int) < q
    · rw [if_pos h1]
      by_cases h2 : p < l.length
      · obtain ⟨f1, f2, f3, f4, f5, f6⟩ := nx_facts l hb p h2
        obtain ⟨t, ht, ht2, ht3⟩ := ref_utf (nx l p).1 f6
        obtain ⟨n', rfl⟩ : ∃ n', n = n' + 1 := ⟨n - 1, by omega⟩
        rw [decide_eq_true (by omega), decanterref02_All.j1, if_pos rfl, ref_next_in l hb (by omega) p h2 k', Option.bind_some]
        dsimp only
        rw [ht, Option.bind_some, if_pos (by omega), wrap64_in _ (by omega)]
        obtain ⟨t', he, ht'⟩ := ref_all_loop l hb hl q n' (k' + 11) (p + (nx l p).2) (acc ++ t) (by omega) (by omega) (by rw [List.length_append]; omega) f3
        refine ⟨t ++ t', ?_, ?_⟩
        · rw [show ((p : Int) + ((nx l p).2 : Int)) = ((p + (nx l p).2 : Nat) : Int) by omega, he, List.append_assoc]
        · rw [List.map_append, ht2, ht', allB_cons l hb p q h1 h2]
      · rw [decide_eq_false (by omega), stop]
        exact ⟨[], by rw [List.append_nil], by rw [allB_nil l p q (.inr (by omega))]; rfl⟩
    · rw [if_neg h1, stop]
      exact ⟨[], by rw [List.append_nil], by rw [allB_nil l p q (.inl (by omega))]; rfl⟩
theorem ref_all_in (l : List Int) (hb : Bytes l) (hl : l.length ≤ 1000) (p : Nat) (hp : p ≤ l.length) (q : Int) (k : Nat) (hk : 2020 ≤ k) : decanterref02_All.f k l (p : Int) q = some ⟨(allB l p q).toArray⟩ := by
  obtain ⟨t, he, ht⟩ := ref_all_loop l hb hl q 1000 k p [] (by omega) (by omega) (by simp) hp
  unfold decanterref02_All.f
  rw [if_neg (by omega), he, List.nil_append]
  refine congrArg some ?_
  rw [← ht]
  rfl
theorem ref_all_out (l : List Int) (a q : Int) (ha : a < 0 ∨ (l.length : Int) ≤ a) (k : Nat) : decanterref02_All.f (k + 2) l a q = some ⟨#[]⟩ := by
  unfold decanterref02_All.f
  by_cases h : a < 0
  · rw [if_pos h]
  · have stop : decanterref02_All.j1 (k + 1) l q [] a false = some (strOfNums []) := by rw [decanterref02_All.j1, if_neg (by decide)]
    rw [if_neg h, show k + 2 = k + 1 + 1 from rfl, decanterref02_All.l0]
    by_cases h2 : a < q
    · rw [if_pos h2, decide_eq_false (by omega), stop]; rfl
    · rw [if_neg h2, stop]; rfl
theorem both_all (l : List Int) (hb : Bytes l) (hl : l.length ≤ 1000) (a q : Int) : ∃ t : ByteArray, char_All.f 3000 l a q = some t ∧ decanterref02_All.f 3000 l a q = some t := by
  by_cases h : a < 0 ∨ (l.length : Int) ≤ a
  · exact ⟨_, all_out l a q h 2998, ref_all_out l a q h 2998⟩
  · obtain ⟨p, rfl⟩ : ∃ p : Nat, a = (p : Int) := ⟨a.toNat, by omega⟩
    exact ⟨_, all_in l hb hl p (by omega) q 3000 (by omega), ref_all_in l hb hl p (by omega) q 3000 (by omega)⟩
theorem bytesOf_str (l : List Int) (hb : Bytes l) : bytesOf (strOfNums l) = l := by
  show (l.map fun n => UInt8.ofNat n.toNat).map (fun x => (x.toNat : Int)) = l
  rw [List.map_map]
  refine (List.map_congr_left (g := id) fun x hx => ?_).trans (List.map_id _)
  have := hb x hx
  show ((UInt8.ofNat x.toNat).toNat : Int) = x
  rw [UInt8.toNat_ofNat']
  omega
theorem bytes_of (s : ByteArray) : Bytes (bytesOf s) := by
  intro x hx
  obtain ⟨b, _, rfl⟩ := List.mem_map.1 hx
  have := b.toNat_lt
  exact ⟨by omega, by omega⟩
theorem bytesOf_len (s : ByteArray) : (bytesOf s).length = s.size := by
  unfold bytesOf
  rw [List.length_map, Array.length_toList]
  rfl
theorem clean_eq (s : ByteArray) (hs : s.size ≤ 1000) (k : Nat) (hk : 1002 ≤ k) : char_Clean.f k s = some ((⟨(allB (bytesOf s) 0 (s.size : Int)).toArray⟩ : ByteArray).toList == s.toList) := by
  unfold char_Clean.f
  have h := all_in (bytesOf s) (bytes_of s) (by rw [bytesOf_len]; exact hs) 0 (by omega) (s.size : Int) k hk
  rw [show ((0 : Nat) : Int) = 0 from rfl] at h
  rw [if_pos (by omega), h, Option.bind_some]
theorem speaks02 : decanterlaw02_speaks.f 3000 = some true := by decide +kernel
theorem speaks_more : ∀ n, decanterlaw02_speaks.f (3000 + n) = some true
  | 0 => speaks02
  | n + 1 => decanterlaw02_speaks.mono (3000 + n) _ (speaks_more n)
end Go.Proofs.YtinjbabmpnljoaaDoor.CharPure
