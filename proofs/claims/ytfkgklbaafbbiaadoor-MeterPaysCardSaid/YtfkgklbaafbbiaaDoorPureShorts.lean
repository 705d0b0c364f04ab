/-
  The plain law of MeterShorts: the document's numerals are strconv's; a text of two numbers tells both.
-/
import Derived.Test.YtfkgklbaafbbiaaDoorShorts
import Derived.IntWalk
namespace Go.Proofs.YtfkgklbaafbbiaaDoor.Shorts
open Go.IntWalk Go.RowKit Go.Lib Go.Proofs.YtfkgklbaafbbiaaDoor.PMeter Go.Proofs.YtfkgklbaafbbiaaDoorW.PrintWords Go.Proofs.YtfkgklbaafbbiaaDoorW.PrintLast

theorem list_ext {u v : ByteArray} (h : u.data.toList = v.data.toList) : u = v := by
  obtain ⟨⟨a⟩⟩ := u
  obtain ⟨⟨b⟩⟩ := v
  dsimp only at h
  rw [h]
theorem dd_small (u : Nat) (h : u < 10) : decDigits u = [UInt8.ofNat (48 + u)] := by rw [decDigits, dif_pos h]
theorem dd_big (u : Nat) (h : ¬ u < 10) : decDigits u = decDigits (u / 10) ++ [UInt8.ofNat (48 + u % 10)] := by rw [decDigits, dif_neg h]
theorem tx_nat (u : Nat) : (tx (u : Int)).data.toList = decDigits u := by
  show itoa (u : Int) = _
  unfold itoa
  rw [if_neg (by omega), Int.toNat_natCast]
theorem tx_neg (u : Nat) (h : 1 ≤ u) : (tx (-(u : Int))).data.toList = 45 :: decDigits u := by
  show itoa (-(u : Int)) = _
  unfold itoa
  rw [if_pos (by omega)]
  congr 2
  omega
theorem app_list (u v : ByteArray) : (u ++ v).data.toList = u.data.toList ++ v.data.toList := by rw [ByteArray.data_append, Array.toList_append]
theorem dec_one (u : Nat) (h : u < 10) (k : Nat) : decanterref01_Decimal.f (k + 3) (u : Int) = some (tx (u : Int)) := by
  rw [decanterref01_Decimal.f, if_neg (by omega), decanterref01_Decimal.j0, if_neg (by decide), if_pos (by omega), decide_eq_true (by omega), decanterref01_Decimal.j1, if_pos rfl]
  refine congrArg some (list_ext ?_)
  rw [tx_nat, dd_small u h, wrap64_in _ (by omega)]
  show [UInt8.ofNat ((48 + (u : Int)) % 256).toNat] = _
  congr 2
  omega
theorem sz (x : Int) (h : I64 x) : (tx x).size ≤ 21 := tx_size x h
theorem tmod_n (u : Nat) : Int.tmod (u : Int) 10 = ((u % 10 : Nat) : Int) := rfl
theorem tdiv_n (u : Nat) : Int.tdiv (u : Int) 10 = ((u / 10 : Nat) : Int) := rfl
theorem dec_pos : ∀ n u : Nat, u < 10 ^ (n + 1) → u ≤ 9223372036854775808 → ∀ k, u ≤ 9223372036854775807 → decanterref01_Decimal.f (3 * n + 3 + k) (u : Int) = some (tx (u : Int))
  | 0, u, h, _, k, _ => by
    rw [show 3 * 0 + 3 + k = k + 3 by omega]
    exact dec_one u (by simpa using h) k
  | n + 1, u, h, h2, k, h3 => by
    by_cases h1 : u < 10
    · rw [show 3 * (n + 1) + 3 + k = (3 * n + 3 + k) + 3 by omega]
      exact dec_one u h1 _
    · have hd : u / 10 < 10 ^ (n + 1) := by
        rw [Nat.div_lt_iff_lt_mul (by decide)]
        rw [Nat.pow_succ] at h
        exact h
      have ih := dec_pos n (u / 10) hd (by omega) k (by omega)
      have i2 := dec_one (u % 10) (Nat.mod_lt _ (by decide)) (3 * n + k)
      rw [show 3 * n + k + 3 = 3 * n + 3 + k by omega] at i2
      have s1 := sz ((u / 10 : Nat) : Int) ⟨by omega, by omega⟩
      have s2 := sz ((u % 10 : Nat) : Int) ⟨by omega, by omega⟩
      rw [show 3 * (n + 1) + 3 + k = (3 * n + 3 + k) + 1 + 1 + 1 by omega, decanterref01_Decimal.f, if_neg (by omega), decanterref01_Decimal.j0, if_neg (by decide), if_pos (by omega), decide_eq_false (by omega), decanterref01_Decimal.j1, if_neg (by decide), tmod_n, tdiv_n, if_neg (by omega), wrap64_in _ (by omega), ih, Option.bind_some, i2, Option.bind_some, if_pos (by omega)]
      refine congrArg some (list_ext ?_)
      rw [app_list, tx_nat, tx_nat, tx_nat, dd_big u h1, dd_small (u % 10) (Nat.mod_lt _ (by decide))]
theorem tmod_neg (u : Nat) : Int.tmod (-(u : Int)) 10 = -((u % 10 : Nat) : Int) := by rw [Int.neg_tmod, tmod_n]
theorem tdiv_neg (u : Nat) : Int.tdiv (-(u : Int)) 10 = -((u / 10 : Nat) : Int) := by rw [Int.neg_tdiv, tdiv_n]
theorem dec_neg : ∀ n u : Nat, u < 10 ^ (n + 1) → 1 ≤ u → u ≤ 9223372036854775808 → ∀ k, decanterref01_Decimal.f (3 * n + 6 + k) (-(u : Int)) = some (tx (-(u : Int)))
  | n, u, h, h2, h3, k => by
    by_cases h1 : u < 10
    · have i := dec_one u h1 (3 * n + 1 + k)
      have s1 := sz (u : Int) ⟨by omega, by omega⟩
      rw [show 3 * n + 6 + k = (3 * n + 1 + k + 3) + 1 + 1 by omega, decanterref01_Decimal.f, if_pos (by omega), decide_eq_true (by omega), decanterref01_Decimal.j0, if_pos rfl, Int.neg_neg, wrap64_in _ (by omega), i, Option.bind_some, if_pos (by omega)]
      refine congrArg some (list_ext ?_)
      rw [app_list, tx_nat, tx_neg u h2]
      rfl
    · match n, h with
      | 0, h => exact absurd (by simpa using h) h1
      | n + 1, h =>
        have hd : u / 10 < 10 ^ (n + 1) := by
          rw [Nat.div_lt_iff_lt_mul (by decide)]
          rw [Nat.pow_succ] at h
          exact h
        have ih := dec_neg n (u / 10) hd (by omega) (by omega) k
        have i2 := dec_one (u % 10) (Nat.mod_lt _ (by decide)) (3 * n + 3 + k)
        rw [show 3 * n + 3 + k + 3 = 3 * n + 6 + k by omega] at i2
        have s1 := sz (-((u / 10 : Nat) : Int)) ⟨by omega, by omega⟩
        have s2 := sz ((u % 10 : Nat) : Int) ⟨by omega, by omega⟩
        have fin : tx (-((u / 10 : Nat) : Int)) ++ tx ((u % 10 : Nat) : Int) = tx (-(u : Int)) := list_ext (by
          rw [app_list, tx_nat, tx_neg u h2, tx_neg (u / 10) (by omega), dd_big u h1, dd_small (u % 10) (Nat.mod_lt _ (by decide))]
          rfl)
        rw [show 3 * (n + 1) + 6 + k = (3 * n + 6 + k) + 1 + 1 + 1 by omega, decanterref01_Decimal.f, if_pos (by omega), decide_eq_false (by omega), decanterref01_Decimal.j0, if_neg (by decide), if_neg (by omega), decanterref01_Decimal.j1, if_neg (by decide), tmod_neg, tdiv_neg]
        by_cases hz : u % 10 = 0
        · rw [hz] at i2 fin s2
          rw [hz, if_neg (by decide), wrap64_in (-((u / 10 : Nat) : Int)) (by omega), ih, Option.bind_some]
          show (decanterref01_Decimal.f (3 * n + 6 + k) ((0 : Nat) : Int)).bind _ = _
          rw [i2, Option.bind_some, if_pos (by omega), fin]
        · rw [if_pos (by omega), wrap64_in (-((u / 10 : Nat) : Int)) (by omega), ih, Option.bind_some, Int.neg_neg, wrap64_in ((u % 10 : Nat) : Int) (by omega), i2, Option.bind_some, if_pos (by omega), fin]
theorem dec_all (x : Int) (h : I64 x) : decanterref01_Decimal.f 100 x = some (tx x) := by
  obtain ⟨h1, h2⟩ := h
  by_cases hn : x < 0
  · obtain ⟨u, rfl⟩ : ∃ u : Nat, x = -(u : Int) := ⟨x.natAbs, by omega⟩
    exact dec_neg 18 u (by omega) (by omega) (by omega) 40
  · obtain ⟨u, rfl⟩ : ∃ u : Nat, x = (u : Int) := ⟨x.toNat, by omega⟩
    exact dec_pos 18 u (by omega) (by omega) 43 (by omega)
/-! ### Both numbers are told -/
theorem dd_bytes (u : Nat) : ∀ b ∈ decDigits u, 48 ≤ b.toNat ∧ b.toNat ≤ 57 := by
  induction u using Nat.strongRecOn with
  | ind u ih =>
    intro b hb
    by_cases h : u < 10
    · rw [dd_small u h, List.mem_singleton] at hb
      subst hb
      rw [UInt8.toNat_ofNat']
      omega
    · rw [dd_big u h] at hb
      rcases List.mem_append.1 hb with h1 | h1
      · exact ih (u / 10) (by omega) b h1
      · rw [List.mem_singleton] at h1
        subst h1
        rw [UInt8.toNat_ofNat']
        omega
def val (l : List UInt8) : Nat := l.foldl (fun v b => v * 10 + (b.toNat - 48)) 0
theorem val_dd (u : Nat) : val (decDigits u) = u := by
  induction u using Nat.strongRecOn with
  | ind u ih =>
    by_cases h : u < 10
    · rw [dd_small u h]
      show 0 * 10 + ((UInt8.ofNat (48 + u)).toNat - 48) = u
      rw [UInt8.toNat_ofNat']
      omega
    · rw [dd_big u h]
      unfold val at *
      rw [List.foldl_append, ih (u / 10) (by omega)]
      show u / 10 * 10 + ((UInt8.ofNat (48 + u % 10)).toNat - 48) = u
      rw [UInt8.toNat_ofNat']
      omega
theorem dd_inj {u v : Nat} (h : decDigits u = decDigits v) : u = v := by rw [← val_dd u, h, val_dd]
theorem itoa_bytes (x : Int) : ∀ b ∈ itoa x, b ≠ 32 := by
  intro b hb
  unfold itoa at hb
  split at hb
  · rcases List.mem_cons.1 hb with rfl | h
    · decide
    · intro e
      subst e
      have := dd_bytes _ _ h
      exact absurd this.1 (by decide)
  · intro e
    subst e
    have := dd_bytes _ _ hb
    exact absurd this.1 (by decide)
theorem itoa_inj {x y : Int} (h : itoa x = itoa y) : x = y := by
  unfold itoa at h
  by_cases h1 : x < 0
  · by_cases h2 : y < 0
    · rw [if_pos h1, if_pos h2] at h
      have := dd_inj (List.cons.inj h).2
      omega
    · rw [if_pos h1, if_neg h2] at h
      have := dd_bytes y.toNat 45 (h ▸ List.mem_cons_self ..)
      exact absurd this.1 (by decide)
  · by_cases h2 : y < 0
    · rw [if_neg h1, if_pos h2] at h
      have := dd_bytes x.toNat 45 (h.symm ▸ List.mem_cons_self ..)
      exact absurd this.1 (by decide)
    · rw [if_neg h1, if_neg h2] at h
      have := dd_inj h
      omega
theorem cut_inj {c : UInt8} : ∀ {l m r s : List UInt8}, (∀ b ∈ l, b ≠ c) → (∀ b ∈ m, b ≠ c) → l ++ c :: r = m ++ c :: s → l = m ∧ r = s
  | [], [], r, s, _, _, h => ⟨rfl, (List.cons.inj h).2⟩
  | [], b :: m, r, s, _, hm, h => absurd (List.cons.inj h).1.symm (hm b (List.mem_cons_self ..))
  | a :: l, [], r, s, hl, _, h => absurd (List.cons.inj h).1 (hl a (List.mem_cons_self ..))
  | a :: l, b :: m, r, s, hl, hm, h => by
    obtain ⟨h1, h2⟩ := List.cons.inj h
    obtain ⟨h3, h4⟩ := cut_inj (fun x hx => hl x (List.mem_cons_of_mem _ hx)) (fun x hx => hm x (List.mem_cons_of_mem _ hx)) h2
    exact ⟨by rw [h1, h3], h4⟩
theorem told (a b c d : Int) (ha : I64 a) (hb : I64 b) : Told a b c d where
  same := by
    constructor
    · intro h
      rw [Lib.toList_data, Lib.toList_data, app_list, app_list, app_list, app_list, List.append_assoc, List.append_assoc] at h
      have h' : itoa a ++ 32 :: ([111, 102, 32] ++ itoa b) = itoa c ++ 32 :: ([111, 102, 32] ++ itoa d) := h
      obtain ⟨h1, h2⟩ := cut_inj (itoa_bytes a) (itoa_bytes c) h'
      exact ⟨itoa_inj h1, itoa_inj (List.append_cancel_left h2)⟩
    · rintro ⟨rfl, rfl⟩
      rfl
  dec := ⟨100, dec_all a ha, dec_all b hb⟩
end Go.Proofs.YtfkgklbaafbbiaaDoor.Shorts
