import Derived.Test.YtnmjocoopbfpnaaDoorPRefAx9
import Derived.Test.YtnmjocoopbfpnaaDoorEntRefR
import Derived.Test.YtnmjocoopbfpnaaDoorCharMore
namespace Go.Proofs.YtnmjocoopbfpnaaDoor.RefModelB
open Go.RowKit Go.Proofs.YtnmjocoopbfpnaaDoor.PRefA Go.Proofs.YtnmjocoopbfpnaaDoor.EntBaseR Go.Proofs.YtnmjocoopbfpnaaDoor.EntRefR Go.Proofs.YtnmjocoopbfpnaaDoor.CharPure Go.Proofs.YtnmjocoopbfpnaaDoorW.PrintWords Go.Proofs.YtnmjocoopbfpnaaDoorW.PrintLast Go.Proofs.YtnmjocoopbfpnaaDoorW.PrintMore

theorem up {α : Type} {g : Nat → Option α} (hm : ∀ k, LeO (g k) (g (k + 1))) {r : α} {k0 : Nat} (h : g k0 = some r) : ∀ k, k0 ≤ k → g k = some r := by
  intro k hk
  induction k with
  | zero =>
    obtain rfl : k0 = 0 := by omega
    exact h
  | succ k ih =>
    by_cases e : k0 = k + 1
    · rw [← e]; exact h
    · exact hm k r (ih (by omega))
theorem w64 (a : Int) (h1 : -9223372036854775808 ≤ a) (h2 : a ≤ 9223372036854775807) : wrap64 a = a := wrap64_id a h1 h2
/-- A row of bytes as numbers that are not negative. -/
def ns (l : List Int) : List Nat := l.map Int.toNat
theorem ns_len (l : List Int) : (ns l).length = l.length := List.length_map ..
theorem ns_drop (l : List Int) (p : Nat) : ns (l.drop p) = (ns l).drop p := by unfold ns; rw [List.map_drop]
theorem ns_cons (l : List Int) (p : Nat) (hp : p < l.length) : (ns l).drop p = bn l p :: (ns l).drop (p + 1) := by
  rw [List.drop_eq_getElem_cons (by rw [ns_len]; exact hp)]
  congr 1
  unfold ns bn
  rw [List.getElem_map, List.getD_eq_getElem?_getD, List.getElem?_eq_getElem hp, Option.getD_some]
theorem bn_out (l : List Int) (p : Nat) (hp : l.length ≤ p) : bn l p = 0 := by
  unfold bn
  rw [List.getD_eq_getElem?_getD, List.getElem?_eq_none hp]
  rfl
theorem bn_drop (l : List Int) (p j : Nat) : bn (l.drop p) j = bn l (p + j) := by
  unfold bn
  rw [List.getD_eq_getElem?_getD, List.getD_eq_getElem?_getD, List.getElem?_drop]
theorem bytes_drop {l : List Int} (h : Bytes l) (p : Nat) : Bytes (l.drop p) := fun x hx => h x (List.mem_of_mem_drop hx)
theorem bytes_take {l : List Int} (h : Bytes l) (p : Nat) : Bytes (l.take p) := fun x hx => h x (List.mem_of_mem_take hx)
/-- What a digit counts. -/
def hx (c : Nat) : Option Nat := if 48 ≤ c ∧ c ≤ 57 then some (c - 48) else if 97 ≤ c ∧ c ≤ 102 then some (c - 87) else if 65 ≤ c ∧ c ≤ 70 then some (c - 55) else none
def isX (c : Nat) : Bool := c == 120 || c == 88
def lt (c : Nat) : Bool := decide (65 ≤ c ∧ c ≤ 90) || decide (97 ≤ c ∧ c ≤ 122)
def dg (c : Nat) : Bool := decide (48 ≤ c ∧ c ≤ 57)
theorem chars0 : ((List.range 256).all fun c => class_Hex.f (wrap32 (c : Int)) == some (match hx c with | some v => ((v : Int), true) | none => (0, false)) && decanterref03_Hex.f 1 (wrap64 (c : Int)) == some (match hx c with | some v => (v : Int) | none => -1) && (class_Lower.f (wrap32 (c : Int))).map (· == 120) == some (isX c) && class_Letter.f (wrap32 (c : Int)) == some (lt c) && class_Digit.f (wrap32 (c : Int)) == some (dg c) && decanterref03_Letter.f (wrap64 (c : Int)) == some (lt c) && decanterref03_Digit.f (wrap64 (c : Int)) == some (dg c) && decide (wrap32 (c : Int) = (c : Int)) && decide ((hx c).getD 0 ≤ 15)) = true := by kernel_rfl
theorem chars (c : Nat) (hc : c < 256) : class_Hex.f (wrap32 (c : Int)) = some (match hx c with | some v => ((v : Int), true) | none => (0, false)) ∧ decanterref03_Hex.f 1 (wrap64 (c : Int)) = some (match hx c with | some v => (v : Int) | none => -1) ∧ (class_Lower.f (wrap32 (c : Int))).map (· == 120) = some (isX c) ∧ class_Letter.f (wrap32 (c : Int)) = some (lt c) ∧ class_Digit.f (wrap32 (c : Int)) = some (dg c) ∧ decanterref03_Letter.f (wrap64 (c : Int)) = some (lt c) ∧ decanterref03_Digit.f (wrap64 (c : Int)) = some (dg c) ∧ wrap32 (c : Int) = (c : Int) ∧ (hx c).getD 0 ≤ 15 := by
  have h := List.all_eq_true.1 chars0 c (List.mem_range.2 hc)
  simp only [Bool.and_eq_true, beq_iff_eq, decide_eq_true_eq] at h
  obtain ⟨⟨⟨⟨⟨⟨⟨⟨h1, h2⟩, h3⟩, h4⟩, h5⟩, h6⟩, h7⟩, h8⟩, h9⟩ := h
  exact ⟨h1, h2, h3, h4, h5, h6, h7, h8, h9⟩
theorem dhex (c : Nat) (hc : c < 256) (k : Nat) (hk : 1 ≤ k) : decanterref03_Hex.f k (wrap64 (c : Int)) = some (match hx c with | some v => (v : Int) | none => -1) := up (decanterref03_Hex.mono _) (chars c hc).2.1 k hk
/-- The digits at the beginning: what they count, no more than 1114112, and how many they are. -/
def dig (base : Nat) : List Nat → Nat → Nat → Nat × Nat
  | [], n, m => (n, m)
  | c :: r, n, m => match hx c with
    | none => (n, m)
    | some v => if base ≤ v then (n, m) else dig base r (min (n * base + v) 1114112) (m + 1)
theorem dig_le (base : Nat) : ∀ (l : List Nat) (n m : Nat), m ≤ (dig base l n m).2 ∧ (dig base l n m).2 ≤ m + l.length
  | [], n, m => ⟨Nat.le_refl _, Nat.le_refl _⟩
  | c :: r, n, m => by
    rw [dig, List.length_cons]
    split
    · exact ⟨Nat.le_refl _, by omega⟩
    · split
      · exact ⟨Nat.le_refl _, by omega⟩
      · rename_i v _ _
        have := dig_le base r (min (n * base + v) 1114112) (m + 1)
        omega
theorem mul_le (n base : Nat) (hn : n ≤ 1114112) (hb : base ≤ 16) : n * base ≤ 17825792 := by
  have h1 := Nat.mul_le_mul hn hb
  omega
theorem digits_loop (l : List Int) (hb : Bytes l) (hl : l.length ≤ 3000) (base : Nat) (hbase : base ≤ 16) : ∀ (d i k n m : Nat), i + d = l.length → d < k → n ≤ 1114112 → m ≤ i → ref_digits.l0 k (base : Int) (n : Int) (m : Int) l (l.length : Int) (i : Int) = some (((dig base ((ns l).drop i) n m).1 : Int), ((dig base ((ns l).drop i) n m).2 : Int))
  | 0, i, k + 1, n, m, hd, hk, hn, hm => by
    obtain rfl : i = l.length := by omega
    rw [ref_digits.l0, if_neg (by omega), ← ns_len, List.drop_length, dig]
  | d + 1, i, k + 1, n, m, hd, hk, hn, hm => by
    have hc := bn_lt hb i
    obtain ⟨h1, -, -, -, -, -, -, -, h9⟩ := chars (bn l i) hc
    rw [ref_digits.l0, if_pos (by omega), if_pos (by omega), if_pos (by omega), rd_bn hb, h1, Option.bind_some, ns_cons l i (by omega), dig]
    cases hv : hx (bn l i) with
    | none => rfl
    | some v =>
      rw [hv, Option.getD_some] at h9
      dsimp only
      rw [if_pos rfl]
      by_cases hge : base ≤ v
      · rw [if_pos (by omega), if_pos hge]
      · have hmul := mul_le n base hn hbase
        have e1 : (n : Int) * (base : Int) = ((n * base : Nat) : Int) := rfl
        rw [if_neg (by omega), if_neg hge, e1, w64 ((n * base : Nat) : Int) (by omega) (by omega), w64 (((n * base : Nat) : Int) + (v : Int)) (by omega) (by omega), w64 ((m : Int) + 1) (by omega) (by omega), w64 ((i : Int) + 1) (by omega) (by omega)]
        have e2 : mn (((n * base : Nat) : Int) + (v : Int)) 1114112 = ((min (n * base + v) 1114112 : Nat) : Int) := by
          unfold mn
          split <;> omega
        rw [e2]
        exact digits_loop l hb hl base hbase d (i + 1) k (min (n * base + v) 1114112) (m + 1) (by omega) (by omega) (by omega) (by omega)
theorem high0 : ((List.range 32).all fun i => ref_Point.pt ((128 + i : Nat) : Int) == rd [8364, 129, 8218, 402, 8222, 8230, 8224, 8225, 710, 8240, 352, 8249, 338, 141, 381, 143, 144, 8216, 8217, 8220, 8221, 8226, 8211, 8212, 732, 8482, 353, 8250, 339, 157, 382, 376] (i : Int)) = true := by kernel_rfl
theorem point_eq (a : Int) (h1 : -9223372036854775808 ≤ a) (h2 : a ≤ 9223372036854775807) (k : Nat) : decanterref05_Point.f (k + 1) a = some (ref_Point.pt a) := by
  have hj : decanterref05_Point.j0 (k + 1) a true = some 65533 := by rw [decanterref05_Point.j0, if_pos rfl]
  unfold decanterref05_Point.f
  by_cases c1 : a ≤ 0
  · rw [if_pos c1, hj]
    unfold ref_Point.pt
    rw [if_pos (.inl c1)]
  · by_cases c2 : a > 1114111
    · rw [if_neg c1, if_pos c2, hj]
      unfold ref_Point.pt
      rw [if_pos (.inr (.inl c2))]
    · rw [if_neg c1, if_neg c2]
      by_cases c3 : 55296 ≤ a ∧ a ≤ 57343
      · rw [if_pos c3.1, decide_eq_true c3.2, hj]
        unfold ref_Point.pt Lib.validRune
        rw [if_pos (.inr (.inr (decide_eq_false (by omega))))]
      · have hq : (if a ≥ 55296 then decanterref05_Point.j0 (k + 1) a (decide (a ≤ 57343)) else decanterref05_Point.j0 (k + 1) a false) = decanterref05_Point.j0 (k + 1) a false := by
          split
          · rw [decide_eq_false (by omega)]
          · rfl
        have hv : Lib.validRune a = true := by
          unfold Lib.validRune
          exact decide_eq_true (by omega)
        have hpt : ref_Point.pt a = if (128 ≤ a ∧ a < 160) ∧ ref_Point.high a ≠ 0 then ref_Point.high a else a := by
          unfold ref_Point.pt
          rw [if_neg (by rw [hv]; simp; omega)]
        rw [hq, decanterref05_Point.j0, if_neg (by decide)]
        by_cases c4 : a < 128
        · rw [if_pos c4, hpt, if_neg (by omega)]
        · rw [if_neg c4]
          by_cases c5 : a > 159
          · rw [if_pos c5, hpt, if_neg (by omega)]
          · rw [if_neg c5, Option.bind_some, w64 (a - 128) (by omega) (by omega), if_pos (by omega), if_pos (by show a - 128 < (32 : Int); omega)]
            obtain ⟨i, hi, rfl⟩ : ∃ i : Nat, i < 32 ∧ a = ((128 + i : Nat) : Int) := ⟨(a - 128).toNat, by omega, by omega⟩
            have h := List.all_eq_true.1 high0 i (List.mem_range.2 hi)
            rw [beq_iff_eq] at h
            rw [h, show (((128 + i : Nat) : Int) - 128) = (i : Int) by omega]
/-- The number of a character, as a natural number. -/
def pn (v : Nat) : Nat := (ref_Point.pt (v : Int)).toNat
theorem high1 : (highTab.all fun z => decide (0 ≤ z) && decide (z < 55296)) = true := by kernel_rfl
theorem pt_ok (a : Int) : ∃ c : Nat, ref_Point.pt a = (c : Int) ∧ (c < 55296 ∨ (57344 ≤ c ∧ c ≤ 1114111)) := by
  unfold ref_Point.pt
  split
  · exact ⟨65533, rfl, by omega⟩
  · rename_i h
    split
    · have hh : 0 ≤ ref_Point.high a ∧ ref_Point.high a < 55296 := by
        unfold ref_Point.high
        rw [List.getD_eq_getElem?_getD]
        cases hg : highTab[(a - 128).toNat]? with
        | none => simp
        | some z =>
          have := List.all_eq_true.1 high1 z (List.mem_of_getElem? hg)
          rw [Bool.and_eq_true, decide_eq_true_eq, decide_eq_true_eq] at this
          exact this
      exact ⟨(ref_Point.high a).toNat, by omega, by omega⟩
    · have hv : Lib.validRune a = true := by
        cases hv : Lib.validRune a with
        | true => rfl
        | false => exact absurd (.inr (.inr hv)) h
      unfold Lib.validRune at hv
      have := of_decide_eq_true hv
      exact ⟨a.toNat, by omega, by omega⟩
theorem pn_eq (v : Nat) : ref_Point.pt (v : Int) = (pn v : Int) ∧ (pn v < 55296 ∨ (57344 ≤ pn v ∧ pn v ≤ 1114111)) := by
  obtain ⟨c, h, hc⟩ := pt_ok (v : Int)
  have : pn v = c := by unfold pn; rw [h]; rfl
  rw [this]
  exact ⟨h, hc⟩
/-- What stands behind & and #: base, how many bytes lie ahead of the digits. -/
def skp (r : List Int) : Nat := if isX (bn r 0) = true then 1 else 0
def bas (r : List Int) : Nat := if isX (bn r 0) = true then 16 else 10
def dgs (r : List Int) : Nat × Nat := dig (bas r) ((ns r).drop (skp r)) 0 0
def num (r : List Int) : Option (Nat × Nat) := if (dgs r).2 = 0 then none else if bn r (skp r + (dgs r).2) = 59 then some (pn (dgs r).1, skp r + (dgs r).2 + 1) else some (pn (dgs r).1, skp r + (dgs r).2)
theorem skp_le (r : List Int) : skp r ≤ r.length := by
  unfold skp
  split
  · rename_i h
    cases r with
    | nil => cases h
    | cons _ _ => rw [List.length_cons]; omega
  · omega
theorem dgs_le (r : List Int) : skp r + (dgs r).2 ≤ r.length := by
  have h := (dig_le (bas r) ((ns r).drop (skp r)) 0 0).2
  rw [List.length_drop, ns_len] at h
  have := skp_le r
  show skp r + (dig (bas r) ((ns r).drop (skp r)) 0 0).2 ≤ _
  omega
theorem bas_le (r : List Int) : bas r ≤ 16 := by unfold bas; split <;> omega
theorem num_le (r : List Int) (c e : Nat) (h : num r = some (c, e)) : 0 < e ∧ e ≤ r.length := by
  unfold num at h
  have hle := dgs_le r
  split at h
  · cases h
  · split at h
    · rename_i h1 h2
      obtain ⟨-, rfl⟩ := Prod.mk.inj (Option.some.inj h)
      by_cases q : skp r + (dgs r).2 < r.length
      · omega
      · rw [bn_out r _ (by omega)] at h2
        cases h2
    · obtain ⟨-, rfl⟩ := Prod.mk.inj (Option.some.inj h)
      omega
theorem number_eq (r : List Int) (hb : Bytes r) (hl : r.length ≤ 3000) (k : Nat) (hk : 3010 ≤ k) : ref_number.f k r = some (match num r with | none => (⟨#[]⟩, 0) | some (c, e) => (Go.Utf8.encode (c : Int), (e : Int))) := by
  obtain ⟨k, rfl⟩ : ∃ k', k = k' + 2 := ⟨k - 2, by omega⟩
  have hle := dgs_le r
  have hsk := skp_le r
  have hj : ref_number.j1 (k + 1) r (bas r : Int) (skp r : Int) = some (match num r with | none => (⟨#[]⟩, 0) | some (c, e) => (Go.Utf8.encode (c : Int), (e : Int))) := by
    rw [ref_number.j1, if_pos (by omega), if_pos (by omega), Int.toNat_natCast]
    have hlen : (r.drop (skp r)).length = r.length - skp r := List.length_drop ..
    have hd := digits_loop (r.drop (skp r)) (bytes_drop hb _) (by omega) (bas r) (bas_le r) (r.drop (skp r)).length 0 k 0 0 (by omega) (by omega) (by omega) (by omega)
    rw [List.drop_zero, ns_drop] at hd
    unfold ref_digits.f
    rw [show ((0 : Nat) : Int) = 0 from rfl] at hd
    rw [hd, Option.bind_some]
    obtain ⟨hp, -⟩ := pn_eq (dgs r).1
    unfold dgs at hle hp
    unfold num dgs
    generalize dig (bas r) ((ns r).drop (skp r)) 0 0 = d at *
    dsimp only
    by_cases h0 : d.2 = 0
    · rw [if_pos (by omega), if_pos h0]
    · rw [if_neg (by omega), if_neg h0, w64 ((skp r : Int) + (d.2 : Int)) (by omega) (by omega)]
      have ec : ((skp r : Int) + (d.2 : Int)) = ((skp r + d.2 : Nat) : Int) := rfl
      unfold ref_Point.f
      rw [ec, hp]
      by_cases h1 : ((skp r + d.2 : Nat) : Int) < (r.length : Int)
      · rw [if_pos h1, if_pos (by omega), rd_bn hb]
        by_cases h2 : bn r (skp r + d.2) = 59
        · rw [if_pos (by omega), if_pos h2, Option.bind_some, w64 _ (by omega) (by omega)]
          rfl
        · rw [if_neg (by omega), if_neg h2, Option.bind_some]
      · rw [if_neg h1, bn_out r _ (by omega), if_neg (by decide), Option.bind_some]
  unfold ref_number.f
  by_cases h0 : (r.length : Int) > 0
  · rw [if_pos h0, if_pos (by omega)]
    have hx3 := (chars (bn r 0) (bn_lt hb 0)).2.2.1
    obtain ⟨y, hy, hy2⟩ := Option.map_eq_some_iff.1 hx3
    have hr0 := rd_bn hb 0
    rw [show ((0 : Nat) : Int) = 0 from rfl] at hr0
    rw [hr0, hy, Option.bind_some, hy2, ref_number.j0]
    unfold bas skp at hj
    split
    · rename_i h
      rw [if_pos h, if_pos h] at hj
      exact hj
    · rename_i h
      rw [if_neg h, if_neg h] at hj
      exact hj
  · have hn : isX (bn r 0) = false := by rw [bn_out r 0 (by omega)]; rfl
    unfold bas skp at hj
    rw [hn] at hj
    rw [if_neg h0, ref_number.j0, if_neg (by decide)]
    exact hj
/-- The document's end of a number. -/
def fin (b : List Int) (from_ : Nat) (d : Nat × Nat) : Int × Int := if d.2 = 0 then (0, -1) else if bn b (from_ + d.2) = 59 then ((pn d.1 : Int), ((from_ + d.2 + 1 : Nat) : Int)) else ((pn d.1 : Int), ((from_ + d.2 : Nat) : Int))
theorem fin_eq (b : List Int) (hb : Bytes b) (hl : b.length ≤ 3000) (from_ v m : Nat) (h : from_ + m ≤ b.length) (hv : v ≤ 1114112) (k : Nat) : decanterref05_byNumber.j4 (k + 2) b ((from_ + m : Nat) : Int) (v : Int) (from_ : Int) = some (fin b from_ (v, m)) := by
  rw [decanterref05_byNumber.j4]
  unfold fin
  obtain ⟨hp, -⟩ := pn_eq v
  dsimp only
  by_cases h0 : m = 0
  · rw [if_pos (by omega), if_pos h0]
  · rw [if_neg (by omega), if_neg h0, point_eq (v : Int) (by omega) (by omega) k, hp]
    by_cases h1 : from_ + m < b.length
    · rw [if_pos (by omega), if_pos (by omega), rd_bn hb]
      by_cases h2 : bn b (from_ + m) = 59
      · rw [if_pos (by omega), if_pos h2, Option.bind_some, w64 _ (by omega) (by omega)]
        rfl
      · rw [if_neg (by omega), if_neg h2, Option.bind_some]
    · rw [if_neg (by omega), bn_out b _ (by omega), if_neg (by decide), Option.bind_some]
theorem by_loop (b : List Int) (hb : Bytes b) (hl : b.length ≤ 3000) (base : Nat) (hbase : base ≤ 16) (from_ : Nat) : ∀ (d m k n : Nat), from_ + m + d = b.length → 2 * d + 8 ≤ k → n ≤ 1114112 → decanterref05_byNumber.l0 k b ((from_ + m : Nat) : Int) (base : Int) (n : Int) (from_ : Int) = some (fin b from_ (dig base ((ns b).drop (from_ + m)) n m))
  | 0, m, k + 3, n, hd, hk, hn => by
    rw [decanterref05_byNumber.l0, if_neg (by omega), fin_eq b hb hl from_ n m (by omega) hn k, show from_ + m = (ns b).length by rw [ns_len]; omega, List.drop_length, dig]
  | d + 1, m, k + 4, n, hd, hk, hn => by
    have hc := bn_lt hb (from_ + m)
    have h9 := (chars (bn b (from_ + m)) hc).2.2.2.2.2.2.2.2
    rw [decanterref05_byNumber.l0, if_pos (by omega), if_pos (by omega), rd_bn hb, dhex _ hc _ (by omega), Option.bind_some, ns_cons b (from_ + m) (by omega), dig]
    cases hv : hx (bn b (from_ + m)) with
    | none =>
      dsimp only
      rw [if_pos (by decide), decanterref05_byNumber.j3, if_pos rfl]
      exact fin_eq b hb hl from_ n m (by omega) hn k
    | some v =>
      rw [hv, Option.getD_some] at h9
      dsimp only
      rw [if_neg (by omega), decanterref05_byNumber.j3]
      by_cases hge : base ≤ v
      · rw [decide_eq_true (by omega), if_pos rfl, if_pos hge]
        exact fin_eq b hb hl from_ n m (by omega) hn k
      · have hmul := mul_le n base hn hbase
        have e1 : (n : Int) * (base : Int) = ((n * base : Nat) : Int) := rfl
        rw [decide_eq_false (by omega), if_neg (by decide), if_neg hge, e1, w64 ((n * base : Nat) : Int) (by omega) (by omega), w64 (((n * base : Nat) : Int) + (v : Int)) (by omega) (by omega), w64 (((from_ + m : Nat) : Int) + 1) (by omega) (by omega)]
        have ih := by_loop b hb hl base hbase from_ d (m + 1) (k + 2) (min (n * base + v) 1114112) (by omega) (by omega) (by omega)
        rw [Nat.add_assoc from_ m 1, ← ih]
        by_cases hbig : ((n * base : Nat) : Int) + (v : Int) > 1114112
        · rw [if_pos hbig, show min (n * base + v) 1114112 = 1114112 by omega]
          rfl
        · rw [if_neg hbig, show min (n * base + v) 1114112 = n * base + v by omega]
          rfl
theorem by_eq (b : List Int) (hb : Bytes b) (hl : b.length ≤ 3000) (at_ : Nat) (ha : at_ ≤ b.length) (k : Nat) (hk : 6020 ≤ k) : decanterref05_byNumber.f k b (at_ : Int) = some (match num (b.drop at_) with | none => (0, -1) | some (c, e) => ((c : Int), ((at_ + e : Nat) : Int))) := by
  obtain ⟨k, rfl⟩ : ∃ k', k = k' + 2 := ⟨k - 2, by omega⟩
  have hsk := skp_le (b.drop at_)
  rw [List.length_drop] at hsk
  have hl0 := by_loop b hb hl (bas (b.drop at_)) (bas_le _) (at_ + skp (b.drop at_)) (b.length - (at_ + skp (b.drop at_))) 0 k 0 (by omega) (by omega) (by omega)
  rw [Nat.add_zero] at hl0
  have hfin : fin b (at_ + skp (b.drop at_)) (dig (bas (b.drop at_)) ((ns b).drop (at_ + skp (b.drop at_))) 0 0) = (match num (b.drop at_) with | none => (0, -1) | some (c, e) => ((c : Int), ((at_ + e : Nat) : Int))) := by
    unfold num dgs
    rw [ns_drop, List.drop_drop]
    generalize dig (bas (b.drop at_)) ((ns b).drop (at_ + skp (b.drop at_))) 0 0 = d
    unfold fin
    rw [bn_drop]
    by_cases h0 : d.2 = 0
    · rw [if_pos h0, if_pos h0]
    · rw [if_neg h0, if_neg h0, show at_ + (skp (b.drop at_) + d.2) = at_ + skp (b.drop at_) + d.2 by omega]
      split <;> rename_i h1
      · dsimp only
        congr 2
        omega
      · dsimp only
        congr 2
        omega
  rw [hfin] at hl0
  have hj1 : decanterref05_byNumber.j1 (k + 1) b ((at_ + skp (b.drop at_) : Nat) : Int) (bas (b.drop at_) : Int) = some (match num (b.drop at_) with | none => (0, -1) | some (c, e) => ((c : Int), ((at_ + e : Nat) : Int))) := by
    rw [decanterref05_byNumber.j1]
    exact hl0
  have hz : bn (b.drop at_) 0 = bn b at_ := by rw [bn_drop, Nat.add_zero]
  have hj0 : decanterref05_byNumber.j0 (k + 2) b (at_ : Int) 10 (isX (bn b at_)) = some (match num (b.drop at_) with | none => (0, -1) | some (c, e) => ((c : Int), ((at_ + e : Nat) : Int))) := by
    rw [decanterref05_byNumber.j0]
    unfold skp bas at hj1
    rw [hz] at hj1
    split
    · rename_i h
      rw [if_pos h, if_pos h] at hj1
      rw [w64 _ (by omega) (by omega)]
      exact hj1
    · rename_i h
      rw [if_neg h, if_neg h, Nat.add_zero] at hj1
      exact hj1
  unfold decanterref05_byNumber.f
  by_cases h0 : (at_ : Int) < (b.length : Int)
  · rw [if_pos h0, if_pos (by omega), rd_bn hb]
    unfold isX at hj0
    by_cases h1 : bn b at_ = 120
    · rw [h1] at hj0 ⊢
      rw [if_pos (show ((120 : Nat) : Int) = 120 from rfl)]
      exact hj0
    · rw [if_neg (by omega)]
      rw [show (((bn b at_ : Nat) : Int) == 88) = (bn b at_ == 120 || bn b at_ == 88) by
        rw [beq_eq_false_iff_ne.2 h1, Bool.false_or]
        by_cases q : bn b at_ = 88
        · rw [q]; rfl
        · rw [beq_eq_false_iff_ne.2 q]
          exact beq_eq_false_iff_ne.2 (by omega)]
      exact hj0
  · rw [if_neg h0]
    rw [bn_out b at_ (by omega)] at hj0
    exact hj0
end Go.Proofs.YtnmjocoopbfpnaaDoor.RefModelB
