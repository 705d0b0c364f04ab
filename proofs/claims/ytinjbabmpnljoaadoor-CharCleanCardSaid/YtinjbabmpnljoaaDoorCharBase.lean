import Derived.Test.YtinjbabmpnljoaaDoorPCharx3
import Derived.IntWalk
import Derived.Lib.DecodeN
import Derived.Lib.RuneBytes
namespace Go.Proofs.YtinjbabmpnljoaaDoor.CharPure
open Go.IntWalk Go.RowKit Go.Lib Go.Proofs.YtinjbabmpnljoaaDoor.PChar Go.Proofs.YtinjbabmpnljoaaDoorW.PrintWords Go.Proofs.YtinjbabmpnljoaaDoorW.PrintLast

theorem byte_of_wf {x : Int} (h : (Lit.int .u8 x).wf = true) : 0 ≤ x ∧ x ≤ 255 := by
  simpa [Lit.wf, IntKind.min, IntKind.max, IntKind.signed, IntKind.bits] using h
def Bytes (l : List Int) : Prop := ∀ x ∈ l, 0 ≤ x ∧ x ≤ 255
/-- The byte at a place, as a number; 0 behind the end. -/
def bn (l : List Int) (p : Nat) : Nat := (l.getD p 0).toNat
theorem getD_byte {l : List Int} (h : Bytes l) (p : Nat) : 0 ≤ l.getD p 0 ∧ l.getD p 0 ≤ 255 := by
  rw [List.getD_eq_getElem?_getD]
  cases hj : l[p]? with
  | none => simp
  | some x => exact h x (List.mem_of_getElem? hj)
theorem bn_lt {l : List Int} (h : Bytes l) (p : Nat) : bn l p < 256 := by
  have := getD_byte h p
  unfold bn
  omega
theorem rd_bn {l : List Int} (h : Bytes l) (p : Nat) : rd l (p : Int) = (bn l p : Int) := by
  have := getD_byte h p
  unfold rd bn
  rw [Int.toNat_natCast]
  omega
theorem rd_drop (l : List Int) (p j : Nat) : rd (l.drop p) (j : Int) = rd l ((p + j : Nat) : Int) := by
  unfold rd
  rw [Int.toNat_natCast, Int.toNat_natCast, List.getD_eq_getElem?_getD, List.getD_eq_getElem?_getD, List.getElem?_drop]
theorem get_any (l : List Int) (hb : Bytes l) (p j : Nat) : ((strOfNums (l.drop p)).get! j).toNat = bn l (p + j) := by
  have hall : (l.drop p).all utf8_DecodeRune.inB = true := List.all_eq_true.2 fun x hx => by
    have := hb x (List.mem_of_mem_drop hx)
    unfold utf8_DecodeRune.inB
    rw [Bool.and_eq_true, decide_eq_true_eq, decide_eq_true_eq]
    exact this
  unfold bn
  by_cases hj : j < (l.drop p).length
  · have h := utf8_DecodeRune.get_byte (l.drop p) hall j hj
    rw [List.getD_eq_getElem?_getD, List.getElem?_drop, ← List.getD_eq_getElem?_getD] at h
    omega
  · have hs : ¬ j < (strOfNums (l.drop p)).size := by rw [strOfNums_size]; exact hj
    have e : (strOfNums (l.drop p)).get! j = default := by
      simp only [ByteArray.get!]
      exact getElem!_neg _ _ hs
    rw [e]
    rw [List.length_drop] at hj
    rw [List.getD_eq_getElem?_getD, List.getElem?_eq_none (by omega)]
    rfl
theorem dec_go (l : List Int) (hb : Bytes l) (p : Nat) (hp : p < l.length) : Lib.decodeGo (strOfNums (l.drop p)) = decodeN (l.length - p) (bn l p) (bn l (p + 1)) (bn l (p + 2)) (bn l (p + 3)) := by
  unfold Lib.decodeGo
  have hs : (strOfNums (l.drop p)).size = l.length - p := by rw [strOfNums_size, List.length_drop]
  rw [if_neg (by omega), decode_at, hs, get_any l hb p, get_any l hb p, get_any l hb p, get_any l hb p]
  rfl
/-- The character at a place, and how many bytes it has. -/
def nx (l : List Int) (p : Nat) : Nat × Nat :=
  if bn l p = 0 then (65533, 1) else if bn l p = 13 then (if 1 < l.length - p ∧ bn l (p + 1) = 10 then (10, 2) else (10, 1)) else decodeN (l.length - p) (bn l p) (bn l (p + 1)) (bn l (p + 2)) (bn l (p + 3))
theorem decodeN_facts (n b0 b1 b2 b3 : Nat) (hn : 1 ≤ n) (h0 : b0 < 256) (h1 : b0 ≠ 0) (h2 : b0 ≠ 13) : 1 ≤ (decodeN n b0 b1 b2 b3).2 ∧ (decodeN n b0 b1 b2 b3).2 ≤ 4 ∧ (decodeN n b0 b1 b2 b3).2 ≤ n ∧ (decodeN n b0 b1 b2 b3).1 ≠ 0 ∧ (decodeN n b0 b1 b2 b3).1 ≠ 13 ∧
    ((decodeN n b0 b1 b2 b3).1 < 55296 ∨ (57344 ≤ (decodeN n b0 b1 b2 b3).1 ∧ (decodeN n b0 b1 b2 b3).1 ≤ 1114111)) := by
  unfold decodeN
  repeat' split
  all_goals (dsimp only; omega)
theorem nx_facts (l : List Int) (hb : Bytes l) (p : Nat) (hp : p < l.length) : 1 ≤ (nx l p).2 ∧ (nx l p).2 ≤ 4 ∧ p + (nx l p).2 ≤ l.length ∧ (nx l p).1 ≠ 0 ∧ (nx l p).1 ≠ 13 ∧ ((nx l p).1 < 55296 ∨ (57344 ≤ (nx l p).1 ∧ (nx l p).1 ≤ 1114111)) := by
  unfold nx
  by_cases h0 : bn l p = 0
  · rw [if_pos h0]; dsimp only; omega
  · rw [if_neg h0]
    by_cases h1 : bn l p = 13
    · rw [if_pos h1]
      split <;> (dsimp only; omega)
    · rw [if_neg h1]
      have := decodeN_facts (l.length - p) (bn l p) (bn l (p + 1)) (bn l (p + 2)) (bn l (p + 3)) (by omega) (bn_lt hb p) h0 h1
      omega
theorem next_in (l : List Int) (hb : Bytes l) (hl : l.length ≤ 100000) (p : Nat) (hp : p < l.length) (k : Nat) : char_Next.f (k + 1) l (p : Int) = some (((nx l p).1 : Int), ((nx l p).2 : Int)) := by
  unfold char_Next.f
  have r0 := rd_drop l p 0
  have r1 := rd_drop l p 1
  rw [Nat.add_zero, rd_bn hb, show ((0 : Nat) : Int) = 0 from rfl] at r0
  rw [rd_bn hb, show ((1 : Nat) : Int) = 1 from rfl] at r1
  have hd := dec_go l hb p hp
  rw [if_neg (by omega), decide_eq_false (by omega), char_Next.j0, if_neg (by decide), if_pos (by omega), if_pos (by omega), Int.toNat_natCast, List.length_drop, if_pos (by omega), r0, r1]
  unfold nx
  by_cases h0 : bn l p = 0
  · rw [if_pos (by omega), if_pos h0]; rfl
  · rw [if_neg (by omega), if_neg h0]
    by_cases h1 : bn l p = 13
    · rw [if_pos (by omega), if_pos h1]
      by_cases h2 : 1 < l.length - p
      · rw [if_pos (by omega), if_pos (by omega)]
        by_cases h3 : bn l (p + 1) = 10
        · rw [if_pos (by omega), if_pos ⟨h2, h3⟩]; rfl
        · rw [if_neg (by omega), if_neg (fun h => h3 h.2)]; rfl
      · rw [if_neg (by omega), if_neg (fun h => h2 h.1)]; rfl
    · rw [if_neg (by omega), if_neg h1]
      unfold utf8_DecodeRune.f
      rw [if_pos ⟨by
        cases hq : l.drop p with
        | nil => have := congrArg List.length hq; rw [List.length_drop] at this; simp at this; omega
        | cons _ _ => rfl, List.all_eq_true.2 fun x hx => by
          have := hb x (List.mem_of_mem_drop hx)
          unfold utf8_DecodeRune.inB
          rw [Bool.and_eq_true, decide_eq_true_eq, decide_eq_true_eq]
          exact this, by rw [List.length_drop]; omega⟩, Option.bind_some, hd]
theorem next_out (l : List Int) (a : Int) (ha : a < 0 ∨ (l.length : Int) ≤ a) (k : Nat) : char_Next.f (k + 1) l a = some (0, 0) := by
  unfold char_Next.f
  by_cases h : a < 0
  · rw [if_pos h, char_Next.j0, if_pos rfl]
  · rw [if_neg h, decide_eq_true (by omega), char_Next.j0, if_pos rfl]
/-! ### The document's -/
def finN (v least many : Nat) : Nat × Nat := if v < least then (0, 0) else if v > 1114111 then (0, 0) else if 55296 ≤ v ∧ v < 57344 then (0, 0) else (v, many + 1)
def mo (n j b : Nat) : Prop := j < n ∧ 128 ≤ b ∧ b < 192
instance (n j b : Nat) : Decidable (mo n j b) := by unfold mo; infer_instance
def utfN (n b0 b1 b2 b3 : Nat) : Nat × Nat :=
  if b0 < 128 then (b0, 1)
  else if 194 ≤ b0 ∧ b0 < 224 then (if mo n 1 b1 then finN ((b0 - 192) * 64 + b1 - 128) 128 1 else (0, 0))
  else if 224 ≤ b0 ∧ b0 < 240 then (if mo n 1 b1 then (if mo n 2 b2 then finN (((b0 - 224) * 64 + b1 - 128) * 64 + b2 - 128) 2048 2 else (0, 0)) else (0, 0))
  else if 240 ≤ b0 ∧ b0 < 245 then (if mo n 1 b1 then (if mo n 2 b2 then (if mo n 3 b3 then finN ((((b0 - 240) * 64 + b1 - 128) * 64 + b2 - 128) * 64 + b3 - 128) 65536 3 else (0, 0)) else (0, 0)) else (0, 0))
  else (0, 0)
def post (u : Nat × Nat) : Nat × Nat := if u.2 = 0 then (65533, 1) else if u.1 = 0 then (65533, 1) else u
theorem post_zero : post (0, 0) = (65533, 1) := rfl
theorem post_fin (v least many : Nat) (h : 0 < least) : post (finN v least many) = if v ≥ least ∧ (v < 55296 ∨ (57344 ≤ v ∧ v ≤ 1114111)) then (v, many + 1) else (65533, 1) := by
  unfold finN
  by_cases f1 : v < least
  · rw [if_pos f1, post_zero, if_neg (by omega)]
  · rw [if_neg f1]
    by_cases f2 : v > 1114111
    · rw [if_pos f2, post_zero, if_neg (by omega)]
    · rw [if_neg f2]
      by_cases f3 : 55296 ≤ v ∧ v < 57344
      · rw [if_pos f3, post_zero, if_neg (by omega)]
      · rw [if_neg f3, if_pos (by omega)]
        unfold post
        dsimp only
        rw [if_neg (by omega), if_neg (by omega)]
theorem utf_dec (n b0 b1 b2 b3 : Nat) (h0 : b0 < 256) (h1 : b1 < 256) (h2 : b2 < 256) (h3 : b3 < 256) :
    post (utfN n b0 b1 b2 b3) = if b0 = 0 then (65533, 1) else decodeN n b0 b1 b2 b3 := by
  unfold utfN decodeN
  by_cases c1 : b0 < 128
  · rw [if_pos c1, if_pos c1]
    by_cases c0 : b0 = 0
    · rw [if_pos c0, c0]; rfl
    · rw [if_neg c0]
      unfold post
      dsimp only
      rw [if_neg (by omega), if_neg c0]
  · rw [if_neg c1, if_neg c1, if_neg (show ¬ b0 = 0 by omega)]
    by_cases c2 : 194 ≤ b0 ∧ b0 < 224
    · rw [if_pos c2]
      by_cases c3 : mo n 1 b1
      · have k3 := c3
        unfold mo at k3
        have e2 : (b0 - 192) * 64 + b1 - 128 = b0 % 32 * 64 + b1 % 64 := by omega
        rw [if_pos c3, post_fin _ _ _ (by omega), e2, if_pos (show b0 / 32 = 6 ∧ (1 < n ∧ b1 / 64 = 2) by omega), if_pos (by omega), if_pos (by omega)]
      · have k3 := c3
        unfold mo at k3
        rw [if_neg c3, post_zero, if_neg (by omega), if_neg (by omega), if_neg (by omega)]
    · rw [if_neg c2]
      by_cases c4 : 224 ≤ b0 ∧ b0 < 240
      · rw [if_pos c4, if_neg (show ¬ (b0 / 32 = 6 ∧ (1 < n ∧ b1 / 64 = 2)) by omega)]
        by_cases c3 : mo n 1 b1
        · have k3 := c3
          unfold mo at k3
          rw [if_pos c3]
          by_cases c5 : mo n 2 b2
          · have k5 := c5
            unfold mo at k5
            have e2 : ((b0 - 224) * 64 + b1 - 128) * 64 + b2 - 128 = b0 % 16 * 4096 + b1 % 64 * 64 + b2 % 64 := by omega
            rw [if_pos c5, post_fin _ _ _ (by omega), e2, if_pos (show b0 / 16 = 14 ∧ (1 < n ∧ b1 / 64 = 2) ∧ (2 < n ∧ b2 / 64 = 2) by omega)]
          · have k5 := c5
            unfold mo at k5
            rw [if_neg c5, post_zero, if_neg (by omega), if_neg (by omega)]
        · have k3 := c3
          unfold mo at k3
          rw [if_neg c3, post_zero, if_neg (by omega), if_neg (by omega)]
      · rw [if_neg c4]
        by_cases c6 : 240 ≤ b0 ∧ b0 < 245
        · rw [if_pos c6, if_neg (show ¬ (b0 / 32 = 6 ∧ (1 < n ∧ b1 / 64 = 2)) by omega), if_neg (show ¬ (b0 / 16 = 14 ∧ (1 < n ∧ b1 / 64 = 2) ∧ (2 < n ∧ b2 / 64 = 2)) by omega)]
          by_cases c3 : mo n 1 b1
          · have k3 := c3
            unfold mo at k3
            rw [if_pos c3]
            by_cases c5 : mo n 2 b2
            · have k5 := c5
              unfold mo at k5
              rw [if_pos c5]
              by_cases c7 : mo n 3 b3
              · have k7 := c7
                unfold mo at k7
                have e2 : (((b0 - 240) * 64 + b1 - 128) * 64 + b2 - 128) * 64 + b3 - 128 = b0 % 8 * 262144 + b1 % 64 * 4096 + b2 % 64 * 64 + b3 % 64 := by omega
                rw [if_pos c7, post_fin _ _ _ (by omega), e2, if_pos (show b0 / 8 = 30 ∧ (1 < n ∧ b1 / 64 = 2) ∧ (2 < n ∧ b2 / 64 = 2) ∧ (3 < n ∧ b3 / 64 = 2) by omega)]
              · have k7 := c7
                unfold mo at k7
                rw [if_neg c7, post_zero, if_neg (by omega)]
            · have k5 := c5
              unfold mo at k5
              rw [if_neg c5, post_zero, if_neg (by omega)]
          · have k3 := c3
            unfold mo at k3
            rw [if_neg c3, post_zero, if_neg (by omega)]
        · rw [if_neg c6, post_zero]
          by_cases g1 : b0 / 32 = 6 ∧ (1 < n ∧ b1 / 64 = 2)
          · rw [if_pos g1, if_neg (by omega)]
          · rw [if_neg g1, if_neg (by omega)]
            by_cases g3 : b0 / 8 = 30 ∧ (1 < n ∧ b1 / 64 = 2) ∧ (2 < n ∧ b2 / 64 = 2) ∧ (3 < n ∧ b3 / 64 = 2)
            · rw [if_pos g3, if_neg (by omega)]
            · rw [if_neg g3]
theorem more_eq (l : List Int) (hb : Bytes l) (hl : l.length ≤ 100000) (p j : Nat) (hp : p < l.length) (hj : j ≤ 3) : decanterref02_more.f l (wrap64 ((p : Int) + (j : Int))) = some (decide (mo (l.length - p) j (bn l (p + j)))) ∧ wrap64 ((p : Int) + (j : Int)) = ((p + j : Nat) : Int) := by
  have e : wrap64 ((p : Int) + (j : Int)) = ((p + j : Nat) : Int) := by rw [wrap64_in _ (by omega)]; omega
  refine ⟨?_, e⟩
  rw [e]
  unfold decanterref02_more.f
  by_cases h1 : p + j < l.length
  · rw [if_pos (by omega), if_pos (by omega), rd_bn hb]
    by_cases h2 : 128 ≤ bn l (p + j)
    · rw [if_pos (by omega)]
      refine congrArg some (decide_eq_decide.mpr ?_)
      unfold mo
      omega
    · rw [if_neg (by omega), decide_eq_false (by unfold mo; omega)]
  · rw [if_neg (by omega), decide_eq_false (by unfold mo; omega)]
/-- One round of the document's loop. -/
theorem utf_round (l : List Int) (hb : Bytes l) (hl : l.length ≤ 100000) (p : Nat) (hp : p < l.length) (many least : Int) (v j k : Nat) (hj : j ≤ 3) (hm : (j : Int) ≤ many) (hv : v ≤ 10000000) :
    decanterref02_utf.l0 (k + 1) l (p : Int) many least (v : Int) (j : Int) = if mo (l.length - p) j (bn l (p + j)) then decanterref02_utf.l0 k l (p : Int) many least ((v * 64 + bn l (p + j) - 128 : Nat) : Int) ((j + 1 : Nat) : Int) else some (0, 0) := by
  obtain ⟨hmo, e⟩ := more_eq l hb hl p j hp hj
  have hlt := bn_lt hb (p + j)
  rw [decanterref02_utf.l0, if_pos hm, hmo, Option.bind_some]
  by_cases h : mo (l.length - p) j (bn l (p + j))
  · have h' := h
    unfold mo at h'
    rw [decide_eq_true h, if_pos rfl, if_pos h, e, if_pos (by omega), if_pos (by omega), rd_bn hb, wrap64_in ((v : Int) * 64) (by omega), wrap64_in ((bn l (p + j) : Nat) : Int) (by omega), wrap64_in ((v : Int) * 64 + ((bn l (p + j) : Nat) : Int)) (by omega), wrap64_in ((v : Int) * 64 + ((bn l (p + j) : Nat) : Int) - 128) (by omega), wrap64_in ((j : Int) + 1) (by omega)]
    congr 1
    omega
  · rw [decide_eq_false h, if_neg (by decide), if_neg h]
theorem utf_end (l : List Int) (p : Int) (many least v j k : Nat) (hm : many < j) (hmm : many ≤ 3) : decanterref02_utf.l0 (k + 1) l p (many : Int) (least : Int) (v : Int) (j : Int) = some (((finN v least many).1 : Int), ((finN v least many).2 : Int)) := by
  rw [decanterref02_utf.l0, if_neg (by omega)]
  have e : wrap64 ((many : Int) + 1) = ((many + 1 : Nat) : Int) := by rw [wrap64_in _ (by omega)]; omega
  rw [e]
  unfold finN
  by_cases f1 : v < least
  · rw [if_pos (by omega), if_pos f1]; rfl
  · rw [if_neg (by omega), if_neg f1]
    by_cases f2 : v > 1114111
    · rw [if_pos (by omega), if_pos f2]; rfl
    · rw [if_neg (by omega), if_neg f2]
      by_cases f3 : 55296 ≤ v
      · rw [if_pos (by omega)]
        by_cases f4 : v < 57344
        · rw [if_pos (by omega), if_pos ⟨f3, f4⟩]; rfl
        · rw [if_neg (by omega), if_neg (fun h => f4 h.2)]
      · rw [if_neg (by omega), if_neg (fun h => f3 h.1)]
theorem utf_eq (l : List Int) (hb : Bytes l) (hl : l.length ≤ 100000) (p : Nat) (hp : p < l.length) (k : Nat) : decanterref02_utf.f (k + 10) l (p : Int) = some (((utfN (l.length - p) (bn l p) (bn l (p + 1)) (bn l (p + 2)) (bn l (p + 3))).1 : Int), ((utfN (l.length - p) (bn l p) (bn l (p + 1)) (bn l (p + 2)) (bn l (p + 3))).2 : Int)) := by
  have h0 := bn_lt hb p
  have h1 := bn_lt hb (p + 1)
  have h2 := bn_lt hb (p + 2)
  unfold decanterref02_utf.f
  rw [if_pos (by omega), if_pos (by omega), rd_bn hb, wrap64_in _ (by omega)]
  unfold utfN
  have j2 : ∀ k (many least v : Nat), decanterref02_utf.j2 (k + 1) l (p : Int) (many : Int) (least : Int) (v : Int) = decanterref02_utf.l0 k l (p : Int) (many : Int) (least : Int) (v : Int) ((1 : Nat) : Int) := fun k many least v => by rw [decanterref02_utf.j2]; rfl
  by_cases c1 : bn l p < 128
  · rw [if_pos (by omega), if_pos c1]; rfl
  · rw [if_neg (by omega), if_neg c1]
    by_cases c2 : 194 ≤ bn l p ∧ bn l p < 224
    · rw [if_pos (by omega), decide_eq_true (by omega), if_pos c2, show k + 10 = k + 9 + 1 from rfl, decanterref02_utf.j0, if_pos rfl, wrap64_in _ (by omega)]
      have e : ((bn l p : Int) - 192) = ((bn l p - 192 : Nat) : Int) := by omega
      have r1 := utf_round l hb hl p hp ((1 : Nat) : Int) ((128 : Nat) : Int) (bn l p - 192) 1 (k + 7) (by omega) (by omega) (by omega)
      have t := j2 (k + 8) 1 128 (bn l p - 192)
      rw [e]
      refine t.trans (r1.trans ?_)
      by_cases c3 : mo (l.length - p) 1 (bn l (p + 1))
      · rw [if_pos c3, if_pos c3]
        exact utf_end l p 1 128 _ 2 (k + 6) (by omega) (by omega)
      · rw [if_neg c3, if_neg c3]; rfl
    · rw [if_neg c2]
      have hj0 : (if (bn l p : Int) ≥ 194 then decanterref02_utf.j0 (k + 10) l (p : Int) (bn l p : Int) (decide ((bn l p : Int) < 224)) else decanterref02_utf.j0 (k + 10) l (p : Int) (bn l p : Int) false) = decanterref02_utf.j0 (k + 10) l (p : Int) (bn l p : Int) false := by
        by_cases h : (bn l p : Int) ≥ 194
        · rw [if_pos h, decide_eq_false (by omega)]
        · rw [if_neg h]
      rw [hj0, show k + 10 = k + 9 + 1 from rfl, decanterref02_utf.j0, if_neg (by decide)]
      by_cases c4 : 224 ≤ bn l p ∧ bn l p < 240
      · rw [if_pos (by omega), decide_eq_true (by omega), if_pos c4, show k + 9 = k + 8 + 1 from rfl, decanterref02_utf.j1, if_pos rfl, wrap64_in _ (by omega)]
        have e : ((bn l p : Int) - 224) = ((bn l p - 224 : Nat) : Int) := by omega
        rw [e]
        have t := j2 (k + 7) 2 2048 (bn l p - 224)
        refine t.trans ?_
        have r1 := utf_round l hb hl p hp ((2 : Nat) : Int) ((2048 : Nat) : Int) (bn l p - 224) 1 (k + 6) (by omega) (by omega) (by omega)
        refine r1.trans ?_
        by_cases c3 : mo (l.length - p) 1 (bn l (p + 1))
        · have r2 := utf_round l hb hl p hp ((2 : Nat) : Int) ((2048 : Nat) : Int) ((bn l p - 224) * 64 + bn l (p + 1) - 128) 2 (k + 5) (by omega) (by omega) (by omega)
          rw [if_pos c3, if_pos c3]
          refine r2.trans ?_
          by_cases c5 : mo (l.length - p) 2 (bn l (p + 2))
          · rw [if_pos c5, if_pos c5]
            exact utf_end l p 2 2048 _ 3 (k + 4) (by omega) (by omega)
          · rw [if_neg c5, if_neg c5]; rfl
        · rw [if_neg c3, if_neg c3]; rfl
      · have hj1 : (if (bn l p : Int) ≥ 224 then decanterref02_utf.j1 (k + 9) l (p : Int) (bn l p : Int) (decide ((bn l p : Int) < 240)) else decanterref02_utf.j1 (k + 9) l (p : Int) (bn l p : Int) false) = decanterref02_utf.j1 (k + 9) l (p : Int) (bn l p : Int) false := by
          by_cases h : (bn l p : Int) ≥ 224
          · rw [if_pos h, decide_eq_false (by omega)]
          · rw [if_neg h]
        rw [hj1, if_neg c4, show k + 9 = k + 8 + 1 from rfl, decanterref02_utf.j1, if_neg (by decide)]
        by_cases c6 : 240 ≤ bn l p ∧ bn l p < 245
        · rw [if_pos (by omega), if_pos (by omega), if_pos c6, wrap64_in _ (by omega)]
          have e : ((bn l p : Int) - 240) = ((bn l p - 240 : Nat) : Int) := by omega
          rw [e]
          have t := j2 (k + 7) 3 65536 (bn l p - 240)
          refine t.trans ?_
          have r1 := utf_round l hb hl p hp ((3 : Nat) : Int) ((65536 : Nat) : Int) (bn l p - 240) 1 (k + 6) (by omega) (by omega) (by omega)
          refine r1.trans ?_
          by_cases c3 : mo (l.length - p) 1 (bn l (p + 1))
          · have r2 := utf_round l hb hl p hp ((3 : Nat) : Int) ((65536 : Nat) : Int) ((bn l p - 240) * 64 + bn l (p + 1) - 128) 2 (k + 5) (by omega) (by omega) (by omega)
            rw [if_pos c3, if_pos c3]
            refine r2.trans ?_
            by_cases c5 : mo (l.length - p) 2 (bn l (p + 2))
            · have r3 := utf_round l hb hl p hp ((3 : Nat) : Int) ((65536 : Nat) : Int) (((bn l p - 240) * 64 + bn l (p + 1) - 128) * 64 + bn l (p + 2) - 128) 3 (k + 4) (by omega) (by omega) (by omega)
              rw [if_pos c5, if_pos c5]
              refine r3.trans ?_
              by_cases c7 : mo (l.length - p) 3 (bn l (p + 3))
              · rw [if_pos c7, if_pos c7]
                exact utf_end l p 3 65536 _ 4 (k + 3) (by omega) (by omega)
              · rw [if_neg c7, if_neg c7]; rfl
            · rw [if_neg c5, if_neg c5]; rfl
          · rw [if_neg c3, if_neg c3]; rfl
        · rw [if_neg c6]
          by_cases c7 : (bn l p : Int) ≥ 240
          · rw [if_pos c7, if_neg (by omega)]; rfl
          · rw [if_neg c7]; rfl
theorem ref_next_in (l : List Int) (hb : Bytes l) (hl : l.length ≤ 100000) (p : Nat) (hp : p < l.length) (k : Nat) : decanterref02_Next.f (k + 11) l (p : Int) = some (((nx l p).1 : Int), ((nx l p).2 : Int)) := by
  have h0 := bn_lt hb p
  have hu := utf_eq l hb hl p hp k
  have hd := utf_dec (l.length - p) (bn l p) (bn l (p + 1)) (bn l (p + 2)) (bn l (p + 3)) h0 (bn_lt hb _) (bn_lt hb _) (bn_lt hb _)
  have e1 : wrap64 ((p : Int) + 1) = ((p + 1 : Nat) : Int) := by rw [wrap64_in _ (by omega)]; omega
  unfold decanterref02_Next.f
  rw [if_neg (by omega), decide_eq_false (by omega), show k + 11 = k + 10 + 1 from rfl, decanterref02_Next.j0, if_neg (by decide), if_pos (by omega), if_pos (by omega), rd_bn hb, e1, rd_bn hb]
  unfold nx
  have jt : ∀ k, decanterref02_Next.j1 (k + 1) true = some (10, 2) := fun k => by rw [decanterref02_Next.j1, if_pos rfl]
  have jf : ∀ k, decanterref02_Next.j1 (k + 1) false = some (10, 1) := fun k => by rw [decanterref02_Next.j1, if_neg (by decide)]
  by_cases h1 : bn l p = 13
  · rw [if_pos (show ((bn l p : Nat) : Int) = 13 by omega), if_neg (show ¬ bn l p = 0 by omega), if_pos h1]
    by_cases h2 : 1 < l.length - p
    · rw [if_pos (by omega), if_pos (by omega)]
      by_cases h3 : bn l (p + 1) = 10
      · rw [h3, if_pos ⟨h2, rfl⟩]
        exact jt (k + 9)
      · rw [if_neg (fun h => h3 h.2), show (((bn l (p + 1) : Nat) : Int) == 10) = false from beq_eq_false_iff_ne.mpr (by omega)]
        exact jf (k + 9)
    · rw [if_neg (by omega), if_neg (fun h => h2 h.1)]
      exact jf (k + 9)
  · rw [if_neg (by omega), hu, Option.bind_some, if_neg h1]
    generalize utfN (l.length - p) (bn l p) (bn l (p + 1)) (bn l (p + 2)) (bn l (p + 3)) = u at hd
    rw [← hd]
    unfold post
    by_cases g1 : u.2 = 0
    · rw [if_pos (show ((u.2 : Nat) : Int) = 0 by omega), if_pos g1]; rfl
    · rw [if_neg (show ¬ ((u.2 : Nat) : Int) = 0 by omega), if_neg g1]
      by_cases g2 : u.1 = 0
      · rw [if_pos (show ((u.1 : Nat) : Int) = 0 by omega), if_pos g2]; rfl
      · rw [if_neg (show ¬ ((u.1 : Nat) : Int) = 0 by omega), if_neg g2]
theorem ref_next_out (l : List Int) (a : Int) (ha : a < 0 ∨ (l.length : Int) ≤ a) (k : Nat) : decanterref02_Next.f (k + 1) l a = some (0, 0) := by
  unfold decanterref02_Next.f
  by_cases h : a < 0
  · rw [if_pos h, decanterref02_Next.j0, if_pos rfl]
  · rw [if_neg h, decide_eq_true (by omega), decanterref02_Next.j0, if_pos rfl]
/-! ### The law of the next -/
theorem both_next (l : List Int) (hb : Bytes l) (hl : l.length ≤ 100000) (a : Int) (k : Nat) : ∃ c n : Int, char_Next.f (k + 11) l a = some (c, n) ∧ decanterref02_Next.f (k + 11) l a = some (c, n) ∧ wrap64 c = c := by
  by_cases h : a < 0 ∨ (l.length : Int) ≤ a
  · exact ⟨0, 0, next_out l a h _, ref_next_out l a h _, by decide +kernel⟩
  · obtain ⟨p, rfl⟩ : ∃ p : Nat, a = (p : Int) := ⟨a.toNat, by omega⟩
    have hp : p < l.length := by omega
    have hf := nx_facts l hb p hp
    exact ⟨_, _, next_in l hb hl p hp _, ref_next_in l hb hl p hp k, wrap64_in _ (by omega)⟩
end Go.Proofs.YtinjbabmpnljoaaDoor.CharPure
