import Derived.Test.YtinjbabmpnljoaaDoorPCharx5
import Derived.Test.YtinjbabmpnljoaaDoorCharMore
namespace Go.Proofs.YtinjbabmpnljoaaDoor.Pure
open Go.IntWalk Go.RowKit Go.Lib Go.Proofs.YtinjbabmpnljoaaDoor.CharPure Go.Proofs.YtinjbabmpnljoaaDoor.PChar Go.Proofs.YtinjbabmpnljoaaDoorW.PrintWords Go.Proofs.YtinjbabmpnljoaaDoorW.PrintLast

/-- A character's bytes, as numbers. -/
def zs (c : Nat) : List Int := encodeRuneZ (c : Int)
theorem zs_bytes (c : Nat) : Bytes (zs c) := fun x hx => by
  have := encodeRuneZ_byte (c : Int) x hx
  omega
theorem enc_bytes (c : Nat) : bytesOf (Go.Utf8.encode (c : Int)) = zs c := Go.Extern.FmtText.encode_eq c
theorem bn_app (a z : List Int) (j : Nat) : bn (a ++ z) (a.length + j) = bn z j := by
  unfold bn
  rw [List.getD_eq_getElem?_getD, List.getD_eq_getElem?_getD, List.getElem?_append_right (by omega), Nat.add_sub_cancel_left]
/-- Read where its bytes stand, a character is itself. -/
theorem nx_enc (a : List Int) (c : Nat) (hc : c < 55296 ∨ (57344 ≤ c ∧ c ≤ 1114111)) (h0 : c ≠ 0) (h1 : c ≠ 13) : nx (a ++ zs c) a.length = (c, (zs c).length) := by
  have e0 := bn_app a (zs c) 0
  have e1 := bn_app a (zs c) 1
  have e2 := bn_app a (zs c) 2
  have e3 := bn_app a (zs c) 3
  rw [Nat.add_zero] at e0
  unfold nx
  rw [e0, e1, e2, e3, List.length_append, Nat.add_sub_cancel_left]
  clear e0 e1 e2 e3
  by_cases c1 : c < 128
  · have hz : zs c = [(c : Int)] := encodeRuneZ_one (by omega) (by omega)
    have b0 : bn (zs c) 0 = c := by rw [hz]; rfl
    rw [b0, if_neg h0, if_neg h1]
    unfold decodeN
    rw [if_pos c1, hz]
    rfl
  · by_cases c2 : c < 2048
    · have hz : zs c = [192 + (c : Int) / 64, 128 + (c : Int) % 64] := encodeRuneZ_two (by omega) (by omega)
      have b0 : bn (zs c) 0 = 192 + c / 64 := by rw [hz]; show (192 + (c : Int) / 64).toNat = _; omega
      have b1 : bn (zs c) 1 = 128 + c % 64 := by rw [hz]; show (128 + (c : Int) % 64).toNat = _; omega
      have hl : (zs c).length = 2 := by rw [hz]; rfl
      rw [b0, b1, hl, if_neg (by omega), if_neg (by omega)]
      unfold decodeN
      rw [if_neg (by omega), if_pos (by omega), if_pos (by omega)]
      refine Prod.ext ?_ rfl
      dsimp only
      omega
    · by_cases c3 : c < 65536
      · have hz : zs c = [224 + (c : Int) / 4096, 128 + (c : Int) / 64 % 64, 128 + (c : Int) % 64] := encodeRuneZ_three (by omega)
        have b0 : bn (zs c) 0 = 224 + c / 4096 := by rw [hz]; show (224 + (c : Int) / 4096).toNat = _; omega
        have b1 : bn (zs c) 1 = 128 + c / 64 % 64 := by rw [hz]; show (128 + (c : Int) / 64 % 64).toNat = _; omega
        have b2 : bn (zs c) 2 = 128 + c % 64 := by rw [hz]; show (128 + (c : Int) % 64).toNat = _; omega
        have hl : (zs c).length = 3 := by rw [hz]; rfl
        rw [b0, b1, b2, hl, if_neg (by omega), if_neg (by omega)]
        clear b0 b1 b2 hl hz
        unfold decodeN
        have v : (224 + c / 4096) % 16 * 4096 + (128 + c / 64 % 64) % 64 * 64 + (128 + c % 64) % 64 = c := by omega
        rw [v, if_neg (by omega), if_neg (by omega), if_pos (by omega), if_pos (by omega)]
      · have hz : zs c = [240 + (c : Int) / 262144, 128 + (c : Int) / 4096 % 64, 128 + (c : Int) / 64 % 64, 128 + (c : Int) % 64] := encodeRuneZ_four (by omega) (by omega)
        have b0 : bn (zs c) 0 = 240 + c / 262144 := by rw [hz]; show (240 + (c : Int) / 262144).toNat = _; omega
        have b1 : bn (zs c) 1 = 128 + c / 4096 % 64 := by rw [hz]; show (128 + (c : Int) / 4096 % 64).toNat = _; omega
        have b2 : bn (zs c) 2 = 128 + c / 64 % 64 := by rw [hz]; show (128 + (c : Int) / 64 % 64).toNat = _; omega
        have b3 : bn (zs c) 3 = 128 + c % 64 := by rw [hz]; show (128 + (c : Int) % 64).toNat = _; omega
        have hl : (zs c).length = 4 := by rw [hz]; rfl
        rw [b0, b1, b2, b3, hl, if_neg (by omega), if_neg (by omega)]
        clear b0 b1 b2 b3 hl hz
        unfold decodeN
        have v : (240 + c / 262144) % 8 * 262144 + (128 + c / 4096 % 64) % 64 * 4096 + (128 + c / 64 % 64) % 64 * 64 + (128 + c % 64) % 64 = c := by omega
        rw [v, if_neg (by omega), if_neg (by omega), if_neg (by omega), if_pos (by omega), if_pos (by omega)]
theorem plain_j1 (a : List Int) (ha : Bytes a) (hl : a.length ≤ 100) (c : Nat) (hc : c < 55296 ∨ (57344 ≤ c ∧ c ≤ 1114111)) (h0 : c ≠ 0) (h1 : c ≠ 13) (k : Nat) (hk : 1100 ≤ k) : decanterlaw02_CharPlain.j1 (k + 1) a (c : Int) false = some true := by
  obtain ⟨k', rfl⟩ : ∃ k', k = k' + 1 := ⟨k - 1, by omega⟩
  have hz := encodeRuneZ_length (c : Int)
  have hzl : 1 ≤ (zs c).length ∧ (zs c).length ≤ 4 := hz
  have he := enc_bytes c
  have hes : (Go.Utf8.encode (c : Int)).size = (zs c).length := by rw [← bytesOf_len, he]
  have hr : (Go.Utf8.encode (c : Int)).data.toList = runeB (c : Int) := encode_rune c
  have hcl := clean_eq (Go.Utf8.encode (c : Int)) (by rw [hes]; omega) (k' + 1) (by omega)
  have hb : Bytes (a ++ zs c) := fun x hx => (List.mem_append.1 hx).elim (ha x) (zs_bytes c x)
  have hlen : (a ++ zs c).length = a.length + (zs c).length := List.length_append
  have hn := next_in (a ++ zs c) hb (by omega) a.length (by omega) k'
  rw [nx_enc a c hc h0 h1] at hn
  have hn0 := nx_enc [] c hc h0 h1
  rw [List.nil_append] at hn0
  have hall : allB (zs c) 0 ((zs c).length : Int) = runeB (c : Int) := by
    have h0' : nx (zs c) 0 = (c, (zs c).length) := hn0
    rw [allB_cons (zs c) (zs_bytes c) 0 _ (by omega) (by omega), h0', allB_nil (zs c) _ _ (.inr (by dsimp only; omega)), List.append_nil]
  rw [he, hes] at hcl
  rw [hall] at hcl
  rw [decanterlaw02_CharPlain.j1, if_neg (by decide), Option.bind_some]
  generalize Go.Utf8.encode (c : Int) = E at he hes hr hcl ⊢
  have hcl2 : char_Clean.f (k' + 1) E = some true := by
    rw [hcl, Lib.toList_data, Lib.toList_data, hr]
    simp
  have n1 : ([] : List Int).length + a.length < 140737488355328 := by
    clear hcl hes hn
    simp only [List.length_nil]
    omega
  have n2 : ([] ++ a : List Int).length + E.size < 140737488355328 := by
    rw [List.nil_append, hes]
    clear hcl hes hn
    omega
  rw [if_pos n1, Option.bind_some, if_pos n2, List.nil_append, he, hn, Option.bind_some]
  dsimp only
  rw [if_pos rfl, hes, if_pos rfl, hcl2]
  rfl
theorem CharPlain : decanterlaw02_CharPlain.Pure := by
  intro x a hx _ _ hb
  have hb : Bytes a := fun y hy => byte_of_wf (hb y hy)
  have hx : 0 ≤ x ∧ x ≤ 4294967295 := by simpa [Lit.wf, IntKind.min, IntKind.max, IntKind.signed, IntKind.bits] using hx
  obtain ⟨n, rfl⟩ : ∃ n : Nat, x = (n : Int) := ⟨x.toNat, by omega⟩
  refine ⟨3001, ?_⟩
  unfold decanterlaw02_CharPlain.f
  rw [speaks_more 1, Option.bind_some, if_pos rfl]
  by_cases h1 : (a.length : Int) > 100
  · rw [decide_eq_true h1, decanterlaw02_CharPlain.j0, if_pos rfl, speaks02]; rfl
  · have em : wrap32 (Int.tmod (n : Int) 1114112) = ((n % 1114112 : Nat) : Int) := by
      rw [show Int.tmod (n : Int) 1114112 = ((n % 1114112 : Nat) : Int) from tmod_nat n 1114112, wrap32_in _ (by omega)]
    have hlt : n % 1114112 < 1114112 := Nat.mod_lt _ (by decide)
    rw [decide_eq_false h1, decanterlaw02_CharPlain.j0, if_neg (by decide), em]
    generalize n % 1114112 = c at hlt
    have jt : ∀ z : Int, decanterlaw02_CharPlain.j1 3000 a z true = some true := fun z => by rw [decanterlaw02_CharPlain.j1, if_pos rfl]
    by_cases h2 : c = 0
    · rw [if_pos (show ((c : Nat) : Int) = 0 by omega)]
      exact jt _
    · rw [if_neg (show ¬ ((c : Nat) : Int) = 0 by omega)]
      by_cases h3 : c = 13
      · rw [if_pos (show ((c : Nat) : Int) = 13 by omega)]
        exact jt _
      · rw [if_neg (show ¬ ((c : Nat) : Int) = 13 by omega)]
        have hv : utf8_ValidRune.f 3000 (c : Int) = some (decide (c < 55296 ∨ (57344 ≤ c ∧ c ≤ 1114111))) := by
          unfold utf8_ValidRune.f
          rw [if_pos (by omega)]
          by_cases g1 : c < 55296
          · rw [decide_eq_true (show ((c : Nat) : Int) < 55296 by omega), utf8_ValidRune.j0, if_pos rfl, decide_eq_true (.inl g1)]
          · rw [decide_eq_false (show ¬ ((c : Nat) : Int) < 55296 by omega), utf8_ValidRune.j0, if_neg (by decide)]
            by_cases g2 : 57344 ≤ c
            · rw [if_pos (by omega), if_pos (by omega), decide_eq_true (.inr ⟨g2, by omega⟩)]
            · rw [if_neg (by omega), decide_eq_false (by omega)]
        rw [hv, Option.bind_some]
        by_cases h4 : c < 55296 ∨ (57344 ≤ c ∧ c ≤ 1114111)
        · rw [decide_eq_true h4]
          exact plain_j1 a hb (by omega) c h4 h2 h3 2999 (by omega)
        · rw [decide_eq_false h4]
          exact jt _
end Go.Proofs.YtinjbabmpnljoaaDoor.Pure
