import Derived.Test.YtinjbabmpnljoaaDoorCharMore
import Derived.Lib.ValidLaws
namespace Go.Proofs.YtinjbabmpnljoaaDoor.CharPure
open Go.IntWalk Go.RowKit Go.Lib Go.Proofs.YtinjbabmpnljoaaDoor.PChar Go.Proofs.YtinjbabmpnljoaaDoorW.PrintWords Go.Proofs.YtinjbabmpnljoaaDoorW.PrintLast

/-! ### numbers and bytes -/
def asB (l : List Int) : List UInt8 := l.map fun z => UInt8.ofNat z.toNat
/-- A character's bytes, as numbers. -/
def cz (c : Nat) : List Int := encodeRuneZ (c : Int)
theorem asB_cz (c : Nat) : asB (cz c) = runeB (c : Int) := rfl
theorem asB_app (a b : List Int) : asB (a ++ b) = asB a ++ asB b := List.map_append
theorem cz_bytes (c : Nat) : Bytes (cz c) := fun x hx => by
  have := encodeRuneZ_byte (c : Int) x hx
  omega
theorem asB_get (l : List Int) (hb : Bytes l) (j : Nat) : ((asB l).getD j 0).toNat = bn l j := by
  unfold asB bn
  rw [List.getD_eq_getElem?_getD, List.getElem?_map, List.getD_eq_getElem?_getD]
  cases hj : l[j]? with
  | none => rfl
  | some x =>
    have := hb x (List.mem_of_getElem? hj)
    rw [Option.map_some, Option.getD_some, Option.getD_some, UInt8.toNat_ofNat']
    omega
theorem bn_drop (l : List Int) (p j : Nat) : bn (l.drop p) j = bn l (p + j) := by
  unfold bn
  rw [List.getD_eq_getElem?_getD, List.getD_eq_getElem?_getD, List.getElem?_drop]
theorem drop_bytes {l : List Int} (hb : Bytes l) (p : Nat) : Bytes (l.drop p) := fun x hx => hb x (List.mem_of_mem_drop hx)
/-- The decoder at a place. -/
def dN (l : List Int) (p : Nat) : Nat × Nat := decodeN (l.length - p) (bn l p) (bn l (p + 1)) (bn l (p + 2)) (bn l (p + 3))
theorem dec_list (l : List Int) (hb : Bytes l) (p : Nat) (hp : p < l.length) : decodeL (asB (l.drop p)) = dN l p := by
  have hne : asB (l.drop p) ≠ [] := fun h => by
    have := congrArg List.length h
    unfold asB at this
    rw [List.length_map, List.length_drop] at this
    simp at this
    omega
  rw [decodeL_N]
  unfold dN
  rw [asB_get _ (drop_bytes hb p), asB_get _ (drop_bytes hb p), asB_get _ (drop_bytes hb p), asB_get _ (drop_bytes hb p), bn_drop, bn_drop, bn_drop, bn_drop]
  unfold asB
  rw [List.length_map, List.length_drop]
  rfl
/-- Valid from a place on. -/
def vD (l : List Int) (p : Nat) : Bool := validD (asB (l.drop p))
theorem vD_end (l : List Int) (p : Nat) (h : l.length ≤ p) : vD l p = true := by
  unfold vD
  rw [List.drop_eq_nil_of_le h]
  rfl
theorem vD_step (l : List Int) (hb : Bytes l) (p : Nat) (hp : p < l.length) : vD l p = if (dN l p).1 = 65533 ∧ (dN l p).2 = 1 then false else vD l (p + (dN l p).2) := by
  have hne : asB (l.drop p) ≠ [] := fun h => by
    have := congrArg List.length h
    unfold asB at this
    rw [List.length_map, List.length_drop] at this
    simp at this
    omega
  unfold vD
  rw [validD_step _ hne, dec_list l hb p hp]
  have e : (asB (l.drop p)).drop (dN l p).2 = asB (l.drop (p + (dN l p).2)) := by
    unfold asB
    rw [← List.map_drop, List.drop_drop]
  rw [e]
set_option linter.unusedVariables false in
theorem enc_dec (n b0 b1 b2 b3 : Nat) (hn : 1 ≤ n) (h0 : b0 < 256) (h1 : b1 < 256) (h2 : b2 < 256) (h3 : b3 < 256) :
    ((decodeN n b0 b1 b2 b3).1 = 65533 ∧ (decodeN n b0 b1 b2 b3).2 = 1) ∨ ((decodeN n b0 b1 b2 b3).2 = 1 ∧ cz (decodeN n b0 b1 b2 b3).1 = [(b0 : Int)]) ∨ ((decodeN n b0 b1 b2 b3).2 = 2 ∧ 2 ≤ n ∧ cz (decodeN n b0 b1 b2 b3).1 = [(b0 : Int), (b1 : Int)]) ∨
      ((decodeN n b0 b1 b2 b3).2 = 3 ∧ 3 ≤ n ∧ cz (decodeN n b0 b1 b2 b3).1 = [(b0 : Int), (b1 : Int), (b2 : Int)]) ∨ ((decodeN n b0 b1 b2 b3).2 = 4 ∧ 4 ≤ n ∧ cz (decodeN n b0 b1 b2 b3).1 = [(b0 : Int), (b1 : Int), (b2 : Int), (b3 : Int)]) := by
  unfold decodeN cz
  by_cases c1 : b0 < 128
  · rw [if_pos c1]
    exact .inr (.inl ⟨rfl, encodeRuneZ_one (by dsimp only; omega) (by dsimp only; omega)⟩)
  · rw [if_neg c1]
    by_cases c2 : b0 / 32 = 6 ∧ (1 < n ∧ b1 / 64 = 2)
    · rw [if_pos c2]
      by_cases d2 : b0 % 32 * 64 + b1 % 64 ≥ 128
      · rw [if_pos d2]
        refine .inr (.inr (.inl ⟨rfl, by omega, ?_⟩))
        dsimp only
        rw [encodeRuneZ_two (by omega) (by omega)]
        congr 1
        · omega
        · congr 1
          omega
      · rw [if_neg d2]
        exact .inl ⟨rfl, rfl⟩
    · rw [if_neg c2]
      by_cases c3 : b0 / 16 = 14 ∧ (1 < n ∧ b1 / 64 = 2) ∧ (2 < n ∧ b2 / 64 = 2)
      · rw [if_pos c3]
        by_cases d3 : b0 % 16 * 4096 + b1 % 64 * 64 + b2 % 64 ≥ 2048 ∧ (b0 % 16 * 4096 + b1 % 64 * 64 + b2 % 64 < 55296 ∨ (57344 ≤ b0 % 16 * 4096 + b1 % 64 * 64 + b2 % 64 ∧ b0 % 16 * 4096 + b1 % 64 * 64 + b2 % 64 ≤ 1114111))
        · rw [if_pos d3]
          refine .inr (.inr (.inr (.inl ⟨rfl, by omega, ?_⟩)))
          dsimp only
          rw [encodeRuneZ_three (by omega)]
          congr 1
          · omega
          · congr 1
            · omega
            · congr 1
              omega
        · rw [if_neg d3]
          exact .inl ⟨rfl, rfl⟩
      · rw [if_neg c3]
        by_cases c4 : b0 / 8 = 30 ∧ (1 < n ∧ b1 / 64 = 2) ∧ (2 < n ∧ b2 / 64 = 2) ∧ (3 < n ∧ b3 / 64 = 2)
        · rw [if_pos c4]
          by_cases d4 : b0 % 8 * 262144 + b1 % 64 * 4096 + b2 % 64 * 64 + b3 % 64 ≥ 65536 ∧ (b0 % 8 * 262144 + b1 % 64 * 4096 + b2 % 64 * 64 + b3 % 64 < 55296 ∨ (57344 ≤ b0 % 8 * 262144 + b1 % 64 * 4096 + b2 % 64 * 64 + b3 % 64 ∧ b0 % 8 * 262144 + b1 % 64 * 4096 + b2 % 64 * 64 + b3 % 64 ≤ 1114111))
          · rw [if_pos d4]
            refine .inr (.inr (.inr (.inr ⟨rfl, by omega, ?_⟩)))
            dsimp only
            rw [encodeRuneZ_four (by omega) (by omega)]
            congr 1
            · omega
            · congr 1
              · omega
              · congr 1
                · omega
                · congr 1
                  omega
          · rw [if_neg d4]
            exact .inl ⟨rfl, rfl⟩
        · rw [if_neg c4]
          exact .inl ⟨rfl, rfl⟩
theorem take_bn (l : List Int) (hb : Bytes l) (p k : Nat) (h : p + k ≤ l.length) : (l.drop p).take k = (List.range k).map fun j => (bn l (p + j) : Int) := by
  refine List.ext_getElem (by rw [List.length_take, List.length_drop, List.length_map, List.length_range]; omega) fun i h1 h2 => ?_
  rw [List.getElem_take, List.getElem_drop, List.getElem_map, List.getElem_range]
  rw [List.length_map, List.length_range] at h2
  unfold bn
  have e : l.getD (p + i) 0 = l[p + i]'(by omega) := by rw [List.getD_eq_getElem?_getD, List.getElem?_eq_getElem (by omega), Option.getD_some]
  have := getD_byte hb (p + i)
  rw [e] at this ⊢
  omega
/-- Where the decoder finds a character, its bytes stand there. -/
theorem dec_back (l : List Int) (hb : Bytes l) (p : Nat) (hp : p < l.length) (h : ¬ ((dN l p).1 = 65533 ∧ (dN l p).2 = 1)) : cz (dN l p).1 = (l.drop p).take (dN l p).2 ∧ p + (dN l p).2 ≤ l.length ∧ 1 ≤ (dN l p).2 := by
  unfold dN at h ⊢
  rcases enc_dec (l.length - p) (bn l p) (bn l (p + 1)) (bn l (p + 2)) (bn l (p + 3)) (by omega) (bn_lt hb _) (bn_lt hb _) (bn_lt hb _) (bn_lt hb _) with g | ⟨g1, g3⟩ | ⟨g1, g2, g3⟩ | ⟨g1, g2, g3⟩ | ⟨g1, g2, g3⟩
  · exact absurd g h
  · rw [g1, g3, take_bn l hb p 1 (by omega)]
    exact ⟨rfl, by omega, by omega⟩
  · rw [g1, g3, take_bn l hb p 2 (by omega)]
    exact ⟨rfl, by omega, by omega⟩
  · rw [g1, g3, take_bn l hb p 3 (by omega)]
    exact ⟨rfl, by omega, by omega⟩
  · rw [g1, g3, take_bn l hb p 4 (by omega)]
    exact ⟨rfl, by omega, by omega⟩
theorem cz_fffd : (cz 65533).length = 3 := by decide +kernel
/-- A character has at most three times as many bytes as what it was read from. -/
theorem nx_thrice (l : List Int) (hb : Bytes l) (p : Nat) (hp : p < l.length) : (cz (nx l p).1).length ≤ 3 * (nx l p).2 := by
  unfold nx
  by_cases h0 : bn l p = 0
  · rw [if_pos h0]
    dsimp only
    rw [cz_fffd]
    exact Nat.le_refl _
  · rw [if_neg h0]
    have h10 : (cz 10).length = 1 := by decide +kernel
    by_cases h1 : bn l p = 13
    · rw [if_pos h1]
      split
      · dsimp only; rw [h10]; omega
      · dsimp only; rw [h10]; omega
    · rw [if_neg h1]
      by_cases h : (dN l p).1 = 65533 ∧ (dN l p).2 = 1
      · show (cz (dN l p).1).length ≤ 3 * (dN l p).2
        rw [h.1, h.2, cz_fffd]
        exact Nat.le_refl _
      · have hd := dec_back l hb p hp h
        show (cz (dN l p).1).length ≤ 3 * (dN l p).2
        rw [hd.1, List.length_take]
        omega
/-! ### characters and their bytes -/
def OkC (c : Nat) : Prop := (c < 55296 ∨ (57344 ≤ c ∧ c ≤ 1114111)) ∧ c ≠ 0 ∧ c ≠ 13
def bytesC (cs : List Nat) : List Int := cs.flatMap cz
theorem bytesC_cons (c : Nat) (cs : List Nat) : bytesC (c :: cs) = cz c ++ bytesC cs := List.flatMap_cons
theorem bytesC_bytes (cs : List Nat) : Bytes (bytesC cs) := fun x hx => by
  obtain ⟨c, _, h⟩ := List.mem_flatMap.1 hx
  exact cz_bytes c x h
theorem bn_behind (a z : List Int) (j : Nat) : bn (a ++ z) (a.length + j) = bn z j := by
  unfold bn
  rw [List.getD_eq_getElem?_getD, List.getD_eq_getElem?_getD, List.getElem?_append_right (by omega), Nat.add_sub_cancel_left]
theorem bn_front (a z : List Int) (j : Nat) (hj : j < a.length) : bn (a ++ z) j = bn a j := by
  unfold bn
  rw [List.getD_eq_getElem?_getD, List.getD_eq_getElem?_getD, List.getElem?_append_left hj]
/-- Read where its bytes stand, a character is itself; its first byte is the character, or from 192 on. -/
theorem dN_enc (a z : List Int) (c : Nat) (hc : c < 55296 ∨ (57344 ≤ c ∧ c ≤ 1114111)) :
    dN (a ++ (cz c ++ z)) a.length = (c, (cz c).length) ∧ (bn (a ++ (cz c ++ z)) a.length = c ∨ 192 ≤ bn (a ++ (cz c ++ z)) a.length) := by
  have f0 := bn_behind a (cz c ++ z) 0
  have f1 := bn_behind a (cz c ++ z) 1
  have f2 := bn_behind a (cz c ++ z) 2
  have f3 := bn_behind a (cz c ++ z) 3
  rw [Nat.add_zero] at f0
  unfold dN
  rw [f0, f1, f2, f3, List.length_append, List.length_append, Nat.add_sub_cancel_left]
  clear f0 f1 f2 f3
  by_cases c1 : c < 128
  · have hz : cz c = [(c : Int)] := encodeRuneZ_one (by omega) (by omega)
    have b0 : bn (cz c ++ z) 0 = c := by rw [hz]; rfl
    rw [b0]
    unfold decodeN
    rw [if_pos c1, hz]
    exact ⟨rfl, .inl rfl⟩
  · by_cases c2 : c < 2048
    · have hz : cz c = [192 + (c : Int) / 64, 128 + (c : Int) % 64] := encodeRuneZ_two (by omega) (by omega)
      have b0 : bn (cz c ++ z) 0 = 192 + c / 64 := by rw [hz]; show (192 + (c : Int) / 64).toNat = _; omega
      have b1 : bn (cz c ++ z) 1 = 128 + c % 64 := by rw [hz]; show (128 + (c : Int) % 64).toNat = _; omega
      have hl : (cz c).length = 2 := by rw [hz]; rfl
      rw [b0, b1, hl]
      refine ⟨?_, .inr (by omega)⟩
      unfold decodeN
      rw [if_neg (by omega), if_pos (by omega), if_pos (by omega)]
      refine Prod.ext ?_ rfl
      dsimp only
      omega
    · by_cases c3 : c < 65536
      · have hz : cz c = [224 + (c : Int) / 4096, 128 + (c : Int) / 64 % 64, 128 + (c : Int) % 64] := encodeRuneZ_three (by omega)
        have b0 : bn (cz c ++ z) 0 = 224 + c / 4096 := by rw [hz]; show (224 + (c : Int) / 4096).toNat = _; omega
        have b1 : bn (cz c ++ z) 1 = 128 + c / 64 % 64 := by rw [hz]; show (128 + (c : Int) / 64 % 64).toNat = _; omega
        have b2 : bn (cz c ++ z) 2 = 128 + c % 64 := by rw [hz]; show (128 + (c : Int) % 64).toNat = _; omega
        have hl : (cz c).length = 3 := by rw [hz]; rfl
        rw [b0, b1, b2, hl]
        refine ⟨?_, .inr (by omega)⟩
        clear b0 b1 b2 hl hz
        unfold decodeN
        have v : (224 + c / 4096) % 16 * 4096 + (128 + c / 64 % 64) % 64 * 64 + (128 + c % 64) % 64 = c := by omega
        rw [v, if_neg (by omega), if_neg (by omega), if_pos (by omega), if_pos (by omega)]
      · have hz : cz c = [240 + (c : Int) / 262144, 128 + (c : Int) / 4096 % 64, 128 + (c : Int) / 64 % 64, 128 + (c : Int) % 64] := encodeRuneZ_four (by omega) (by omega)
        have b0 : bn (cz c ++ z) 0 = 240 + c / 262144 := by rw [hz]; show (240 + (c : Int) / 262144).toNat = _; omega
        have b1 : bn (cz c ++ z) 1 = 128 + c / 4096 % 64 := by rw [hz]; show (128 + (c : Int) / 4096 % 64).toNat = _; omega
        have b2 : bn (cz c ++ z) 2 = 128 + c / 64 % 64 := by rw [hz]; show (128 + (c : Int) / 64 % 64).toNat = _; omega
        have b3 : bn (cz c ++ z) 3 = 128 + c % 64 := by rw [hz]; show (128 + (c : Int) % 64).toNat = _; omega
        have hl : (cz c).length = 4 := by rw [hz]; rfl
        rw [b0, b1, b2, b3, hl]
        refine ⟨?_, .inr (by omega)⟩
        clear b0 b1 b2 b3 hl hz
        unfold decodeN
        have v : (240 + c / 262144) % 8 * 262144 + (128 + c / 4096 % 64) % 64 * 4096 + (128 + c / 64 % 64) % 64 * 64 + (128 + c % 64) % 64 = c := by omega
        rw [v, if_neg (by omega), if_neg (by omega), if_neg (by omega), if_pos (by omega), if_pos (by omega)]
theorem cz_pos (c : Nat) : 1 ≤ (cz c).length := (encodeRuneZ_length (c : Int)).1
theorem nx_at (a z : List Int) (c : Nat) (hc : OkC c) : nx (a ++ (cz c ++ z)) a.length = (c, (cz c).length) := by
  obtain ⟨h1, h2⟩ := dN_enc a z c hc.1
  obtain ⟨hc1, hc2, hc3⟩ := hc
  unfold nx
  rw [if_neg (by omega), if_neg (by omega)]
  exact h1
theorem valid_enc : ∀ (cs : List Nat) (a : List Int), Bytes a → (∀ c ∈ cs, OkC c) → vD (a ++ bytesC cs) a.length = true
  | [], a, _, _ => vD_end _ _ (by show (a ++ []).length ≤ _; rw [List.append_nil]; exact Nat.le_refl _)
  | c :: cs, a, ha, h => by
    have hc := h c (List.mem_cons_self ..)
    have hb : Bytes (a ++ bytesC (c :: cs)) := fun x hx => (List.mem_append.1 hx).elim (ha x) (bytesC_bytes _ x)
    have hp := cz_pos c
    have ih := valid_enc cs (a ++ cz c) (fun x hx => (List.mem_append.1 hx).elim (ha x) (cz_bytes c x)) fun d hd => h d (List.mem_cons_of_mem _ hd)
    rw [List.append_assoc, List.length_append] at ih
    rw [vD_step _ hb _ (by rw [bytesC_cons, List.length_append, List.length_append]; omega), bytesC_cons, (dN_enc a (bytesC cs) c hc.1).1, if_neg]
    · exact ih
    · rintro ⟨h1, h2⟩
      dsimp only at h1 h2
      subst h1
      rw [cz_fffd] at h2
      omega
theorem all_enc : ∀ (cs : List Nat) (a : List Int), Bytes a → (∀ c ∈ cs, OkC c) → allB (a ++ bytesC cs) a.length ((a ++ bytesC cs).length : Int) = asB (bytesC cs)
  | [], a, _, _ => allB_nil _ _ _ (.inr (by show (a ++ []).length ≤ _; rw [List.append_nil]; exact Nat.le_refl _))
  | c :: cs, a, ha, h => by
    have hc := h c (List.mem_cons_self ..)
    have hb : Bytes (a ++ bytesC (c :: cs)) := fun x hx => (List.mem_append.1 hx).elim (ha x) (bytesC_bytes _ x)
    have hp := cz_pos c
    have ih := all_enc cs (a ++ cz c) (fun x hx => (List.mem_append.1 hx).elim (ha x) (cz_bytes c x)) fun d hd => h d (List.mem_cons_of_mem _ hd)
    rw [List.append_assoc, List.length_append] at ih
    have hlt : a.length < (a ++ bytesC (c :: cs)).length := by rw [bytesC_cons, List.length_append, List.length_append]; omega
    rw [allB_cons _ hb _ _ (by omega) hlt, bytesC_cons, nx_at a (bytesC cs) c hc, asB_app]
    exact congrArg _ ih
/-- What comes of any bytes is some characters' bytes. -/
theorem all_chars (l : List Int) (hb : Bytes l) : ∀ n p, l.length ≤ p + n → ∃ cs : List Nat, (∀ c ∈ cs, OkC c) ∧ allB l p (l.length : Int) = asB (bytesC cs) ∧ (bytesC cs).length ≤ 3 * (l.length - p)
  | 0, p, h => ⟨[], fun c hc => (by cases hc), allB_nil l p _ (.inr (by omega)), Nat.zero_le _⟩
  | n + 1, p, h => by
    by_cases hp : p < l.length
    · have hf := nx_facts l hb p hp
      have h3 := nx_thrice l hb p hp
      obtain ⟨cs, h1, h2, h4⟩ := all_chars l hb n (p + (nx l p).2) (by omega)
      refine ⟨(nx l p).1 :: cs, fun c hc => ?_, ?_, ?_⟩
      · rcases List.mem_cons.1 hc with rfl | hc
        · exact ⟨by omega, by omega, by omega⟩
        · exact h1 c hc
      · rw [allB_cons l hb p _ (by omega) hp, h2, bytesC_cons, asB_app, asB_cz]
      · rw [bytesC_cons, List.length_append]
        omega
    · exact ⟨[], fun c hc => (by cases hc), allB_nil l p _ (.inr (by omega)), Nat.zero_le _⟩
theorem ok_bytes (c : Nat) (hc : OkC c) : ∀ x ∈ cz c, x ≠ 0 ∧ x ≠ 13 := by
  intro x hx
  obtain ⟨h1, h2, h3⟩ := hc
  unfold cz at hx
  by_cases c1 : c < 128
  · rw [encodeRuneZ_one (by omega) (by omega)] at hx
    simp at hx
    omega
  · by_cases c2 : c < 2048
    · rw [encodeRuneZ_two (by omega) (by omega)] at hx
      simp at hx
      omega
    · by_cases c3 : c < 65536
      · rw [encodeRuneZ_three (by omega)] at hx
        simp at hx
        omega
      · rw [encodeRuneZ_four (by omega) (by omega)] at hx
        simp at hx
        omega
/-- Valid bytes without 0 and 13 stay as they are. -/
theorem plain_stays (l : List Int) (hb : Bytes l) (h0 : ∀ x ∈ l, x ≠ 0 ∧ x ≠ 13) : ∀ n p, l.length ≤ p + n → vD l p = true → allB l p (l.length : Int) = asB (l.drop p)
  | 0, p, h, _ => by rw [allB_nil l p _ (.inr (by omega)), List.drop_eq_nil_of_le (by omega)]; rfl
  | n + 1, p, h, hv => by
    by_cases hp : p < l.length
    · rw [vD_step l hb p hp] at hv
      by_cases hd : (dN l p).1 = 65533 ∧ (dN l p).2 = 1
      · rw [if_pos hd] at hv
        cases hv
      · rw [if_neg hd] at hv
        obtain ⟨e1, e2, e3⟩ := dec_back l hb p hp hd
        have hx := h0 _ (List.getElem_mem hp)
        have hbn : (bn l p : Int) = l[p] := by
          have e : l.getD p 0 = l[p] := by rw [List.getD_eq_getElem?_getD, List.getElem?_eq_getElem hp, Option.getD_some]
          have := getD_byte hb p
          unfold bn
          rw [e] at this ⊢
          omega
        have hn : nx l p = dN l p := by
          unfold nx
          rw [if_neg (by omega), if_neg (by omega)]
          rfl
        rw [allB_cons l hb p _ (by omega) hp, hn, plain_stays l hb h0 n (p + (dN l p).2) (by omega) hv, ← asB_cz, e1, ← asB_app, ← List.drop_drop, List.take_append_drop]
    · rw [allB_nil l p _ (.inr (by omega)), List.drop_eq_nil_of_le (by omega)]
      rfl
/-! ### the walks' answers, for longer rows -/
theorem all_loop2 (l : List Int) (hb : Bytes l) (hl : l.length ≤ 2000) (q : Int) : ∀ n k p (acc : List UInt8), l.length ≤ p + n → n + 2 ≤ k → acc.length ≤ 4 * p → p ≤ l.length → char_All.l0 k l (p : Int) q acc = some ⟨(acc ++ allB l p q).toArray⟩
  | n, 0, p, acc, _, h, _, _ => by omega
  | n, k + 1, p, acc, hn, hk, ha, hp => by
    rw [char_All.l0]
    by_cases h1 : (p : Int) < q
    · rw [if_pos h1]
      obtain ⟨k', rfl⟩ : ∃ k', k = k' + 1 := ⟨k - 1, by omega⟩
      by_cases h2 : p < l.length
      · obtain ⟨f1, f2, f3, f4, f5, f6⟩ := nx_facts l hb p h2
        have hr := rune_len ((nx l p).1 : Int)
        rw [next_in l hb (by omega) p h2 k', Option.bind_some]
        dsimp only
        rw [if_neg (by omega), if_pos (by omega), wrap64_in _ (by omega)]
        obtain ⟨n', rfl⟩ : ∃ n', n = n' + 1 := ⟨n - 1, by omega⟩
        have ih := all_loop2 l hb hl q n' (k' + 1) (p + (nx l p).2) (acc ++ runeB ((nx l p).1 : Int)) (by omega) (by omega) (by rw [List.length_append]; omega) f3
        rw [allB_cons l hb p q h1 h2, ← List.append_assoc]
        rw [show ((p : Int) + ((nx l p).2 : Int)) = ((p + (nx l p).2 : Nat) : Int) by omega]
        exact ih
      · rw [next_out l (p : Int) (.inr (by omega)) k', Option.bind_some, if_pos rfl, allB_nil l p q (.inr (by omega)), List.append_nil]
    · rw [if_neg h1, allB_nil l p q (.inl (by omega)), List.append_nil]
theorem all_big (l : List Int) (hb : Bytes l) (hl : l.length ≤ 2000) (q : Int) (k : Nat) (hk : 2002 ≤ k) : char_All.f k l 0 q = some ⟨(allB l 0 q).toArray⟩ := by
  unfold char_All.f
  have h := all_loop2 l hb hl q 2000 k 0 [] (by omega) (by omega) (by simp) (Nat.zero_le _)
  rw [show ((0 : Nat) : Int) = 0 from rfl] at h
  rw [h]
  rfl
theorem clean_big (s : ByteArray) (hs : s.size ≤ 2000) (k : Nat) (hk : 2002 ≤ k) : char_Clean.f k s = some ((⟨(allB (bytesOf s) 0 (s.size : Int)).toArray⟩ : ByteArray).toList == s.toList) := by
  unfold char_Clean.f
  rw [if_pos (by omega), all_big (bytesOf s) (bytes_of s) (by rw [bytesOf_len]; exact hs) (s.size : Int) k hk, Option.bind_some]
end Go.Proofs.YtinjbabmpnljoaaDoor.CharPure
