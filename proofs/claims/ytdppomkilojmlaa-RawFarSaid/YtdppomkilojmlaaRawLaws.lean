import Derived.Test.YtdppomkilojmlaaPRawx3
import Derived.IntWalk
import Derived.Lib.IndexLaws
namespace Go.Proofs.Ytdppomkilojmlaa.Pure
open Go.IntWalk Go.RowKit Go.Proofs.Ytdppomkilojmlaa.PRaw Go.Proofs.YtdppomkilojmlaaW.PrintWords Go.Proofs.YtdppomkilojmlaaW.PrintLast

theorem byte_of_wf {x : Int} (h : (Lit.int .u8 x).wf = true) : 0 ≤ x ∧ x ≤ 255 := by
  simpa [Lit.wf, IntKind.min, IntKind.max, IntKind.signed, IntKind.bits] using h
/-! ### Small -/
theorem rlower_byte (b : UInt8) : decanterref03_Lower.f ((b.toNat : Int)) = some ((class_Small.lowB b).toNat : Int) := by
  have hb := b.toNat_lt
  unfold decanterref03_Lower.f class_Small.lowB
  have e := wrap64_in ((b.toNat : Int) + 32) (by omega)
  by_cases h : 65 ≤ b.toNat ∧ b.toNat ≤ 90
  · rw [if_pos (by omega), if_pos (by omega), if_pos h, e]
    have : (b + 32).toNat = b.toNat + 32 := by rw [UInt8.toNat_add]; show (b.toNat + 32) % 256 = _; omega
    rw [this]; rfl
  · rw [if_neg h]
    by_cases h1 : (b.toNat : Int) ≥ 65
    · rw [if_pos h1, if_neg (by omega)]
    · rw [if_neg h1]
theorem rsmall_loop (s : ByteArray) (hs : s.size ≤ 140737488351232) : ∀ (n i k : Nat), i + n = s.size → n + 1 ≤ k → decanterref03_Small.l0 k s ((s.data.toList.take i).map fun b => ((class_Small.lowB b).toNat : Int)) i = some (class_Small.smallBytes s)
  | n, i, 0, _, hk => by omega
  | 0, i, k + 1, hi, _ => by
    have hl : s.data.toList.length = s.size := by rw [Array.length_toList]; rfl
    rw [decanterref03_Small.l0, if_neg (by omega), List.take_of_length_le (by omega)]
    refine congrArg some ?_
    unfold strOfNums class_Small.smallBytes
    rw [List.map_map]
    congr 2
    refine List.map_congr_left fun b _ => ?_
    show UInt8.ofNat (((class_Small.lowB b).toNat : Int)).toNat = _
    rw [Int.toNat_natCast, UInt8.ofNat_toNat]
  | n + 1, i, k + 1, hi, hk => by
    have hl : s.data.toList.length = s.size := by rw [Array.length_toList]; rfl
    have hil : i < s.size := by omega
    have hb : bt s (i : Int) = ((s.data.toList[i]'(by omega)).toNat : Int) := by
      unfold bt
      rw [dif_pos (show (i : Int).toNat < s.size by omega)]
      rfl
    have hr := (s.data.toList[i]'(by omega)).toNat_lt
    have e1 := wrap64_in (bt s (i : Int)) (by rw [hb]; omega)
    have e2 := wrap64_in ((i : Int) + 1) (by omega)
    have hr2 := (class_Small.lowB (s.data.toList[i]'(by omega))).toNat_lt
    rw [decanterref03_Small.l0, if_pos (by omega), if_pos (by omega), e1, hb, rlower_byte, Option.bind_some, if_pos (by rw [List.length_map, List.length_take]; omega), e2]
    have ih := rsmall_loop s hs n (i + 1) k (by omega) (by omega)
    rw [List.take_add_one, List.getElem?_eq_getElem (by omega), List.map_append] at ih
    rw [Int.emod_eq_of_lt (by omega) (by omega)]
    exact ih
theorem rsmall_eq (s : ByteArray) (hs : s.size ≤ 140737488351232) (k : Nat) (hk : s.size + 1 ≤ k) : decanterref03_Small.f k s = some (class_Small.smallBytes s) := by
  unfold decanterref03_Small.f
  exact rsmall_loop s hs s.size 0 k (by omega) hk
theorem small_eq (s : ByteArray) (hs : s.size ≤ 140737488351232) : class_Small.f s = some (class_Small.smallBytes s) := by
  unfold class_Small.f
  rw [if_pos hs]
theorem blank_eq (c : Int) (h : -2147483648 ≤ c ∧ c ≤ 2147483647) : class_Blank.f c = some (decide (c = 9 ∨ c = 10 ∨ c = 12 ∨ c = 32)) := by
  unfold class_Blank.f
  rw [if_pos h.1, if_pos h.2]
/-! ### Kind -/
def kinds : List (List UInt8 × Int) := [([116, 101, 120, 116, 97, 114, 101, 97], 1), ([116, 105, 116, 108, 101], 1), ([105, 102, 114, 97, 109, 101], 2), ([110, 111, 101, 109, 98, 101, 100], 2), ([110, 111, 102, 114, 97, 109, 101, 115], 2), ([115, 99, 114, 105, 112, 116], 2), ([115, 116, 121, 108, 101], 2), ([120, 109, 112], 2), ([112, 108, 97, 105, 110, 116, 101, 120, 116], 3)]
def kindOf (l : List UInt8) : Int := ((kinds.find? fun p => p.1 == l).map (·.2)).getD 0
theorem kind_range (l : List UInt8) : kindOf l = 0 ∨ kindOf l = 1 ∨ kindOf l = 2 ∨ kindOf l = 3 := by
  unfold kindOf
  cases h : kinds.find? fun p => p.1 == l with
  | none => simp
  | some p =>
    have := List.mem_of_find?_eq_some h
    simp only [kinds, List.mem_cons, List.not_mem_nil, or_false] at this
    rcases this with rfl | rfl | rfl | rfl | rfl | rfl | rfl | rfl | rfl <;> simp
theorem kind_eq (s : ByteArray) (k : Nat) : raw_Kind.f (k + 2) s = some (kindOf s.toList) := by
  unfold raw_Kind.f
  generalize hL : s.toList = L
  simp only [raw_Kind.j0, raw_Kind.j1, hL]
  by_cases h1 : L = [116, 101, 120, 116, 97, 114, 101, 97]
  · subst h1; rfl
  by_cases h2 : L = [116, 105, 116, 108, 101]
  · subst h2; rfl
  by_cases h3 : L = [105, 102, 114, 97, 109, 101]
  · subst h3; rfl
  by_cases h4 : L = [110, 111, 101, 109, 98, 101, 100]
  · subst h4; rfl
  by_cases h5 : L = [110, 111, 102, 114, 97, 109, 101, 115]
  · subst h5; rfl
  by_cases h6 : L = [115, 99, 114, 105, 112, 116]
  · subst h6; rfl
  by_cases h7 : L = [115, 116, 121, 108, 101]
  · subst h7; rfl
  by_cases h8 : L = [120, 109, 112]
  · subst h8; rfl
  by_cases h9 : L = [112, 108, 97, 105, 110, 116, 101, 120, 116]
  · subst h9; rfl
  have g1 : (([116, 101, 120, 116, 97, 114, 101, 97] : List UInt8) == L) = false := beq_eq_false_iff_ne.mpr (Ne.symm h1)
  have b1 : (L == ([116, 101, 120, 116, 97, 114, 101, 97] : List UInt8)) = false := beq_eq_false_iff_ne.mpr h1
  have g2 : (([116, 105, 116, 108, 101] : List UInt8) == L) = false := beq_eq_false_iff_ne.mpr (Ne.symm h2)
  have b2 : (L == ([116, 105, 116, 108, 101] : List UInt8)) = false := beq_eq_false_iff_ne.mpr h2
  have g3 : (([105, 102, 114, 97, 109, 101] : List UInt8) == L) = false := beq_eq_false_iff_ne.mpr (Ne.symm h3)
  have b3 : (L == ([105, 102, 114, 97, 109, 101] : List UInt8)) = false := beq_eq_false_iff_ne.mpr h3
  have g4 : (([110, 111, 101, 109, 98, 101, 100] : List UInt8) == L) = false := beq_eq_false_iff_ne.mpr (Ne.symm h4)
  have b4 : (L == ([110, 111, 101, 109, 98, 101, 100] : List UInt8)) = false := beq_eq_false_iff_ne.mpr h4
  have g5 : (([110, 111, 102, 114, 97, 109, 101, 115] : List UInt8) == L) = false := beq_eq_false_iff_ne.mpr (Ne.symm h5)
  have b5 : (L == ([110, 111, 102, 114, 97, 109, 101, 115] : List UInt8)) = false := beq_eq_false_iff_ne.mpr h5
  have g6 : (([115, 99, 114, 105, 112, 116] : List UInt8) == L) = false := beq_eq_false_iff_ne.mpr (Ne.symm h6)
  have b6 : (L == ([115, 99, 114, 105, 112, 116] : List UInt8)) = false := beq_eq_false_iff_ne.mpr h6
  have g7 : (([115, 116, 121, 108, 101] : List UInt8) == L) = false := beq_eq_false_iff_ne.mpr (Ne.symm h7)
  have b7 : (L == ([115, 116, 121, 108, 101] : List UInt8)) = false := beq_eq_false_iff_ne.mpr h7
  have g8 : (([120, 109, 112] : List UInt8) == L) = false := beq_eq_false_iff_ne.mpr (Ne.symm h8)
  have b8 : (L == ([120, 109, 112] : List UInt8)) = false := beq_eq_false_iff_ne.mpr h8
  have g9 : (([112, 108, 97, 105, 110, 116, 101, 120, 116] : List UInt8) == L) = false := beq_eq_false_iff_ne.mpr (Ne.symm h9)
  have b9 : (L == ([112, 108, 97, 105, 110, 116, 101, 120, 116] : List UInt8)) = false := beq_eq_false_iff_ne.mpr h9
  simp only [if_neg h1, if_neg h3, if_neg h4, if_neg h5, if_neg h6, if_neg h7, if_neg h9, b2, b8, Bool.false_eq_true, if_false]
  simp only [kindOf, kinds, List.find?, g1, g2, g3, g4, g5, g6, g7, g8, g9]
  rfl
def rnames : List ByteArray := [(⟨#[116, 101, 120, 116, 97, 114, 101, 97]⟩ : ByteArray), (⟨#[116, 105, 116, 108, 101]⟩ : ByteArray), (⟨#[105, 102, 114, 97, 109, 101]⟩ : ByteArray), (⟨#[110, 111, 101, 109, 98, 101, 100]⟩ : ByteArray), (⟨#[110, 111, 102, 114, 97, 109, 101, 115]⟩ : ByteArray), (⟨#[115, 99, 114, 105, 112, 116]⟩ : ByteArray), (⟨#[115, 116, 121, 108, 101]⟩ : ByteArray), (⟨#[120, 109, 112]⟩ : ByteArray), (⟨#[112, 108, 97, 105, 110, 116, 101, 120, 116]⟩ : ByteArray)]
def rkinds : List Int := [1, 1, 2, 2, 2, 2, 2, 2, 3]
theorem rkind_step (s : ByteArray) (k : Nat) (i : Int) (l : List UInt8) (v : Int) (hl : (rdOf ByteArray.empty rnames i).data.toList = l) (hv : rd rkinds i = v) (h0 : 0 ≤ i) (h1 : i < 9) (j : Int) (hj : i + 1 = j) :
    decanterref09_Kind.l0 (k + 1) s rnames rkinds i = if l = s.toList then some v else decanterref09_Kind.l0 k s rnames rkinds j := by
  have e := wrap64_in (i + 1) (by omega)
  subst hj
  rw [decanterref09_Kind.l0, if_pos (show i < ((rnames.length : Nat) : Int) from h1), if_pos h0, Lib.toList_data, hl, if_pos (show i < ((rkinds.length : Nat) : Int) from h1), hv, e]
theorem rkind_eq (s : ByteArray) (k : Nat) : decanterref09_Kind.f (k + 10) s = some (kindOf s.toList) := by
  show decanterref09_Kind.l0 (k + 10) s rnames rkinds 0 = _
  rw [rkind_step s _ 0 [116, 101, 120, 116, 97, 114, 101, 97] 1 rfl rfl (by omega) (by omega) 1 rfl]
  rw [rkind_step s _ 1 [116, 105, 116, 108, 101] 1 rfl rfl (by omega) (by omega) 2 rfl]
  rw [rkind_step s _ 2 [105, 102, 114, 97, 109, 101] 2 rfl rfl (by omega) (by omega) 3 rfl]
  rw [rkind_step s _ 3 [110, 111, 101, 109, 98, 101, 100] 2 rfl rfl (by omega) (by omega) 4 rfl]
  rw [rkind_step s _ 4 [110, 111, 102, 114, 97, 109, 101, 115] 2 rfl rfl (by omega) (by omega) 5 rfl]
  rw [rkind_step s _ 5 [115, 99, 114, 105, 112, 116] 2 rfl rfl (by omega) (by omega) 6 rfl]
  rw [rkind_step s _ 6 [115, 116, 121, 108, 101] 2 rfl rfl (by omega) (by omega) 7 rfl]
  rw [rkind_step s _ 7 [120, 109, 112] 2 rfl rfl (by omega) (by omega) 8 rfl]
  rw [rkind_step s _ 8 [112, 108, 97, 105, 110, 116, 101, 120, 116] 3 rfl rfl (by omega) (by omega) 9 rfl]
  rw [decanterref09_Kind.l0, if_neg (show ¬ ((9 : Int) < ((rnames.length : Nat) : Int)) by decide)]
  generalize s.toList = L
  by_cases h1 : ([116, 101, 120, 116, 97, 114, 101, 97] : List UInt8) = L
  · subst h1; rfl
  by_cases h2 : ([116, 105, 116, 108, 101] : List UInt8) = L
  · subst h2; rfl
  by_cases h3 : ([105, 102, 114, 97, 109, 101] : List UInt8) = L
  · subst h3; rfl
  by_cases h4 : ([110, 111, 101, 109, 98, 101, 100] : List UInt8) = L
  · subst h4; rfl
  by_cases h5 : ([110, 111, 102, 114, 97, 109, 101, 115] : List UInt8) = L
  · subst h5; rfl
  by_cases h6 : ([115, 99, 114, 105, 112, 116] : List UInt8) = L
  · subst h6; rfl
  by_cases h7 : ([115, 116, 121, 108, 101] : List UInt8) = L
  · subst h7; rfl
  by_cases h8 : ([120, 109, 112] : List UInt8) = L
  · subst h8; rfl
  by_cases h9 : ([112, 108, 97, 105, 110, 116, 101, 120, 116] : List UInt8) = L
  · subst h9; rfl
  have g1 : (([116, 101, 120, 116, 97, 114, 101, 97] : List UInt8) == L) = false := beq_eq_false_iff_ne.mpr h1
  have g2 : (([116, 105, 116, 108, 101] : List UInt8) == L) = false := beq_eq_false_iff_ne.mpr h2
  have g3 : (([105, 102, 114, 97, 109, 101] : List UInt8) == L) = false := beq_eq_false_iff_ne.mpr h3
  have g4 : (([110, 111, 101, 109, 98, 101, 100] : List UInt8) == L) = false := beq_eq_false_iff_ne.mpr h4
  have g5 : (([110, 111, 102, 114, 97, 109, 101, 115] : List UInt8) == L) = false := beq_eq_false_iff_ne.mpr h5
  have g6 : (([115, 99, 114, 105, 112, 116] : List UInt8) == L) = false := beq_eq_false_iff_ne.mpr h6
  have g7 : (([115, 116, 121, 108, 101] : List UInt8) == L) = false := beq_eq_false_iff_ne.mpr h7
  have g8 : (([120, 109, 112] : List UInt8) == L) = false := beq_eq_false_iff_ne.mpr h8
  have g9 : (([112, 108, 97, 105, 110, 116, 101, 120, 116] : List UInt8) == L) = false := beq_eq_false_iff_ne.mpr h9
  rw [if_neg h1, if_neg h2, if_neg h3, if_neg h4, if_neg h5, if_neg h6, if_neg h7, if_neg h8, if_neg h9]
  simp only [kindOf, kinds, List.find?, g1, g2, g3, g4, g5, g6, g7, g8, g9]
  rfl
/-! ### ends -/
def isEnd (c : Int) : Bool := decide (c = 9 ∨ c = 10 ∨ c = 12 ∨ c = 13 ∨ c = 32 ∨ c = 47 ∨ c = 62)
def E (l : List Int) (p : Nat) (name : ByteArray) : Bool :=
  if l.length ≤ p + 2 + name.size then false
  else if rd l ((p + 1 : Nat) : Int) = 47 then
    if (class_Small.smallBytes (strOfNums ((l.take (p + 2 + name.size)).drop (p + 2)))).toList = name.toList then isEnd (rd l ((p + 2 + name.size : Nat) : Int)) else false
  else false
theorem rd_drop (l : List Int) (p j : Nat) : rd (l.drop p) (j : Int) = rd l ((p + j : Nat) : Int) := by
  unfold rd
  rw [Int.toNat_natCast, Int.toNat_natCast, List.getD_eq_getElem?_getD, List.getD_eq_getElem?_getD, List.getElem?_drop]
def Bytes (l : List Int) : Prop := ∀ x ∈ l, 0 ≤ x ∧ x ≤ 255
theorem rd_byte {l : List Int} (h : Bytes l) (j : Nat) : 0 ≤ rd l (j : Int) ∧ rd l (j : Int) ≤ 255 := by
  unfold rd
  rw [Int.toNat_natCast, List.getD_eq_getElem?_getD]
  cases hj : l[j]? with
  | none => simp
  | some x => exact h x (List.mem_of_getElem? hj)
theorem cut_eq (l : List Int) (p n : Nat) : ((l.drop p).take (2 + n)).drop 2 = (l.take (p + 2 + n)).drop (p + 2) := by
  rw [List.take_drop, List.drop_drop, show p + (2 + n) = p + 2 + n from by omega]
theorem ends_eq (l : List Int) (p : Nat) (name : ByteArray) (hb : Bytes l) (hp : p < l.length) (hl : l.length ≤ 100000) (hn : name.size ≤ 100000) : raw_ends.f (l.drop p) name = some (E l p name) := by
  unfold raw_ends.f E
  have hlen : ((l.drop p).length : Int) = (l.length : Int) - p := by rw [List.length_drop]; omega
  have e1 := wrap64_in (2 + (name.size : Int)) (by omega)
  have hsz : (strOfNums ((l.take (p + 2 + name.size)).drop (p + 2))).size ≤ 140737488351232 := by rw [strOfNums_size, List.length_drop, List.length_take]; omega
  rw [e1]
  by_cases h1 : l.length ≤ p + 2 + name.size
  · rw [if_pos h1, if_pos (by omega)]
  · rw [if_neg h1, if_neg (by omega), if_pos (by omega)]
    have hr1 : rd (l.drop p) 1 = rd l ((p + 1 : Nat) : Int) := rd_drop l p 1
    rw [hr1]
    by_cases h2 : rd l ((p + 1 : Nat) : Int) = 47
    · rw [if_pos h2, if_pos h2, if_pos (by omega), if_pos (by omega)]
      have e2 : (2 + (name.size : Int)).toNat = 2 + name.size := by omega
      rw [e2, cut_eq, small_eq _ hsz, Option.bind_some]
      by_cases h3 : (class_Small.smallBytes (strOfNums ((l.take (p + 2 + name.size)).drop (p + 2)))).toList = name.toList
      · rw [if_pos h3, if_pos h3, if_pos (by omega), if_pos (by omega)]
        have hr2 : rd (l.drop p) (2 + (name.size : Int)) = rd l ((p + 2 + name.size : Nat) : Int) := by
          have := rd_drop l p (2 + name.size)
          rw [show ((2 + name.size : Nat) : Int) = 2 + (name.size : Int) from by omega] at this
          rw [this, Nat.add_assoc]
        rw [hr2]
        have hby := rd_byte hb (p + 2 + name.size)
        generalize rd l ((p + 2 + name.size : Nat) : Int) = c at hby
        have e3 := wrap32_in c (by omega)
        rw [e3, blank_eq c (by omega), Option.bind_some]
        unfold isEnd
        by_cases q1 : c = 9 ∨ c = 10 ∨ c = 12 ∨ c = 32
        · rw [decide_eq_true q1, if_pos rfl, decide_eq_true (by omega)]
        · rw [decide_eq_false q1, if_neg (by simp)]
          by_cases q2 : c = 13
          · rw [if_pos q2, decide_eq_true (by omega)]
          · rw [if_neg q2]
            by_cases q3 : c = 47
            · rw [if_pos q3, decide_eq_true (by omega)]
            · rw [if_neg q3]
              refine congrArg some ?_
              by_cases q4 : c = 62
              · rw [decide_eq_true (by omega), q4]; rfl
              · rw [decide_eq_false (by omega)]; simpa using q4
      · rw [if_neg h3, if_neg h3]
    · rw [if_neg h2, if_neg h2]
theorem rends_eq (l : List Int) (p : Nat) (name : ByteArray) (k : Nat) (hk : name.size + 1 ≤ k) (hb : Bytes l) (hp : p < l.length) (hl : l.length ≤ 100000) (hn : name.size ≤ 100000) : decanterref09_ends.f k l (p : Int) name = some (decide (rd l (p : Int) = 60) && E l p name) := by
  unfold decanterref09_ends.f E
  have e1 := wrap64_in ((p : Int) + 2) (by omega)
  have e2 := wrap64_in ((p : Int) + 2 + (name.size : Int)) (by omega)
  have e3 := wrap64_in ((p : Int) + 1) (by omega)
  have hsz : (strOfNums ((l.take (p + 2 + name.size)).drop (p + 2))).size ≤ name.size := by rw [strOfNums_size, List.length_drop, List.length_take]; omega
  simp only [e1, e2, e3]
  by_cases h1 : l.length ≤ p + 2 + name.size
  · rw [if_pos h1, if_pos (by omega), Bool.and_false]
  · rw [if_neg h1, if_neg (by omega), if_pos (by omega), if_pos (by omega)]
    by_cases h0 : rd l (p : Int) = 60
    · rw [if_pos h0, if_pos (by omega), if_pos (by omega), decide_eq_true h0, Bool.true_and]
      have hr1 : rd l ((p : Int) + 1) = rd l ((p + 1 : Nat) : Int) := rfl
      rw [hr1]
      by_cases h2 : rd l ((p + 1 : Nat) : Int) = 47
      · rw [if_pos h2, if_pos h2, if_pos (by omega), if_pos (by omega), if_pos (by omega)]
        have t1 : ((p : Int) + 2 + (name.size : Int)).toNat = p + 2 + name.size := by omega
        have t2 : ((p : Int) + 2).toNat = p + 2 := by omega
        rw [t1, t2, rsmall_eq _ (by omega) k (by omega), Option.bind_some]
        by_cases h3 : (class_Small.smallBytes (strOfNums ((l.take (p + 2 + name.size)).drop (p + 2)))).toList = name.toList
        · rw [if_pos h3, if_pos h3, if_pos (by omega), if_pos (by omega)]
          have hr2 : rd l ((p : Int) + 2 + (name.size : Int)) = rd l ((p + 2 + name.size : Nat) : Int) := rfl
          rw [hr2]
          have hby := rd_byte hb (p + 2 + name.size)
          generalize rd l ((p + 2 + name.size : Nat) : Int) = c at hby
          have e4 := wrap64_in c (by omega)
          rw [e4]
          unfold isEnd
          by_cases q1 : c = 9
          · rw [if_pos q1, decide_eq_true (by omega)]
          rw [if_neg q1]
          by_cases q2 : c = 10
          · rw [if_pos q2, decide_eq_true (by omega)]
          rw [if_neg q2]
          by_cases q3 : c = 12
          · rw [if_pos q3, decide_eq_true (by omega)]
          rw [if_neg q3]
          by_cases q4 : c = 13
          · rw [if_pos q4, decide_eq_true (by omega)]
          rw [if_neg q4]
          by_cases q5 : c = 32
          · rw [if_pos q5, decide_eq_true (by omega)]
          rw [if_neg q5]
          by_cases q6 : c = 47
          · rw [if_pos q6, decide_eq_true (by omega)]
          rw [if_neg q6]
          refine congrArg some ?_
          by_cases q7 : c = 62
          · rw [decide_eq_true (by omega), q7]; rfl
          · rw [decide_eq_false (by omega)]; simpa using q7
        · rw [if_neg h3, if_neg h3]
      · rw [if_neg h2, if_neg h2]
    · rw [if_neg h0, decide_eq_false h0, Bool.false_and]
/-! ### End -/
/-- The first place of an end tag, from p on, in at most n steps. -/
def endOf (l : List Int) (name : ByteArray) : Nat → Nat → Nat
  | 0, p => p
  | n + 1, p => if rd l (p : Int) = 60 ∧ E l p name = true then p else endOf l name n (p + 1)
theorem endOf_ge (l : List Int) (name : ByteArray) : ∀ n p, p ≤ endOf l name n p ∧ endOf l name n p ≤ p + n
  | 0, p => ⟨Nat.le_refl _, Nat.le_refl _⟩
  | n + 1, p => by
    have ih := endOf_ge l name n (p + 1)
    unfold endOf
    split <;> omega
theorem endOf_skip (l : List Int) (name : ByteArray) : ∀ i n p, i ≤ n → (∀ j, j < i → rd l ((p + j : Nat) : Int) ≠ 60) → endOf l name n p = endOf l name (n - i) (p + i)
  | 0, n, p, _, _ => rfl
  | i + 1, 0, p, h, _ => by omega
  | i + 1, n + 1, p, h, hj => by
    rw [endOf, if_neg (fun hh => hj 0 (by omega) hh.1), endOf_skip l name i n (p + 1) (by omega) (fun j hji => by have := hj (j + 1) (by omega); rwa [show p + (j + 1) = p + 1 + j from by omega] at this)]
    rw [show n + 1 - (i + 1) = n - i from by omega, show p + 1 + i = p + (i + 1) from by omega]
theorem endOf_succ (l : List Int) (name : ByteArray) (n p : Nat) : endOf l name (n + 1) p = if rd l (p : Int) = 60 ∧ E l p name = true then p else endOf l name n (p + 1) := rfl
/-- From any place between, the same end. -/
theorem endOf_mid (l : List Int) (name : ByteArray) : ∀ n p q, p ≤ q → q ≤ endOf l name n p → endOf l name (p + n - q) q = endOf l name n p
  | 0, p, q, h1, h2 => by
    obtain rfl : q = p := by simp only [endOf] at h2; omega
    rw [show q + 0 - q = 0 from by omega]
  | n + 1, p, q, h1, h2 => by
    by_cases hq : q = p
    · subst hq; rw [show q + (n + 1) - q = n + 1 from by omega]
    · rw [endOf_succ] at h2
      rw [endOf_succ l name n p]
      by_cases hc : rd l (p : Int) = 60 ∧ E l p name = true
      · rw [if_pos hc] at h2; omega
      · rw [if_neg hc] at h2
        rw [if_neg hc]
        have := endOf_mid l name n (p + 1) q (by omega) h2
        rw [show p + (n + 1) - q = p + 1 + n - q from by omega]
        exact this
theorem idx60 (l : List Int) (hb : Bytes l) (p j : Nat) (hj : p + j < l.length) : (Lib.bytesOf (l.drop p))[j]? = some (60 : UInt8) ↔ rd l ((p + j : Nat) : Int) = 60 := by
  have hx := hb (l[p + j]'hj) (List.getElem_mem _)
  have h1 : (Lib.bytesOf (l.drop p))[j]? = some (UInt8.ofNat (l[p + j]'hj).toNat) := by
    unfold Lib.bytesOf
    rw [List.getElem?_map, List.getElem?_drop, List.getElem?_eq_getElem hj]; rfl
  have h2 : rd l ((p + j : Nat) : Int) = l[p + j]'hj := by
    unfold rd
    rw [Int.toNat_natCast, List.getD_eq_getElem?_getD, List.getElem?_eq_getElem hj]; rfl
  rw [h1, h2]
  generalize l[p + j]'hj = x at hx
  constructor
  · intro h
    have h3 := congrArg UInt8.toNat (Option.some.inj h)
    rw [UInt8.toNat_ofNat'] at h3
    have : (60 : UInt8).toNat = 60 := rfl
    omega
  · rintro rfl; rfl
theorem raw_loop (l : List Int) (name : ByteArray) (hb : Bytes l) (hl : l.length ≤ 100000) (hn : name.size ≤ 100000) : ∀ k n p, p + n = l.length → n + 1 ≤ k → raw_End.l0 k l (p : Int) name = some (endOf l name n p : Int)
  | 0, n, p, _, h => by omega
  | k + 1, n, p, hp, hk => by
    rw [raw_End.l0, if_pos (by omega), if_pos (by omega), Int.toNat_natCast]
    unfold bytes_IndexByte.f
    rw [Option.bind_some]
    have h60 : (60 : Int).toNat.toUInt8 = 60 := rfl
    rw [h60]
    have hge := Lib.indexByte_ge (Lib.bytesOf (l.drop p)) 60
    generalize ht : Lib.indexByte (Lib.bytesOf (l.drop p)) 60 = t at hge
    by_cases h0 : t < 0
    · obtain rfl : t = -1 := by omega
      have hno := Lib.indexByte_none ht
      rw [if_pos h0, endOf_skip l name n n p (Nat.le_refl _) (fun j hj h => hno j ((idx60 l hb p j (by omega)).mpr h)), Nat.sub_self, endOf, hp]
    · obtain ⟨o, rfl⟩ := Int.eq_ofNat_of_zero_le (show 0 ≤ t by omega)
      obtain ⟨h1, h2⟩ := Lib.indexByte_some ht
      have ho : o < n := by
        have := (List.getElem?_eq_some_iff.1 h1).1
        unfold Lib.bytesOf at this
        rw [List.length_map, List.length_drop] at this; omega
      have e1 := wrap64_in ((p : Int) + (o : Int)) (by omega)
      have h3 := (idx60 l hb p o (by omega)).mp h1
      rw [if_neg h0, e1, if_pos (by omega), if_pos (by omega), show ((p : Int) + (o : Int)).toNat = p + o from by omega, ends_eq l (p + o) name hb (by omega) hl hn, Option.bind_some]
      rw [endOf_skip l name o n p (by omega) (fun j hj h => h2 j hj ((idx60 l hb p j (by omega)).mpr h))]
      obtain ⟨m, hm⟩ : ∃ m, n - o = m + 1 := ⟨n - o - 1, by omega⟩
      rw [hm, endOf]
      by_cases hE : E l (p + o) name = true
      · rw [if_pos hE, if_pos ⟨h3, hE⟩]; rfl
      · rw [if_neg hE, if_neg (fun h => hE h.2)]
        have e2 := wrap64_in ((p : Int) + (o : Int) + 1) (by omega)
        rw [e2]
        exact raw_loop l name hb hl hn k m (p + o + 1) (by omega) (by omega)
theorem ref_loop (l : List Int) (name : ByteArray) (hb : Bytes l) (hl : l.length ≤ 100000) (hn : name.size ≤ 100000) (x : Int) (hx : x ≠ 3) : ∀ k n p, p + n = l.length → n + name.size + 2 ≤ k → decanterref09_End.l0 k l (p : Int) name x = some (endOf l name n p : Int)
  | 0, n, p, _, h => by omega
  | k + 1, 0, p, hp, hk => by
    rw [decanterref09_End.l0, if_neg (by omega)]; rfl
  | k + 1, n + 1, p, hp, hk => by
    rw [decanterref09_End.l0, if_pos (by omega), if_neg hx, rends_eq l p name k (by omega) hb (by omega) hl hn, Option.bind_some, endOf]
    by_cases hc : rd l (p : Int) = 60 ∧ E l p name = true
    · rw [if_pos (by rw [decide_eq_true hc.1, hc.2]; rfl), if_pos hc]
    · rw [if_neg (by rw [Bool.and_eq_true, decide_eq_true_eq]; exact hc), if_neg hc]
      have e2 := wrap64_in ((p : Int) + 1) (by omega)
      rw [e2]
      exact ref_loop l name hb hl hn x hx k n (p + 1) (by omega) (by omega)
theorem ref_loop3 (l : List Int) (name : ByteArray) (hl : l.length ≤ 100000) : ∀ k n p, p + n = l.length → n + 1 ≤ k → decanterref09_End.l0 k l (p : Int) name 3 = some (l.length : Int)
  | 0, n, p, _, h => by omega
  | k + 1, 0, p, hp, hk => by
    rw [decanterref09_End.l0, if_neg (by omega), ← hp]; rfl
  | k + 1, n + 1, p, hp, hk => by
    have e2 := wrap64_in ((p : Int) + 1) (by omega)
    rw [decanterref09_End.l0, if_pos (by omega), if_pos rfl, e2]
    exact ref_loop3 l name hl k n (p + 1) (by omega) (by omega)
/-- Where the text ends. -/
def endIs (l : List Int) (name : ByteArray) (p : Nat) : Nat :=
  if kindOf name.toList = 0 then p else if kindOf name.toList = 3 then l.length else endOf l name (l.length - p) p
theorem raw_eq (l : List Int) (name : ByteArray) (hb : Bytes l) (hl : l.length ≤ 100000) (hn : name.size ≤ 100000) (k p : Nat) (hp : p ≤ l.length) (hk : l.length + 10 ≤ k) : raw_End.f k l (p : Int) name = some (endIs l name p : Int) := by
  unfold raw_End.f endIs
  obtain ⟨k', rfl⟩ : ∃ k', k = k' + 2 := ⟨k - 2, by omega⟩
  rw [kind_eq, Option.bind_some]
  by_cases h0 : kindOf name.toList = 0
  · rw [if_pos h0, if_pos h0]
  · rw [if_neg h0, if_neg h0]
    by_cases h3 : kindOf name.toList = 3
    · rw [if_pos h3, if_pos h3]
    · rw [if_neg h3, if_neg h3]
      exact raw_loop l name hb hl hn _ _ p (by omega) (by omega)
theorem ref_eq (l : List Int) (name : ByteArray) (hb : Bytes l) (hl : l.length ≤ 100000) (hn : name.size ≤ 100000) (k p : Nat) (hp : p ≤ l.length) (hk : l.length + name.size + 20 ≤ k) : decanterref09_End.f k l (p : Int) name = some (endIs l name p : Int) := by
  unfold decanterref09_End.f endIs
  obtain ⟨k', rfl⟩ : ∃ k', k = k' + 10 := ⟨k - 10, by omega⟩
  rw [rkind_eq, Option.bind_some]
  by_cases h0 : kindOf name.toList = 0
  · rw [if_pos h0, if_pos h0]
  · rw [if_neg h0, if_neg h0]
    by_cases h3 : kindOf name.toList = 3
    · rw [h3, if_pos rfl]
      exact ref_loop3 l name hl _ (l.length - p) p (by omega) (by omega)
    · rw [if_neg h3]
      exact ref_loop l name hb hl hn _ h3 _ _ p (by omega) (by omega)
end Go.Proofs.Ytdppomkilojmlaa.Pure
