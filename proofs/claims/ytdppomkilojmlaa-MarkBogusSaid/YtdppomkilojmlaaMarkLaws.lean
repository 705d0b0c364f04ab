import Derived.Test.YtdppomkilojmlaaPMarkx2
import Derived.IntWalk
import Derived.Lib.IndexMore
namespace Go.Proofs.Ytdppomkilojmlaa.Pure
open Go.IntWalk Go.RowKit Go.Proofs.Ytdppomkilojmlaa.PMark Go.Proofs.YtdppomkilojmlaaW.PrintWords Go.Proofs.YtdppomkilojmlaaW.PrintLast

theorem mbyte_of_wf {x : Int} (h : (Lit.int .u8 x).wf = true) : 0 ≤ x ∧ x ≤ 255 := by
  simpa [Lit.wf, IntKind.min, IntKind.max, IntKind.signed, IntKind.bits] using h
theorem size_data (u : ByteArray) : u.data.toList.length = u.size := by rw [Array.length_toList]; rfl
theorem pre_iff (P D : List UInt8) : P.isPrefixOf D = (D.take P.length == P) := by
  rw [Bool.eq_iff_iff, List.isPrefixOf_iff_prefix, beq_iff_eq, List.prefix_iff_eq_take]
  exact eq_comm
theorem hp_eq (u p : ByteArray) : strings_HasPrefix.f u p = some (p.data.toList.isPrefixOf u.data.toList) := by
  unfold strings_HasPrefix.f stringslite_HasPrefix.f
  by_cases h : (u.size : Int) ≥ (p.size : Int)
  · rw [if_pos h, if_pos (by omega), if_pos (by omega), Option.bind_some]
    refine congrArg some ?_
    rw [Lib.toList_data, Lib.toList_data, Lib.extract_data, List.drop_zero, Nat.sub_zero, Int.toNat_natCast, pre_iff, size_data]
  · rw [if_neg h, Option.bind_some]
    refine congrArg some ?_
    rw [eq_comm, Bool.eq_false_iff]
    intro hp
    have := (List.isPrefixOf_iff_prefix.1 hp).length_le
    rw [size_data, size_data] at this
    omega
theorem pre_at {P D : List UInt8} (h : P.isPrefixOf D = true) (j : Nat) (hj : j < P.length) : D[j]? = some (P[j]'hj) := by
  obtain ⟨t, rfl⟩ := List.isPrefixOf_iff_prefix.1 h
  rw [List.getElem?_append_left hj, List.getElem?_eq_getElem hj]
theorem pre_len {P D : List UInt8} (h : P.isPrefixOf D = true) : P.length ≤ D.length := (List.isPrefixOf_iff_prefix.1 h).length_le
/-! ### behind -/
/-- A place behind what ends with a >, or the end. -/
def Good (D : List UInt8) (a b : Nat) : Prop := a ≤ b ∧ b ≤ D.length ∧ (b < D.length → 1 ≤ b ∧ D[b - 1]? = some 62)
def Ends (xs : List ByteArray) : Prop := ∀ i : Nat, i < xs.length → 0 < (rdOf ByteArray.empty xs (i : Int)).size ∧ (rdOf ByteArray.empty xs (i : Int)).size ≤ 4 ∧ (rdOf ByteArray.empty xs (i : Int)).data.toList[(rdOf ByteArray.empty xs (i : Int)).size - 1]? = some 62
theorem index_eq (u e : ByteArray) (a : Nat) (hs : u.size ≤ 100000) : strings_Index.f (u.extract a u.size) e = some (Lib.index (u.data.toList.drop a) e.data.toList) := by
  unfold strings_Index.f
  rw [if_pos (by rw [ByteArray.size_extract]; omega), Lib.extract_to_end]
theorem good_of_occ (D : List UInt8) (e : ByteArray) (a r : Nat) (h0 : 0 < e.size) (hl : e.data.toList[e.size - 1]? = some 62) (ho : Lib.occAt (D.drop a) e.data.toList r = true) (_hrl : r ≤ D.length - a) (ha : a ≤ D.length) : Good D a (a + r + e.size) := by
  have hE := size_data e
  generalize e.data.toList = E at hl ho hE
  generalize e.size = m at h0 hl hE
  have hne : E ≠ [] := fun hh => by rw [hh] at hE; simp at hE; omega
  have h1 := (Lib.occAt_room ho).resolve_right hne
  rw [List.length_drop] at h1
  unfold Lib.occAt at ho
  have h2 := pre_at ho (m - 1) (by omega)
  rw [List.getElem?_eq_getElem (by omega)] at hl
  rw [hl, List.drop_drop, List.getElem?_drop] at h2
  have h3 : a + r + m - 1 = a + r + (m - 1) := by omega
  exact ⟨by omega, by omega, fun _ => ⟨by omega, by rw [h3]; exact h2⟩⟩
theorem ar4 {a r s : Nat} (h : a ≤ s) (hr : r ≤ s - a) (hs : s ≤ 100000) : a + r ≤ 100000 := by omega
theorem ar2 {a r s : Nat} (h : a ≤ s) (hr : r ≤ s - a) (hs : s ≤ 100000) : -9223372036854775808 ≤ (a : Int) + (r : Int) ∧ (a : Int) + (r : Int) ≤ 9223372036854775807 := by omega
theorem ar3 {a r s x : Nat} (h : a ≤ s) (hr : r ≤ s - a) (hs : s ≤ 100000) (hx : x ≤ 4) : -9223372036854775808 ≤ (a : Int) + (r : Int) + (x : Int) ∧ (a : Int) + (r : Int) + (x : Int) ≤ 9223372036854775807 := by omega
set_option maxHeartbeats 4000000 in
theorem behind_good (u : ByteArray) (a : Nat) (xs : List ByteArray) (hx : Ends xs) (hs : u.size ≤ 100000) (ha : a ≤ u.size) (hxl : xs.length ≤ 100) :
    ∀ n k i best first : Nat, i + n = xs.length → n + 1 ≤ k → Good u.data.toList a best → first ≤ 100000 → ∃ b : Nat, mark_behind.l0 k u (a : Int) (best : Int) (first : Int) xs (xs.length : Int) (i : Int) = some (b : Int) ∧ Good u.data.toList a b
  | n, 0, i, best, first, _, h, _, _ => by omega
  | 0, k + 1, i, best, first, hi, hk, hg, hf => by
    rw [mark_behind.l0, if_neg (by omega)]
    exact ⟨best, rfl, hg⟩
  | n + 1, k + 1, i, best, first, hi, hk, hg, hf => by
    obtain ⟨h0, h4, hl⟩ := hx i (by omega)
    have e1 := wrap64_in ((i : Int) + 1) (by omega)
    rw [mark_behind.l0, if_pos (by omega), if_pos (by omega), if_pos (by omega), if_pos (by omega), if_pos (by omega), Int.toNat_natCast, index_eq u _ a hs, Option.bind_some, e1]
    generalize rdOf ByteArray.empty xs (i : Int) = e at h0 h4 hl
    rcases Lib.index_spec (u.data.toList.drop a) e.data.toList with ⟨hr, -⟩ | ⟨r, hr, hrl, ho, -⟩
    · rw [hr, if_neg (by omega)]
      have ih := behind_good u a xs hx hs ha hxl n k (i + 1) best first (by omega) (by omega) hg hf
      simp only [Int.natCast_add, Int.cast_ofNat_Int] at ih
      exact ih
    · rw [List.length_drop, size_data] at hrl
      have e2 := wrap64_in ((a : Int) + (r : Int)) (ar2 ha hrl hs)
      have e3 := wrap64_in ((a : Int) + (r : Int) + (e.size : Int)) (ar3 ha hrl hs h4)
      rw [hr, if_pos (Int.natCast_nonneg r), e2]
      by_cases hlt : (a : Int) + (r : Int) < (first : Int)
      · rw [if_pos hlt, e3]
        have hg' := good_of_occ u.data.toList e a r h0 hl ho (by rw [size_data]; exact hrl) (by rw [size_data]; exact ha)
        have := behind_good u a xs hx hs ha hxl n k (i + 1) (a + r + e.size) (a + r) (by omega) (by omega) hg' (ar4 ha hrl hs)
        simp only [Int.natCast_add, Int.cast_ofNat_Int] at this
        exact this
      · rw [if_neg hlt]
        have ih := behind_good u a xs hx hs ha hxl n k (i + 1) best first (by omega) (by omega) hg hf
        simp only [Int.natCast_add, Int.cast_ofNat_Int] at ih
        exact ih
theorem good_end (u : ByteArray) (a : Nat) (ha : a ≤ u.size) : Good u.data.toList a u.size := ⟨ha, by rw [size_data]; omega, fun h => by rw [size_data] at h; omega⟩
theorem behind_ok (u : ByteArray) (a : Nat) (xs : List ByteArray) (hx : Ends xs) (hs : u.size ≤ 100000) (ha : a ≤ u.size) (hxl : xs.length ≤ 100) (k : Nat) (hk : xs.length + 1 ≤ k) :
    ∃ b : Nat, mark_behind.f k u (a : Int) xs = some (b : Int) ∧ Good u.data.toList a b := by
  unfold mark_behind.f
  exact behind_good u a xs hx hs ha hxl xs.length k 0 u.size u.size (by omega) hk (good_end u a ha) hs
theorem ends1 : Ends [(⟨#[62]⟩ : ByteArray)] := by
  have : ∀ i : Fin 1, 0 < (rdOf ByteArray.empty [(⟨#[62]⟩ : ByteArray)] (i.val : Int)).size ∧ (rdOf ByteArray.empty [(⟨#[62]⟩ : ByteArray)] (i.val : Int)).size ≤ 4 ∧ (rdOf ByteArray.empty [(⟨#[62]⟩ : ByteArray)] (i.val : Int)).data.toList[(rdOf ByteArray.empty [(⟨#[62]⟩ : ByteArray)] (i.val : Int)).size - 1]? = some 62 := by decide +kernel
  exact fun i h => this ⟨i, h⟩
theorem ends2 : Ends [(⟨#[45, 45, 62]⟩ : ByteArray), (⟨#[45, 45, 33, 62]⟩ : ByteArray)] := by
  have : ∀ i : Fin 2, 0 < (rdOf ByteArray.empty [(⟨#[45, 45, 62]⟩ : ByteArray), (⟨#[45, 45, 33, 62]⟩ : ByteArray)] (i.val : Int)).size ∧ (rdOf ByteArray.empty [(⟨#[45, 45, 62]⟩ : ByteArray), (⟨#[45, 45, 33, 62]⟩ : ByteArray)] (i.val : Int)).size ≤ 4 ∧ (rdOf ByteArray.empty [(⟨#[45, 45, 62]⟩ : ByteArray), (⟨#[45, 45, 33, 62]⟩ : ByteArray)] (i.val : Int)).data.toList[(rdOf ByteArray.empty [(⟨#[45, 45, 62]⟩ : ByteArray), (⟨#[45, 45, 33, 62]⟩ : ByteArray)] (i.val : Int)).size - 1]? = some 62 := by decide +kernel
  exact fun i h => this ⟨i, h⟩
theorem comment_ok (u : ByteArray) (hs : u.size ≤ 100000) (h4 : 4 ≤ u.size) (k : Nat) :
    ∃ b : Nat, mark_comment.f (k + 10) u = some (b : Int) ∧ Good u.data.toList 4 b := by
  unfold mark_comment.f
  rw [Option.bind_some]
  have hd : (u.extract 4 u.size).data.toList = u.data.toList.drop 4 := Lib.extract_to_end u 4
  show ∃ b : Nat, mark_comment.l0 (k + 9 + 1) u [⟨#[62]⟩, ⟨#[45, 62]⟩] 2 0 = some (b : Int) ∧ _
  rw [mark_comment.l0, if_pos (by decide), if_pos (by decide), if_pos (by decide), if_pos (by omega), hp_eq, Option.bind_some, hd]
  by_cases h1 : ((rdOf ByteArray.empty [(⟨#[62]⟩ : ByteArray), (⟨#[45, 62]⟩ : ByteArray)] 0).data.toList.isPrefixOf (u.data.toList.drop 4)) = true
  · rw [if_pos h1]
    refine ⟨5, by decide +kernel, ?_⟩
    change ([62] : List UInt8).isPrefixOf _ = true at h1
    have hl := pre_len h1
    have h2 := pre_at h1 0 (by decide)
    rw [List.length_drop] at hl
    rw [List.getElem?_drop] at h2
    have : ([62] : List UInt8).length = 1 := rfl
    exact ⟨by omega, by omega, fun _ => ⟨by omega, h2⟩⟩
  · rw [if_neg h1, show wrap64 ((0 : Int) + 1) = 1 from by decide +kernel, show k + 9 = k + 8 + 1 from rfl, mark_comment.l0, if_pos (by decide), if_pos (by decide), if_pos (by decide), if_pos (by omega), hp_eq, Option.bind_some, hd]
    by_cases h3 : ((rdOf ByteArray.empty [(⟨#[62]⟩ : ByteArray), (⟨#[45, 62]⟩ : ByteArray)] 1).data.toList.isPrefixOf (u.data.toList.drop 4)) = true
    · rw [if_pos h3]
      refine ⟨6, by decide +kernel, ?_⟩
      change ([45, 62] : List UInt8).isPrefixOf _ = true at h3
      have hl := pre_len h3
      have h2 := pre_at h3 1 (by decide)
      rw [List.length_drop] at hl
      rw [List.getElem?_drop] at h2
      have : ([45, 62] : List UInt8).length = 2 := rfl
      exact ⟨by omega, by omega, fun _ => ⟨by omega, h2⟩⟩
    · rw [if_neg h3, show wrap64 ((1 : Int) + 1) = 2 from by decide +kernel, show k + 8 = k + 7 + 1 from rfl, mark_comment.l0, if_neg (by decide)]
      obtain ⟨b, hb, hg⟩ := behind_ok u 4 _ ends2 hs h4 (by decide) (k + 7) (by simp)
      rw [show ((4 : Nat) : Int) = 4 from rfl] at hb
      rw [hb, Option.bind_some]
      exact ⟨b, rfl, hg⟩
/-! ### Read -/
def MBytes (l : List Int) : Prop := ∀ x ∈ l, 0 ≤ x ∧ x ≤ 255
theorem str_data (l : List Int) : (strOfNums l).data.toList = l.map fun n => UInt8.ofNat n.toNat := rfl
theorem str_at (l : List Int) (hb : MBytes l) (p j : Nat) (c : UInt8) (h : (strOfNums (l.drop p)).data.toList[j]? = some c) : p + j < l.length ∧ rd l ((p + j : Nat) : Int) = (c.toNat : Int) := by
  rw [str_data, List.getElem?_map, List.getElem?_drop] at h
  cases hx : l[p + j]? with
  | none => rw [hx] at h; cases h
  | some x =>
    rw [hx] at h
    obtain ⟨hj, he⟩ := List.getElem?_eq_some_iff.1 hx
    have hr := hb x (List.mem_of_getElem? hx)
    have h2 : UInt8.ofNat x.toNat = c := Option.some.inj h
    refine ⟨hj, ?_⟩
    unfold rd
    rw [Int.toNat_natCast, List.getD_eq_getElem?_getD, hx]
    show x = _
    rw [← h2, UInt8.toNat_ofNat']
    omega
theorem bt_str (l : List Int) (hb : MBytes l) (p j : Nat) (hj : p + j < l.length) : bt (strOfNums (l.drop p)) (j : Int) = rd l ((p + j : Nat) : Int) := by
  have hs : j < (strOfNums (l.drop p)).size := by rw [strOfNums_size, List.length_drop]; omega
  have h1 : (strOfNums (l.drop p)).data.toList[j]? = some ((strOfNums (l.drop p)).data.toList[j]'(by rw [size_data]; exact hs)) := List.getElem?_eq_getElem _
  have h2 := (str_at l hb p j _ h1).2
  rw [h2]
  unfold bt
  rw [dif_pos (show (j : Int).toNat < _ by rw [Int.toNat_natCast]; exact hs)]
  rfl
theorem mlower_eq (c : Int) (h : 0 ≤ c ∧ c ≤ 255) : class_Lower.f c = some (if 65 ≤ c ∧ c ≤ 90 then c + 32 else c) := by
  unfold class_Lower.f class_within.f
  by_cases h1 : c ≥ 65
  · rw [if_pos h1, Option.bind_some]
    by_cases h2 : c ≤ 90
    · have := wrap32_in (c + 32) (by omega)
      rw [decide_eq_true h2, if_pos rfl, this, if_pos ⟨h1, h2⟩]
    · rw [decide_eq_false h2, if_neg (by decide), if_neg (fun hh => h2 hh.2)]
  · rw [if_neg h1, Option.bind_some, if_neg (by decide), if_neg (fun hh => h1 hh.1)]
def letter (c : Int) : Bool := decide ((65 ≤ c ∧ c ≤ 90) ∨ (97 ≤ c ∧ c ≤ 122))
theorem mletter_eq (c : Int) (h : 0 ≤ c ∧ c ≤ 255) : class_Letter.f c = some (letter c) := by
  unfold class_Letter.f
  rw [mlower_eq c h, Option.bind_some]
  unfold class_within.f letter
  by_cases h1 : 65 ≤ c ∧ c ≤ 90
  · rw [if_pos h1, if_pos (by omega), Option.bind_some, decide_eq_true (by omega), decide_eq_true (Or.inl h1)]
  · rw [if_neg h1]
    by_cases h2 : c ≥ 97
    · rw [if_pos h2, Option.bind_some]
      refine congrArg some (decide_eq_decide.mpr ?_)
      omega
    · rw [if_neg h2, Option.bind_some, decide_eq_false (by omega)]
theorem mrd_byte {l : List Int} (h : MBytes l) (j : Nat) : 0 ≤ rd l (j : Int) ∧ rd l (j : Int) ≤ 255 := by
  unfold rd
  rw [Int.toNat_natCast, List.getD_eq_getElem?_getD]
  cases hj : l[j]? with
  | none => simp
  | some x => exact h x (List.mem_of_getElem? hj)
/-- What is told of a mark. -/
def Mark (l : List Int) (p E : Nat) : Prop :=
  p + 2 ≤ E ∧ E ≤ l.length ∧ (E < l.length → rd l ((E - 1 : Nat) : Int) = 62) ∧ rd l (p : Int) = 60 ∧
    (rd l ((p + 1 : Nat) : Int) = 33 ∨ rd l ((p + 1 : Nat) : Int) = 63 ∨ (rd l ((p + 1 : Nat) : Int) = 47 ∧ (p + 2 < l.length → letter (rd l ((p + 2 : Nat) : Int)) = false)))
theorem mark_of_good (l : List Int) (hb : MBytes l) (p a b : Nat) (hp : p ≤ l.length) (ha : 2 ≤ a) (hg : Good (strOfNums (l.drop p)).data.toList a b)
    (h0 : rd l (p : Int) = 60) (h1 : rd l ((p + 1 : Nat) : Int) = 33 ∨ rd l ((p + 1 : Nat) : Int) = 63 ∨ (rd l ((p + 1 : Nat) : Int) = 47 ∧ (p + 2 < l.length → letter (rd l ((p + 2 : Nat) : Int)) = false))) : Mark l p (p + b) := by
  obtain ⟨g1, g2, g3⟩ := hg
  rw [size_data, strOfNums_size, List.length_drop] at g2 g3
  refine ⟨by omega, by omega, fun hlt => ?_, h0, h1⟩
  obtain ⟨g4, g5⟩ := g3 (by omega)
  have := (str_at l hb p (b - 1) 62 g5).2
  rw [show p + b - 1 = p + (b - 1) from by omega, this]; rfl
theorem read_spec (l : List Int) (hb : MBytes l) (hl : l.length ≤ 1000) (p : Nat) (hp : p < l.length) (k : Nat) :
    ∃ kd e ok, mark_Read.f (k + 12) l (p : Int) = some (kd, e, ok) ∧ (ok = true → ∃ E : Nat, e = (E : Int) ∧ Mark l p E) := by
  unfold mark_Read.f
  rw [if_neg (by omega), decide_eq_false (by omega), show k + 12 = k + 11 + 1 from rfl, mark_Read.j0, if_neg (by decide), if_pos (by omega), if_pos (by omega), Int.toNat_natCast]
  have hsz : (strOfNums (l.drop p)).size = l.length - p := by rw [strOfNums_size, List.length_drop]
  have hs1 : (strOfNums (l.drop p)).size ≤ 100000 := by omega
  have hat := str_at l hb p
  generalize hu : strOfNums (l.drop p) = u at hsz hs1 hat
  have hgood : ∀ a b, 2 ≤ a → Good u.data.toList a b → rd l (p : Int) = 60 → (rd l ((p + 1 : Nat) : Int) = 33 ∨ rd l ((p + 1 : Nat) : Int) = 63 ∨ (rd l ((p + 1 : Nat) : Int) = 47 ∧ (p + 2 < l.length → letter (rd l ((p + 2 : Nat) : Int)) = false))) → Mark l p (p + b) := fun a b ha hg h0 h1 => mark_of_good l hb p a b (by omega) ha (by rw [hu]; exact hg) h0 h1
  have hw : ∀ b : Nat, b ≤ 1000 → wrap64 ((p : Int) + (b : Int)) = ((p + b : Nat) : Int) := fun b hbb => by rw [wrap64_in _ (by omega)]; omega
  have hle : ∀ a b, Good u.data.toList a b → b ≤ 1000 := fun a b hg => by have := hg.2.1; rw [size_data] at this; omega
  rw [hp_eq, Option.bind_some]
  by_cases c1 : (⟨#[60, 33, 45, 45]⟩ : ByteArray).data.toList.isPrefixOf u.data.toList = true
  · rw [if_pos c1]
    change ([60, 33, 45, 45] : List UInt8).isPrefixOf u.data.toList = true at c1
    have h4 : 4 ≤ u.size := by have := pre_len c1; rw [size_data] at this; exact this
    obtain ⟨b, hbe, hg⟩ := comment_ok u hs1 h4 (k + 1)
    rw [show k + 11 = k + 1 + 10 from rfl, hbe, Option.bind_some, hw b (hle _ _ hg)]
    have q0 := (hat 0 60 (pre_at c1 0 (by decide))).2
    have q1 := (hat 1 33 (pre_at c1 1 (by decide))).2
    exact ⟨_, _, _, rfl, fun _ => ⟨_, rfl, hgood 4 b (by omega) hg q0 (.inl q1)⟩⟩
  · rw [if_neg c1, hp_eq, Option.bind_some]
    by_cases c2 : (⟨#[60, 33]⟩ : ByteArray).data.toList.isPrefixOf u.data.toList = true
    · rw [if_pos c2]
      change ([60, 33] : List UInt8).isPrefixOf u.data.toList = true at c2
      have h2 : 2 ≤ u.size := by have := pre_len c2; rw [size_data] at this; exact this
      obtain ⟨b, hbe, hg⟩ := behind_ok u 2 _ ends1 hs1 h2 (by decide) (k + 11) (by simp)
      rw [show ((2 : Nat) : Int) = 2 from rfl] at hbe
      have q0 := (hat 0 60 (pre_at c2 0 (by decide))).2
      have q1 := (hat 1 33 (pre_at c2 1 (by decide))).2
      have hm := hgood 2 b (by omega) hg q0 (.inl q1)
      rw [hbe, Option.bind_some]
      unfold class_Small.f
      rw [if_pos (by omega), Option.bind_some, hp_eq, Option.bind_some, hw b (hle _ _ hg)]
      split
      · exact ⟨_, _, _, rfl, fun _ => ⟨_, rfl, hm⟩⟩
      · exact ⟨_, _, _, rfl, fun _ => ⟨_, rfl, hm⟩⟩
    · rw [if_neg c2, hp_eq, Option.bind_some]
      by_cases c3 : (⟨#[60, 63]⟩ : ByteArray).data.toList.isPrefixOf u.data.toList = true
      · rw [if_pos c3]
        change ([60, 63] : List UInt8).isPrefixOf u.data.toList = true at c3
        have h2 : 2 ≤ u.size := by have := pre_len c3; rw [size_data] at this; exact this
        obtain ⟨b, hbe, hg⟩ := behind_ok u 2 _ ends1 hs1 h2 (by decide) (k + 11) (by simp)
        rw [show ((2 : Nat) : Int) = 2 from rfl] at hbe
        have q0 := (hat 0 60 (pre_at c3 0 (by decide))).2
        have q1 := (hat 1 63 (pre_at c3 1 (by decide))).2
        rw [hbe, Option.bind_some, hw b (hle _ _ hg)]
        exact ⟨_, _, _, rfl, fun _ => ⟨_, rfl, hgood 2 b (by omega) hg q0 (.inr (.inl q1))⟩⟩
      · rw [if_neg c3, hp_eq, Option.bind_some]
        by_cases c4 : (⟨#[60, 47, 62]⟩ : ByteArray).data.toList.isPrefixOf u.data.toList = true
        · rw [if_pos c4]
          change ([60, 47, 62] : List UInt8).isPrefixOf u.data.toList = true at c4
          have q0 := (hat 0 60 (pre_at c4 0 (by decide))).2
          have q1 := (hat 1 47 (pre_at c4 1 (by decide))).2
          have q2 := hat 2 62 (pre_at c4 2 (by decide))
          refine ⟨_, _, _, rfl, fun _ => ⟨p + 3, hw 3 (by omega), by omega, by omega, fun _ => q2.2, q0, .inr (.inr ⟨q1, fun _ => ?_⟩)⟩⟩
          rw [q2.2]; rfl
        · rw [if_neg c4, hp_eq, Option.bind_some]
          by_cases c5 : (⟨#[60, 47]⟩ : ByteArray).data.toList.isPrefixOf u.data.toList = true
          · rw [if_pos c5]
            change ([60, 47] : List UInt8).isPrefixOf u.data.toList = true at c5
            have q0 := (hat 0 60 (pre_at c5 0 (by decide))).2
            have q1 := (hat 1 47 (pre_at c5 1 (by decide))).2
            by_cases c6 : (u.size : Int) > 2
            · rw [if_pos c6, if_pos (by omega)]
              have hbt := bt_str l hb p 2 (by omega)
              rw [hu, show ((2 : Nat) : Int) = 2 from rfl] at hbt
              have hr := mrd_byte hb (p + 2)
              rw [hbt, wrap32_in _ (by omega), mletter_eq _ hr, Option.bind_some]
              by_cases c7 : letter (rd l ((p + 2 : Nat) : Int)) = true
              · rw [if_pos c7]
                exact ⟨_, _, _, rfl, fun h => by cases h⟩
              · rw [if_neg c7]
                obtain ⟨b, hbe, hg⟩ := behind_ok u 2 _ ends1 hs1 (by omega) (by decide) (k + 11) (by simp)
                rw [show ((2 : Nat) : Int) = 2 from rfl] at hbe
                rw [hbe, Option.bind_some, hw b (hle _ _ hg)]
                exact ⟨_, _, _, rfl, fun _ => ⟨_, rfl, hgood 2 b (by omega) hg q0 (.inr (.inr ⟨q1, fun _ => Bool.eq_false_iff.mpr c7⟩))⟩⟩
            · rw [if_neg c6]
              exact ⟨_, _, _, rfl, fun h => by cases h⟩
          · rw [if_neg c5]
            exact ⟨_, _, _, rfl, fun h => by cases h⟩
end Go.Proofs.Ytdppomkilojmlaa.Pure
