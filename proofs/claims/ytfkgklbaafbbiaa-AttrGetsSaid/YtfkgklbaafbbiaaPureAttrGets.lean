import Derived.Test.YtfkgklbaafbbiaaPAGetsx2
import Derived.IntWalk
namespace Go.Proofs.Ytfkgklbaafbbiaa.Pure
open Go.RowKit Go.Proofs.Ytfkgklbaafbbiaa.PAGets Go.Proofs.YtfkgklbaafbbiaaW.PrintWords Go.Proofs.YtfkgklbaafbbiaaW.PrintLast Go.Proofs.YtfkgklbaafbbiaaW.PrintMore
open attr_find (named)
theorem from_find (p : S37 → Bool) : ∀ (l : List S37) (i : Nat), (l.find? p = none ∧ attr_find.from p l i = -1) ∨ ∃ (j : Nat) (y : S37), l.find? p = some y ∧ attr_find.from p l i = ((i + j : Nat) : Int) ∧ l[j]? = some y
  | [], _ => .inl ⟨rfl, rfl⟩
  | y :: r, i => by
    rw [attr_find.from, List.find?_cons]
    cases h : p y with
    | true => exact .inr ⟨0, y, rfl, rfl, rfl⟩
    | false =>
      rcases from_find p r (i + 1) with ⟨h1, h2⟩ | ⟨j, z, h1, h2, h3⟩
      · exact .inl ⟨h1, by rw [if_neg (by decide)]; exact h2⟩
      · exact .inr ⟨j + 1, z, h1, by rw [if_neg (by decide), h2]; congr 1; omega, h3⟩
/-- What a name has. -/
def gt (l : List S37) (x : ByteArray) : ByteArray × Bool := match l.find? (named x) with
  | some y => (y.f1, true)
  | none => (⟨#[]⟩, false)
theorem get_eq (l : List S37) (hl : l.length < 4398046511104) (x : ByteArray) : attr_Get.f l x = some (gt l x) := by
  unfold attr_Get.f attr_find.f gt
  rw [if_pos hl, Option.bind_some]
  rcases from_find (named x) l 0 with ⟨h1, h2⟩ | ⟨j, y, h1, h2, h3⟩
  · rw [h1, h2, if_pos (by decide)]
  · have hj := (List.getElem?_eq_some_iff.1 h3).1
    rw [h1, h2, if_neg (by omega), if_pos (by omega), if_pos (by omega)]
    unfold rd_T37
    rw [Int.toNat_natCast, List.getD_eq_getElem?_getD, Nat.zero_add, h3]
    rfl
theorem add_eq (l : List S37) (hl : l.length < 1000) (a b : ByteArray) : attr_Add.f l a b = some (if (gt l a).2 = true then l else l ++ [⟨a, b⟩]) := by
  unfold attr_Add.f attr_find.f api_Attr.f gt
  have hL : l.length < 4398046511104 := by omega
  simp only [if_pos hL, Option.bind_some]
  rcases from_find (named a) l 0 with ⟨h1, h2⟩ | ⟨j, y, h1, h2, h3⟩
  · rw [h1, h2, if_pos (by decide)]
    rfl
  · rw [h1, h2, if_neg (by omega)]
    rfl
def conv (x : S38) : S37 := ⟨x.f0, x.f1⟩
theorem of_loop (l : List S38) (hl : l.length ≤ 30) : ∀ (d i k : Nat), i + d = l.length → d < k → decanterlaw06_Of.l0 k ((l.take i).map conv) l (l.length : Int) (i : Int) = some (l.map conv)
  | 0, i, k + 1, hd, hk => by
    obtain rfl : i = l.length := by omega
    rw [decanterlaw06_Of.l0, if_neg (by omega), List.take_length]
  | d + 1, i, k + 1, hd, hk => by
    have hi : i < l.length := by omega
    rw [decanterlaw06_Of.l0, if_pos (by omega), if_pos (by omega), if_pos (by omega), if_pos (by rw [List.length_map, List.length_take]; omega), Go.IntWalk.wrap64_in _ (by omega)]
    have e : (l.take i).map conv ++ [(⟨(rd_T38 l (i : Int)).f0, (rd_T38 l (i : Int)).f1⟩ : S37)] = (l.take (i + 1)).map conv := by
      rw [List.take_succ_eq_append_getElem hi, List.map_append]
      congr 1
      unfold rd_T38
      rw [Int.toNat_natCast, List.getD_eq_getElem?_getD, List.getElem?_eq_getElem hi]
      rfl
    rw [e]
    exact of_loop l hl d (i + 1) k (by omega) (by omega)
theorem of_eq (l : List S38) (hl : l.length ≤ 30) (k : Nat) (hk : 31 ≤ k) : decanterlaw06_Of.f k l = some (l.map conv) := of_loop l hl l.length 0 k (by omega) (by omega)
theorem speaks06 : decanterlaw06_speaks.f = some true := by decide +kernel
theorem gets_j1 (k : Nat) (name : ByteArray) (l m : List S37) (a b : ByteArray) (hl : l.length < 1000) (hm : m.length < 1000) (h : name.toList ≠ a.toList → gt m name = gt l name) : decanterlaw06_AttrGets.j1 (k + 1) name l m false a b = some true := by
  rw [decanterlaw06_AttrGets.j1, if_neg (by decide)]
  by_cases e : name.toList = a.toList
  · rw [if_pos e]
  · rw [if_neg e, get_eq m (by omega), get_eq l (by omega), Option.bind_some, Option.bind_some, h e, if_pos rfl]
    simp
theorem AttrGets (l0 : List S38) (a b name : ByteArray) : decanterlaw06_AttrGets.f 100 l0 a b name = some true := by
  have ht : decanterlaw06_AttrGets.j0 100 l0 name true a b = some true := by
    rw [decanterlaw06_AttrGets.j0, if_pos rfl, speaks06]
    rfl
  unfold decanterlaw06_AttrGets.f
  rw [speaks06, Option.bind_some, if_pos rfl]
  by_cases h30 : (l0.length : Int) > 30
  · rw [decide_eq_true h30]
    exact ht
  · rw [decide_eq_false h30, decanterlaw06_AttrGets.j0, if_neg (by decide), of_eq l0 (by omega) 99 (by omega), Option.bind_some]
    have hlen : (l0.map conv).length = l0.length := List.length_map ..
    generalize l0.map conv = l at *
    rw [get_eq l (by omega), add_eq l (by omega), Option.bind_some, Option.bind_some]
    cases hf : l.find? (named a) with
    | some y =>
      have hg : gt l a = (y.f1, true) := by unfold gt; rw [hf]
      rw [hg, if_pos rfl, get_eq l (by omega), hg, Option.bind_some]
      dsimp only
      rw [if_pos rfl, if_pos rfl, if_pos rfl, if_neg (by omega), Go.IntWalk.wrap64_in _ (by omega), decide_eq_false (by omega)]
      exact gets_j1 98 name l l a b (by omega) (by omega) (fun _ => rfl)
    | none =>
      have hg : gt l a = (⟨#[]⟩, false) := by unfold gt; rw [hf]
      have hlm : (l ++ [(⟨a, b⟩ : S37)]).length = l.length + 1 := by rw [List.length_append]; rfl
      have hga : gt (l ++ [(⟨a, b⟩ : S37)]) a = (b, true) := by
        unfold gt
        rw [List.find?_append, hf, List.find?_cons]
        have : named a ⟨a, b⟩ = true := by unfold named; simp
        rw [this]
        rfl
      rw [hg, if_neg (by decide), get_eq _ (by omega), hga, Option.bind_some]
      dsimp only
      rw [if_pos rfl, if_neg (by decide), if_pos rfl, hlm, if_neg (by omega), Go.IntWalk.wrap64_in _ (by omega), decide_eq_false (by omega)]
      refine gets_j1 98 name l _ a b (by omega) (by omega) (fun hne => ?_)
      unfold gt
      rw [List.find?_append, List.find?_cons]
      have : named name ⟨a, b⟩ = false := by
        unfold named
        exact beq_eq_false_iff_ne.2 fun q => hne q.symm
      rw [this]
      cases l.find? (named name) <;> rfl
end Go.Proofs.Ytfkgklbaafbbiaa.Pure
