import Derived.Test.YtfkgklbaafbbiaaOnceWalk
import Derived.Lib.Strings
namespace Go.Proofs.Ytfkgklbaafbbiaa.OncePure
open Go.RowKit Go.Proofs.Ytfkgklbaafbbiaa.PAOnce Go.Proofs.Ytfkgklbaafbbiaa.OnceWalk Go.Proofs.YtfkgklbaafbbiaaW.PrintWords Go.Proofs.YtfkgklbaafbbiaaW.PrintLast Go.Proofs.YtfkgklbaafbbiaaW.PrintMore
open attr_find (named)
def nm (x : ByteArray) (y : S38) : Bool := y.f0.toList == x.toList
def conv (x : S38) : S37 := ⟨x.f0, x.f1⟩
theorem named_conv (x : ByteArray) (c : S38) : named x (conv c) = nm x c := rfl
theorem named_eq {x y : ByteArray} (h : x.toList = y.toList) : named x = named y := by
  funext z
  unfold named
  rw [h]
theorem add_yes (l : List S37) (c : S38) (h : (l.find? (named c.f0)).isSome = true) : add l c = l := by unfold add; rw [if_pos h]
theorem add_no (l : List S37) (c : S38) (h : l.find? (named c.f0) = none) : add l c = l ++ [conv c] := by
  unfold add
  rw [h, if_neg (by decide)]
  rfl
theorem fold_find (x : ByteArray) : ∀ (r : List S38) (l : List S37), (r.foldl add l).find? (named x) = match l.find? (named x) with
    | some y => some y
    | none => (r.find? (nm x)).map conv
  | [], l => by
    show l.find? (named x) = _
    cases l.find? (named x) <;> rfl
  | c :: r, l => by
    rw [List.foldl_cons, fold_find x r (add l c)]
    cases hc : l.find? (named c.f0) with
    | some z =>
      rw [add_yes l c (by rw [hc]; rfl)]
      cases hx : l.find? (named x) with
      | some y => rfl
      | none =>
        have : nm x c = false := by
          cases hn : nm x c with
          | false => rfl
          | true =>
            have e : c.f0.toList = x.toList := eq_of_beq hn
            rw [← named_eq e, hc] at hx
            cases hx
        rw [List.find?_cons, this]
    | none =>
      rw [add_no l c hc, List.find?_append]
      cases hx : l.find? (named x) with
      | some y => rfl
      | none =>
        rw [List.find?_cons, List.find?_cons, named_conv]
        cases nm x c <;> rfl
def names (l : List S37) : List (List UInt8) := l.map fun y => y.f0.toList
theorem fold_nodup : ∀ (r : List S38) (l : List S37), (names l).Nodup → (names (r.foldl add l)).Nodup
  | [], l, h => h
  | c :: r, l, h => by
    rw [List.foldl_cons]
    refine fold_nodup r _ ?_
    cases hc : l.find? (named c.f0) with
    | some z => rw [add_yes l c (by rw [hc]; rfl)]; exact h
    | none =>
      rw [add_no l c hc]
      unfold names at h ⊢
      rw [List.map_append, List.nodup_append]
      refine ⟨h, by simp, fun s hs t ht => ?_⟩
      obtain ⟨y, hy, rfl⟩ := List.mem_map.1 hs
      have : t = c.f0.toList := by simpa [conv] using ht
      subst this
      intro e
      have := List.find?_eq_none.1 hc y hy
      exact this (beq_iff_eq.2 e)
theorem find_mem : ∀ (l : List S37), (names l).Nodup → ∀ y ∈ l, l.find? (named y.f0) = some y
  | [], _, y, hy => by cases hy
  | z :: l, h, y, hy => by
    unfold names at h
    rw [List.map_cons, List.nodup_cons] at h
    rw [List.find?_cons]
    rcases List.mem_cons.1 hy with rfl | hy
    · have : named y.f0 y = true := by unfold named; simp
      rw [this]
    · have : named y.f0 z = false := by
        unfold named
        refine beq_eq_false_iff_ne.2 fun e => h.1 ?_
        rw [e]
        exact List.mem_map.2 ⟨y, hy, rfl⟩
      rw [this]
      exact find_mem l h.2 y hy
theorem len_le {α : Type} [DecidableEq α] : ∀ (l m : List α), l.Nodup → (∀ x ∈ l, x ∈ m) → l.length ≤ m.length
  | [], m, _, _ => Nat.zero_le _
  | x :: l, m, h, hs => by
    rw [List.nodup_cons] at h
    have hx := hs x (List.mem_cons_self ..)
    have ih := len_le l (m.erase x) h.2 fun z hz => (List.mem_erase_of_ne (fun e => h.1 (by subst e; exact hz))).2 (hs z (List.mem_cons_of_mem _ hz))
    rw [List.length_erase_of_mem hx] at ih
    have hpos : 0 < m.length := List.length_pos_of_mem hx
    rw [List.length_cons]
    omega
theorem fold_mem {r : List S38} {y : S37} (hy : y ∈ r.foldl add []) : ∃ c, r.find? (nm y.f0) = some c ∧ conv c = y := by
  have hn : (names (r.foldl add [])).Nodup := fold_nodup r [] List.nodup_nil
  have h1 := find_mem _ hn y hy
  rw [fold_find] at h1
  have h2 : (r.find? (nm y.f0)).map conv = some y := h1
  exact Option.map_eq_some_iff.1 h2
theorem fold_has {r : List S38} {c : S38} (hc : c ∈ r) : ∃ y ∈ r.foldl add [], y.f0.toList = c.f0.toList := by
  have h1 := fold_find c.f0 r []
  have h2 : (r.foldl add []).find? (named c.f0) = (r.find? (nm c.f0)).map conv := h1
  cases hf : r.find? (nm c.f0) with
  | none => exact absurd (by unfold nm; simp) (List.find?_eq_none.1 hf c hc)
  | some d =>
    rw [hf] at h2
    have h3 : named c.f0 (conv d) = true := List.find?_some h2
    exact ⟨conv d, List.mem_of_find?_eq_some h2, eq_of_beq h3⟩
theorem fold_sub (r s : List S38) (h : ∀ c ∈ r, c ∈ s) : ∀ t ∈ names (r.foldl add []), t ∈ names (s.foldl add []) := by
  intro t ht
  obtain ⟨y, hy, rfl⟩ := List.mem_map.1 ht
  obtain ⟨c, hc, rfl⟩ := fold_mem hy
  obtain ⟨z, hz, he⟩ := fold_has (h c (List.mem_of_find?_eq_some hc))
  exact List.mem_map.2 ⟨z, hz, he⟩
theorem fold_len (r s : List S38) (h : ∀ c, c ∈ r ↔ c ∈ s) : (r.foldl add []).length = (s.foldl add []).length := by
  have h1 := len_le _ _ (fold_nodup r [] List.nodup_nil) (fold_sub r s fun c hc => (h c).1 hc)
  have h2 := len_le _ _ (fold_nodup s [] List.nodup_nil) (fold_sub s r fun c hc => (h c).2 hc)
  unfold names at h1 h2
  rw [List.length_map, List.length_map] at h1 h2
  omega
theorem fold_all : ∀ (r : List S38) (l : List S37), (r.foldl add l).length ≤ l.length + r.length ∧ ((r.foldl add l).length = l.length + r.length → r.foldl add l = l ++ r.map conv)
  | [], l => ⟨Nat.le_refl _, fun _ => (List.append_nil _).symm⟩
  | c :: r, l => by
    rw [List.foldl_cons, List.length_cons]
    have ih := fold_all r (add l c)
    cases hc : l.find? (named c.f0) with
    | some z =>
      rw [add_yes l c (by rw [hc]; rfl)] at ih ⊢
      exact ⟨by omega, fun h => by omega⟩
    | none =>
      rw [add_no l c hc] at ih ⊢
      rw [List.length_append, List.length_singleton] at ih
      refine ⟨by omega, fun h => ?_⟩
      rw [ih.2 (by omega), List.append_assoc]
      rfl
theorem take_next (a : List S38) (i : Nat) (h : i < a.length) : a.take (i + 1) = a.take i ++ [rd_T38 a (i : Int)] := by
  rw [List.take_succ_eq_append_getElem h]
  unfold rd_T38
  rw [Int.toNat_natCast, List.getD_eq_getElem?_getD, List.getElem?_eq_getElem h, Option.getD_some]
theorem up_fold (a : List S38) : ∀ i, i ≤ a.length → up a i = (a.take i).foldl add []
  | 0, _ => rfl
  | i + 1, h => by
    rw [OnceWalk.up, take_next a i (by omega), List.foldl_append, ← up_fold a i (by omega)]
    rfl
theorem dn_fold (a : List S38) : ∀ i, i ≤ a.length → dn a i = (a.reverse.take i).foldl add []
  | 0, _ => rfl
  | i + 1, h => by
    rw [dn, take_next a.reverse i (by rw [List.length_reverse]; omega), List.foldl_append, ← dn_fold a i (by omega)]
    have : rd_T38 a.reverse (i : Int) = rd_T38 a ((a.length - 1 - i : Nat) : Int) := by
      unfold rd_T38
      rw [Int.toNat_natCast, Int.toNat_natCast, List.getD_eq_getElem?_getD, List.getD_eq_getElem?_getD, List.getElem?_reverse (by omega)]
    rw [this]
    rfl
theorem up_all (a : List S38) : up a a.length = a.foldl add [] := by rw [up_fold a _ (Nat.le_refl _), List.take_length]
theorem dn_all (a : List S38) : dn a a.length = a.reverse.foldl add [] := by
  rw [dn_fold a _ (Nat.le_refl _)]
  rw [show a.length = a.reverse.length from (List.length_reverse).symm, List.take_length]
theorem get_eq (l : List S37) (hl : l.length < 4398046511104) (x : ByteArray) : attr_Get.f l x = some (match l.find? (named x) with | some y => (y.f1, true) | none => (⟨#[]⟩, false)) := by
  unfold attr_Get.f attr_find.f
  rw [if_pos hl, Option.bind_some]
  rcases from_find (named x) l 0 with ⟨h1, h2⟩ | ⟨j, y, h1, h2, h3⟩
  · rw [h1, h2, if_pos (by decide)]
  · have hj := (List.getElem?_eq_some_iff.1 h3).1
    rw [h1, h2, if_neg (by omega), if_pos (by omega), if_pos (by omega)]
    unfold rd_T37
    rw [Int.toNat_natCast, List.getD_eq_getElem?_getD, Nat.zero_add, h3]
    rfl
theorem within_yes (l m : List S37) (hl : l.length < 1000) (hm : m.length < 1000) (h : ∀ y ∈ l, m.find? (named y.f0) = some y) : attr_within.f l m = some true := by
  unfold attr_within.f
  rw [if_pos ⟨by omega, by omega⟩]
  have hf : attr_find.from (attr_within.lacks m) l 0 = -1 := by
    rcases from_find (attr_within.lacks m) l 0 with ⟨_, h2⟩ | ⟨j, y, h1, _, _⟩
    · exact h2
    · exfalso
      have hp := List.find?_some h1
      have hy := h y (List.mem_of_find?_eq_some h1)
      unfold attr_within.lacks at hp
      rw [get_eq m (by omega), hy] at hp
      simp at hp
  rw [hf]
  rfl
theorem same_yes (l m : List S37) (hl : l.length < 1000) (hlen : l.length = m.length) (h1 : ∀ y ∈ l, m.find? (named y.f0) = some y) (h2 : ∀ y ∈ m, l.find? (named y.f0) = some y) : attr_Same.f l m = some true := by
  unfold attr_Same.f
  rw [if_pos (by omega), within_yes l m hl (by omega) h1, Option.bind_some, if_pos rfl, within_yes m l (by omega) hl h2, Option.bind_some]
theorem rd_mem (l : List S37) (j : Nat) (h : j < l.length) : rd_T37 l (j : Int) ∈ l := by
  unfold rd_T37
  rw [Int.toNat_natCast, List.getD_eq_getElem?_getD, List.getElem?_eq_getElem h]
  exact List.getElem_mem h
theorem mem_rd (l : List S37) (y : S37) (h : y ∈ l) : ∃ j : Nat, j < l.length ∧ rd_T37 l (j : Int) = y := by
  obtain ⟨j, hj, he⟩ := List.getElem_of_mem h
  refine ⟨j, hj, ?_⟩
  unfold rd_T37
  rw [Int.toNat_natCast, List.getD_eq_getElem?_getD, List.getElem?_eq_getElem hj]
  exact he
theorem rd38_mem (l : List S38) (j : Nat) (h : j < l.length) : rd_T38 l (j : Int) ∈ l := by
  unfold rd_T38
  rw [Int.toNat_natCast, List.getD_eq_getElem?_getD, List.getElem?_eq_getElem h]
  exact List.getElem_mem h
theorem ref_get (a : List S38) (ha : a.length ≤ 30) (x : ByteArray) : ∀ (d i k : Nat), i + d = a.length → d < k → decanterref06_Get.l0 k a x (i : Int) = some (match (a.drop i).find? (nm x) with | some y => (y.f1, true) | none => (⟨#[]⟩, false))
  | 0, i, k + 1, hd, hk => by
    obtain rfl : i = a.length := by omega
    rw [decanterref06_Get.l0, if_neg (by omega), List.drop_length]
    rfl
  | d + 1, i, k + 1, hd, hk => by
    have hi : i < a.length := by omega
    have hdr : a.drop i = rd_T38 a (i : Int) :: a.drop (i + 1) := by
      rw [List.drop_eq_getElem_cons hi]
      unfold rd_T38
      rw [Int.toNat_natCast, List.getD_eq_getElem?_getD, List.getElem?_eq_getElem hi, Option.getD_some]
    rw [decanterref06_Get.l0, if_pos (by omega), if_pos (by omega), hdr, List.find?_cons]
    by_cases h : (rd_T38 a (i : Int)).f0.toList = x.toList
    · have : nm x (rd_T38 a (i : Int)) = true := beq_iff_eq.2 h
      rw [if_pos h, this]
    · have : nm x (rd_T38 a (i : Int)) = false := beq_eq_false_iff_ne.2 h
      rw [if_neg h, this, Go.IntWalk.wrap64_in _ (by omega)]
      exact ref_get a ha x d (i + 1) k (by omega) (by omega)
theorem bytes_eq {a b : ByteArray} (h : a.toList = b.toList) : a = b := by
  rw [Lib.toList_data, Lib.toList_data] at h
  cases a; cases b
  congr 1
  exact Array.toList_inj.1 h
set_option maxRecDepth 100000 in
theorem once (A0 : Option Addr) (c0 : Nat) (a : List S38) (w : World) (hr0 : Kd.C k38 w A0 a.length a) (hc0 : a.length ≤ c0) (h30 : a.length ≤ 30) (hsz : ∀ x ∈ a, x.f0.size ≤ maxLen) :
    Calls Try.prog 5 #[.slice A0 a.length c0] w fun e w' => e = .returned (.bool true) ∧ Below w.heap.size w w' := by
  have hup := up_all a
  have hdn := dn_all a
  have hnd := fold_nodup a [] List.nodup_nil
  have hndr := fold_nodup a.reverse [] List.nodup_nil
  have hll := (fold_all a []).1
  rw [List.length_nil, Nat.zero_add] at hll
  have hlen := fold_len a a.reverse (fun c => List.mem_reverse.symm)
  have hF8 : ∀ j : Nat, j < (a.foldl add []).length → (rd_T37 (a.foldl add []) (j : Int)).f0.size ≤ maxLen := fun j hj => by
    obtain ⟨c, hc, he⟩ := fold_mem (rd_mem _ j hj)
    rw [← he]
    exact hsz c (List.mem_of_find?_eq_some hc)
  refine walk A0 c0 a w hr0 hc0 h30 31 ?_ ?_ ?_ ?_ ?_ ?_ (fun i hi => hsz _ (rd38_mem a i hi)) (by rw [hup]; exact hF8)
  · rw [hup]
    intro j hj
    obtain ⟨c, hc, he⟩ := fold_mem (rd_mem _ j hj)
    refine ⟨c.f1, ?_, by rw [← he]; rfl⟩
    have hg := ref_get a h30 (rd_T37 (a.foldl add []) (j : Int)).f0 a.length 0 31 (by omega) (by omega)
    rw [List.drop_zero, hc] at hg
    exact hg
  · rw [hup]
    intro i j hij hj e
    have h1 := find_mem _ hnd _ (rd_mem _ j hj)
    have hn := List.pairwise_iff_getElem.1 hnd i j (by unfold names; rw [List.length_map]; omega) (by unfold names; rw [List.length_map]; omega) hij
    apply hn
    unfold names
    rw [List.getElem_map, List.getElem_map]
    unfold rd_T37 at e
    rw [Int.toNat_natCast, Int.toNat_natCast, List.getD_eq_getElem?_getD, List.getD_eq_getElem?_getD, List.getElem?_eq_getElem (by omega), List.getElem?_eq_getElem hj, Option.getD_some, Option.getD_some] at e
    rw [e]
  · rw [hup]
    intro i hi
    obtain ⟨y, hy, he⟩ := fold_has (rd38_mem a i hi)
    obtain ⟨j, hj, hjy⟩ := mem_rd _ y hy
    exact ⟨j, hj, by rw [hjy]; exact bytes_eq he⟩
  · rw [hup, hdn]; exact hlen
  · rw [hup]
    exact same_yes _ _ (by omega) rfl (find_mem _ hnd) (find_mem _ hnd)
  · rw [hup, hdn]
    by_cases hq : (a.foldl add []).length = a.length
    · right
      have e1 := (fold_all a []).2 (by rw [List.length_nil, Nat.zero_add]; exact hq)
      have e2 := (fold_all a.reverse []).2 (by rw [List.length_nil, Nat.zero_add, List.length_reverse]; omega)
      rw [List.nil_append] at e1 e2
      refine same_yes _ _ (by omega) hlen (fun y hy => find_mem _ hndr y ?_) (fun y hy => find_mem _ hnd y ?_)
      · rw [e1] at hy
        rw [e2, List.map_reverse]
        exact List.mem_reverse.2 hy
      · rw [e2, List.map_reverse] at hy
        rw [e1]
        exact List.mem_reverse.1 hy
    · exact .inl hq
set_option maxRecDepth 100000 in
set_option maxHeartbeats 4000000 in
theorem long (A0 : Option Addr) (c0 : Nat) (a : List S38) (w : World) (h3 : 30 < a.length) :
    Calls Try.prog 5 #[.slice A0 a.length c0] w fun e w' => e = .returned (.bool true) ∧ Below w.heap.size w w' := by
  have HS := Lib.hid (fun (w : World) => decanterlaw06_speaks.calls true w (by decide +kernel))
  go_enter Try.func5, Try.ntmps5
  go_wp2_with (go_at_call 13; first | (have q__ := HB1; refine (HS.out _).mono ?_; rintro e w2 ⟨rfl, hb2⟩; have HB2 := Lib.hid (HB1.out.trans (hb2.mono HB1.out.size)); clear hb2) | (refine (HS.out _).mono ?_; rintro e w1 ⟨rfl, hb1⟩; have HB1 := Lib.hid hb1; clear hb1))
  go_ret
  exact ⟨rfl, HB2.out⟩
theorem holds (A0 : Option Addr) (c0 : Nat) (a : List S38) (w : World) (hr0 : Kd.C k38 w A0 a.length a) (hc0 : a.length ≤ c0) (hsz : ∀ x ∈ a, x.f0.size ≤ maxLen) :
    Calls Try.prog 5 #[.slice A0 a.length c0] w fun e w' => e = .returned (.bool true) ∧ Below w.heap.size w w' := by
  by_cases h : 30 < a.length
  · exact long A0 c0 a w h
  · exact once A0 c0 a w hr0 hc0 (by omega) hsz
end Go.Proofs.Ytfkgklbaafbbiaa.OncePure
