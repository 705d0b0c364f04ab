/-
  ArenaActs: what stands in an element is the same in both arenas, as trees. In plain Lean.
-/
import Derived.Test.YtcdkcnegejhnhaaAaRel
namespace Go.Proofs.Ytcdkcnegejhnhaa.Aa
open Go.RowKit Go.Proofs.Ytcdkcnegejhnhaa.PAr Go.Proofs.Ytcdkcnegejhnhaa.Ar Go.Proofs.YtcdkcnegejhnhaaW.PrintWords Go.Proofs.YtcdkcnegejhnhaaW.PrintLast Go.Proofs.YtcdkcnegejhnhaaW.PrintMore
set_option linter.unusedVariables false
set_option linter.unusedSimpArgs false
/-! ### rows that are read -/
theorem RowF.form {α : Type} {d : Kd α} {W : World} {ok : Nat → Prop} {v : Value} {xs : List α} (h : RowF d W ok v xs) : ∃ A n c, v = .slice A n c := by
  obtain ⟨A, c, e, _⟩ := h
  exact ⟨A, _, c, e⟩
/-- An element of a row that is read. -/
theorem RowF.string_at {W : World} {ok : Nat → Prop} {A : Option Addr} {n c : Nat} {xs : List ByteArray} (h : RowF Kd.string W ok (.slice A n c) xs) {i : Nat} {x : ByteArray} (hx : xs[i]? = some x) : ∃ ad, A = some ad ∧ W.cell? (ad.add i) = some (.string x) ∧ ok ad.block := by
  obtain ⟨A', c', he, hc, hF⟩ := h
  injection he with h1 h2 h3
  subst h1 h2 h3
  have hi := (List.getElem?_eq_some_iff.1 hx).1
  obtain ⟨ad, cs, rfl, _, hK, hcc, hok⟩ := Kd.F_get hF (⟨#[]⟩ : ByteArray) (i : Int) (by omega) (by omega)
  rw [Int.toNat_natCast] at hK hcc
  rw [List.getD_eq_getElem?_getD, hx, Option.getD_some] at hK
  have hk0 : cs = [.string x] := Kd.FK_now hK
  subst hk0
  have := hcc 0 _ rfl
  rw [show i * (Kd.string).sz + 0 = i from Nat.mul_one i] at this
  exact ⟨ad, rfl, this, hok Nat.zero_lt_one⟩
theorem RowF.rows_at {α : Type} {d : Kd α} {e : Nat} {W : World} {ok : Nat → Prop} {A : Option Addr} {n c : Nat} {xs : List (List α)} (h : RowF (Kd.slice e d) W ok (.slice A n c) xs) {i : Nat} {x : List α} (hx : xs[i]? = some x) :
    ∃ ad A' c', A = some ad ∧ W.cell? (ad.add i) = some (.slice A' x.length c') ∧ x.length ≤ c' ∧ Kd.F d W ok A' x.length x ∧ ok ad.block := by
  obtain ⟨B, c', he, hc, hF⟩ := h
  injection he with h1 h2 h3
  subst h1 h2 h3
  have hi := (List.getElem?_eq_some_iff.1 hx).1
  obtain ⟨ad, cs, rfl, _, hK, hcc, hok⟩ := Kd.F_get hF ([] : List α) (i : Int) (by omega) (by omega)
  rw [Int.toNat_natCast] at hK hcc
  rw [List.getD_eq_getElem?_getD, hx, Option.getD_some] at hK
  obtain ⟨A', c2, rfl, hl, hF2⟩ := slice_openF hK
  have := hcc 0 _ rfl
  rw [show i * (Kd.slice e d).sz + 0 = i from Nat.mul_one i] at this
  exact ⟨ad, A', c2, rfl, this, hl, hF2, hok Nat.zero_lt_one⟩
/-! ### trees with few nodes a row -/
mutual
def bL : List S31 → Prop
  | [] => True
  | x :: r => bN x ∧ bL r
def bN : S31 → Prop
  | ⟨_, a, _, i⟩ => a.length ≤ 1000 ∧ i.length ≤ 1000 ∧ bL i
end
mutual
def dM : List S38 → Prop
  | [] => True
  | x :: r => dO x ∧ dM r
def dO : S38 → Prop
  | ⟨_, a, _, i⟩ => a.length ≤ 1000 ∧ i.length ≤ 1000 ∧ dM i
end
theorem bN_eq (x : S31) : bN x ↔ x.f1.length ≤ 1000 ∧ x.f3.length ≤ 1000 ∧ bL x.f3 := by cases x; rw [bN]
theorem dO_eq (x : S38) : dO x ↔ x.f1.length ≤ 1000 ∧ x.f3.length ≤ 1000 ∧ dM x.f3 := by cases x; rw [dO]
theorem bL_cons (x : S31) (r : List S31) : bL (x :: r) ↔ bN x ∧ bL r := by rw [bL]
theorem dM_cons (x : S38) (r : List S38) : dM (x :: r) ↔ dO x ∧ dM r := by rw [dM]
theorem bL_nil : bL [] := by rw [bL]; trivial
theorem dM_nil : dM [] := by rw [dM]; trivial
theorem bL_at : ∀ {l : List S31} {i : Nat} {x : S31}, bL l → l[i]? = some x → x.f1.length ≤ 1000 ∧ x.f3.length ≤ 1000 ∧ bL x.f3
  | [], i, x, _, hx => by simp at hx
  | y :: r, 0, x, h, hx => by
    obtain rfl : y = x := by simpa using hx
    exact (bN_eq y).1 ((bL_cons y r).1 h).1
  | y :: r, i + 1, x, h, hx => bL_at ((bL_cons y r).1 h).2 (by simpa using hx)
theorem dM_at : ∀ {l : List S38} {i : Nat} {x : S38}, dM l → l[i]? = some x → x.f1.length ≤ 1000 ∧ x.f3.length ≤ 1000 ∧ dM x.f3
  | [], i, x, _, hx => by simp at hx
  | y :: r, 0, x, h, hx => by
    obtain rfl : y = x := by simpa using hx
    exact (dO_eq y).1 ((dM_cons y r).1 h).1
  | y :: r, i + 1, x, h, hx => dM_at ((dM_cons y r).1 h).2 (by simpa using hx)
mutual
theorem dM_to : ∀ l : List S31, bL l → dM (toL l)
  | [], _ => dM_nil
  | x :: r, h => by
    rw [toL]
    have := (bL_cons x r).1 h
    exact (dM_cons _ _).2 ⟨dO_to x this.1, dM_to r this.2⟩
theorem dO_to : ∀ x : S31, bN x → dO (toN x)
  | ⟨n, a, t, i⟩, h => by
    rw [bN] at h
    rw [toN, dO]
    exact ⟨by rw [toA, List.length_map]; exact h.1, by rw [toL_length]; exact h.2.1, dM_to i h.2.2⟩
end
theorem to_eq2 : ∀ W : Nat, ∀ l : List S31, xL l ≤ W → l.length ≤ 1000 → bL l → ∀ k, 2 * W + 2 ≤ k → decanterlaw12_To.f k l = some (toL l) := by
  intro W
  induction W using Nat.strongRecOn with
  | _ W ih =>
  intro l hl hW hb k hk
  have hlen := len_xL l
  obtain ⟨k, rfl⟩ : ∃ k', k = k' + 1 := ⟨k - 1, by omega⟩
  have loop : ∀ n i q : Nat, i + n = l.length → 2 * W + 1 ≤ q + i → decanterlaw12_To.l0 q (toL (l.take i)) l (l.length : Int) (i : Int) = some (toL l) := by
    intro n
    induction n with
    | zero =>
      intro i q hi hq
      obtain ⟨q, rfl⟩ : ∃ q', q = q' + 1 := ⟨q - 1, by omega⟩
      rw [decanterlaw12_To.l0, if_neg (by omega), List.take_of_length_le (by omega)]
    | succ n ihn =>
      intro i q hi hq
      obtain ⟨q, rfl⟩ : ∃ q', q = q' + 1 := ⟨q - 1, by omega⟩
      obtain ⟨x, hx⟩ := PAr.get_at hi
      have hw := xL_at hx
      have hbx := bL_at hb hx
      rw [decanterlaw12_To.l0, if_pos (by omega), if_pos (by omega), if_pos (by omega), rd31 hx, toA_eq x.f1 (by omega) q (by omega), Option.bind_some, ih (W - l.length) (by omega) x.f3 (by omega) (by omega) hbx.2.2 q (by omega), Option.bind_some,
        if_pos (by rw [toL_length, List.length_take]; omega), w1 i (by omega)]
      have e : toL (l.take i) ++ [(⟨x.f0, toA x.f1, x.f2, toL x.f3⟩ : S38)] = toL (l.take (i + 1)) := by
        rw [List.take_add_one, hx, toL_append, ← toN_eq]
        rfl
      rw [e]
      exact ihn (i + 1) q (by omega) (by omega)
  have := loop l.length 0 k (by omega) (by omega)
  rw [decanterlaw12_To.f]
  exact this
/-! ### what the document says stands in an element -/
def nodL (R : Rm) (E : Nat → Option (List S38)) : List S115 → Option (List S38)
  | [] => some []
  | y :: r => if y.f1 = 0 then (nodL R E r).map fun t => ⟨⟨#[]⟩, [], y.f0, []⟩ :: t else
    match R.names[y.f1.toNat]?, R.attrs[y.f1.toNat]? with
    | some nm, some a => (E y.f1.toNat).bind fun inn => (nodL R E r).map fun t => ⟨nm, a, ⟨#[]⟩, inn⟩ :: t
    | _, _ => none
def nodF (R : Rm) : Nat → Nat → Option (List S38)
  | 0, _ => none
  | f + 1, i => match R.inner[i]? with
    | none => none
    | some l => nodL R (nodF R f) l
theorem nodF_at {R : Rm} {f i : Nat} {l : List S115} (h : R.inner[i]? = some l) : nodF R (f + 1) i = nodL R (nodF R f) l := by
  rw [nodF, h]
theorem list_nil' {s : ByteArray} (h : s.toList = []) : s = ⟨#[]⟩ := list_nil h
theorem Rel.exp {m : M} {R : Rm} {d : Nat → Nat} {t D : Nat} (h : Rel m R d t) (ht : t ≤ 900) (hD : ∀ i, i < m.elems.length → d i ≤ D) : ∀ (f i p : Nat), D < f + d i → m.elems[i]? = some p →
    ∃ o, m.exp (f + 1) p = some o ∧ nodF R (f + 1) i = some (toL o) ∧ o.length ≤ 1000 ∧ bL o
  | 0, i, p, hf, hi => by
    have := hD i (List.getElem?_eq_some_iff.1 hi).1
    omega
  | f + 1, i, p, hf, hi => by
    obtain ⟨p', nd, nm, a, l, x, h0, hnd, _, _, hl, _, hE⟩ := h.at (List.getElem?_eq_some_iff.1 hi).1
    obtain rfl := Option.some.inj (hi.symm.trans h0)
    rw [exp_at hnd, nodF_at hl]
    have key : ∀ (ks : List Nat) (l : List S115), All2 (Item m p) ks l → ∃ o, m.expL (fun k => m.exp (f + 1) k) ks = some o ∧ nodL R (nodF R (f + 1)) l = some (toL o) ∧ o.length = ks.length ∧ bL o := by
      intro ks
      induction ks with
      | nil =>
        intro l hA
        match l, hA with
        | [], _ => exact ⟨[], by rw [M.expL], by rw [nodL, toL], rfl, bL_nil⟩
      | cons k ks ihk =>
        intro l hA
        match l, hA with
        | y :: l, ⟨hI, hA⟩ =>
          obtain ⟨o, e1, e2, e3, e4⟩ := ihk l hA
          obtain ⟨cd, hcd, hcp, hI⟩ := hI
          have hat := (h.all k cd hcd).2.2.1
          rw [M.expL, hcd]
          dsimp only
          rcases hI with ⟨y0, g1, g2, _, g4, g5, _⟩ | ⟨e, he0, hy, he⟩
          · refine ⟨⟨cd.name, cd.attrs, cd.text, []⟩ :: o, ?_, ?_, by rw [List.length_cons, List.length_cons, e3], ?_⟩
            · rw [exp_at hcd, g5, M.expL, Option.bind_some, e1]
              rfl
            · rw [nodL, if_pos y0, e2, toL, toN, list_nil g1, g2, g4]
              rfl
            · exact (bL_cons _ _).2 ⟨(bN_eq _).2 ⟨by show cd.attrs.length ≤ 1000; omega, Nat.zero_le _, bL_nil⟩, e4⟩
          · obtain ⟨c', cd', nm', a', l', x', j0, j1, j2, j3, _, j5, hE'⟩ := h.at (List.getElem?_eq_some_iff.1 he).1
            obtain rfl := Option.some.inj (he.symm.trans j0)
            obtain rfl := Option.some.inj (hcd.symm.trans j1)
            have hx := (Stands.iff h hE'.par hi).1 hcp
            rw [hx] at j5
            have hdd := h.acy e i j5
            obtain ⟨o', k1, k2, k3, k4⟩ := Rel.exp h ht hD f e k (by omega) he
            refine ⟨⟨cd.name, cd.attrs, cd.text, o'⟩ :: o, ?_, ?_, by rw [List.length_cons, List.length_cons, e3], ?_⟩
            · rw [k1, Option.bind_some, e1]
              rfl
            · have hne : ¬ y.f1 = 0 := by omega
              have hyt : y.f1.toNat = e := by omega
              rw [nodL, if_neg hne, hyt, j2, j3]
              dsimp only
              rw [k2, Option.bind_some, e2, toL, toN, hE'.name, hE'.att, hE'.text, toA_ofA]
              rfl
            · exact (bL_cons _ _).2 ⟨(bN_eq _).2 ⟨by show cd.attrs.length ≤ 1000; omega, k3, k4⟩, e4⟩
    obtain ⟨o, e1, e2, e3, e4⟩ := key nd.inner l hE.inn
    refine ⟨o, e1, e2, ?_, e4⟩
    have := (h.inn_lt hi hnd).2
    have := h.nlen
    omega
theorem deepest (d : Nat → Nat) : ∀ n : Nat, ∃ D, ∀ i, i < n → d i ≤ D
  | 0 => ⟨0, fun i hi => by omega⟩
  | n + 1 => by
    obtain ⟨D, hD⟩ := deepest d n
    refine ⟨max D (d n), fun i hi => ?_⟩
    by_cases e : i = n
    · subst e
      omega
    · have := hD i (by omega)
      omega
/-- All that the last loop asks of an element. -/
theorem Rel.last {m : M} {R : Rm} {d : Nat → Nat} {t : Nat} (h : Rel m R d t) (ht : t ≤ 900) {i p : Nat} (hi : m.elems[i]? = some p) :
    ∃ (f : Nat) (o : List S31), m.exp f p = some o ∧ nodF R f i = some (toL o) ∧ o.length ≤ 1000 ∧ bL o := by
  obtain ⟨D, hD⟩ := deepest d m.elems.length
  obtain ⟨o, h1, h2, h3, h4⟩ := h.exp ht hD (D + 1) i p (by omega) hi
  exact ⟨_, o, h1, h2, h3, h4⟩
/-! ### the empty arenas -/
def Rm.new : Rm := ⟨[⟨#[]⟩], [[]], [[]], [-1], 0⟩
theorem one_get {α : Type} {x y : α} {i : Nat} (h : ([x] : List α)[i]? = some y) : i = 0 ∧ y = x := by
  have := (List.getElem?_eq_some_iff.1 h).1
  simp at this
  subst this
  exact ⟨rfl, (Option.some.inj h).symm⟩
theorem rel_new : Rel M.new Rm.new (fun _ => 0) 0 where
  nn := rfl
  na := rfl
  ni := rfl
  np := rfl
  cp := rfl
  cle := Nat.le_refl _
  elen := Nat.le_refl _
  nlen := Nat.le_refl _
  root := rfl
  els := fun i p h => by
    obtain ⟨_, rfl⟩ := one_get h
    exact Nat.zero_lt_one
  uni := fun i j p h1 h2 => by
    rw [(one_get h1).1, (one_get h2).1]
  all := fun k nd h => by
    obtain ⟨rfl, rfl⟩ := one_get h
    exact ⟨fun p hp => (by cases hp), Nat.zero_le _, Nat.zero_le _, .inl rfl⟩
  el := fun i p nd nm a l x h0 h1 h2 h3 h4 h5 => by
    obtain ⟨rfl, rfl⟩ := one_get h0
    obtain ⟨_, rfl⟩ := one_get h1
    obtain ⟨_, rfl⟩ := one_get h2
    obtain ⟨_, rfl⟩ := one_get h3
    obtain ⟨_, rfl⟩ := one_get h4
    obtain ⟨_, rfl⟩ := one_get h5
    exact ⟨rfl, rfl, rfl, fun h => by omega, .inl ⟨rfl, rfl⟩, List.nodup_nil, by show All2 _ ([] : List Nat) ([] : List S115); unfold All2; trivial⟩
  acy := fun i k h => by
    obtain ⟨_, h⟩ := one_get h
    omega
end Go.Proofs.Ytcdkcnegejhnhaa.Aa
