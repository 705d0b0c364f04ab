/-
  Arenas: what stands where, behind Move and Append; the arena of the law ArenaMoves, step by step.
-/
import Derived.Test.YtcdkcnegejhnhaaArMove
import Derived.Test.YtcdkcnegejhnhaaArPut
import Derived.Test.YtcdkcnegejhnhaaArSpeaks
namespace Go.Proofs.Ytcdkcnegejhnhaa.Ar
open Go.RowKit Go.Proofs.Ytcdkcnegejhnhaa.PAr Go.Proofs.YtcdkcnegejhnhaaW.PrintWords Go.Proofs.YtcdkcnegejhnhaaW.PrintLast Go.Proofs.YtcdkcnegejhnhaaW.PrintMore
set_option linter.unusedVariables false
/-- A node that is put elsewhere. -/
theorem put_nodes {m : M} {k p q : Nat} {kd pd qd : Nd} (hk : m.nodes[k]? = some kd) (hkp : kd.parent = some p) (hpd : m.nodes[p]? = some pd) (hqd : m.nodes[q]? = some qd) (h1 : k ≠ p) (h2 : k ≠ q) (h3 : p ≠ q) :
    (m.put q k).nodes[p]? = some { pd with inner := pd.inner.filter (· != k) } ∧ (m.put q k).nodes[q]? = some { qd with inner := qd.inner ++ [k] } ∧ (m.put q k).nodes[k]? = some { kd with parent := some q } ∧
      ∀ d, d ≠ p → d ≠ q → d ≠ k → (m.put q k).nodes[d]? = m.nodes[d]? := by
  have lk := (List.getElem?_eq_some_iff.1 hk).1
  have lp := (List.getElem?_eq_some_iff.1 hpd).1
  have lq := (List.getElem?_eq_some_iff.1 hqd).1
  have e1 : m.leave k = { m with nodes := m.nodes.set p { pd with inner := pd.inner.filter (· != k) } } := by
    unfold M.leave
    simp only [hk, hkp, hpd]
  have e2 : (m.leave k).setPar k q = { m with nodes := (m.nodes.set p { pd with inner := pd.inner.filter (· != k) }).set k { kd with parent := some q } } := by
    rw [e1]
    unfold M.setPar
    have : (m.nodes.set p { pd with inner := pd.inner.filter (· != k) })[k]? = some kd := by rw [List.getElem?_set_ne (fun e => h1 e.symm), hk]
    simp only [this]
  have e3 : m.put q k = { m with nodes := ((m.nodes.set p { pd with inner := pd.inner.filter (· != k) }).set k { kd with parent := some q }).set q { qd with inner := qd.inner ++ [k] } } := by
    unfold M.put
    rw [e2]
    unfold M.addInner
    have : ((m.nodes.set p { pd with inner := pd.inner.filter (· != k) }).set k { kd with parent := some q })[q]? = some qd := by rw [List.getElem?_set_ne h2, List.getElem?_set_ne h3, hqd]
    simp only [this]
  rw [e3]
  refine ⟨?_, ?_, ?_, fun d d1 d2 d3 => ?_⟩
  · show (List.set _ q _)[p]? = _
    rw [List.getElem?_set_ne (fun e => h3 e.symm), List.getElem?_set_ne h1, List.getElem?_set_self lp]
  · show (List.set _ q _)[q]? = _
    rw [List.getElem?_set_self (by rw [List.length_set, List.length_set]; exact lq)]
  · show (List.set _ q _)[k]? = _
    rw [List.getElem?_set_ne (fun e => h2 e.symm), List.getElem?_set_self (by rw [List.length_set]; exact lk)]
  · show (List.set _ q _)[d]? = _
    rw [List.getElem?_set_ne (fun e => d2 e.symm), List.getElem?_set_ne (fun e => d3 e.symm), List.getElem?_set_ne (fun e => d1 e.symm)]
/-- On the way: done has been moved, rest is still to be. -/
structure MvS (m m' : M) (p q : Nat) (pd qd : Nd) (done rest : List Nat) : Prop where
  np : m'.nodes[p]? = some { pd with inner := rest }
  nq : m'.nodes[q]? = some { qd with inner := qd.inner ++ done }
  oth : ∀ (d : Nat) (nd : Nd), m.nodes[d]? = some nd → d ≠ p → d ≠ q → m'.nodes[d]? = some { nd with parent := if d ∈ done then some q else nd.parent }
theorem MvS.step {m m' : M} {p q k : Nat} {pd qd : Nd} {done rest : List Nat} (h : MvS m m' p q pd qd done (k :: rest)) (hpq : p ≠ q) {kd : Nd} (hk : m.nodes[k]? = some kd) (hkp : kd.parent = some p) (h1 : k ≠ p) (h2 : k ≠ q) (h3 : k ∉ done) (h4 : k ∉ rest) :
    MvS m (m'.put q k) p q pd qd (done ++ [k]) rest := by
  have e := h.oth k kd hk h1 h2
  rw [if_neg h3] at e
  obtain ⟨a1, a2, a3, a4⟩ := put_nodes e hkp h.np h.nq h1 h2 hpq
  have hf : (k :: rest).filter (· != k) = rest := by
    rw [List.filter_cons, if_neg (by simp), List.filter_eq_self]
    intro a ha
    exact bne_iff_ne.2 (fun e => h4 (e ▸ ha))
  refine ⟨by rw [a1]; simp only [hf], by rw [a2]; simp only [List.append_assoc], fun d nd hd d1 d2 => ?_⟩
  by_cases hdk : d = k
  · subst hdk
    obtain rfl := Option.some.inj (hk.symm.trans hd)
    rw [a3, if_pos (List.mem_append.2 (.inr (List.mem_singleton.2 rfl)))]
  · rw [a4 d d1 d2 hdk, h.oth d nd hd d1 d2]
    by_cases hm : d ∈ done
    · rw [if_pos hm, if_pos (List.mem_append.2 (.inl hm))]
    · rw [if_neg hm, if_neg (fun e => (List.mem_append.1 e).elim hm (fun e => hdk (List.mem_singleton.1 e)))]
theorem MvS.all {m : M} {p q : Nat} {pd qd : Nd} (hpq : p ≠ q) : ∀ (rest done : List Nat) (m' : M), MvS m m' p q pd qd done rest → (done ++ rest).Nodup → (∀ k ∈ rest, ∃ kd, m.nodes[k]? = some kd ∧ kd.parent = some p ∧ k ≠ p ∧ k ≠ q) →
    MvS m (m'.moveL q rest) p q pd qd (done ++ rest) []
  | [], done, m', h, _, _ => by rw [List.append_nil]; exact h
  | k :: rest, done, m', h, hn, hk => by
    obtain ⟨kd, k1, k2, k3, k4⟩ := hk k (List.mem_cons_self ..)
    have hn2 := List.nodup_append.1 hn
    have h3 : k ∉ done := fun e => hn2.2.2 k e k (List.mem_cons_self ..) rfl
    have h4 : k ∉ rest := (List.nodup_cons.1 hn2.2.1).1
    have := MvS.all hpq rest (done ++ [k]) (m'.put q k) (h.step hpq k1 k2 k3 k4 h3 h4) (by rw [List.append_assoc]; exact hn) fun j hj => hk j (List.mem_cons_of_mem _ hj)
    rw [List.append_assoc] at this
    exact this
/-- All that stood in p, moved to q. -/
theorem moved {m : M} {T p q : Nat} {pd qd : Nd} (hI : Inv m T) (hpd : m.nodes[p]? = some pd) (hqd : m.nodes[q]? = some qd) (hpq : p ≠ q) (hq : q ∉ pd.inner) : MvS m (m.moveL q pd.inner) p q pd qd pd.inner [] := by
  have h0 : MvS m m p q pd qd [] pd.inner := ⟨hpd, by rw [List.append_nil]; exact hqd, fun d nd hd _ _ => by rw [if_neg (by simp)]; exact hd⟩
  have := MvS.all hpq pd.inner [] m h0 (by rw [List.nil_append]; exact hI.nod p pd hpd) fun k hk => by
    obtain ⟨kd, k1, k2⟩ := hI.chl p pd k hpd hk
    have := hI.par k kd p k1 k2
    exact ⟨kd, k1, k2, by omega, fun e => hq (e ▸ hk)⟩
  rwa [List.nil_append] at this
section
variable {m m' : M} {E E' : Nat → Option (List S31)}
theorem expL_congr2 : ∀ {ks : List Nat}, (∀ k ∈ ks, ∃ nd nd', m.nodes[k]? = some nd ∧ m'.nodes[k]? = some nd' ∧ nd'.name = nd.name ∧ nd'.attrs = nd.attrs ∧ nd'.text = nd.text ∧ E' k = E k) → m'.expL E' ks = m.expL E ks
  | [], _ => by rw [M.expL, M.expL]
  | k :: r, h => by
    obtain ⟨nd, nd', h1, h2, h3, h4, h5, h6⟩ := h k (List.mem_cons_self ..)
    rw [M.expL, M.expL, h1, h2, h6, expL_congr2 fun j hj => h j (List.mem_cons_of_mem _ hj)]
    simp only [h3, h4, h5]
theorem expL_app : ∀ {ks js : List Nat} {a b : List S31}, m.expL E ks = some a → m.expL E js = some b → m.expL E (ks ++ js) = some (a ++ b)
  | [], js, a, b, h, hb => by
    obtain rfl : [] = a := by simpa [M.expL] using h
    exact hb
  | k :: r, js, a, b, h, hb => by
    rw [M.expL] at h
    rw [List.cons_append, M.expL]
    split at h
    · cases h
    · obtain ⟨inn, hE, h⟩ := Option.bind_eq_some_iff.1 h
      obtain ⟨t, ht, rfl⟩ := Option.map_eq_some_iff.1 h
      rw [hE, Option.bind_some, expL_app ht hb]
      rfl
end
/-- Below both places nothing changes. -/
theorem MvS.exp {m m' : M} {T p q : Nat} {pd qd : Nd} {done : List Nat} (hI : Inv m T) (h : MvS m m' p q pd qd done []) : ∀ f c : Nat, p < c → q < c → c < m.nodes.length → m'.exp f c = m.exp f c
  | 0, _, _, _, _ => by rw [M.exp, M.exp]
  | f + 1, c, h1, h2, hl => by
    obtain ⟨cd, hcd⟩ : ∃ cd, m.nodes[c]? = some cd := ⟨_, List.getElem?_eq_getElem hl⟩
    have hc := h.oth c cd hcd (by omega) (by omega)
    rw [exp_at hc, exp_at hcd]
    refine expL_congr2 fun d hd => ?_
    have hd2 := hI.chl_lt hcd hd
    obtain ⟨dd, h3, _⟩ := hI.chl c cd d hcd hd
    exact ⟨dd, _, h3, h.oth d dd h3 (by omega) (by omega), rfl, rfl, rfl, MvS.exp hI h f d (by omega) (by omega) hd2.2⟩
/-- What stands in q then. -/
theorem moved_exp {m : M} {T p q f : Nat} {pd qd : Nd} {a b : List S31} (hI : Inv m T) (hpd : m.nodes[p]? = some pd) (hqd : m.nodes[q]? = some qd) (hpq : p < q) (hq : ∀ k ∈ pd.inner, q < k)
    (ha : m.exp (f + 1) p = some a) (hb : m.exp (f + 1) q = some b) : (m.moveL q pd.inner).exp (f + 1) q = some (b ++ a) ∧ (m.moveL q pd.inner).exp (f + 1) p = some [] := by
  have hM := moved hI hpd hqd (by omega) (fun e => by have := hq q e; omega)
  rw [exp_at hpd] at ha
  rw [exp_at hqd] at hb
  have hall : ∀ ks : List Nat, (∀ d ∈ ks, p < d ∧ q < d ∧ d < m.nodes.length) → (m.moveL q pd.inner).expL (fun k => (m.moveL q pd.inner).exp f k) ks = m.expL (fun k => m.exp f k) ks := fun ks h =>
    expL_congr2 fun d hd => by
      obtain ⟨d1, d2, d3⟩ := h d hd
      obtain ⟨dd, hdd⟩ : ∃ dd, m.nodes[d]? = some dd := ⟨_, List.getElem?_eq_getElem d3⟩
      exact ⟨dd, _, hdd, hM.oth d dd hdd (by omega) (by omega), rfl, rfl, rfl, hM.exp hI f d d1 d2 d3⟩
  constructor
  · rw [exp_at hM.nq]
    refine expL_app ?_ ?_
    · rw [hall qd.inner fun d hd => by have := hI.chl_lt hqd hd; omega]
      exact hb
    · rw [hall pd.inner fun d hd => by have := hI.chl_lt hpd hd; have := hq d hd; omega]
      exact ha
  · rw [exp_at hM.np, M.expL]
/-- Two elements in the root. -/
def sP : ByteArray := ⟨#[112]⟩
def sQ : ByteArray := ⟨#[113]⟩
def m4 : M := ⟨[⟨e0, [], e0, none, [1, 2]⟩, ⟨sP, [], e0, some 0, []⟩, ⟨sQ, [], e0, some 0, []⟩], [0, 1, 2], 0⟩
theorem m4_eq : (((M.new.element sP []).element sQ []).append 0 1).append 0 2 = m4 := rfl
theorem sP_ne : sP.toList ≠ [] := by decide +kernel
theorem sQ_ne : sQ.toList ≠ [] := by decide +kernel
theorem m4_get (k : Nat) (nd : Nd) (h : m4.nodes[k]? = some nd) : (k = 0 ∧ nd = ⟨e0, [], e0, none, [1, 2]⟩) ∨ (k = 1 ∧ nd = ⟨sP, [], e0, some 0, []⟩) ∨ (k = 2 ∧ nd = ⟨sQ, [], e0, some 0, []⟩) := by
  have hl := (List.getElem?_eq_some_iff.1 h).1
  have h3 : m4.nodes.length = 3 := rfl
  match k, hl with
  | 0, _ => exact .inl ⟨rfl, (Option.some.inj h).symm⟩
  | 1, _ => exact .inr (.inl ⟨rfl, (Option.some.inj h).symm⟩)
  | 2, _ => exact .inr (.inr ⟨rfl, (Option.some.inj h).symm⟩)
  | k + 3, hl => omega
theorem m4_els (i p : Nat) (h : m4.elems[i]? = some p) : p = i ∧ i < 3 := by
  have hl := (List.getElem?_eq_some_iff.1 h).1
  have h3 : m4.elems.length = 3 := rfl
  match i, hl with
  | 0, _ => exact ⟨(Option.some.inj h).symm, by omega⟩
  | 1, _ => exact ⟨(Option.some.inj h).symm, by omega⟩
  | 2, _ => exact ⟨(Option.some.inj h).symm, by omega⟩
  | k + 3, hl => omega
theorem inv4 : Inv m4 0 where
  els := fun i p h => by
    obtain ⟨rfl, h⟩ := m4_els i p h
    exact h
  uni := fun i j p h1 h2 => by
    obtain ⟨h1, _⟩ := m4_els i p h1
    obtain ⟨h2, _⟩ := m4_els j p h2
    omega
  par := fun i nd p h hp => by
    rcases m4_get i nd h with ⟨rfl, rfl⟩ | ⟨rfl, rfl⟩ | ⟨rfl, rfl⟩
    · cases hp
    · cases hp; omega
    · cases hp; omega
  chl := fun k nd c h hc => by
    rcases m4_get k nd h with ⟨rfl, rfl⟩ | ⟨rfl, rfl⟩ | ⟨rfl, rfl⟩
    · rcases List.mem_cons.1 hc with rfl | hc
      · exact ⟨_, rfl, rfl⟩
      · obtain rfl := List.mem_singleton.1 hc
        exact ⟨_, rfl, rfl⟩
    · cases hc
    · cases hc
  nod := fun k nd h => by
    rcases m4_get k nd h with ⟨rfl, rfl⟩ | ⟨rfl, rfl⟩ | ⟨rfl, rfl⟩
    · show [1, 2].Nodup
      decide
    · exact List.nodup_nil
    · exact List.nodup_nil
  txt := fun k nd h h0 hn => by
    rcases m4_get k nd h with ⟨rfl, rfl⟩ | ⟨rfl, rfl⟩ | ⟨rfl, rfl⟩
    · omega
    · exact absurd hn sP_ne
    · exact absurd hn sQ_ne
  inn := fun k nd h => by
    rcases m4_get k nd h with ⟨rfl, rfl⟩ | ⟨rfl, rfl⟩ | ⟨rfl, rfl⟩
    · exact ⟨show 2 ≤ 3 by decide, Nat.zero_le _, Nat.zero_le _⟩
    · exact ⟨Nat.zero_le _, Nat.zero_le _, Nat.zero_le _⟩
    · exact ⟨Nat.zero_le _, Nat.zero_le _, Nat.zero_le _⟩
  elen := Nat.le_refl _
theorem put_att (m : M) (parent place : Nat) {i : Nat} {nd' : Nd} (h : (m.put parent place).nodes[i]? = some nd') : ∃ nd, m.nodes[i]? = some nd ∧ nd'.attrs = nd.attrs := by
  have h3 : ∀ (m : M) (nd' : Nd), (m.addInner parent place).nodes[i]? = some nd' → ∃ nd, m.nodes[i]? = some nd ∧ nd'.attrs = nd.attrs := by
    intro m nd' h
    unfold M.addInner at h
    split at h
    · exact ⟨nd', h, rfl⟩
    · rename_i pd hpd
      rcases get_set h with ⟨rfl, rfl, _⟩ | ⟨_, h⟩
      · exact ⟨pd, hpd, rfl⟩
      · exact ⟨nd', h, rfl⟩
  have h2 : ∀ (m : M) (nd' : Nd), (m.setPar place parent).nodes[i]? = some nd' → ∃ nd, m.nodes[i]? = some nd ∧ nd'.attrs = nd.attrs := by
    intro m nd' h
    unfold M.setPar at h
    split at h
    · exact ⟨nd', h, rfl⟩
    · rename_i pd hpd
      rcases get_set h with ⟨rfl, rfl, _⟩ | ⟨_, h⟩
      · exact ⟨pd, hpd, rfl⟩
      · exact ⟨nd', h, rfl⟩
  have h1 : ∀ (nd' : Nd), (m.leave place).nodes[i]? = some nd' → ∃ nd, m.nodes[i]? = some nd ∧ nd'.attrs = nd.attrs := by
    intro nd' h
    unfold M.leave at h
    split at h
    · exact ⟨nd', h, rfl⟩
    · split at h
      · exact ⟨nd', h, rfl⟩
      · split at h
        · exact ⟨nd', h, rfl⟩
        · rename_i np hnp
          rcases get_set h with ⟨rfl, rfl, _⟩ | ⟨_, h⟩
          · exact ⟨np, hnp, rfl⟩
          · exact ⟨nd', h, rfl⟩
  obtain ⟨n3, e3, a3⟩ := h3 _ nd' h
  obtain ⟨n2, e2, a2⟩ := h2 _ n3 e3
  obtain ⟨n1, e1, a1⟩ := h1 n2 e2
  exact ⟨n1, e1, a3.trans (a2.trans a1)⟩
theorem Sm.put {m : M} {B T : Nat} (h : Sm m) (parent place : Nat) (hw : WF (m.put parent place) B T) (hB : B ≤ 1000000) : Sm (m.put parent place) where
  att := fun i nd hi => by
    obtain ⟨nd0, h1, h2⟩ := put_att m parent place hi
    exact ⟨by rw [h2]; exact (h.att i nd0 h1).1, Nat.le_trans (hw.inn i nd hi).2.1 hB⟩
  len := by rw [(put_len m parent place).1]; exact h.len
theorem Sm.moveL {T q : Nat} : ∀ (ks : List Nat) {m : M} {B : Nat}, Sm m → WF m B T → q < m.nodes.length → (∀ k ∈ ks, k < m.nodes.length) → B + ks.length ≤ 1000000 → Sm (m.moveL q ks)
  | [], m, B, h, _, _, _, _ => h
  | k :: ks, m, B, h, hw, hq, hk, hB => by
    rw [List.length_cons] at hB
    have h1 := hw.put q k hq (hk k (List.mem_cons_self ..))
    obtain ⟨l1, _, _⟩ := put_len m q k
    rw [moveL_cons]
    exact Sm.moveL ks (h.put q k h1 (by omega)) h1 (by rw [l1]; exact hq) (fun j hj => by rw [l1]; exact hk j (List.mem_cons_of_mem _ hj)) (by omega)
/-- The arena of the law ArenaMoves, filled. -/
structure Filled (a b : List S38) (m5 m6 : M) (ks qs : List Nat) (oa ob : List S31) : Prop where
  i5 : Inv m5 (tL a)
  i6 : Inv m6 (tL a + tL b)
  l5 : m5.nodes.length ≤ 3 + nL a
  l6 : m6.nodes.length ≤ 3 + nL a + nL b
  e5 : m5.elems[2]? = some 2
  q5 : m5.nodes[2]? = some ⟨sQ, [], e0, some 0, []⟩
  e60 : m6.elems[0]? = some 0
  e61 : m6.elems[1]? = some 1
  e62 : m6.elems[2]? = some 2
  r6 : m6.nodes[0]? = some ⟨e0, [], e0, none, [1, 2]⟩
  p6 : m6.nodes[1]? = some ⟨sP, [], e0, some 0, ks⟩
  q6 : m6.nodes[2]? = some ⟨sQ, [], e0, some 0, qs⟩
  hk : ∀ k ∈ ks, 2 < k
  xa : m6.exp (dL a + dL b + 1) 1 = some oa
  xb : m6.exp (dL a + dL b + 1) 2 = some ob
  ta : toL oa = mgL [] a
  tb : toL ob = mgL [] b
theorem filled (a b : List S38) (ha : wL a ≤ 4000000) (hb : wL b ≤ 4000000) : ∃ ks qs oa ob, Filled a b (m4.putL 1 a) ((m4.putL 1 a).putL 2 b) ks qs oa ob := by
  obtain ⟨F5, I5, L5, X5⟩ := putL_ok a m4 0 1 1 ⟨sP, [], e0, some 0, []⟩ inv4 rfl rfl ha
  rw [Nat.zero_add] at I5
  have e52 := F5.els 2 2 rfl
  have e51 := F5.els 1 1 rfl
  have e50 := F5.els 0 0 rfl
  obtain ⟨t2, q5, q5t⟩ := F5.same 2 ⟨sQ, [], e0, some 0, []⟩ rfl (by decide)
  rw [q5t (by simp)] at q5
  obtain ⟨t0, r5, r5t⟩ := F5.same 0 ⟨e0, [], e0, none, [1, 2]⟩ rfl (by decide)
  rw [r5t (by simp)] at r5
  obtain ⟨ks, p5⟩ := F5.node ⟨sP, [], e0, some 0, []⟩ rfl
  rw [List.nil_append] at p5
  obtain ⟨oa, xa, ta⟩ := X5 (dL a + dL b + 1) [] (by omega) (exp_leaf rfl rfl)
  rw [toL] at ta
  have L4 : m4.nodes.length = 3 := rfl
  generalize m4.putL 1 a = m5 at *
  obtain ⟨F6, I6, L6, X6⟩ := putL_ok b m5 (tL a) 2 2 _ I5 e52 q5 hb
  obtain ⟨ob, xb, tb⟩ := X6 (dL a + dL b + 1) [] (by omega) (exp_leaf q5 rfl)
  rw [toL] at tb
  obtain ⟨t1, p6, p6t⟩ := F6.same 1 _ p5 (by decide)
  rw [p6t (by simp)] at p6
  obtain ⟨t3, r6, r6t⟩ := F6.same 0 _ r5 (by decide)
  rw [r6t (by simp)] at r6
  obtain ⟨qs, q6⟩ := F6.node _ q5
  rw [List.nil_append] at q6
  have hk : ∀ k ∈ ks, 2 < k := fun k hk => by
    have h1 := (I5.chl_lt p5 hk).1
    obtain ⟨kd, h2, h3⟩ := I5.chl 1 _ k p5 hk
    by_cases e : k = 2
    · subst e
      obtain rfl := Option.some.inj (q5.symm.trans h2)
      cases h3
    · omega
  refine ⟨ks, qs, oa, ob, I5, I6, by omega, by omega, e52, q5, F6.els 0 0 e50, F6.els 1 1 e51, F6.els 2 2 e52, r6, p6, q6, hk, ?_, xb, ta, tb⟩
  rw [exp_at p5] at xa
  rw [exp_at p6, ← xa]
  refine expL_congr fun d hd => ?_
  have h1 := hk d hd
  obtain ⟨dd, h2, h3⟩ := I5.chl 1 _ d p5 hd
  obtain ⟨t4, h4, h5⟩ := F6.same d dd h2 (by omega)
  refine ⟨?_, F6.exp I5 _ d (by omega) (List.getElem?_eq_some_iff.1 h2).1⟩
  rw [h4, h2, h5 (by rw [h3]; simp)]
/-- .. moved, and q put into p. -/
structure Moved (m6 m7 m8 : M) (B T : Nat) (out : List S31) (F : Nat) : Prop where
  w7 : WF m7 B T
  s7 : Sm m7
  x1 : m7.exp F 1 = some []
  x2 : m7.exp F 2 = some out
  els7 : m7.elems = m6.elems
  els8 : m8.elems = m6.elems
  len7 : m7.nodes.length = m6.nodes.length
  s8 : Sm m8
  x8 : m8.exp (F + 2) 0 = some [⟨sP, [], e0, [⟨sQ, [], e0, out⟩]⟩]
  p8 : ∃ nd, m8.nodes[1]? = some nd ∧ nd.parent = some 0
  q8 : ∃ nd, m8.nodes[2]? = some nd ∧ nd.parent = some 1
theorem Filled.moved {a b : List S38} {m5 m6 : M} {ks qs : List Nat} {oa ob : List S31} (h : Filled a b m5 m6 ks qs oa ob) (hn : m6.nodes.length ≤ 100000) :
    Moved m6 (m6.moveL 2 ks) ((m6.moveL 2 ks).put 1 2) (m6.nodes.length + ks.length) (tL a + tL b) (ob ++ oa) (dL a + dL b + 1) := by
  have hkl : ks.length ≤ m6.nodes.length := (h.i6.inn 1 _ h.p6).1
  have hklt : ∀ k ∈ ks, k < m6.nodes.length := fun k hk => (h.i6.chl_lt h.p6 hk).2
  have hq : 2 < m6.nodes.length := (List.getElem?_eq_some_iff.1 h.q6).1
  have w6 : WF m6 m6.nodes.length (tL a + tL b) := h.i6.wf (Nat.le_refl _)
  have w7 := WF.moveL (q := 2) ks w6 hq hklt
  have s7 := Sm.moveL (q := 2) ks (h.i6.sm (by omega)) w6 hq hklt (by omega)
  obtain ⟨l1, l2, l3⟩ := moveL_len 2 ks m6
  have hM : MvS m6 (m6.moveL 2 ks) 1 2 ⟨sP, [], e0, some 0, ks⟩ ⟨sQ, [], e0, some 0, qs⟩ ks [] := Ar.moved h.i6 h.p6 h.q6 (by decide) (fun e => by have := h.hk 2 e; omega)
  obtain ⟨x2, x1⟩ := moved_exp (f := dL a + dL b) h.i6 h.p6 h.q6 (by decide) h.hk h.xa h.xb
  have r7 : (m6.moveL 2 ks).nodes[0]? = some ⟨e0, [], e0, none, [1, 2]⟩ := by
    have := hM.oth 0 _ h.r6 (by decide) (by decide)
    rw [if_neg (fun e => by have := h.hk 0 e; omega)] at this
    exact this
  have p7 := hM.np
  have q7 := hM.nq
  generalize m6.moveL 2 ks = m7 at *
  have w8 := w7.put 1 2 (by rw [l1]; omega) (by rw [l1]; exact hq)
  obtain ⟨a0, a1, a2, a3⟩ := put_nodes (k := 2) (p := 0) (q := 1) q7 rfl r7 p7 (by decide) (by decide) (by decide)
  refine ⟨w7, s7, x1, x2, l2, (put_len m7 1 2).2.1.trans l2, l1, s7.put 1 2 w8 (by omega), ?_, ⟨_, a1, rfl⟩, ⟨_, a2, rfl⟩⟩
  -- what stands in q, in p, in the root
  have low : ∀ (f c : Nat), 2 < c → c < m6.nodes.length → (m7.put 1 2).exp f c = m7.exp f c := by
    intro f
    induction f with
    | zero => intro c _ _; rw [M.exp, M.exp]
    | succ f ih =>
      intro c hc hl
      obtain ⟨cd, hcd⟩ : ∃ cd, m6.nodes[c]? = some cd := ⟨_, List.getElem?_eq_getElem hl⟩
      have h7 := hM.oth c cd hcd (by omega) (by omega)
      have h8 : (m7.put 1 2).nodes[c]? = m7.nodes[c]? := a3 c (by omega) (by omega) (by omega)
      rw [exp_at h7, exp_at (h8.trans h7)]
      refine expL_congr fun d hd => ?_
      have hd2 := h.i6.chl_lt hcd hd
      exact ⟨a3 d (by omega) (by omega) (by omega), ih d (by omega) hd2.2⟩
  have y2 : (m7.put 1 2).exp (dL a + dL b + 1) 2 = some (ob ++ oa) := by
    rw [exp_at q7] at x2
    rw [exp_at a2, ← x2]
    refine expL_congr fun d hd => ?_
    have hd2 : 2 < d ∧ d < m6.nodes.length := by
      rcases List.mem_append.1 hd with hd | hd
      · exact h.i6.chl_lt h.q6 hd
      · exact ⟨h.hk d hd, hklt d hd⟩
    exact ⟨a3 d (by omega) (by omega) (by omega), low _ d hd2.1 hd2.2⟩
  have y1 : (m7.put 1 2).exp (dL a + dL b + 1 + 1) 1 = some [⟨sQ, [], e0, ob ++ oa⟩] := by
    rw [exp_at a1]
    exact expL_snoc (ks := []) (a := []) (by rw [M.expL]) a2 y2
  rw [exp_at a0]
  exact expL_snoc (ks := []) (a := []) (by rw [M.expL]) a1 y1
end Go.Proofs.Ytcdkcnegejhnhaa.Ar
