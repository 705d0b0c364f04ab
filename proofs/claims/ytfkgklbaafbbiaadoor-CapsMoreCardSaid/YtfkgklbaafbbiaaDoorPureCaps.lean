import Derived.Test.YtfkgklbaafbbiaaDoorPCapsx
import Derived.IntWalk
namespace Go.Proofs.YtfkgklbaafbbiaaDoor.Pure
open Go.IntWalk Go.RowKit Go.Proofs.YtfkgklbaafbbiaaDoor.PCaps Go.Proofs.YtfkgklbaafbbiaaDoorW.PrintWords Go.Proofs.YtfkgklbaafbbiaaDoorW.PrintLast

theorem speaks_ok : decanterlaw23_speaks.f = some true := by decide +kernel
theorem refCheck (k : Nat) (a b c d e : Int) : decanterref23_Check.f (k + 1) a b c d e = some (caps_Check.checkI a b c d e) := by
  unfold decanterref23_Check.f caps_Check.checkI caps_Check.badI
  simp only [decanterref23_Check.j0]
  by_cases h0 : a < 1
  · simp [h0]
  by_cases h1 : b < 1
  · simp [h0, h1]
  by_cases h2 : c < 1
  · simp [h0, h1, h2]
  by_cases h3 : d < 1
  · simp [h0, h1, h2, h3]
  by_cases h4 : e < 1
  · simp [h0, h1, h2, h3, h4]
  simp only [h0, h1, h2, h3, h4, if_false, false_or, decide_false, Bool.false_eq_true, gt_iff_lt]
  repeat' split
  all_goals first | rfl | omega
theorem check_zero {a b c d e : Int} (h : caps_Check.checkI a b c d e = 0) : 1 ≤ a ∧ (1 ≤ b ∧ b ≤ 1048576) ∧ (1 ≤ c ∧ c ≤ 1048576) ∧ (1 ≤ d ∧ d ≤ 1048576) ∧ (1 ≤ e ∧ e ≤ 1048576) := by
  unfold caps_Check.checkI caps_Check.badI at h
  repeat' split at h
  all_goals first | omega | (simp only [not_or] at *; omega)
theorem of_loop (l : List S91) (hl : l.length ≤ 100) : ∀ n k i (acc : List S92), i + n = l.length → n + 1 ≤ k → acc.length = i → ∃ r : List S92, r.length = l.length ∧ decanterlaw06_Of.l0 k acc l (l.length : Int) (i : Int) = some r
  | n, 0, i, acc, _, h, _ => by omega
  | 0, k + 1, i, acc, hi, _, ha => by
    rw [decanterlaw06_Of.l0, if_neg (by omega)]
    exact ⟨acc, by omega, rfl⟩
  | n + 1, k + 1, i, acc, hi, hk, ha => by
    have e1 : wrap64 ((i : Int) + 1) = ((i + 1 : Nat) : Int) := by rw [wrap64_in _ (by omega)]; omega
    rw [decanterlaw06_Of.l0, if_pos (by omega), if_pos (by omega), if_pos (by omega), if_pos (by omega), e1]
    exact of_loop l hl n k (i + 1) _ (by omega) (by omega) (by rw [List.length_append, ha]; rfl)
theorem of_ok (l : List S91) (hl : l.length ≤ 100) (k : Nat) (kd fr th : Int) (nm tx : ByteArray) : ∃ r : List S92, r.length = l.length ∧ decanterlaw16_Of.f (k + 101) kd nm l tx fr th = some (kd, nm, r, tx, fr, th) := by
  obtain ⟨r, hr, he⟩ := of_loop l hl l.length (k + 101) 0 [] (by omega) (by omega) rfl
  refine ⟨r, hr, ?_⟩
  unfold decanterlaw16_Of.f decanterlaw06_Of.f
  rw [show ((0 : Nat) : Int) = 0 from rfl] at he
  rw [he]
  rfl
def inR (x : Int) (B : Int) : Prop := 0 ≤ x ∧ x ≤ B
theorem price_eq (so sl sc kd fr th : Int) (nm tx : ByteArray) (l : List S91) (r : List S92) (hr : r.length = l.length) (hl : l.length ≤ 100) (h0 : inR so 1099511627776) (h1 : inR sl 1099511627776) (h3 : inR fr 1099511627776) (h4 : inR th 1099511627776) :
    caps_Price.f so sl sc kd nm r tx fr th = some (1 + th - fr + (l.length : Int) + so + sl) ∧ decanterref23_Price.f so sl sc kd nm l tx fr th = some (1 + th - fr + (l.length : Int) + so + sl) := by
  unfold inR at *
  unfold caps_Price.f decanterref23_Price.f
  rw [hr]
  have e0 := wrap64_in (1 + th) (by omega)
  have e1 := wrap64_in (1 + th - fr) (by omega)
  have e2 := wrap64_in (1 + th - fr + (l.length : Int)) (by omega)
  have e3 := wrap64_in (1 + th - fr + (l.length : Int) + so) (by omega)
  have e4 := wrap64_in (1 + th - fr + (l.length : Int) + so + sl) (by omega)
  have e5 := wrap64_in (th - fr) (by omega)
  refine ⟨by rw [e0, e1, e2, e3, e4], ?_⟩
  rw [e5, show 1 + (th - fr) = 1 + th - fr from by omega, e1, e2, e3, e4]
theorem over_eq (lf ld la lo lc so sl sc kd fr th : Int) (nm tx : ByteArray) (l : List S91) (r : List S92) (hr : r.length = l.length) :
    caps_Over.f lf ld la lo lc so sl sc kd nm r tx fr th = decanterref23_Over.f lf ld la lo lc so sl sc kd nm l tx fr th := by
  unfold caps_Over.f decanterref23_Over.f caps_Over.overI
  rw [hr]
  repeat' split
  all_goals first | rfl | omega
theorem tells_j1 (k : Nat) (b : Bool) (lf ld la lo lc so sl sc kd fr th : Int) (nm tx : ByteArray) (l : List S91) (hl : b = true ∨ l.length ≤ 100) (h0 : inR so 1099511627776) (h1 : inR sl 1099511627776) (h3 : inR fr 1099511627776) (h4 : inR th 1099511627776) :
    decanterlaw23_CapsTells.j1 (k + 102) b lf ld la lo lc so sl sc kd nm l tx fr th = some true := by
  rw [show k + 102 = k + 101 + 1 from rfl, decanterlaw23_CapsTells.j1]
  cases b with
  | true => rfl
  | false =>
    obtain ⟨r, hr, he⟩ := of_ok l (hl.resolve_left (by decide)) k kd fr th nm tx
    obtain ⟨p1, p2⟩ := price_eq so sl sc kd fr th nm tx l r hr (hl.resolve_left (by decide)) h0 h1 h3 h4
    rw [if_neg (by decide), he, Option.bind_some, p1, Option.bind_some, p2, Option.bind_some, if_pos rfl]
    rw [over_eq lf ld la lo lc so sl sc kd fr th nm tx l r hr]
    have : ∃ z, decanterref23_Over.f lf ld la lo lc so sl sc kd nm l tx fr th = some z := by
      unfold decanterref23_Over.f
      repeat' split
      all_goals exact ⟨_, rfl⟩
    obtain ⟨z, hz⟩ := this
    rw [hz, Option.bind_some, Option.bind_some]
    simp
theorem tells_loop (lf ld la lo lc so sl sc kd fr th : Int) (nm tx : ByteArray) (l : List S91) : ∀ n k i : Nat, i + n = 5 → n + 110 ≤ k → (∀ j : Nat, j < i → inR (rd [so, sl, sc, fr, th] (j : Int)) 1099511627776) →
    decanterlaw23_CapsTells.l0 k [so, sl, sc, fr, th] 5 (i : Int) lf ld la lo lc so sl sc kd nm l tx fr th = some true
  | n, 0, i, _, h, _ => by omega
  | 0, k + 1, i, hi, hk, hj => by
    obtain ⟨k', rfl⟩ : ∃ k', k = k' + 102 := ⟨k - 102, by omega⟩
    rw [decanterlaw23_CapsTells.l0, if_neg (by omega)]
    have h0 := hj 0 (by omega)
    have h1 := hj 1 (by omega)
    have h3 := hj 3 (by omega)
    have h4 := hj 4 (by omega)
    change inR so _ at h0
    change inR sl _ at h1
    change inR fr _ at h3
    change inR th _ at h4
    split
    · exact tells_j1 k' true lf ld la lo lc so sl sc kd fr th nm tx l (.inl rfl) h0 h1 h3 h4
    · refine tells_j1 k' _ lf ld la lo lc so sl sc kd fr th nm tx l ?_ h0 h1 h3 h4
      by_cases h : (l.length : Int) > 100
      · exact .inl (decide_eq_true h)
      · exact .inr (by omega)
  | n + 1, k + 1, i, hi, hk, hj => by
    have e1 : wrap64 ((i : Int) + 1) = ((i + 1 : Nat) : Int) := by rw [wrap64_in _ (by omega)]; omega
    have hlen : (([so, sl, sc, fr, th] : List Int).length : Int) = 5 := rfl
    rw [decanterlaw23_CapsTells.l0, hlen, if_pos (by omega), if_pos (by omega), if_pos (by omega), e1]
    by_cases h0 : rd [so, sl, sc, fr, th] (i : Int) < 0
    · rw [if_pos h0]
    · rw [if_neg h0]
      by_cases h1 : rd [so, sl, sc, fr, th] (i : Int) > 1099511627776
      · rw [if_pos h1]
      · rw [if_neg h1]
        refine tells_loop lf ld la lo lc so sl sc kd fr th nm tx l n k (i + 1) (by omega) (by omega) fun j hj2 => ?_
        rcases Nat.lt_or_ge j i with h | h
        · exact hj j h
        · obtain rfl : j = i := by omega
          exact ⟨by omega, by omega⟩
def CapsTellsPure : Prop := ∀ (lf ld la lo lc so sl sc kd fr th : Int) (nm tx : ByteArray) (l : List S91), ∃ k, decanterlaw23_CapsTells.f k lf ld la lo lc so sl sc kd nm l tx fr th = some true
theorem CapsTells : CapsTellsPure := by
  intro lf ld la lo lc so sl sc kd fr th nm tx l
  refine ⟨301, ?_⟩
  unfold decanterlaw23_CapsTells.f
  rw [speaks_ok, Option.bind_some, if_pos rfl, refCheck]
  show (some (caps_Check.checkI lf ld la lo lc)).bind _ = _
  rw [Option.bind_some, Option.bind_some, if_pos rfl, Option.bind_some]
  exact tells_loop lf ld la lo lc so sl sc kd fr th nm tx l 5 301 0 rfl (by decide) (fun j hj => by omega)

/-! ### CapsMore -/
theorem more_j2 (k : Nat) (x so sl sc kd fr th : Int) (nm tx : ByteArray) (r : List S92) (hr : r.length ≤ 100) (hx : inR x 255) (h0 : inR so 549755813888) (h1 : inR sl 549755813888) (h3 : inR fr 549755813888) (h4 : inR th 549755813888) :
    decanterlaw23_CapsMore.j2 (k + 1) x false so sl sc kd nm r tx fr th = some true := by
  unfold inR at *
  rw [decanterlaw23_CapsMore.j2, if_neg (by decide)]
  unfold caps_Price.f
  have e0 := wrap64_in (1 + th) (by omega)
  have e1 := wrap64_in (1 + th - fr) (by omega)
  have e2 := wrap64_in (1 + th - fr + (r.length : Int)) (by omega)
  have e3 := wrap64_in (1 + th - fr + (r.length : Int) + so) (by omega)
  have e4 := wrap64_in (1 + th - fr + (r.length : Int) + so + sl) (by omega)
  have e5 := wrap64_in (so + x) (by omega)
  have e6 := wrap64_in (1 + th - fr + (r.length : Int) + (so + x)) (by omega)
  have e7 := wrap64_in (1 + th - fr + (r.length : Int) + (so + x) + sl) (by omega)
  have e8 := wrap64_in (1 + th - fr + (r.length : Int) + so + sl + x) (by omega)
  rw [Option.bind_some, Option.bind_some, e0, e1, e2, e3, e4, e5, e6, e7, e8]
  refine congrArg some (beq_iff_eq.2 ?_)
  omega
theorem more_j1 (k : Nat) (b : Bool) (x lf ld la lo lc so sl sc kd fr th : Int) (nm tx : ByteArray) (l : List S91) (hx : inR x 255) (hb : b = true ∨ (l.length ≤ 100 ∧ caps_Check.checkI lf ld la lo lc = 0)) (h0 : inR so 549755813888) (h1 : inR sl 549755813888) (h3 : inR fr 549755813888) (h4 : inR th 549755813888) :
    decanterlaw23_CapsMore.j1 (k + 102) x b lf ld la lo lc so sl sc kd nm l tx fr th = some true := by
  rw [show k + 102 = k + 101 + 1 from rfl, decanterlaw23_CapsMore.j1]
  cases b with
  | true => rw [if_pos rfl, speaks_ok]; rfl
  | false =>
    obtain ⟨hl, hc⟩ := hb.resolve_left (by decide)
    obtain ⟨r, hr, he⟩ := of_ok l hl k kd fr th nm tx
    obtain ⟨_, c1, c2, c3, c4⟩ := check_zero hc
    have hx' := hx
    unfold inR at hx'
    have ex : wrap64 x = x := wrap64_in x (by omega)
    rw [if_neg (by decide), he, Option.bind_some, ex, wrap64_in (ld + x) (by omega), wrap64_in (la + x) (by omega), wrap64_in (lo + x) (by omega), wrap64_in (lc + x) (by omega)]
    have j2 := more_j2 (k + 100) x so sl sc kd fr th nm tx r (by omega) hx h0 h1 h3 h4
    unfold caps_Over.f
    rw [Option.bind_some, Option.bind_some]
    by_cases hz : caps_Over.overI ld la lo lc so sl sc r.length = 0
    · have hz2 : caps_Over.overI (ld + x) (la + x) (lo + x) (lc + x) so sl sc r.length = 0 := by
        unfold caps_Over.overI at hz ⊢
        repeat' split at hz
        all_goals first | omega | (rw [if_neg (by omega), if_neg (by omega), if_neg (by omega), if_neg (by omega)])
      rw [if_pos hz, hz2]
      exact j2
    · rw [if_neg hz]
      exact j2
theorem more_loop (x lf ld la lo lc so sl sc kd fr th : Int) (nm tx : ByteArray) (l : List S91) (hx : inR x 255) : ∀ n k i : Nat, i + n = 5 → n + 110 ≤ k → (∀ j : Nat, j < i → inR (rd [so, sl, sc, fr, th] (j : Int)) 549755813888) →
    decanterlaw23_CapsMore.l0 k x [so, sl, sc, fr, th] 5 (i : Int) lf ld la lo lc so sl sc kd nm l tx fr th = some true
  | n, 0, i, _, h, _ => by omega
  | 0, k + 1, i, hi, hk, hj => by
    obtain ⟨k', rfl⟩ : ∃ k', k = k' + 102 := ⟨k - 102, by omega⟩
    rw [decanterlaw23_CapsMore.l0, if_neg (by omega), speaks_ok, Option.bind_some, if_pos rfl, show k' + 102 = k' + 101 + 1 from rfl, refCheck, Option.bind_some]
    have h0 := hj 0 (by omega)
    have h1 := hj 1 (by omega)
    have h3 := hj 3 (by omega)
    have h4 := hj 4 (by omega)
    change inR so _ at h0
    change inR sl _ at h1
    change inR fr _ at h3
    change inR th _ at h4
    have t := more_j1 k' true x lf ld la lo lc so sl sc kd fr th nm tx l hx (.inl rfl) h0 h1 h3 h4
    by_cases hc : caps_Check.checkI lf ld la lo lc = 0
    · rw [if_pos hc]
      split
      · exact t
      · split
        · exact t
        · refine more_j1 k' _ x lf ld la lo lc so sl sc kd fr th nm tx l hx ?_ h0 h1 h3 h4
          exact .inr ⟨by omega, hc⟩
    · rw [if_neg hc]
      exact t
  | n + 1, k + 1, i, hi, hk, hj => by
    have e1 : wrap64 ((i : Int) + 1) = ((i + 1 : Nat) : Int) := by rw [wrap64_in _ (by omega)]; omega
    have hlen : (([so, sl, sc, fr, th] : List Int).length : Int) = 5 := rfl
    rw [decanterlaw23_CapsMore.l0, hlen, if_pos (by omega), if_pos (by omega), if_pos (by omega), e1, speaks_ok, Option.bind_some]
    by_cases h0 : rd [so, sl, sc, fr, th] (i : Int) < 0
    · rw [if_pos h0]
    · rw [if_neg h0]
      by_cases h1 : rd [so, sl, sc, fr, th] (i : Int) > 549755813888
      · rw [if_pos h1]
      · rw [if_neg h1]
        refine more_loop x lf ld la lo lc so sl sc kd fr th nm tx l hx n k (i + 1) (by omega) (by omega) fun j hj2 => ?_
        rcases Nat.lt_or_ge j i with h | h
        · exact hj j h
        · obtain rfl : j = i := by omega
          exact ⟨by omega, by omega⟩
def CapsMorePure : Prop := ∀ (lf ld la lo lc so sl sc kd fr th : Int) (nm tx : ByteArray) (l : List S91) (x : Int), 0 ≤ x ∧ x ≤ 255 → ∃ k, decanterlaw23_CapsMore.f k lf ld la lo lc so sl sc kd nm l tx fr th x = some true
theorem CapsMore : CapsMorePure := by
  intro lf ld la lo lc so sl sc kd fr th nm tx l x hx
  refine ⟨301, ?_⟩
  unfold decanterlaw23_CapsMore.f
  rw [Option.bind_some]
  exact more_loop x lf ld la lo lc so sl sc kd fr th nm tx l hx 5 301 0 rfl (by decide) (fun j hj => by omega)
end Go.Proofs.YtfkgklbaafbbiaaDoor.Pure
