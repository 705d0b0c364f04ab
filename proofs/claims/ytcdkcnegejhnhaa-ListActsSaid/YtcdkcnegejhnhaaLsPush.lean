/-
  Lists of entries: an element more.
-/
import Derived.Test.YtcdkcnegejhnhaaLsOps
import Derived.Test.YtcdkcnegejhnhaaPArx9
namespace Go.Proofs.Ytcdkcnegejhnhaa.Ar
open Go.RowKit Go.Proofs.Ytcdkcnegejhnhaa.PAr Go.Proofs.YtcdkcnegejhnhaaW.PrintWords Go.Proofs.YtcdkcnegejhnhaaW.PrintLast Go.Proofs.YtcdkcnegejhnhaaW.PrintMore
set_option linter.unusedVariables false
/-- Are two lists of attributes the same? -/
def sameA (l r : List S105) : Bool := decide (l.length = r.length) && (decide (attr_find.from (attr_within.lacks r) l 0 < 0) && decide (attr_find.from (attr_within.lacks l) r 0 < 0))
theorem sameA_eq {l r : List S105} (hl : l.length < 4398046511104) (hr : r.length < 4398046511104) : attr_Same.f l r = some (sameA l r) := by
  unfold attr_Same.f sameA
  by_cases e : l.length = r.length
  · rw [if_pos (by omega), decide_eq_true e]
    unfold attr_within.f
    rw [if_pos ⟨hl, hr⟩, if_pos ⟨hr, hl⟩, Option.bind_some]
    by_cases e1 : attr_find.from (attr_within.lacks r) l 0 < 0
    · rw [decide_eq_true e1, if_pos rfl]
      rfl
    · rw [decide_eq_false e1, if_neg (by decide)]
      simp
  · rw [if_neg (by omega), decide_eq_false e, Bool.false_and]
/-- The node of an element. -/
def M.el (m : M) (i : Nat) : Nd := m.nodes.getD (m.elems.getD i 0) ⟨⟨#[]⟩, [], ⟨#[]⟩, none, []⟩
/-- All elements have their nodes, and few attributes. -/
structure Els (m : M) : Prop where
  at_ : ∀ i, i < m.elems.length → ∃ p, m.elems[i]? = some p ∧ m.nodes[p]? = some (m.el i)
  few : ∀ i, i < m.elems.length → (m.el i).attrs.length < 1000000
def al (m : M) (nd : Nd) (x : Int) : Bool := decide ((m.el x.toNat).name.toList = nd.name.toList) && sameA (m.el x.toNat).attrs nd.attrs
/-- How many are alike behind a place, and which is the first. -/
def many (f : Int → Bool) (xs : List Int) (q : Nat) : Nat := ((xs.drop q).filter f).length
def first (f : Int → Bool) (xs : List Int) (q : Nat) : Nat := if many f xs q = 0 then 0 else q + (xs.drop q).findIdx f
theorem many_step {f : Int → Bool} {xs : List Int} {q : Nat} {x : Int} (h : xs[q]? = some x) : (f x = true → many f xs q = many f xs (q + 1) + 1 ∧ first f xs q = q) ∧ (f x = false → many f xs q = many f xs (q + 1) ∧ first f xs q = first f xs (q + 1)) := by
  have e : xs.drop q = x :: xs.drop (q + 1) := by
    obtain ⟨hi, rfl⟩ := List.getElem?_eq_some_iff.1 h
    exact List.drop_eq_getElem_cons hi
  have hm : many f xs q = (if f x then 1 else 0) + many f xs (q + 1) := by
    unfold many
    rw [e, List.filter_cons]
    split
    · rw [List.length_cons]; omega
    · omega
  refine ⟨fun hf => ?_, fun hf => ?_⟩
  · rw [hf, if_pos rfl] at hm
    refine ⟨by omega, ?_⟩
    unfold first
    rw [if_neg (by omega), e, List.findIdx_cons, hf]
    rfl
  · rw [hf, if_neg (by decide)] at hm
    refine ⟨by omega, ?_⟩
    unfold first
    rw [hm, Nat.zero_add, e, List.findIdx_cons, hf]
    split
    · rfl
    · simp; omega
theorem first_lt {f : Int → Bool} {xs : List Int} {q : Nat} (h : 3 ≤ many f xs q) : first f xs q < xs.length := by
  unfold first
  rw [if_neg (by omega)]
  have h1 : 0 < ((xs.drop q).filter f).length := by unfold many at h; omega
  obtain ⟨x, hx⟩ := List.exists_mem_of_length_pos h1
  obtain ⟨hx1, hx2⟩ := List.mem_filter.1 hx
  have := List.findIdx_lt_length_of_exists ⟨x, hx1, hx2⟩
  rw [List.length_drop] at this
  omega
theorem many_end (f : Int → Bool) (xs : List Int) : many f xs xs.length = 0 ∧ first f xs xs.length = 0 := by simp [many, first]
def markN (xs : List Int) : Nat := (markAt xs + 1).toNat
theorem markN_eq (xs : List Int) : markAt xs = (markN xs : Int) - 1 := by
  have := markAt_bounds xs
  unfold markN
  omega
theorem markN_le (xs : List Int) : markN xs ≤ xs.length := by
  have := markAt_bounds xs
  unfold markN
  omega
theorem markAt_max : ∀ {xs : List Int} {j : Nat}, j < xs.length → xs[j]?.getD 0 = -1 → (j : Int) ≤ markAt xs
  | [], j, hj, _ => by simp at hj
  | x :: r, 0, _, hx => by
    have hb := markAt_bounds r
    rw [markAt]
    split
    · omega
    · rw [if_pos (by simpa using hx)]
      decide
  | x :: r, j + 1, hj, hx => by
    have := markAt_max (xs := r) (j := j) (by simpa using hj) (by simpa using hx)
    rw [markAt, if_pos (by omega)]
    omega
def pushL (m : M) (xs : List Int) (e : Nat) : List Int :=
  if 3 ≤ many (al m (m.el e)) xs (markN xs) then xs.take (first (al m (m.el e)) xs (markN xs)) ++ xs.drop (first (al m (m.el e)) xs (markN xs) + 1) ++ [(e : Int)] else xs ++ [(e : Int)]
theorem bd {B : Nat} {w w1 : World} (h : Below B w w1) (n : Nat) : Below B w (w1.drewN n) := h.trans ⟨rfl, rfl, rfl, Nat.le_refl _, fun _ _ => rfl⟩
theorem bd1 {B : Nat} {w w1 : World} (h : Below B w w1) : Below B w w1.drew := h.trans ⟨rfl, rfl, rfl, Nat.le_refl _, fun _ _ => rfl⟩
set_option maxRecDepth 100000 in
set_option maxHeartbeats 4000000 in
theorem push_calls {w : World} {base g b : Nat} {m : M} {nv ev : Value} {vs : List NV} {lv : Value} {xs : List Int} (h : At w base g m nv ev vs) (hE : Els m) (hL : LsAt w base b g lv xs) (hx : ∀ x ∈ xs, x = -1 ∨ ∃ i : Nat, x = (i : Int) ∧ i < m.elems.length)
    (hl : xs.length ≤ 100000) (hb : base ≤ w.heap.size) (e : Nat) (he : e < m.elems.length) :
    Calls Try.prog 32 #[.pointer (some ⟨b, 0, none⟩), .int .i64 (e : Int)] w fun en w' => en = .returned (.tuple #[]) ∧ LsPost w base b g lv (pushL m xs e) w' := by
  obtain ⟨pe, hpe, hne⟩ := hE.at_ e he
  have few := hE.few e he
  obtain ⟨C0, C1⟩ := hL.cells
  have CN := Lib.hid (fun (i : Nat) (hi : i < m.elems.length) (W : World) (hW : Below w.heap.size w W) => by
    obtain ⟨p, h1, h2⟩ := hE.at_ i hi
    exact name_calls (h.below hW) h1 h2)
  have CA := Lib.hid (fun (i : Nat) (hi : i < m.elems.length) (W : World) (hW : Below w.heap.size w W) => by
    obtain ⟨p, h1, h2⟩ := hE.at_ i hi
    exact attrs_calls (h.below hW) h1 h2 (Nat.lt_trans (hE.few i hi) (by decide)))
  have CM := Lib.hid (fun (W : World) (hW : Below w.heap.size w W) => mark_calls (hL.below hW) (by omega : xs.length ≤ 9223372036854775807))
  have HL := Lib.hid hL
  have HX := Lib.hid hx
  have HE := Lib.hid hE
  have hlt := hL.lt
  have He := Lib.hid he
  have HB := Lib.hid (Below.refl w.heap.size w)
  generalize hnd : m.el e = nd at *
  have Hnd := Lib.hid hnd
  clear h hE hL hx hpe hne hnd he
  go_enter Try.func32, Try.ntmps32
  go_upto_region 1 with (fail)
  go_cut [6, 7] (fun v6 v7 wc => ∃ A c, v6 = .string nd.name ∧ v7 = .slice A nd.attrs.length c ∧ Hid (nd.attrs.length ≤ c ∧ Kd.C k105 wc A nd.attrs.length nd.attrs) ∧ Hid (Below w.heap.size w wc))
  case first =>
    go_region_with (first
      | (go_at_call 45; refine (CN.out e He.out _ (by first | exact HB.out | exact bd HB.out _ | exact bd1 HB.out | assumption)).mono ?_; rintro en w1 ⟨rfl, n1, rfl⟩; rw [Hnd.out])
      | (go_at_call 48; refine (CA.out e He.out _ (by first | exact HB.out | exact bd HB.out _ | exact bd (bd1 HB.out) _ | exact bd1 HB.out | assumption)).mono ?_; rintro en w2 ⟨v2, rfl, hR2, hB2⟩; rw [Hnd.out] at hR2; obtain ⟨A2, c2, rfl, hle2, hC2⟩ := Kd.R_reads hR2; have R2 := Lib.hid (And.intro hle2 hC2); have B2 := Lib.hid hB2; clear hR2 hle2 hC2 hB2))
    all_goals
      go_wp2_with fail
      go_meet
      exact ⟨_, _, rfl, rfl, R2, Lib.hid (HB.out.trans ((bd HB.out (1 + n1)).trans (B2.out.mono (bd HB.out (1 + n1)).size)))⟩
  case rest =>
    obtain ⟨A6, c6, rfl, rfl, HC, HW⟩ := hcut
    obtain ⟨a, len, cap, rfl, hlen⟩ : ∃ a len cap, lv = .slice a len cap ∧ len = xs.length := by
      rcases HL.out.row.split with ⟨rfl, rfl⟩ | ⟨b', cap, cur, rfl, _⟩
      · exact ⟨_, _, _, rfl, rfl⟩
      · exact ⟨_, _, _, rfl, rfl⟩
    subst hlen
    have hw0 := wrapm xs.length (by omega)
    have UP : ∀ W, Below wc.heap.size wc W → Below w.heap.size w W := fun W hW => HW.out.trans (hW.mono HW.out.size)
    have CN2 := Lib.hid (fun (i : Nat) (hi : i < m.elems.length) (W : World) (hW : Below wc.heap.size wc W) => CN.out i hi W (UP W hW))
    have CA2 := Lib.hid (fun (i : Nat) (hi : i < m.elems.length) (W : World) (hW : Below wc.heap.size wc W) => CA.out i hi W (UP W hW))
    have hmk := markN_eq xs
    have hmle := markN_le xs
    have CM2 := Lib.hid (fun (W : World) (hW : Below wc.heap.size wc W) => show Calls Try.prog 75 #[.pointer (some ⟨b, 0, none⟩)] W fun e W' => e = .returned (.int .i64 ((markN xs : Int) - 1)) ∧ Below W.heap.size W W' by rw [← hmk]; exact CM.out W (UP W hW))
    have CS := Lib.hid (fun (i : Nat) (hi : i < m.elems.length) (W : World) (hW : Below wc.heap.size wc W) (A2 : Option Addr) (c2 : Nat) (hle : (m.el i).attrs.length ≤ c2) (hC : Kd.C k105 W A2 (m.el i).attrs.length (m.el i).attrs) =>
      attr_Same.calls A2 c2 (m.el i).attrs A6 c6 nd.attrs _ W hC hle (Kd.C_below HC.out.2 hW) HC.out.1 (sameA_eq (Nat.lt_trans (HE.out.few i hi) (by decide)) (Nat.lt_trans few (by decide))))
    have BC := Lib.hid (fun (W : World) (hW : Below wc.heap.size wc W) => And.intro (((UP W hW).cell (p := ⟨b, 0, none⟩) hlt).trans C0) (((UP W hW).cell (p := ⟨b, 1, none⟩) hlt).trans C1))
    have XC := Lib.hid (fun (q : Nat) (hq : q < xs.length) => show ∃ b', a = some ⟨b', 0, none⟩ ∧ ∀ W, Below wc.heap.size wc W → W.cell? ⟨b', q, none⟩ = some (.int .i64 (xs[q]?.getD 0)) by
      rcases HL.out.row.split with ⟨_, e2⟩ | ⟨b', cap', cur, e1, _⟩
      · rw [e2] at hq
        simp at hq
      · cases e1
        refine ⟨b', rfl, fun W hW => ((UP W hW).cell (p := ⟨b', q, none⟩) (HL.out.row.lt b' rfl).2).trans ?_⟩
        have := HL.out.row.cells q hq
        rwa [Nat.zero_add, List.getD_eq_getElem?_getD] at this)
    have HMX := Lib.hid (fun (q : Nat) (hq : q < xs.length) (hm : markN xs ≤ q) => show ∃ i : Nat, xs[q]? = some (i : Int) ∧ i < m.elems.length by
      rcases HX.out xs[q] (List.getElem_mem hq) with e | ⟨i, e, hi⟩
      · have := markAt_max hq (by rw [List.getElem?_eq_getElem hq]; exact e)
        omega
      · exact ⟨i, by rw [List.getElem?_eq_getElem hq, e], hi⟩)
    have HMK := Lib.hid hmk
    obtain ⟨D0, D1⟩ := BC.out wc (Below.refl _ _)
    clear CN CA CM hmk UP
    generalize hN : markN xs = N at *
    have HN := Lib.hid hN
    clear hN
    go_wp2_with fail
    go_loopg [4, 5, 8, 9] (xs.length + 1) (fun gg s4 s5 s8 s9 wr => ∃ q : Nat, s8 = .int .i64 ((q : Int) - 1) ∧ N ≤ q ∧ q ≤ xs.length ∧ s4 = .int .i64 ((first (al m nd) xs q : Nat) : Int) ∧ s5 = .int .i64 ((many (al m nd) xs q : Nat) : Int) ∧ q + 1 = gg ∧ Hid (Below wc.heap.size wc wr))
    case atStart => exact ⟨xs.length, rfl, hmle, Nat.le_refl _, by rw [(many_end _ _).2]; rfl, by rw [(many_end _ _).1]; rfl, rfl, Lib.hid (Below.refl _ _)⟩
    case round =>
      obtain ⟨q, rfl, hq1, hq2, rfl, rfl, hgq, HBr⟩ := hrel
      clear D0 D1
      have DR := BC.out wr HBr.out
      obtain ⟨DR0, DR1⟩ := DR
      by_cases hqN : q = N
      · subst hqN
        have hg0 : decide ((q : Int) - 1 < (q : Int) - 1) = false := decide_eq_false (by omega)
        have hg1 : ¬ ((q : Int) - 1 < (q : Int) - 1) := by omega
        by_cases h3 : 3 ≤ many (al m nd) xs q
        · have hfl := first_lt h3
          have h3i : (3 : Int) ≤ ((many (al m nd) xs q : Nat) : Int) := by omega
          have hpu : pushL m xs e = xs.take (first (al m nd) xs q) ++ xs.drop (first (al m nd) xs q + 1) ++ [(e : Int)] := by
            unfold pushL
            rw [Hnd.out, HN.out, if_pos h3]
          generalize hfi : first (al m nd) xs q = fi at *
          obtain ⟨ys, hys⟩ : ∃ ys, xs.take fi ++ xs.drop (fi + 1) = ys := ⟨_, rfl⟩
          have hyl : ys.length ≤ 100000 := by rw [← hys, List.length_append, List.length_take, List.length_drop]; omega
          rw [hys] at hpu
          have HPU := Lib.hid hpu
          have HD := Lib.hid (fun (W : World) (hW : IR W base (.slice a xs.length cap) xs) => show Calls Try.prog 77 #[.slice a xs.length cap, .int .i64 (fi : Int), .int .i64 ((fi + 1 : Nat) : Int)] W fun e w' => ∃ v', e = .returned v' ∧ IR w' base v' ys ∧ v'.ownBlock = (Value.slice a xs.length cap).ownBlock ∧ W.grownBy w' (Value.slice a xs.length cap).ownBlock by
            rw [← hys]
            exact delete_calls _ xs fi W hW hfl)
          clear hpu hys
          have hwf : wrap64 ((fi : Int) + 1) = ((fi + 1 : Nat) : Int) := by rw [IntWalk.wrap64_in _ (by omega)]; rfl
          have HFL := Lib.hid hfl
          have HBB := Lib.hid hb
          clear hfi hfl h3 hb
          go_upto_region 11 with (first
            | (go_at_call 75; refine (CM2.out _ HBr.out).mono ?_; rintro en w1 ⟨rfl, hb1⟩; have B1 := Lib.hid (HBr.out.trans (hb1.mono HBr.out.size)); clear hb1; obtain ⟨E0, E1⟩ := BC.out w1 B1.out; have B2 := Lib.hid (HW.out.trans (B1.out.mono HW.out.size)); have L1 := Lib.hid (HL.out.below B2.out))
            | (go_at_call 77; refine (HD.out _ L1.out.row).mono ?_; rintro en w3 ⟨v3, rfl, h1, h2, h3⟩; obtain ⟨A3, k3, rfl, g3, f3, FF3⟩ := ls_facts L1.out h3 rfl h1 (.inl h2); clear h1 h2 h3))
          generalize hw4 : w3.setCell ⟨b, 1, none⟩ _ = w4 at *
          have P3 := Lib.hid FF3.out
          clear hw4 FF3 g3 f3
          have L4 := Lib.hid P3.out.1
          have HB4 := Lib.hid (Nat.le_trans L4.out.le (Nat.le_of_lt L4.out.lt))
          have G1 := L4.out.cells.2
          have G3 : (w4.alloc (.cells #[.int .i64 (e : Int)] 3)).cell? ⟨b, 1, none⟩ = some (.slice A3 ys.length k3) := (World.cell?_alloc_lt _ _ ⟨b, 1, none⟩ L4.out.lt).trans G1
          go_wp2_with (refine print_append_num (w0 := w4) (W := w4) base rfl (.tmp 79) (.tmp 81) 53 3 .i64 8 rfl Try.underlying53 info3 (by decide) (.slice A3 ys.length k3) ys (e : Int) rfl rfl L4.out.row (Below.refl _ _) HB4.out (by omega) ?_; intro v5 w5 ho5 _ hg5 hat5; rw [List.length_append, List.length_singleton] at ho5; obtain ⟨A5, k5, rfl, g5, f5, FF5⟩ := ls_facts L4.out hg5 (by simp) ho5 hat5; clear ho5 hg5 hat5)
          go_end0
          exact ⟨rfl, by rw [HPU.out]; exact (P3.out.trans ⟨_, FF5.out⟩).of_below B2.out⟩
        · have hpu : pushL m xs e = xs ++ [(e : Int)] := by
            unfold pushL
            rw [Hnd.out, HN.out, if_neg h3]
          have HPU := Lib.hid hpu
          have h3i : ¬ (3 : Int) ≤ ((many (al m nd) xs q : Nat) : Int) := by omega
          clear hpu h3
          go_upto_region 11 with (go_at_call 75; refine (CM2.out _ HBr.out).mono ?_; rintro en w1 ⟨rfl, hb1⟩; have B1 := Lib.hid (HBr.out.trans (hb1.mono HBr.out.size)); clear hb1; obtain ⟨E0, E1⟩ := BC.out w1 B1.out; have B2 := Lib.hid (HW.out.trans (B1.out.mono HW.out.size)); have L1 := Lib.hid (HL.out.below B2.out))
          have HB4 := Lib.hid (Nat.le_trans L1.out.le (Nat.le_of_lt L1.out.lt))
          have G3 : (w1.alloc (.cells #[.int .i64 (e : Int)] 3)).cell? ⟨b, 1, none⟩ = some (.slice a xs.length cap) := (World.cell?_alloc_lt _ _ ⟨b, 1, none⟩ L1.out.lt).trans E1
          go_wp2_with (refine print_append_num (w0 := w1) (W := w1) base rfl (.tmp 79) (.tmp 81) 53 3 .i64 8 rfl Try.underlying53 info3 (by decide) (.slice a xs.length cap) xs (e : Int) rfl rfl L1.out.row (Below.refl _ _) HB4.out (by omega) ?_; intro v5 w5 ho5 _ hg5 hat5; rw [List.length_append, List.length_singleton] at ho5; obtain ⟨A5, k5, rfl, g5, f5, FF5⟩ := ls_facts L1.out hg5 (by simp) ho5 hat5; clear ho5 hg5 hat5)
          go_end0
          exact ⟨rfl, by rw [HPU.out]; exact LsPost.of_below B2.out ⟨_, FF5.out⟩⟩
      · obtain ⟨p, rfl⟩ : ∃ p, q = p + 1 := ⟨q - 1, by omega⟩
        have eq1 : ((p + 1 : Nat) : Int) - 1 = (p : Int) := by omega
        rw [eq1]
        have hp : p < xs.length := by omega
        obtain ⟨b', rfl, XW⟩ := XC.out p hp
        obtain ⟨i, hxi, hi⟩ := HMX.out p hp (by omega)
        rw [hxi, Option.getD_some] at XW
        have HXW := Lib.hid XW
        have hg0 : decide ((N : Int) - 1 < (p : Int)) = true := decide_eq_true (by omega)
        have hg1 : (N : Int) - 1 < (p : Int) := by omega
        have hp0 : (0 : Int) ≤ (p : Int) := by omega
        have hp1 : (p : Int) < (xs.length : Int) := by omega
        have hwp := wrapm p (by omega)
        have st := many_step (f := al m nd) hxi
        have hal : al m nd (i : Int) = (decide ((m.el i).name.toList = nd.name.toList) && sameA (m.el i).attrs nd.attrs) := rfl
        have HST := Lib.hid st
        have HI := Lib.hid hi
        clear XW st hxi hi
        by_cases hnm : (m.el i).name.toList = nd.name.toList
        · rw [decide_eq_true hnm, Bool.true_and] at hal
          cases hsa : sameA (m.el i).attrs nd.attrs with
          | false =>
            rw [hsa] at hal
            have HA := Lib.hid hal
            have HSA := Lib.hid hsa
            clear hal hsa
            go_wp2_with (first
              | (go_at_call 75; refine (CM2.out _ HBr.out).mono ?_; rintro en w1 ⟨rfl, hb1⟩; have B1 := Lib.hid (HBr.out.trans (hb1.mono HBr.out.size)); clear hb1; obtain ⟨E0, E1⟩ := BC.out w1 B1.out; have E2 := HXW.out w1 B1.out)
              | (go_at_call 45; refine (CN2.out i HI.out _ (by first | exact B1.out | exact bd B1.out _ | exact bd1 B1.out)).mono ?_; rintro en w2 ⟨rfl, n2, rfl⟩; have B2 := Lib.hid (bd B1.out n2))
              | (go_at_call 48; refine (CA2.out i HI.out _ B2.out).mono ?_; rintro en w3 ⟨v3, rfl, hR3, hb3⟩; obtain ⟨A3, c3, rfl, hle3, hC3⟩ := Kd.R_reads hR3; have R3 := Lib.hid (And.intro hle3 hC3); have B3 := Lib.hid (B2.out.trans (hb3.mono B2.out.size)); clear hR3 hle3 hC3 hb3)
              | (go_at_call 76; refine (CS.out i HI.out _ B3.out A3 c3 R3.out.1 R3.out.2).mono ?_; rintro en w4 ⟨rfl, hb4⟩; rw [HSA.out]; have B4 := Lib.hid (B3.out.trans (hb4.mono B3.out.size)); clear hb4))
            go_roundg (gk - 1)
            case measure => omega
            case rel => exact ⟨p, rfl, by omega, by omega, by rw [(HST.out.2 HA.out).2], by rw [(HST.out.2 HA.out).1], by omega, B4⟩
          | true =>
            rw [hsa] at hal
            have HA := Lib.hid hal
            have HSA := Lib.hid hsa
            have hwm : IntKind.i64.wrap (((many (al m nd) xs (p + 1) : Nat) : Int) + 1) = ((many (al m nd) xs (p + 1) + 1 : Nat) : Int) := by
              have : many (al m nd) xs (p + 1) ≤ xs.length := by unfold many; exact Nat.le_trans (List.length_filter_le _ _) (by rw [List.length_drop]; omega)
              rw [IntWalk.i64_in _ (by omega)]
              rfl
            clear hal hsa
            go_wp2_with (first
              | (go_at_call 75; refine (CM2.out _ HBr.out).mono ?_; rintro en w1 ⟨rfl, hb1⟩; have B1 := Lib.hid (HBr.out.trans (hb1.mono HBr.out.size)); clear hb1; obtain ⟨E0, E1⟩ := BC.out w1 B1.out; have E2 := HXW.out w1 B1.out)
              | (go_at_call 45; refine (CN2.out i HI.out _ (by first | exact B1.out | exact bd B1.out _ | exact bd1 B1.out)).mono ?_; rintro en w2 ⟨rfl, n2, rfl⟩; have B2 := Lib.hid (bd B1.out n2))
              | (go_at_call 48; refine (CA2.out i HI.out _ B2.out).mono ?_; rintro en w3 ⟨v3, rfl, hR3, hb3⟩; obtain ⟨A3, c3, rfl, hle3, hC3⟩ := Kd.R_reads hR3; have R3 := Lib.hid (And.intro hle3 hC3); have B3 := Lib.hid (B2.out.trans (hb3.mono B2.out.size)); clear hR3 hle3 hC3 hb3)
              | (go_at_call 76; refine (CS.out i HI.out _ B3.out A3 c3 R3.out.1 R3.out.2).mono ?_; rintro en w4 ⟨rfl, hb4⟩; rw [HSA.out]; have B4 := Lib.hid (B3.out.trans (hb4.mono B3.out.size)); clear hb4))
            go_roundg (gk - 1)
            case measure => omega
            case rel => exact ⟨p, rfl, by omega, by omega, by rw [(HST.out.1 HA.out).2], by rw [(HST.out.1 HA.out).1]; rfl, by omega, B4⟩
        · rw [decide_eq_false hnm, Bool.false_and] at hal
          have HA := Lib.hid hal
          clear hal
          go_wp2_with (first
            | (go_at_call 75; refine (CM2.out _ HBr.out).mono ?_; rintro en w1 ⟨rfl, hb1⟩; have B1 := Lib.hid (HBr.out.trans (hb1.mono HBr.out.size)); clear hb1; obtain ⟨E0, E1⟩ := BC.out w1 B1.out; have E2 := HXW.out w1 B1.out)
            | (go_at_call 45; refine (CN2.out i HI.out _ (by first | exact B1.out | exact bd B1.out _ | exact bd1 B1.out)).mono ?_; rintro en w2 ⟨rfl, n2, rfl⟩))
          go_roundg (gk - 1)
          case measure => omega
          case rel => exact ⟨p, rfl, by omega, by omega, by rw [(HST.out.2 HA.out).2], by rw [(HST.out.2 HA.out).1], by omega, Lib.hid (bd B1.out _)⟩
end Go.Proofs.Ytcdkcnegejhnhaa.Ar
