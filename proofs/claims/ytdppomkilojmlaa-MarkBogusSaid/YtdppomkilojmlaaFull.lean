import Derived.Test.YtdppomkilojmlaaPMarkx0
import Derived.ArgAppend
import Derived.Lib.SlBytesConst
namespace Go.Proofs.Ytdppomkilojmlaa.Full
open Go.RowKit Go.Proofs.YtdppomkilojmlaaW.PrintWords Go.Proofs.YtdppomkilojmlaaW.PrintLast
/-- A row of bytes of the call's own; or a full one that is only read (a constant's: it bears the run-time's mark). -/
def RS (e : Nat) (w : World) (base : Nat) (v : Value) (xs : List Int) : Prop :=
  Kd.R (Kd.int .u8) e w base (fun _ => True) v xs ∨ ∃ g, v = .slice (some ⟨g, 0, none⟩) xs.length xs.length ∧ Kd.C (Kd.int .u8) w (some ⟨g, 0, none⟩) xs.length xs
theorem bytesC (w : World) (L : List Int) (e : TypeId) (fr : Nat × Nat) (hL : L.length ≤ 9223372036854775807) : Kd.C (Kd.int .u8) (w.alloc (.cells (L.map (Value.int .u8)).toArray e fr)) (some ⟨w.heap.size, 0, none⟩) L.length L := by
  refine Kd.C_of_reads (d := (0 : Int)) (h1 := fun _ => rfl) ⟨rfl, hL, fun _ => ⟨_, rfl, fun j hj => ?_⟩⟩
  have h1 := World.cell?_alloc_mark w (L.map (Value.int .u8)).toArray e fr j
  have h2 : (⟨w.heap.size, 0, none⟩ : Addr).add j = ⟨w.heap.size, j, none⟩ := by simp [Addr.add]; exact fun h => h.symm
  rw [h2, h1]
  simp [List.getD_eq_getElem?_getD, List.getElem?_eq_getElem hj]
theorem convert_at2 {P : Program} (w : World) (o : Obj) (t e : TypeId) (C : Array Value) (n c : Nat) (ht : P.underlying t = some (.slice e)) (he : P.underlying e = some (.int .u8)) :
    (convert t t (.slice (some ⟨w.heap.size + 1, 0, none⟩) n c)).run P ((w.alloc o).alloc (.cells C e)) = .ok (.slice (some ⟨w.heap.size + 1, 0, none⟩) n c) ((w.alloc o).alloc (.cells C e (C.size, C.size + 1))) := by
  have h := Lib.run_convert_bytes_const (P := P) (w.alloc o) t e C n c ht he
  rw [World.size_alloc] at h
  exact h
theorem bytesC_at {w : World} {L : List Int} {e : TypeId} {fr : Nat × Nat} {g : Nat} (hg : g = w.heap.size) (hL : L.length ≤ 9223372036854775807) : Kd.C (Kd.int .u8) (w.alloc (.cells (L.map (Value.int .u8)).toArray e fr)) (some ⟨g, 0, none⟩) L.length L := by
  subst hg
  exact bytesC _ _ _ _ hL
section
variable {e : Nat} {w w1 : World} {base : Nat} {v : Value} {xs : List Int}
theorem RS_of_R (h : Kd.R (Kd.int .u8) e w base (fun _ => True) v xs) : RS e w base v xs := .inl h
theorem RS_below (h : RS e w base v xs) (hb : Below w.heap.size w w1) : RS e w1 base v xs := by
  rcases h with h | ⟨g, hv, hc⟩
  · exact .inl (Kd.R_below h hb)
  · exact .inr ⟨g, hv, Kd.C_below hc hb⟩
theorem RS_alloc (h : RS e w base v xs) (o : Obj) : RS e (w.alloc o) base v xs := RS_below h (below_alloc (Below.refl _ _) o)
theorem RS_drew (h : RS e w base v xs) : RS e w.drew base v xs := RS_below h (below_drew (Below.refl _ _))
theorem RS_drewN (h : RS e w base v xs) (m : Nat) : RS e (w.drewN m) base v xs := RS_below h (pw_below_drewN (Below.refl _ _) m)
theorem RS_slice (h : RS e w base v xs) : ∃ A c, v = .slice A xs.length c := by
  rcases h with h | ⟨g, hv, _⟩
  · exact Kd.R_slice h
  · exact ⟨_, _, hv⟩
theorem RS_reads {A : Option Addr} {n c : Nat} (h : RS e w base (.slice A n c) xs) : n = xs.length ∧ n ≤ c ∧ Kd.C (Kd.int .u8) w A xs.length xs := by
  rcases h with h | ⟨g, hv, hc⟩
  · exact Kd.R_reads' h
  · injection hv with h1 h2 h3
    subst h1 h2 h3
    exact ⟨rfl, Nat.le_refl _, hc⟩
end
section
variable {P : Program} {ops : Array Oper} {rest : List Oper} {o : Oper} {a : Act} {Q : Exit → Act → World → Prop}
theorem full_cells {w : World} {g : Nat} {xs : List Int} (hc : Kd.C (Kd.int .u8) w (some ⟨g, 0, none⟩) xs.length xs) : ∀ j u, (xs.map (Value.int .u8))[j]? = some u → w.cell? ((⟨g, 0, none⟩ : Addr).add j) = some u := by
  intro j u hj
  have hr := Kd.reads_of_C (enc := Value.int .u8) (d := (0 : Int)) (h1 := fun _ => rfl) hc
  rw [List.getElem?_map] at hj
  cases hx : xs[j]? with
  | none => rw [hx] at hj; cases hj
  | some x =>
    rw [hx] at hj
    obtain ⟨hl, _⟩ := List.getElem?_eq_some_iff.1 hx
    obtain ⟨ad, he, hcell⟩ := hr.2.2 (by omega)
    cases he
    rw [hcell j hl, List.getD_eq_getElem?_getD, hx]
    exact hj
theorem grown_below {base : Nat} {w0 W w1 : World} (HB : Below base w0 W) (hbase : base ≤ W.heap.size) (hg : W.grownBy w1 none) : Below base w0 w1 :=
  HB.grown hg hbase (fun _ h => by cases h)
theorem RS_append {w0 W : World} (base : Nat) (hgd : o.guard = none) (s x : Operand) (t e : TypeId)
    (ho : o.op = .call { callee := .builtin .append, args := #[s, x], argTypes := #[t, t] })
    (ht : P.underlying t = some (.slice e)) (hinfo : (P.info? e).map (fun i => (i.zero, i.size, i.bytes)) = some (some (.int .u8 0), 1, 1))
    (v : Value) (xs : List Int) (p : Int) (hs : a.eval s = v) (hx : a.eval x = .slice (some ⟨W.heap.size, 0, none⟩) 1 1)
    (HO : RS e W base v xs) (HB : Below base w0 W) (hbase : base ≤ W.heap.size) (hl : xs.length + 1 ≤ 140737488355328)
    (h : ∀ v1 w1, Kd.R (Kd.int .u8) e w1 base (fun _ => True) v1 (xs ++ [p]) → Below base w0 w1 → wpList P ops Q rest (a.put o.dst v1) w1) :
    wpList P ops Q (o :: rest) a (W.alloc (.cells #[.int .u8 p] e)) := by
  rcases HO with HO | ⟨g, hv, hc⟩
  · exact Kd.R_append (Kd.int .u8) base hgd s x t e (.int .u8 0) 1 ho ht hinfo rfl (by decide) (by omega) v xs p [.int .u8 p] (fun _ => True) (fun _ => False) hs hx rfl (fun _ hk => hk.elim) (fun _ _ => trivial) HO HB hbase (by omega) (fun v1 w1 hr hb _ _ => h v1 w1 hr hb)
  · subst hv
    obtain ⟨i0, hi, hzz⟩ := Option.map_eq_some_iff.1 hinfo
    simp only [Prod.mk.injEq] at hzz
    obtain ⟨hz0, hz1, hz2⟩ := hzz
    have hc' := Kd.C_alloc hc (.cells #[.int .u8 p] e)
    refine wpList_append_grows (W.alloc (.cells #[.int .u8 p] e)) hgd s x t ho e i0 (.int .u8 0) 1 1 ht hi hz0 hz1 hz2 rfl (by decide) (some ⟨g, 0, none⟩) xs.length xs.length (xs.map (Value.int .u8)) hs (fun hh => by cases hh) (by simp)
      (fun b hb => by cases hb; exact full_cells hc') ⟨W.heap.size, 0, none⟩ 1 1 [.int .u8 p] hx (by simp)
      (by simpa using World.news_of_block (cs := #[Value.int .u8 p]) (t := e) (fr := (0, 0)) (heap_alloc_new W (.cells #[.int .u8 p] e))) (by simp [Value.oneCell']) (by omega) (by simp only [maxLen]; omega) (by omega) ?_
    intro v1 w1 hown hg
    have hb1 : Below base w0 (W.alloc (.cells #[.int .u8 p] e)) := HB.alloc hbase _
    have hsz : base ≤ (W.alloc (.cells #[.int .u8 p] e)).heap.size := Nat.le_trans hbase (by simp)
    refine h v1 w1 (Kd.R_of_own (h1 := fun _ => rfl) (ok := fun _ => True) ?_ (fun _ _ => trivial)) (grown_below hb1 hsz hg)
    have hown' := own_weaken hown hsz
    rw [List.length_append]
    have : encs (Value.int .u8) (xs ++ [p]) = xs.map (Value.int .u8) ++ [.int .u8 p] := by simp [encs]
    rw [this]
    exact hown'
theorem RS_append_str {w0 W : World} (base : Nat) (hgd : o.guard = none) (s x : Operand) (t u e : TypeId)
    (ho : o.op = .call { callee := .builtin .append, args := #[s, x], argTypes := #[t, u] })
    (ht : P.underlying t = some (.slice e)) (hu : P.underlying u = some .string) (hinfo : (P.info? e).map (fun i => (i.zero, i.size, i.bytes)) = some (some (.int .u8 0), 1, 1))
    (v : Value) (xs : List Int) (y : ByteArray) (hs : a.eval s = v) (hx : a.eval x = .string y) (hy : 0 < y.size)
    (HO : RS e W base v xs) (HB : Below base w0 W) (hbase : base ≤ W.heap.size) (hl : xs.length + y.size ≤ 140737488355328)
    (h : ∀ v1 w1, w1.ownsRow base e 1 v1 (xs ++ bytesOf y).length (nums .u8 (xs ++ bytesOf y)) → Below base w0 w1 → wpList P ops Q rest (a.put o.dst v1) w1) :
    wpList P ops Q (o :: rest) a W := by
  rcases HO with HO | ⟨g, hv, hc⟩
  · exact print_append_str base hgd s x t u e ho ht hu hinfo v xs y hs hx (Kd.own_of_R HO) HB hbase hl (fun v1 w1 hr hb _ => h v1 w1 hr hb)
  · subst hv
    obtain ⟨i0, hi, hzz⟩ := Option.map_eq_some_iff.1 hinfo
    simp only [Prod.mk.injEq] at hzz
    obtain ⟨hz0, hz1, hz2⟩ := hzz
    have hr := Lib.run_append_grow_string (P := P) W t u o.type e i0 (.int .u8 0) ht hu hi hz0 ⟨g, 0, none⟩ xs.length xs.length (xs.map (Value.int .u8)) (by rw [hz1]; simp) (full_cells hc) y (by omega) (by omega) (by rw [hz2]; exact growslice_fits (by omega) (by omega))
    refine wpList_plain hgd fun K hK => ?_
    unfold Oper.wp execOp
    simp only [ho, resolve, invoke, builtin, Sem.run_bind, Sem.run_pure, Result.andThen_ok, List.map_toArray, List.map_cons, List.map_nil, hs, hx, hr]
    have hge := grownCap_ge W (xs.length + y.size) xs.length e
    have hcm : grownCap W (xs.length + y.size) xs.length e ≤ maxLen := grownCap_le_maxLen W (xs.length + y.size) xs.length e (by simp only [maxLen]; omega)
    have hc2 : nums .u8 (xs ++ bytesOf y) = xs.map (Value.int .u8) ++ Lib.strCells y := by
      rw [nums_append]
      congr 1
      simp [nums, bytesOf, Lib.strCells]
    have hl2 : (xs ++ bytesOf y).length = xs.length + y.size := by rw [List.length_append, bytesOf_length]
    have hlen : (xs.map (Value.int .u8) ++ Lib.strCells y).length = (xs.length + y.size) * 1 := by rw [List.length_append, List.length_map, Lib.strCells_length, Nat.mul_one]
    refine hK _ _ (h _ _ ?_ (grown_below HB hbase ⟨rfl, rfl, rfl, by simp, fun k hk _ => heap_alloc_old W.drew _ hk⟩))
    rw [hl2, hc2]
    refine ⟨hlen, .inr ⟨W.heap.size, _, _, rfl, hbase, heap_alloc_new W.drew _, hge, hcm, ?_, ?_⟩⟩
    · have hz1 : (Value.int IntKind.u8 0).cells.size = 1 := rfl
      simp only [Array.size_append, List.size_toArray, size_zeroCells, hz1, List.length_map, Lib.strCells_length]
      omega
    · simp only [Array.toList_append, List.append_assoc]
      rw [← List.append_assoc, ← hlen]
      exact List.take_left
theorem RS_append_rows {w0 W : World} (base : Nat) (hgd : o.guard = none) (s x : Operand) (t e : TypeId)
    (ho : o.op = .call { callee := .builtin .append, args := #[s, x], argTypes := #[t, t] })
    (ht : P.underlying t = some (.slice e)) (hinfo : (P.info? e).map (fun i => (i.zero, i.size, i.bytes)) = some (some (.int .u8 0), 1, 1))
    (v : Value) (xs ys : List Int) (A : Option Addr) (m c : Nat) (hs : a.eval s = v) (hx : a.eval x = .slice A m c)
    (HO : RS e W base v xs) (HR : Kd.C (Kd.int .u8) W A m ys) (HB : Below base w0 W) (hbase : base ≤ W.heap.size) (hl : xs.length + m ≤ 140737488355328)
    (h : ∀ v1 w1, RS e w1 base v1 (xs ++ ys) → Below base w0 w1 → wpList P ops Q rest (a.put o.dst v1) w1) :
    wpList P ops Q (o :: rest) a W := by
  rcases HO with HO | ⟨g, hv, hc⟩
  · exact Kd.R_append_rows (Kd.int .u8) base hgd s x t e (.int .u8 0) 1 ho ht hinfo rfl (by decide) (by omega) v xs ys A m c (fun _ => True) (fun _ => False) hs hx HO HR (fun _ _ h => h) (fun _ h => h.elim) (fun _ _ => trivial) HB hbase (by omega) (fun v1 w1 hr hb _ _ => h v1 w1 (.inl hr) hb)
  · subst hv
    obtain ⟨i0, hi, hzz⟩ := Option.map_eq_some_iff.1 hinfo
    simp only [Prod.mk.injEq] at hzz
    obtain ⟨hz0, hz1, hz2⟩ := hzz
    have hr := Kd.reads_of_C (enc := Value.int .u8) (d := (0 : Int)) (h1 := fun _ => rfl) HR
    have hym : ys.length = m := hr.1
    rcases Nat.eq_zero_or_pos m with hm | hm
    · subst hm
      obtain rfl : ys = [] := List.eq_nil_of_length_eq_zero hym
      have hrun : (Builtin.append_ #[t, t] o.type #[.slice (some ⟨g, 0, none⟩) xs.length xs.length, .slice A 0 c]).run P W = .ok (.slice (some ⟨g, 0, none⟩) xs.length xs.length) W := by
        cases A <;> simp [Builtin.append_, run_underlying ht, sizeOf, typeInfo, hi, Builtin.lenOf, Builtin.firstCells, storeCells, loadCells, loadCellsFrom]
      refine wpList_plain hgd fun K hK => ?_
      unfold Oper.wp execOp
      simp only [ho, resolve, invoke, builtin, Sem.run_bind, Sem.run_pure, Result.andThen_ok, List.map_toArray, List.map_cons, List.map_nil, hs, hx, hrun]
      refine hK _ _ (h _ _ ?_ HB)
      rw [List.append_nil]
      exact .inr ⟨g, rfl, hc⟩
    · obtain ⟨ad, rfl, hcell⟩ := hr.2.2 hm
      refine wpList_append_grows W hgd s x t ho e i0 (.int .u8 0) 1 1 ht hi hz0 hz1 hz2 rfl (by decide) (some ⟨g, 0, none⟩) xs.length xs.length (xs.map (Value.int .u8)) hs (fun hh => by cases hh) (by simp)
        (fun b hb => by cases hb; exact full_cells hc) ad m c (ys.map (Value.int .u8)) hx (by simp [hym]) (fun j u hj => ?_) (fun u hu => by obtain ⟨y, _, rfl⟩ := List.mem_map.1 hu; rfl) (by omega) (by simp only [maxLen]; omega) (by omega) ?_
      · rw [List.getElem?_map] at hj
        cases hxj : ys[j]? with
        | none => rw [hxj] at hj; cases hj
        | some y =>
          rw [hxj] at hj
          obtain ⟨hl2, _⟩ := List.getElem?_eq_some_iff.1 hxj
          rw [hcell j (by omega), List.getD_eq_getElem?_getD, hxj]
          exact hj
      · intro v1 w1 hown hg
        refine h v1 w1 (.inl (Kd.R_of_own (h1 := fun _ => rfl) (ok := fun _ => True) ?_ (fun _ _ => trivial))) (grown_below HB hbase hg)
        have hown' := own_weaken hown hbase
        rw [List.length_append, hym]
        have : encs (Value.int .u8) (xs ++ ys) = xs.map (Value.int .u8) ++ ys.map (Value.int .u8) := by simp [encs]
        rw [this]
        exact hown'
end
end Go.Proofs.Ytdppomkilojmlaa.Full
