import Derived.Test.YtinjbabmpnljoaaDoorCleanWalk
import Derived.Test.YtinjbabmpnljoaaDoorCleanLaws
namespace Go.Proofs.YtinjbabmpnljoaaDoor.Pure
open Go.IntWalk Go.RowKit Go.Lib Go.Proofs.YtinjbabmpnljoaaDoor.CharPure Go.Proofs.YtinjbabmpnljoaaDoor.PChar Go.Proofs.YtinjbabmpnljoaaDoorW.PrintWords Go.Proofs.YtinjbabmpnljoaaDoorW.PrintLast

theorem byte_wf {x : Int} (h : (Lit.int .u8 x).wf = true) : 0 ≤ x ∧ x ≤ 255 := byte_of_wf h
theorem okb_iff (x : Int) : decanterlaw02_CharClean.okb x = true ↔ x ≠ 0 ∧ x ≠ 13 := by
  unfold decanterlaw02_CharClean.okb
  rw [Bool.and_eq_true, bne_iff_ne, bne_iff_ne]
theorem list_arr {a : List UInt8} {b : List Int} (h : a = asB b) : (⟨a.toArray⟩ : ByteArray) = strOfNums b := by
  rw [h]
  rfl
theorem str_data (l : List Int) : (strOfNums l).data.toList = asB l := rfl
theorem str_inj {a b : List Int} (ha : Bytes a) (hb : Bytes b) (h : strOfNums a = strOfNums b) : a = b := by
  rw [← bytesOf_str a ha, ← bytesOf_str b hb, h]
/-- The law's test of plain bytes: just those stay as they are. -/
theorem pl_iff (l : List Int) (hb : Bytes l) : decanterlaw02_CharClean.pl l l.length = true ↔ allB l 0 (l.length : Int) = asB l := by
  unfold decanterlaw02_CharClean.pl
  rw [List.take_length, str_data, Bool.and_eq_true, List.all_eq_true]
  constructor
  · rintro ⟨hv, h0⟩
    have h := plain_stays l hb (fun x hx => (okb_iff x).1 (h0 x hx)) l.length 0 (by omega) (by unfold vD; rw [List.drop_zero]; exact hv)
    rw [List.drop_zero] at h
    exact h
  · intro h
    obtain ⟨cs, h1, h2, h3⟩ := all_chars l hb l.length 0 (by omega)
    have he : bytesC cs = l := str_inj (bytesC_bytes cs) hb (by rw [← list_arr h2, list_arr h])
    have hv := valid_enc cs [] (fun x hx => by cases hx) h1
    unfold vD at hv
    rw [List.nil_append, List.length_nil, List.drop_zero, he] at hv
    refine ⟨hv, fun x hx => ?_⟩
    rw [← he] at hx
    obtain ⟨c, hc, hx⟩ := List.mem_flatMap.1 hx
    exact (okb_iff x).2 (ok_bytes c (h1 c hc) x hx)
theorem CharClean : decanterlaw02_CharClean.Pure := by
  intro l _ _ hb
  have hb : Bytes l := fun y hy => byte_wf (hb y hy)
  refine ⟨3000, ?_⟩
  unfold decanterlaw02_CharClean.f
  by_cases h4 : 400 < l.length
  · rw [if_pos h4]
  · rw [if_neg h4, if_neg (by
      rw [Bool.not_eq_false, List.all_eq_true]
      intro x hx
      have := hb x hx
      unfold Vb.inB
      rw [Bool.and_eq_true, decide_eq_true_eq, decide_eq_true_eq]
      exact this)]
    obtain ⟨cs, h1, h2, h3⟩ := all_chars l hb l.length 0 (by omega)
    have hE := bytesC_bytes cs
    have hlen : (bytesC cs).length ≤ 1200 := by omega
    have ht : (⟨(allB l 0 (l.length : Int)).toArray⟩ : ByteArray) = strOfNums (bytesC cs) := list_arr h2
    have hall := all_enc cs [] (fun x hx => by cases hx) h1
    rw [List.nil_append, List.length_nil] at hall
    have hv := valid_enc cs [] (fun x hx => by cases hx) h1
    unfold vD at hv
    rw [List.nil_append, List.length_nil, List.drop_zero] at hv
    have hsz := strOfNums_size (bytesC cs)
    have hszl := strOfNums_size l
    have hc1 := clean_big (strOfNums (bytesC cs)) (by omega) 3000 (by omega)
    rw [bytesOf_str _ hE, hsz, list_arr hall] at hc1
    have hc2 := clean_big (strOfNums l) (by omega) 3000 (by omega)
    rw [bytesOf_str _ hb, hszl, ht] at hc2
    rw [all_big l hb (by omega) _ 3000 (by omega), Option.bind_some, ht, bytesOf_str _ hE, hsz, all_big _ hE (by omega) _ 3000 (by omega), Option.bind_some, list_arr hall, hc1, Option.bind_some, hc2, Option.bind_some]
    have hpl := pl_iff l hb
    have hiff : decanterlaw02_CharClean.pl l l.length = true ↔ strOfNums (bytesC cs) = strOfNums l := by
      rw [hpl]
      constructor
      · intro h
        rw [← ht, list_arr h]
      · intro h
        rw [h2]
        have := str_inj hE hb h
        rw [this]
    rw [if_pos]
    refine ⟨?_, by simp, ?_⟩
    · unfold decanterlaw02_CharClean.good
      rw [Bool.and_eq_true, Bool.and_eq_true, Bool.and_eq_true, Bool.and_eq_true, decide_eq_true_eq, decide_eq_true_eq, Bool.or_eq_true, decide_eq_true_eq, str_data, hsz, bytesOf_str _ hE]
      refine ⟨hv, by omega, rfl, List.all_eq_true.2 fun x hx => ?_, ?_⟩
      · obtain ⟨c, hc, hx⟩ := List.mem_flatMap.1 hx
        exact (okb_iff x).2 (ok_bytes c (h1 c hc) x hx)
      · by_cases hp : decanterlaw02_CharClean.pl l l.length = true
        · exact .inr (hiff.1 hp)
        · rw [Bool.not_eq_true] at hp
          rw [hp]
          exact .inl rfl
    · by_cases hp : decanterlaw02_CharClean.pl l l.length = true
      · rw [hp, hiff.1 hp]
        simp
      · have hne : strOfNums (bytesC cs) ≠ strOfNums l := fun h => hp (hiff.2 h)
        rw [Bool.not_eq_true] at hp
        rw [hp, beq_eq_false_iff_ne, Lib.toList_data, Lib.toList_data]
        intro h
        exact hne (by
          have h := Array.toList_inj.1 h
          exact congrArg ByteArray.mk h)
end Go.Proofs.YtinjbabmpnljoaaDoor.Pure
