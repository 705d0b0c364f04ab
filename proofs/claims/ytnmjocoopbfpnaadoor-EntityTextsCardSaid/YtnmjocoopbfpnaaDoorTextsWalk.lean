import Derived.Test.YtnmjocoopbfpnaaDoorProg
import Derived.Test.YtnmjocoopbfpnaaDoorWWords
import Derived.Test.YtnmjocoopbfpnaaDoorWLast
import Derived.Test.YtnmjocoopbfpnaaDoorWMore
import Derived.WalkKit
import Derived.ProofKit
import Derived.Test.YtnmjocoopbfpnaaDoorRows
import Derived.Lib.LaidU8T
import Derived.Lib.LaidTab
import Derived.Lib.Hide
import Derived.Deep.LoopGhost
import Derived.Deep.Strs
import Derived.Laws.Cover1
import Derived.Laws.RangeString
import Derived.Sort.Walk0
import Derived.Handy
import Derived.MakeChecks
import Derived.Test.YtnmjocoopbfpnaaDoorPEntityPx1
namespace Go.Proofs.YtnmjocoopbfpnaaDoor.PEntityP
open Go.RowKit Go.Proofs.YtnmjocoopbfpnaaDoorW.PrintWords Go.Proofs.YtnmjocoopbfpnaaDoorW.PrintLast Go.Proofs.YtnmjocoopbfpnaaDoorW.PrintMore
def decanterlaw04_EntityTexts.f (k : Nat) (a0 : Int) : Option Bool :=
  if 0 ≤ a0 ∧ a0 ≤ 65535 ∧ decanterlaw04_speaks.f k = some true ∧ entity_Find.f k (entS (a0.toNat % 61)) = some (((entS (a0.toNat % 61)).size : Int), entT (a0.toNat % 61)) then some true else none
theorem decanterlaw04_EntityTexts.mono : ∀ a0 k, LeO (decanterlaw04_EntityTexts.f k a0) (decanterlaw04_EntityTexts.f (k + 1) a0) := fun a0 k r h => by
  unfold decanterlaw04_EntityTexts.f at h ⊢
  split at h
  · rename_i hc
    obtain ⟨h1, h2, h3, h4⟩ := hc
    rw [if_pos ⟨h1, h2, decanterlaw04_speaks.mono _ _ h3, entity_Find.mono _ _ _ h4⟩]
    exact h
  · cases h
/-- A name's bytes are letters, and a ; at its end, perhaps. -/
def decanterlaw04_EntityTexts.letter (c : UInt8) : Bool := (decide (97 ≤ c) && decide (c ≤ 122)) || (decide (65 ≤ c) && decide (c ≤ 90))
def decanterlaw04_EntityTexts.okAt (l : List UInt8) (i : Nat) : Bool := decanterlaw04_EntityTexts.letter (l.getD i 0) || ((l.getD i 0) == 59 && decide (i + 1 = l.length))
theorem decanterlaw04_EntityTexts.letters0 : ((List.range 61).all fun m => decide (2 ≤ (entTab.getD m ([], [])).1.length) && decide ((entTab.getD m ([], [])).1.length ≤ 8) && (List.range (entTab.getD m ([], [])).1.length).all fun i => decanterlaw04_EntityTexts.okAt (entTab.getD m ([], [])).1 i) = true := by kernel_rfl
def decanterlaw04_EntityTexts.oneTwo (s : ByteArray) : Bool := decide (0 < (Utf8.decode s 0).2) && decide (0 < s.size) && decide (s.size ≤ 8) && (decide ((Utf8.decode s 0).2 = s.size) || (decide ((Utf8.decode s 0).2 < s.size) && decide ((Utf8.decode s 0).2 + (Utf8.decode s (Utf8.decode s 0).2).2 = s.size)))
theorem decanterlaw04_EntityTexts.many0 : ((List.range 61).all fun m => decanterlaw04_EntityTexts.oneTwo (entT m)) = true := by kernel_rfl
theorem decanterlaw04_EntityTexts.run_next (w : World) (s : ByteArray) (pos : Nat) (ty : TypeId) (h : pos < s.size) :
    (Instr.next (.pointer (some ⟨w.heap.size, 0, none⟩)) true ty).run Tryd.prog (w.iter s pos) =
      .ok (.tuple #[.bool true, .int .i64 pos, .int .i32 (Utf8.decode s pos).1]) (w.iter s (pos + (Utf8.decode s pos).2)) := by
  simp only [Instr.next, getObj, setObj, Sem.run_bind, Sem.run, World.iter_heap, Result.andThen, h, if_true, World.iter_set]
  simp [goInt]
set_option maxHeartbeats 4000000 in
set_option maxRecDepth 1000000 in
theorem decanterlaw04_EntityTexts.calls (k : Nat) (a0 : Int) (r : Bool) (w : World) (hW : Wok w) (h : decanterlaw04_EntityTexts.f k a0 = some r) :
    Calls Tryd.prog 6 #[.int .u16 a0] w fun e w' => e = .returned (.bool r) ∧ Below w.heap.size w w' := by
  unfold decanterlaw04_EntityTexts.f at h
  split at h
  · rename_i hc
    obtain rfl := Option.some.inj h
    obtain ⟨h1, h2, h3, h4⟩ := hc
    have HW := Lib.hid hW
    have HS := Lib.hid (fun (w : World) (hW : Wok w) => decanterlaw04_speaks.calls k true w hW h3)
    have HF := Lib.hid (fun (w : World) (hW : Wok w) => entity_Find.calls k _ _ _ w hW h4)
    have HN := Lib.hid (fun (w : World) (hW : Wok w) => entity_Names.calls _ w hW rfl)
    clear hW h h3 h4
    obtain ⟨n, rfl⟩ := Int.eq_ofNat_of_zero_le h1
    have hm : n % 61 < 61 := by omega
    have hrem : Int.tmod (n : Int) 61 = ((n % 61 : Nat) : Int) := by rw [Int.tmod_eq_emod_of_nonneg (by omega)]; omega
    rw [Int.toNat_natCast] at HF
    generalize n % 61 = m at *
    go_enter Tryd.func6, Tryd.ntmps6
    have hnl : entity_Names.names.length = 61 := rfl
    have hrd : rdOf ByteArray.empty entity_Names.names (m : Int) = entS m := by
      unfold rdOf entity_Names.names
      rw [Int.toNat_natCast, List.getD_eq_getElem?_getD, List.getElem?_map]
      unfold entS
      rw [List.getD_eq_getElem?_getD, List.getElem?_eq_getElem (show m < entTab.length from hm)]
      rfl
    have HRD := Lib.hid hrd
    clear hrd
    have hwr : wrap64 (n : Int) = n := Go.IntWalk.wrap64_in _ (by omega)
    go_wp2_with (first
      | (go_at_call 13; refine (HS.out _ HW.out).mono ?_; rintro e w1 ⟨rfl, hb1⟩; have HB1 := Lib.hid hb1; clear hb1; have HW1 := Lib.hid (Wok_below HW.out HB1.out))
      | (go_at_call 17; refine (HN.out _ HW1.out).mono ?_; rintro e w2 ⟨v2, rfl, hr2, hb2⟩; have HB2 := Lib.hid hb2; clear hb2; have HW2 := Lib.hid (Wok_below HW1.out HB2.out); obtain ⟨A2, c2, rfl⟩ := Kd.R_slice hr2; rw [hnl] at hr2 ⊢; obtain ⟨ad2, hA2, hc2⟩ := Kd.at_string (Kd.R_reads' hr2).2.2 (m : Int) (by omega) (by rw [hnl]; omega); cases hA2; rw [HRD.out, Int.toNat_natCast] at hc2; have HR2 := Lib.hid hr2; clear hr2)
      | (go_at_call 14; refine (HF.out _ HW2.out).mono ?_; rintro e w3 ⟨rfl, hb3⟩; have HB3 := Lib.hid (((HB1.out.trans (HB2.out.mono HB1.out.size))).trans (hb3.mono (Nat.le_trans HB1.out.size HB2.out.size))); clear hb3 HB2 HB1 HR2 hc2))
    have hmany : decanterlaw04_EntityTexts.oneTwo (entT m) = true := List.all_eq_true.1 decanterlaw04_EntityTexts.many0 m (List.mem_range.2 hm)
    unfold decanterlaw04_EntityTexts.oneTwo at hmany
    simp only [Bool.and_eq_true, Bool.or_eq_true, decide_eq_true_eq] at hmany
    obtain ⟨⟨⟨q1, q2⟩, q3⟩, q4⟩ := hmany
    have hname := List.all_eq_true.1 decanterlaw04_EntityTexts.letters0 m (List.mem_range.2 hm)
    rw [Bool.and_eq_true, Bool.and_eq_true, decide_eq_true_eq, decide_eq_true_eq] at hname
    obtain ⟨⟨y1, y2⟩, y3⟩ := hname
    have hsz : (entS m).size = (entTab.getD m ([], [])).1.length := rfl
    have hbt : ∀ i (hi : i < (entS m).size), (entS m)[i]'hi = (entTab.getD m ([], [])).1.getD i 0 := fun i hi => by
      rw [List.getD_eq_getElem?_getD, List.getElem?_eq_getElem (show i < (entTab.getD m ([], [])).1.length from hi)]
      rfl
    have hOK : ∀ i, i < (entS m).size → decanterlaw04_EntityTexts.okAt (entTab.getD m ([], [])).1 i = true := fun i hi => List.all_eq_true.1 y3 i (List.mem_range.2 hi)
    rw [← hsz] at y1 y2
    unfold decanterlaw04_EntityTexts.okAt at hOK
    rw [← hsz] at hOK
    have HOK := Lib.hid hOK
    have HBT := Lib.hid hbt
    have Q4 := Lib.hid q4
    clear hOK hbt q4 y3 hsz
    generalize entS m = nm at *
    generalize entT m = tx at *
    clear HN HF HS HRD hrem
    go_loopg [7] 3 (fun g s7 wr => ∃ (c pos : Nat), s7 = .int .i64 (c : Int) ∧ wr = w3.iter tx pos ∧ c + g = 3 ∧ Hid (c = 0 ∧ pos = 0 ∨ c = 1 ∧ pos = (Utf8.decode tx 0).2 ∧ pos < tx.size ∨ 1 ≤ c ∧ c ≤ 2 ∧ pos = tx.size))
    case atStart => exact ⟨0, 0, rfl, rfl, rfl, Lib.hid (Or.inl ⟨rfl, rfl⟩)⟩
    case round =>
      obtain ⟨c, pos, rfl, rfl, hcg, HR⟩ := hrel
      by_cases hlt : pos < tx.size
      · have nx := fun ty => decanterlaw04_EntityTexts.run_next w3 tx pos ty hlt
        have hnew : c + 1 ≤ 2 ∧ (c + 1 = 1 ∧ pos + (Utf8.decode tx pos).2 = (Utf8.decode tx 0).2 ∧ pos + (Utf8.decode tx pos).2 < tx.size ∨ 1 ≤ c + 1 ∧ c + 1 ≤ 2 ∧ pos + (Utf8.decode tx pos).2 = tx.size) := by
          rcases HR.out with ⟨rfl, rfl⟩ | ⟨rfl, rfl, _⟩ | ⟨_, _, rfl⟩
          · have := Q4.out
            omega
          · have := Q4.out
            omega
          · omega
        have HNW := Lib.hid hnew
        clear hnew
        go_wp2
        go_roundg (gk - 1)
        case measure => have := HNW.out.1; omega
        case rel => exact ⟨c + 1, _, rfl, rfl, by have := HNW.out.1; omega, Lib.hid (Or.inr HNW.out.2)⟩
      · have nx := fun ty => run_next_end (P := Tryd.prog) w3 tx pos ty hlt
        have hc : 1 ≤ c ∧ c ≤ 2 := by
          rcases HR.out with ⟨rfl, rfl⟩ | ⟨rfl, rfl, _⟩ | ⟨h1, h2, rfl⟩
          · omega
          · omega
          · exact ⟨h1, h2⟩
        obtain ⟨hc1, hc2⟩ := hc
        have HBW := Lib.hid (show Below w.heap.size w (w3.iter tx pos) from HB3.out.alloc HB3.out.size _)
        clear HR HB3 Q4
        go_wp2
        generalize w3.iter tx pos = w4 at *
        clear nx
        go_loopg [8, 9, 10, 50] 9 (fun g s8 s9 s10 s50 wr => ∃ i : Nat, s50 = .int .i64 (i : Int) ∧ wr = w4 ∧ i + g = 9 ∧ i ≤ nm.size)
        case atStart => exact ⟨0, rfl, rfl, rfl, Nat.zero_le _⟩
        case round =>
          obtain ⟨i, rfl, rfl, hig, hi⟩ := hrel
          by_cases hlt2 : i < nm.size
          · have ho := HOK.out i hlt2
            have hb := HBT.out i hlt2
            rw [← hb] at ho
            clear hb
            obtain ⟨b, hB⟩ : ∃ b : Nat, (nm[i]'hlt2).toNat = b := ⟨_, rfl⟩
            have hok : (97 ≤ (b : Int) ∧ (b : Int) ≤ 122) ∨ (¬ (97 ≤ (b : Int)) ∧ 65 ≤ (b : Int) ∧ (b : Int) ≤ 90) ∨ ((b : Int) = 59 ∧ i + 1 = nm.size) := by
              unfold decanterlaw04_EntityTexts.letter at ho
              simp only [Bool.and_eq_true, Bool.or_eq_true, decide_eq_true_eq, beq_iff_eq, UInt8.le_iff_toNat_le] at ho
              rw [hB] at ho
              have e97 : (97 : UInt8).toNat = 97 := rfl
              have e122 : (122 : UInt8).toNat = 122 := rfl
              have e65 : (65 : UInt8).toNat = 65 := rfl
              have e90 : (90 : UInt8).toNat = 90 := rfl
              rcases ho with (⟨h1, h2⟩ | ⟨h1, h2⟩) | ⟨h1, h2⟩
              · left; omega
              · right; left; omega
              · right; right
                refine ⟨?_, h2⟩
                rw [h1] at hB
                rw [← hB]
                rfl
            clear ho
            rcases hok with ⟨z1, z2⟩ | ⟨z1, z2, z3⟩ | ⟨z1, z2⟩
            · go_wp2
              go_roundg (gk - 1)
              case measure => omega
              case rel => exact ⟨i + 1, rfl, rfl, by omega, by omega⟩
            · go_wp2
              go_roundg (gk - 1)
              case measure => omega
              case rel => exact ⟨i + 1, rfl, rfl, by omega, by omega⟩
            · obtain rfl : b = 59 := by omega
              have z3 : ((i : Int) != (nm.size : Int) - 1) = false := by
                rw [bne_eq_false_iff_eq]
                omega
              have z4 : ((i : Int) == (nm.size : Int) - 1) = true := by
                rw [beq_iff_eq]
                omega
              clear z1 z2
              go_wp2
              go_roundg (gk - 1)
              case measure => omega
              case rel => exact ⟨i + 1, rfl, rfl, by omega, by omega⟩
          · go_wp2
            go_ret
            refine ⟨?_, HBW.out⟩
            rw [decide_eq_true (show (2 : Int) ≤ nm.size by omega)]
            rfl
  · cases h

end Go.Proofs.YtnmjocoopbfpnaaDoor.PEntityP
