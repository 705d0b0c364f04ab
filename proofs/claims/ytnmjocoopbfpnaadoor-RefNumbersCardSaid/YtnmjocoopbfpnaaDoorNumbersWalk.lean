import Derived.Test.YtnmjocoopbfpnaaDoorProg
import Derived.Test.YtnmjocoopbfpnaaDoorWWords
import Derived.Test.YtnmjocoopbfpnaaDoorWLast
import Derived.Test.YtnmjocoopbfpnaaDoorWMore
import Derived.WalkKit
import Derived.ProofKit
import Derived.Lib.SlBytesConst
import Derived.Test.YtnmjocoopbfpnaaDoorShelf2
import Derived.Test.YtnmjocoopbfpnaaDoorRows
import Derived.Lib.LaidU8T
import Derived.Lib.LaidTab
import Derived.Lib.Hide
import Derived.Deep.LoopGhost
import Derived.Handy
import Derived.MakeChecks
import Derived.Shelf.Strings.BuilderK
import Derived.Test.YtnmjocoopbfpnaaDoorShelf
import Derived.Test.YtnmjocoopbfpnaaDoorPRefAx1
import Derived.Test.YtnmjocoopbfpnaaDoorPRefAx2
import Derived.Test.YtnmjocoopbfpnaaDoorPRefAx3
import Derived.Test.YtnmjocoopbfpnaaDoorPRefAx4
namespace Go.Proofs.YtnmjocoopbfpnaaDoor.PRefA
open Go.RowKit Go.Proofs.YtnmjocoopbfpnaaDoorW.PrintWords Go.Proofs.YtnmjocoopbfpnaaDoorW.PrintLast Go.Proofs.YtnmjocoopbfpnaaDoorW.PrintMore
attribute [local go_sem] max2_int min2_int max_two min_two max_three min_three max_four min_four
def decanterlaw05_RefNumbers.D (j : Nat) : UInt8 := [48, 49, 50, 51, 52, 53, 54, 55, 56, 57, 97, 66, 99, 68, 101, 70].getD j 0
def decanterlaw05_RefNumbers.one (j : Nat) : ByteArray := ⟨#[decanterlaw05_RefNumbers.D j]⟩
def decanterlaw05_RefNumbers.rest (j : Nat) : ByteArray := (⟨#[48, 49, 50, 51, 52, 53, 54, 55, 56, 57, 97, 66, 99, 68, 101, 70]⟩ : ByteArray).extract j 16
/-- The digits of a number, ahead of those that are there. -/
def decanterlaw05_RefNumbers.dl (by_ : Nat) : Nat → Nat → ByteArray → ByteArray
  | 0, _, x => x
  | g + 1, k, x => if 0 < k ∨ x.size = 0 then decanterlaw05_RefNumbers.dl by_ g (k / by_) (decanterlaw05_RefNumbers.one (k % by_) ++ x) else x
def decanterlaw05_RefNumbers.ahead (b : Bool) : ByteArray := if b = true then ⟨#[38, 35, 120]⟩ else ⟨#[38, 35]⟩
def decanterlaw05_RefNumbers.byOf (b : Bool) : Nat := if b = true then 16 else 10
def decanterlaw05_RefNumbers.ds (c : Nat) (b : Bool) : ByteArray := decanterlaw05_RefNumbers.dl (decanterlaw05_RefNumbers.byOf b) 7 c ⟨#[]⟩
def decanterlaw05_RefNumbers.str (c : Nat) (b e : Bool) : ByteArray := if e = true then decanterlaw05_RefNumbers.ahead b ++ (⟨#[48, 48]⟩ ++ decanterlaw05_RefNumbers.ds c b) ++ ⟨#[59]⟩ else decanterlaw05_RefNumbers.ahead b ++ (⟨#[48, 48]⟩ ++ decanterlaw05_RefNumbers.ds c b)
def decanterlaw05_RefNumbers.f (k : Nat) (a0 : Int) (b e : Bool) : Option Bool :=
  if 0 ≤ a0 ∧ a0 ≤ 4294967295 ∧ (a0.toNat % 1114112 < 32 ∨ 126 < a0.toNat % 1114112 ∨ ref_Point.pt ((a0.toNat % 1114112 : Nat) : Int) = ((a0.toNat % 1114112 : Nat) : Int)) ∧ ref_Read.f k (bytesOf (decanterlaw05_RefNumbers.str (a0.toNat % 1114112) b e)) 0 true = some (Go.Utf8.encode (ref_Point.pt ((a0.toNat % 1114112 : Nat) : Int)), ((decanterlaw05_RefNumbers.str (a0.toNat % 1114112) b e).size : Int), true) then some true else none
theorem decanterlaw05_RefNumbers.mono : ∀ a0 b e k, LeO (decanterlaw05_RefNumbers.f k a0 b e) (decanterlaw05_RefNumbers.f (k + 1) a0 b e) := fun a0 b e k r h => by
  unfold decanterlaw05_RefNumbers.f at h ⊢
  split at h
  · rename_i hc
    obtain ⟨h1, h2, h3, h4⟩ := hc
    rw [if_pos ⟨h1, h2, h3, ref_Read.mono _ _ _ _ _ h4⟩]
    exact h
  · cases h
theorem decanterlaw05_RefNumbers.cut1 : ∀ (j : Nat) (w : World), j < 16 → (Instr.slice 9 (.string ⟨#[48, 49, 50, 51, 52, 53, 54, 55, 56, 57, 97, 66, 99, 68, 101, 70]⟩) (some (.int .i64 (j : Int))) none none).run Tryd.prog w = .ok (.string (decanterlaw05_RefNumbers.rest j)) w
  | 0, _, _ => by kernel_rfl
  | 1, _, _ => by kernel_rfl
  | 2, _, _ => by kernel_rfl
  | 3, _, _ => by kernel_rfl
  | 4, _, _ => by kernel_rfl
  | 5, _, _ => by kernel_rfl
  | 6, _, _ => by kernel_rfl
  | 7, _, _ => by kernel_rfl
  | 8, _, _ => by kernel_rfl
  | 9, _, _ => by kernel_rfl
  | 10, _, _ => by kernel_rfl
  | 11, _, _ => by kernel_rfl
  | 12, _, _ => by kernel_rfl
  | 13, _, _ => by kernel_rfl
  | 14, _, _ => by kernel_rfl
  | 15, _, _ => by kernel_rfl
  | m + 16, _, h => absurd h (by omega)
theorem decanterlaw05_RefNumbers.cut2 : ∀ (j : Nat) (w : World), j < 16 → (Instr.slice 9 (.string (decanterlaw05_RefNumbers.rest j)) none (some (.int .i64 1)) none).run Tryd.prog w = .ok (.string (decanterlaw05_RefNumbers.one j)) w
  | 0, _, _ => by kernel_rfl
  | 1, _, _ => by kernel_rfl
  | 2, _, _ => by kernel_rfl
  | 3, _, _ => by kernel_rfl
  | 4, _, _ => by kernel_rfl
  | 5, _, _ => by kernel_rfl
  | 6, _, _ => by kernel_rfl
  | 7, _, _ => by kernel_rfl
  | 8, _, _ => by kernel_rfl
  | 9, _, _ => by kernel_rfl
  | 10, _, _ => by kernel_rfl
  | 11, _, _ => by kernel_rfl
  | 12, _, _ => by kernel_rfl
  | 13, _, _ => by kernel_rfl
  | 14, _, _ => by kernel_rfl
  | 15, _, _ => by kernel_rfl
  | m + 16, _, h => absurd h (by omega)
theorem decanterlaw05_RefNumbers.row_at (s : ByteArray) (c j : Nat) (hj : j < s.size) : (bytesRow s c)[j]? = some (.int .u8 ((bytesOf s).getD j 0)) := by
  have hl : j < s.data.size := hj
  have e : (bytesOf s).getD j 0 = ((s.data[j]'hl).toNat : Int) := by
    unfold bytesOf
    rw [List.getD_eq_getElem?_getD, List.getElem?_map, List.getElem?_eq_getElem (by simpa using hl)]
    simp
  rw [e]
  unfold bytesRow
  rw [Array.getElem?_append_left (by simpa using hl), Array.getElem?_map, Array.getElem?_eq_getElem hl]
  rfl
theorem decanterlaw05_RefNumbers.conv_read (k : Nat) (s : ByteArray) (hs : s.size ≤ 100) (t : ByteArray) (e : Int) (h : ref_Read.f k (bytesOf s) 0 true = some (t, e, true)) (W : World) (hW : Wok W) (c : Nat) (hc : s.size ≤ c) :
    Calls Tryd.prog 22 #[.slice (some ⟨W.heap.size, 0, none⟩) s.size c, .int .i64 0, .bool true] (W.alloc (.cells (bytesRow s c) 5 ((bytesRow s c).size, (bytesRow s c).size + 1))).drew fun e_ w' => e_ = .returned (.tuple #[.string t, .int .i64 e, .bool true]) ∧ Below W.heap.size W w' := by
  have hlen : (bytesOf s).length = s.size := by unfold bytesOf; rw [List.length_map, Array.length_toList]; rfl
  have hbl : Below W.heap.size W (W.alloc (.cells (bytesRow s c) 5 ((bytesRow s c).size, (bytesRow s c).size + 1))).drew := Below.drew ((Below.refl _ _).alloc (Nat.le_refl _) _)
  have hrow : Kd.C (Kd.int .u8) (W.alloc (.cells (bytesRow s c) 5 ((bytesRow s c).size, (bytesRow s c).size + 1))).drew (some ⟨W.heap.size, 0, none⟩) (bytesOf s).length (bytesOf s) := by
    refine Kd.C_of_reads (d := (0 : Int)) (h1 := fun _ => rfl) ⟨rfl, by rw [hlen]; omega, fun _ => ⟨_, rfl, fun j hj => ?_⟩⟩
    rw [hlen] at hj
    have h2 : (⟨W.heap.size, 0, none⟩ : Addr).add j = ⟨W.heap.size, j, none⟩ := by simp [Addr.add]; exact fun h => h.symm
    rw [h2, World.cell?_drew, World.cell?_alloc_mark, decanterlaw05_RefNumbers.row_at s c j hj]
  have hA := ref_Read.calls k (some ⟨W.heap.size, 0, none⟩) c (bytesOf s) 0 true t e true _ (Wok_below hW hbl) hrow (by rw [hlen]; exact hc) h
  rw [hlen] at hA
  refine hA.mono ?_
  rintro e_ w' ⟨rfl, hb⟩
  exact ⟨rfl, hbl.trans (hb.mono hbl.size)⟩
theorem decanterlaw05_RefNumbers.one_size (j : Nat) : (decanterlaw05_RefNumbers.one j).size = 1 := rfl
theorem decanterlaw05_RefNumbers.dl_size (by_ : Nat) : ∀ (g k : Nat) (x : ByteArray), (decanterlaw05_RefNumbers.dl by_ g k x).size ≤ g + x.size
  | 0, _, _ => by rw [decanterlaw05_RefNumbers.dl]; omega
  | g + 1, k, x => by
    rw [decanterlaw05_RefNumbers.dl]
    split
    · have := decanterlaw05_RefNumbers.dl_size by_ g (k / by_) (decanterlaw05_RefNumbers.one (k % by_) ++ x)
      rw [ByteArray.size_append, decanterlaw05_RefNumbers.one_size] at this
      omega
    · omega
theorem decanterlaw05_RefNumbers.str_size (c : Nat) (b e : Bool) : (decanterlaw05_RefNumbers.str c b e).size ≤ 13 := by
  have hd : (decanterlaw05_RefNumbers.ds c b).size ≤ 7 := decanterlaw05_RefNumbers.dl_size (decanterlaw05_RefNumbers.byOf b) 7 c ⟨#[]⟩
  have h1 : (⟨#[38, 35, 120]⟩ : ByteArray).size = 3 := rfl
  have h2 : (⟨#[38, 35]⟩ : ByteArray).size = 2 := rfl
  have h3 : (⟨#[48, 48]⟩ : ByteArray).size = 2 := rfl
  have h4 : (⟨#[59]⟩ : ByteArray).size = 1 := rfl
  unfold decanterlaw05_RefNumbers.str decanterlaw05_RefNumbers.ahead
  cases b <;> cases e <;> simp only [Bool.false_eq_true, if_false, if_true, ByteArray.size_append, h1, h2, h3, h4] <;> omega
theorem decanterlaw05_RefNumbers.dl_end (by_ g : Nat) (x : ByteArray) (h : x.size ≠ 0) : decanterlaw05_RefNumbers.dl by_ g 0 x = x := by
  cases g with
  | zero => rfl
  | succ g =>
    rw [decanterlaw05_RefNumbers.dl, if_neg (by omega)]
theorem decanterlaw05_RefNumbers.is_nil (x : ByteArray) (h : x.size = 0) : (x.toList == ([] : List UInt8)) = true := by
  rw [beq_iff_eq, Lib.toList_data]
  exact List.eq_nil_of_length_eq_zero h
theorem decanterlaw05_RefNumbers.ne_nil (x : ByteArray) (h : x.size ≠ 0) : (x.toList == ([] : List UInt8)) = false := by
  rw [beq_eq_false_iff_ne]
  intro q
  have : x.toList.length = 0 := by rw [q]; rfl
  rw [Lib.toList_data] at this
  exact h this
set_option maxRecDepth 100000 in
set_option maxHeartbeats 16000000 in
theorem decanterlaw05_RefNumbers.calls (k : Nat) (a0 : Int) (b e : Bool) (r : Bool) (w : World) (hW : Wok w) (h : decanterlaw05_RefNumbers.f k a0 b e = some r) :
    Calls Tryd.prog 11 #[.int .u32 a0, .bool b, .bool e] w fun e_ w' => e_ = .returned (.bool r) ∧ Below w.heap.size w w' := by
  unfold decanterlaw05_RefNumbers.f at h
  split at h
  · rename_i hc
    obtain rfl := Option.some.inj h
    obtain ⟨h1, h2, h3, h4⟩ := hc
    obtain ⟨n, rfl⟩ := Int.eq_ofNat_of_zero_le h1
    rw [Int.toNat_natCast] at h3 h4
    have hm : n % 1114112 < 1114112 := Nat.mod_lt _ (by decide)
    have hrem : Int.tmod (n : Int) 1114112 = ((n % 1114112 : Nat) : Int) := by rw [Int.tmod_eq_emod_of_nonneg (by omega)]; omega
    generalize n % 1114112 = c at *
    have HS := Lib.hid (fun (w : World) (hW : Wok w) => decanterlaw05_speaks.calls true w hW rfl)
    have HP := Lib.hid (fun (w : World) (hW : Wok w) => ref_Point.calls (c : Int) _ w hW rfl)
    have H3 := Lib.hid h3
    have hsz : (decanterlaw05_RefNumbers.ds c b).size ≤ 7 := decanterlaw05_RefNumbers.dl_size _ 7 c ⟨#[]⟩
    have HR : Hid (∀ (W : World), Wok W → ∀ c_, (decanterlaw05_RefNumbers.str c b e).size ≤ c_ → Calls Tryd.prog 22 #[.slice (some ⟨W.heap.size, 0, none⟩) (decanterlaw05_RefNumbers.str c b e).size c_, .int .i64 0, .bool true] (W.alloc (.cells (bytesRow (decanterlaw05_RefNumbers.str c b e) c_) 5 ((bytesRow (decanterlaw05_RefNumbers.str c b e) c_).size, (bytesRow (decanterlaw05_RefNumbers.str c b e) c_).size + 1))).drew fun e_ w' => e_ = .returned (.tuple #[.string (Go.Utf8.encode (ref_Point.pt (c : Int))), .int .i64 ((decanterlaw05_RefNumbers.str c b e).size : Int), .bool true]) ∧ Below W.heap.size W w') := Lib.hid (fun W hW c_ hc_ => decanterlaw05_RefNumbers.conv_read k _ (Nat.le_trans (decanterlaw05_RefNumbers.str_size c b e) (by decide)) _ _ h4 W hW c_ hc_)
    have HW := Lib.hid hW
    clear hW h h1 h4 h3
    obtain ⟨R, hR⟩ : ∃ R, decanterlaw05_RefNumbers.ds c b = R := ⟨_, rfl⟩
    have hR0 : decanterlaw05_RefNumbers.dl (decanterlaw05_RefNumbers.byOf b) 7 c ⟨#[]⟩ = R := hR
    rw [hR] at hsz
    have HD := Lib.hid hR0
    cases b with
    | false =>
      cases e with
      | false =>
        have hstr : decanterlaw05_RefNumbers.str c false false = ⟨#[38, 35]⟩ ++ (⟨#[48, 48]⟩ ++ R) := by
          unfold decanterlaw05_RefNumbers.str decanterlaw05_RefNumbers.ahead
          rw [hR]
          rfl
        rw [hstr] at HR
        clear hR hR0 hstr
        go_enter Tryd.func11, Tryd.ntmps11
        go_wp2_with (go_at_call 19; refine (HS.out _ HW.out).mono ?_; rintro e w1 ⟨rfl, hb1⟩; have HB1 := Lib.hid hb1; clear hb1)
        go_loopg [8, 11] 9 (fun gg s8 s11 wr => ∃ (g q : Nat) (x : ByteArray), g < gg ∧ s8 = .string x ∧ s11 = .int .i64 (q : Int) ∧ Hid (q < 10 ^ g) ∧ (x.size = 0 → 0 < g) ∧ x.size + g ≤ 7 ∧ q < 1114112 ∧ Hid (decanterlaw05_RefNumbers.dl 10 g q x = R) ∧ Hid (Below w.heap.size w wr))
        case atStart => exact ⟨7, c, ⟨#[]⟩, by omega, rfl, rfl, Lib.hid (Nat.lt_of_lt_of_le hm (by decide)), fun _ => by omega, by decide, hm, HD, HB1⟩
        case round =>
          obtain ⟨g, q, x, hgk, rfl, rfl, hqg, hx0, hxs, hqm, HX, HB⟩ := hrel
          have hj : q % 10 < 16 := Nat.lt_of_lt_of_le (Nat.mod_lt _ (by decide)) (by decide)
          have hcut1 := fun w => decanterlaw05_RefNumbers.cut1 (q % 10) w hj
          have hcut2 := fun w => decanterlaw05_RefNumbers.cut2 (q % 10) w hj
          have hrem : Int.tmod (q : Int) 10 = ((q % 10 : Nat) : Int) := rfl
          have hdv : Int.tdiv (q : Int) 10 = ((q / 10 : Nat) : Int) := rfl
          have hsum : (decanterlaw05_RefNumbers.one (q % 10)).size + x.size ≤ 9223372036854775807 := by rw [decanterlaw05_RefNumbers.one_size]; omega
          by_cases h0 : 0 < q
          · obtain ⟨g, rfl⟩ : ∃ g', g = g' + 1 := ⟨g - 1, by
              cases g with
              | zero =>
                have := hqg.out
                rw [Nat.pow_zero] at this
                omega
              | succ g => omega⟩
            have hx := HX.out
            rw [decanterlaw05_RefNumbers.dl, if_pos (.inl h0)] at hx
            have hlt : q / 10 < 10 ^ g := by
              have := hqg.out
              rw [Nat.pow_succ] at this
              omega
            generalize q % 10 = j at *
            have HX2 := Lib.hid hx
            have HLT := Lib.hid hlt
            clear hx hlt hqg HX
            go_wp2
            go_roundg (gk - 1)
            case measure => omega
            case rel => exact ⟨g, q / 10, decanterlaw05_RefNumbers.one j ++ x, by omega, rfl, congrArg (Value.int .i64) (by omega), HLT, fun h => by rw [ByteArray.size_append, decanterlaw05_RefNumbers.one_size] at h; omega, by rw [ByteArray.size_append, decanterlaw05_RefNumbers.one_size]; omega, by omega, HX2, HB⟩
          · by_cases h1 : x.size = 0
            · obtain ⟨g, rfl⟩ : ∃ g', g = g' + 1 := ⟨g - 1, by have := hx0 h1; omega⟩
              have hx := HX.out
              rw [decanterlaw05_RefNumbers.dl, if_pos (.inr h1)] at hx
              have hlt : q / 10 < 10 ^ g := by
                have : 0 < 10 ^ g := Nat.pow_pos (by decide)
                omega
              generalize q % 10 = j at *
              have HX2 := Lib.hid hx
              have HLT := Lib.hid hlt
              clear hx hlt hqg HX
              have hnil : (x.toList == ([] : List UInt8)) = true := decanterlaw05_RefNumbers.is_nil x h1
              go_wp2
              go_roundg (gk - 1)
              case measure => omega
              case rel => exact ⟨g, q / 10, decanterlaw05_RefNumbers.one j ++ x, by omega, rfl, congrArg (Value.int .i64) (by omega), HLT, fun h => by rw [ByteArray.size_append, decanterlaw05_RefNumbers.one_size] at h; omega, by rw [ByteArray.size_append, decanterlaw05_RefNumbers.one_size]; omega, by omega, HX2, HB⟩
            · have hnil : (x.toList == ([] : List UInt8)) = false := decanterlaw05_RefNumbers.ne_nil x h1
              have hx := HX.out
              obtain ⟨q0, hq0⟩ : ∃ q0, q = q0 := ⟨_, rfl⟩
              rw [show q = 0 by omega, decanterlaw05_RefNumbers.dl_end 10 g x h1] at hx
              clear HX hqg hcut1 hcut2 hrem hdv hj hsum HD hsz
              subst hx
              have g1 : (⟨#[48, 48]⟩ : ByteArray).size + x.size ≤ 9223372036854775807 := by show 2 + x.size ≤ _; omega
              have g2 : (⟨#[38, 35]⟩ : ByteArray).size + ((⟨#[48, 48]⟩ : ByteArray) ++ x).size ≤ 9223372036854775807 := by rw [ByteArray.size_append]; show 2 + (2 + x.size) ≤ _; omega
              go_wp2
              generalize ((⟨#[38, 35]⟩ : ByteArray) ++ ((⟨#[48, 48]⟩ : ByteArray) ++ x)) = S at *
              have hconv := fun (W : World) => run_bytes_of_string (P := Tryd.prog) W 9 37 5 S Tryd.underlying9 Tryd.underlying37 Tryd.underlying5
              clear g1 g2 hnil h1 hxs h0
              rw [hconv wr]
              simp only [Result.andThen]
              by_cases k1 : c < 32
              · go_wp2_with (first | (go_at_call 22; refine (HR.out _ (Wok_below HW.out HB.out) _ (grownCap_ge _ _ _ _)).mono ?_; rintro e w2 ⟨rfl, hb2⟩; have HB2 := Lib.hid (HB.out.trans (hb2.mono HB.out.size)); clear hb2) | (go_at_call 25; refine (HP.out _ (Wok_below HW.out HB2.out)).mono ?_; rintro e w3 ⟨rfl, hb3⟩; have HB3 := Lib.hid (HB2.out.trans (hb3.mono HB2.out.size)); clear hb3))
                go_ret
                exact ⟨rfl, HB3.out⟩
              · by_cases k2 : 126 < c
                · go_wp2_with (first | (go_at_call 22; refine (HR.out _ (Wok_below HW.out HB.out) _ (grownCap_ge _ _ _ _)).mono ?_; rintro e w2 ⟨rfl, hb2⟩; have HB2 := Lib.hid (HB.out.trans (hb2.mono HB.out.size)); clear hb2) | (go_at_call 25; refine (HP.out _ (Wok_below HW.out HB2.out)).mono ?_; rintro e w3 ⟨rfl, hb3⟩; have HB3 := Lib.hid (HB2.out.trans (hb3.mono HB2.out.size)); clear hb3))
                  go_ret
                  exact ⟨rfl, HB3.out⟩
                · have k3 : ref_Point.pt (c : Int) = (c : Int) := (H3.out.resolve_left k1).resolve_left k2
                  rw [k3] at HR HP
                  clear k3 H3
                  go_wp2_with (first | (go_at_call 22; refine (HR.out _ (Wok_below HW.out HB.out) _ (grownCap_ge _ _ _ _)).mono ?_; rintro e w2 ⟨rfl, hb2⟩; have HB2 := Lib.hid (HB.out.trans (hb2.mono HB.out.size)); clear hb2) | (go_at_call 25; refine (HP.out _ (Wok_below HW.out HB2.out)).mono ?_; rintro e w3 ⟨rfl, hb3⟩; have HB3 := Lib.hid (HB2.out.trans (hb3.mono HB2.out.size)); clear hb3))
                  go_ret
                  exact ⟨rfl, HB3.out⟩
      | true =>
        have hstr : decanterlaw05_RefNumbers.str c false true = (⟨#[38, 35]⟩ ++ (⟨#[48, 48]⟩ ++ R)) ++ ⟨#[59]⟩ := by
          unfold decanterlaw05_RefNumbers.str decanterlaw05_RefNumbers.ahead
          rw [hR]
          rfl
        rw [hstr] at HR
        clear hR hR0 hstr
        go_enter Tryd.func11, Tryd.ntmps11
        go_wp2_with (go_at_call 19; refine (HS.out _ HW.out).mono ?_; rintro e w1 ⟨rfl, hb1⟩; have HB1 := Lib.hid hb1; clear hb1)
        go_loopg [8, 11] 9 (fun gg s8 s11 wr => ∃ (g q : Nat) (x : ByteArray), g < gg ∧ s8 = .string x ∧ s11 = .int .i64 (q : Int) ∧ Hid (q < 10 ^ g) ∧ (x.size = 0 → 0 < g) ∧ x.size + g ≤ 7 ∧ q < 1114112 ∧ Hid (decanterlaw05_RefNumbers.dl 10 g q x = R) ∧ Hid (Below w.heap.size w wr))
        case atStart => exact ⟨7, c, ⟨#[]⟩, by omega, rfl, rfl, Lib.hid (Nat.lt_of_lt_of_le hm (by decide)), fun _ => by omega, by decide, hm, HD, HB1⟩
        case round =>
          obtain ⟨g, q, x, hgk, rfl, rfl, hqg, hx0, hxs, hqm, HX, HB⟩ := hrel
          have hj : q % 10 < 16 := Nat.lt_of_lt_of_le (Nat.mod_lt _ (by decide)) (by decide)
          have hcut1 := fun w => decanterlaw05_RefNumbers.cut1 (q % 10) w hj
          have hcut2 := fun w => decanterlaw05_RefNumbers.cut2 (q % 10) w hj
          have hrem : Int.tmod (q : Int) 10 = ((q % 10 : Nat) : Int) := rfl
          have hdv : Int.tdiv (q : Int) 10 = ((q / 10 : Nat) : Int) := rfl
          have hsum : (decanterlaw05_RefNumbers.one (q % 10)).size + x.size ≤ 9223372036854775807 := by rw [decanterlaw05_RefNumbers.one_size]; omega
          by_cases h0 : 0 < q
          · obtain ⟨g, rfl⟩ : ∃ g', g = g' + 1 := ⟨g - 1, by
              cases g with
              | zero =>
                have := hqg.out
                rw [Nat.pow_zero] at this
                omega
              | succ g => omega⟩
            have hx := HX.out
            rw [decanterlaw05_RefNumbers.dl, if_pos (.inl h0)] at hx
            have hlt : q / 10 < 10 ^ g := by
              have := hqg.out
              rw [Nat.pow_succ] at this
              omega
            generalize q % 10 = j at *
            have HX2 := Lib.hid hx
            have HLT := Lib.hid hlt
            clear hx hlt hqg HX
            go_wp2
            go_roundg (gk - 1)
            case measure => omega
            case rel => exact ⟨g, q / 10, decanterlaw05_RefNumbers.one j ++ x, by omega, rfl, congrArg (Value.int .i64) (by omega), HLT, fun h => by rw [ByteArray.size_append, decanterlaw05_RefNumbers.one_size] at h; omega, by rw [ByteArray.size_append, decanterlaw05_RefNumbers.one_size]; omega, by omega, HX2, HB⟩
          · by_cases h1 : x.size = 0
            · obtain ⟨g, rfl⟩ : ∃ g', g = g' + 1 := ⟨g - 1, by have := hx0 h1; omega⟩
              have hx := HX.out
              rw [decanterlaw05_RefNumbers.dl, if_pos (.inr h1)] at hx
              have hlt : q / 10 < 10 ^ g := by
                have : 0 < 10 ^ g := Nat.pow_pos (by decide)
                omega
              generalize q % 10 = j at *
              have HX2 := Lib.hid hx
              have HLT := Lib.hid hlt
              clear hx hlt hqg HX
              have hnil : (x.toList == ([] : List UInt8)) = true := decanterlaw05_RefNumbers.is_nil x h1
              go_wp2
              go_roundg (gk - 1)
              case measure => omega
              case rel => exact ⟨g, q / 10, decanterlaw05_RefNumbers.one j ++ x, by omega, rfl, congrArg (Value.int .i64) (by omega), HLT, fun h => by rw [ByteArray.size_append, decanterlaw05_RefNumbers.one_size] at h; omega, by rw [ByteArray.size_append, decanterlaw05_RefNumbers.one_size]; omega, by omega, HX2, HB⟩
            · have hnil : (x.toList == ([] : List UInt8)) = false := decanterlaw05_RefNumbers.ne_nil x h1
              have hx := HX.out
              obtain ⟨q0, hq0⟩ : ∃ q0, q = q0 := ⟨_, rfl⟩
              rw [show q = 0 by omega, decanterlaw05_RefNumbers.dl_end 10 g x h1] at hx
              clear HX hqg hcut1 hcut2 hrem hdv hj hsum HD hsz
              subst hx
              have g1 : (⟨#[48, 48]⟩ : ByteArray).size + x.size ≤ 9223372036854775807 := by show 2 + x.size ≤ _; omega
              have g2 : (⟨#[38, 35]⟩ : ByteArray).size + ((⟨#[48, 48]⟩ : ByteArray) ++ x).size ≤ 9223372036854775807 := by rw [ByteArray.size_append]; show 2 + (2 + x.size) ≤ _; omega
              have g3 : ((⟨#[38, 35]⟩ : ByteArray) ++ ((⟨#[48, 48]⟩ : ByteArray) ++ x)).size + (⟨#[59]⟩ : ByteArray).size ≤ 9223372036854775807 := by rw [ByteArray.size_append, ByteArray.size_append]; show 2 + (2 + x.size) + 1 ≤ _; omega
              go_wp2
              generalize (((⟨#[38, 35]⟩ : ByteArray) ++ ((⟨#[48, 48]⟩ : ByteArray) ++ x)) ++ (⟨#[59]⟩ : ByteArray)) = S at *
              have hconv := fun (W : World) => run_bytes_of_string (P := Tryd.prog) W 9 37 5 S Tryd.underlying9 Tryd.underlying37 Tryd.underlying5
              clear g1 g2 g3 hnil h1 hxs h0
              rw [hconv wr]
              simp only [Result.andThen]
              by_cases k1 : c < 32
              · go_wp2_with (first | (go_at_call 22; refine (HR.out _ (Wok_below HW.out HB.out) _ (grownCap_ge _ _ _ _)).mono ?_; rintro e w2 ⟨rfl, hb2⟩; have HB2 := Lib.hid (HB.out.trans (hb2.mono HB.out.size)); clear hb2) | (go_at_call 25; refine (HP.out _ (Wok_below HW.out HB2.out)).mono ?_; rintro e w3 ⟨rfl, hb3⟩; have HB3 := Lib.hid (HB2.out.trans (hb3.mono HB2.out.size)); clear hb3))
                go_ret
                exact ⟨rfl, HB3.out⟩
              · by_cases k2 : 126 < c
                · go_wp2_with (first | (go_at_call 22; refine (HR.out _ (Wok_below HW.out HB.out) _ (grownCap_ge _ _ _ _)).mono ?_; rintro e w2 ⟨rfl, hb2⟩; have HB2 := Lib.hid (HB.out.trans (hb2.mono HB.out.size)); clear hb2) | (go_at_call 25; refine (HP.out _ (Wok_below HW.out HB2.out)).mono ?_; rintro e w3 ⟨rfl, hb3⟩; have HB3 := Lib.hid (HB2.out.trans (hb3.mono HB2.out.size)); clear hb3))
                  go_ret
                  exact ⟨rfl, HB3.out⟩
                · have k3 : ref_Point.pt (c : Int) = (c : Int) := (H3.out.resolve_left k1).resolve_left k2
                  rw [k3] at HR HP
                  clear k3 H3
                  go_wp2_with (first | (go_at_call 22; refine (HR.out _ (Wok_below HW.out HB.out) _ (grownCap_ge _ _ _ _)).mono ?_; rintro e w2 ⟨rfl, hb2⟩; have HB2 := Lib.hid (HB.out.trans (hb2.mono HB.out.size)); clear hb2) | (go_at_call 25; refine (HP.out _ (Wok_below HW.out HB2.out)).mono ?_; rintro e w3 ⟨rfl, hb3⟩; have HB3 := Lib.hid (HB2.out.trans (hb3.mono HB2.out.size)); clear hb3))
                  go_ret
                  exact ⟨rfl, HB3.out⟩
    | true =>
      cases e with
      | false =>
        have hstr : decanterlaw05_RefNumbers.str c true false = ⟨#[38, 35, 120]⟩ ++ (⟨#[48, 48]⟩ ++ R) := by
          unfold decanterlaw05_RefNumbers.str decanterlaw05_RefNumbers.ahead
          rw [hR]
          rfl
        rw [hstr] at HR
        clear hR hR0 hstr
        go_enter Tryd.func11, Tryd.ntmps11
        go_wp2_with (go_at_call 19; refine (HS.out _ HW.out).mono ?_; rintro e w1 ⟨rfl, hb1⟩; have HB1 := Lib.hid hb1; clear hb1)
        go_loopg [8, 11] 9 (fun gg s8 s11 wr => ∃ (g q : Nat) (x : ByteArray), g < gg ∧ s8 = .string x ∧ s11 = .int .i64 (q : Int) ∧ Hid (q < 10 ^ g) ∧ (x.size = 0 → 0 < g) ∧ x.size + g ≤ 7 ∧ q < 1114112 ∧ Hid (decanterlaw05_RefNumbers.dl 16 g q x = R) ∧ Hid (Below w.heap.size w wr))
        case atStart => exact ⟨7, c, ⟨#[]⟩, by omega, rfl, rfl, Lib.hid (Nat.lt_of_lt_of_le hm (by decide)), fun _ => by omega, by decide, hm, HD, HB1⟩
        case round =>
          obtain ⟨g, q, x, hgk, rfl, rfl, hqg, hx0, hxs, hqm, HX, HB⟩ := hrel
          have hj : q % 16 < 16 := Nat.mod_lt _ (by decide)
          have hcut1 := fun w => decanterlaw05_RefNumbers.cut1 (q % 16) w hj
          have hcut2 := fun w => decanterlaw05_RefNumbers.cut2 (q % 16) w hj
          have hrem : Int.tmod (q : Int) 16 = ((q % 16 : Nat) : Int) := rfl
          have hdv : Int.tdiv (q : Int) 16 = ((q / 16 : Nat) : Int) := rfl
          have hsum : (decanterlaw05_RefNumbers.one (q % 16)).size + x.size ≤ 9223372036854775807 := by rw [decanterlaw05_RefNumbers.one_size]; omega
          by_cases h0 : 0 < q
          · obtain ⟨g, rfl⟩ : ∃ g', g = g' + 1 := ⟨g - 1, by
              cases g with
              | zero =>
                have := hqg.out
                rw [Nat.pow_zero] at this
                omega
              | succ g => omega⟩
            have hx := HX.out
            rw [decanterlaw05_RefNumbers.dl, if_pos (.inl h0)] at hx
            have hlt : q / 16 < 10 ^ g := by
              have := hqg.out
              rw [Nat.pow_succ] at this
              omega
            generalize q % 16 = j at *
            have HX2 := Lib.hid hx
            have HLT := Lib.hid hlt
            clear hx hlt hqg HX
            go_wp2
            go_roundg (gk - 1)
            case measure => omega
            case rel => exact ⟨g, q / 16, decanterlaw05_RefNumbers.one j ++ x, by omega, rfl, congrArg (Value.int .i64) (by omega), HLT, fun h => by rw [ByteArray.size_append, decanterlaw05_RefNumbers.one_size] at h; omega, by rw [ByteArray.size_append, decanterlaw05_RefNumbers.one_size]; omega, by omega, HX2, HB⟩
          · by_cases h1 : x.size = 0
            · obtain ⟨g, rfl⟩ : ∃ g', g = g' + 1 := ⟨g - 1, by have := hx0 h1; omega⟩
              have hx := HX.out
              rw [decanterlaw05_RefNumbers.dl, if_pos (.inr h1)] at hx
              have hlt : q / 16 < 10 ^ g := by
                have : 0 < 10 ^ g := Nat.pow_pos (by decide)
                omega
              generalize q % 16 = j at *
              have HX2 := Lib.hid hx
              have HLT := Lib.hid hlt
              clear hx hlt hqg HX
              have hnil : (x.toList == ([] : List UInt8)) = true := decanterlaw05_RefNumbers.is_nil x h1
              go_wp2
              go_roundg (gk - 1)
              case measure => omega
              case rel => exact ⟨g, q / 16, decanterlaw05_RefNumbers.one j ++ x, by omega, rfl, congrArg (Value.int .i64) (by omega), HLT, fun h => by rw [ByteArray.size_append, decanterlaw05_RefNumbers.one_size] at h; omega, by rw [ByteArray.size_append, decanterlaw05_RefNumbers.one_size]; omega, by omega, HX2, HB⟩
            · have hnil : (x.toList == ([] : List UInt8)) = false := decanterlaw05_RefNumbers.ne_nil x h1
              have hx := HX.out
              obtain ⟨q0, hq0⟩ : ∃ q0, q = q0 := ⟨_, rfl⟩
              rw [show q = 0 by omega, decanterlaw05_RefNumbers.dl_end 16 g x h1] at hx
              clear HX hqg hcut1 hcut2 hrem hdv hj hsum HD hsz
              subst hx
              have g1 : (⟨#[48, 48]⟩ : ByteArray).size + x.size ≤ 9223372036854775807 := by show 2 + x.size ≤ _; omega
              have g2 : (⟨#[38, 35, 120]⟩ : ByteArray).size + ((⟨#[48, 48]⟩ : ByteArray) ++ x).size ≤ 9223372036854775807 := by rw [ByteArray.size_append]; show 3 + (2 + x.size) ≤ _; omega
              go_wp2
              generalize ((⟨#[38, 35, 120]⟩ : ByteArray) ++ ((⟨#[48, 48]⟩ : ByteArray) ++ x)) = S at *
              have hconv := fun (W : World) => run_bytes_of_string (P := Tryd.prog) W 9 37 5 S Tryd.underlying9 Tryd.underlying37 Tryd.underlying5
              clear g1 g2 hnil h1 hxs h0
              rw [hconv wr]
              simp only [Result.andThen]
              by_cases k1 : c < 32
              · go_wp2_with (first | (go_at_call 22; refine (HR.out _ (Wok_below HW.out HB.out) _ (grownCap_ge _ _ _ _)).mono ?_; rintro e w2 ⟨rfl, hb2⟩; have HB2 := Lib.hid (HB.out.trans (hb2.mono HB.out.size)); clear hb2) | (go_at_call 25; refine (HP.out _ (Wok_below HW.out HB2.out)).mono ?_; rintro e w3 ⟨rfl, hb3⟩; have HB3 := Lib.hid (HB2.out.trans (hb3.mono HB2.out.size)); clear hb3))
                go_ret
                exact ⟨rfl, HB3.out⟩
              · by_cases k2 : 126 < c
                · go_wp2_with (first | (go_at_call 22; refine (HR.out _ (Wok_below HW.out HB.out) _ (grownCap_ge _ _ _ _)).mono ?_; rintro e w2 ⟨rfl, hb2⟩; have HB2 := Lib.hid (HB.out.trans (hb2.mono HB.out.size)); clear hb2) | (go_at_call 25; refine (HP.out _ (Wok_below HW.out HB2.out)).mono ?_; rintro e w3 ⟨rfl, hb3⟩; have HB3 := Lib.hid (HB2.out.trans (hb3.mono HB2.out.size)); clear hb3))
                  go_ret
                  exact ⟨rfl, HB3.out⟩
                · have k3 : ref_Point.pt (c : Int) = (c : Int) := (H3.out.resolve_left k1).resolve_left k2
                  rw [k3] at HR HP
                  clear k3 H3
                  go_wp2_with (first | (go_at_call 22; refine (HR.out _ (Wok_below HW.out HB.out) _ (grownCap_ge _ _ _ _)).mono ?_; rintro e w2 ⟨rfl, hb2⟩; have HB2 := Lib.hid (HB.out.trans (hb2.mono HB.out.size)); clear hb2) | (go_at_call 25; refine (HP.out _ (Wok_below HW.out HB2.out)).mono ?_; rintro e w3 ⟨rfl, hb3⟩; have HB3 := Lib.hid (HB2.out.trans (hb3.mono HB2.out.size)); clear hb3))
                  go_ret
                  exact ⟨rfl, HB3.out⟩
      | true =>
        have hstr : decanterlaw05_RefNumbers.str c true true = (⟨#[38, 35, 120]⟩ ++ (⟨#[48, 48]⟩ ++ R)) ++ ⟨#[59]⟩ := by
          unfold decanterlaw05_RefNumbers.str decanterlaw05_RefNumbers.ahead
          rw [hR]
          rfl
        rw [hstr] at HR
        clear hR hR0 hstr
        go_enter Tryd.func11, Tryd.ntmps11
        go_wp2_with (go_at_call 19; refine (HS.out _ HW.out).mono ?_; rintro e w1 ⟨rfl, hb1⟩; have HB1 := Lib.hid hb1; clear hb1)
        go_loopg [8, 11] 9 (fun gg s8 s11 wr => ∃ (g q : Nat) (x : ByteArray), g < gg ∧ s8 = .string x ∧ s11 = .int .i64 (q : Int) ∧ Hid (q < 10 ^ g) ∧ (x.size = 0 → 0 < g) ∧ x.size + g ≤ 7 ∧ q < 1114112 ∧ Hid (decanterlaw05_RefNumbers.dl 16 g q x = R) ∧ Hid (Below w.heap.size w wr))
        case atStart => exact ⟨7, c, ⟨#[]⟩, by omega, rfl, rfl, Lib.hid (Nat.lt_of_lt_of_le hm (by decide)), fun _ => by omega, by decide, hm, HD, HB1⟩
        case round =>
          obtain ⟨g, q, x, hgk, rfl, rfl, hqg, hx0, hxs, hqm, HX, HB⟩ := hrel
          have hj : q % 16 < 16 := Nat.mod_lt _ (by decide)
          have hcut1 := fun w => decanterlaw05_RefNumbers.cut1 (q % 16) w hj
          have hcut2 := fun w => decanterlaw05_RefNumbers.cut2 (q % 16) w hj
          have hrem : Int.tmod (q : Int) 16 = ((q % 16 : Nat) : Int) := rfl
          have hdv : Int.tdiv (q : Int) 16 = ((q / 16 : Nat) : Int) := rfl
          have hsum : (decanterlaw05_RefNumbers.one (q % 16)).size + x.size ≤ 9223372036854775807 := by rw [decanterlaw05_RefNumbers.one_size]; omega
          by_cases h0 : 0 < q
          · obtain ⟨g, rfl⟩ : ∃ g', g = g' + 1 := ⟨g - 1, by
              cases g with
              | zero =>
                have := hqg.out
                rw [Nat.pow_zero] at this
                omega
              | succ g => omega⟩
            have hx := HX.out
            rw [decanterlaw05_RefNumbers.dl, if_pos (.inl h0)] at hx
            have hlt : q / 16 < 10 ^ g := by
              have := hqg.out
              rw [Nat.pow_succ] at this
              omega
            generalize q % 16 = j at *
            have HX2 := Lib.hid hx
            have HLT := Lib.hid hlt
            clear hx hlt hqg HX
            go_wp2
            go_roundg (gk - 1)
            case measure => omega
            case rel => exact ⟨g, q / 16, decanterlaw05_RefNumbers.one j ++ x, by omega, rfl, congrArg (Value.int .i64) (by omega), HLT, fun h => by rw [ByteArray.size_append, decanterlaw05_RefNumbers.one_size] at h; omega, by rw [ByteArray.size_append, decanterlaw05_RefNumbers.one_size]; omega, by omega, HX2, HB⟩
          · by_cases h1 : x.size = 0
            · obtain ⟨g, rfl⟩ : ∃ g', g = g' + 1 := ⟨g - 1, by have := hx0 h1; omega⟩
              have hx := HX.out
              rw [decanterlaw05_RefNumbers.dl, if_pos (.inr h1)] at hx
              have hlt : q / 16 < 10 ^ g := by
                have : 0 < 10 ^ g := Nat.pow_pos (by decide)
                omega
              generalize q % 16 = j at *
              have HX2 := Lib.hid hx
              have HLT := Lib.hid hlt
              clear hx hlt hqg HX
              have hnil : (x.toList == ([] : List UInt8)) = true := decanterlaw05_RefNumbers.is_nil x h1
              go_wp2
              go_roundg (gk - 1)
              case measure => omega
              case rel => exact ⟨g, q / 16, decanterlaw05_RefNumbers.one j ++ x, by omega, rfl, congrArg (Value.int .i64) (by omega), HLT, fun h => by rw [ByteArray.size_append, decanterlaw05_RefNumbers.one_size] at h; omega, by rw [ByteArray.size_append, decanterlaw05_RefNumbers.one_size]; omega, by omega, HX2, HB⟩
            · have hnil : (x.toList == ([] : List UInt8)) = false := decanterlaw05_RefNumbers.ne_nil x h1
              have hx := HX.out
              obtain ⟨q0, hq0⟩ : ∃ q0, q = q0 := ⟨_, rfl⟩
              rw [show q = 0 by omega, decanterlaw05_RefNumbers.dl_end 16 g x h1] at hx
              clear HX hqg hcut1 hcut2 hrem hdv hj hsum HD hsz
              subst hx
              have g1 : (⟨#[48, 48]⟩ : ByteArray).size + x.size ≤ 9223372036854775807 := by show 2 + x.size ≤ _; omega
              have g2 : (⟨#[38, 35, 120]⟩ : ByteArray).size + ((⟨#[48, 48]⟩ : ByteArray) ++ x).size ≤ 9223372036854775807 := by rw [ByteArray.size_append]; show 3 + (2 + x.size) ≤ _; omega
              have g3 : ((⟨#[38, 35, 120]⟩ : ByteArray) ++ ((⟨#[48, 48]⟩ : ByteArray) ++ x)).size + (⟨#[59]⟩ : ByteArray).size ≤ 9223372036854775807 := by rw [ByteArray.size_append, ByteArray.size_append]; show 3 + (2 + x.size) + 1 ≤ _; omega
              go_wp2
              generalize (((⟨#[38, 35, 120]⟩ : ByteArray) ++ ((⟨#[48, 48]⟩ : ByteArray) ++ x)) ++ (⟨#[59]⟩ : ByteArray)) = S at *
              have hconv := fun (W : World) => run_bytes_of_string (P := Tryd.prog) W 9 37 5 S Tryd.underlying9 Tryd.underlying37 Tryd.underlying5
              clear g1 g2 g3 hnil h1 hxs h0
              rw [hconv wr]
              simp only [Result.andThen]
              by_cases k1 : c < 32
              · go_wp2_with (first | (go_at_call 22; refine (HR.out _ (Wok_below HW.out HB.out) _ (grownCap_ge _ _ _ _)).mono ?_; rintro e w2 ⟨rfl, hb2⟩; have HB2 := Lib.hid (HB.out.trans (hb2.mono HB.out.size)); clear hb2) | (go_at_call 25; refine (HP.out _ (Wok_below HW.out HB2.out)).mono ?_; rintro e w3 ⟨rfl, hb3⟩; have HB3 := Lib.hid (HB2.out.trans (hb3.mono HB2.out.size)); clear hb3))
                go_ret
                exact ⟨rfl, HB3.out⟩
              · by_cases k2 : 126 < c
                · go_wp2_with (first | (go_at_call 22; refine (HR.out _ (Wok_below HW.out HB.out) _ (grownCap_ge _ _ _ _)).mono ?_; rintro e w2 ⟨rfl, hb2⟩; have HB2 := Lib.hid (HB.out.trans (hb2.mono HB.out.size)); clear hb2) | (go_at_call 25; refine (HP.out _ (Wok_below HW.out HB2.out)).mono ?_; rintro e w3 ⟨rfl, hb3⟩; have HB3 := Lib.hid (HB2.out.trans (hb3.mono HB2.out.size)); clear hb3))
                  go_ret
                  exact ⟨rfl, HB3.out⟩
                · have k3 : ref_Point.pt (c : Int) = (c : Int) := (H3.out.resolve_left k1).resolve_left k2
                  rw [k3] at HR HP
                  clear k3 H3
                  go_wp2_with (first | (go_at_call 22; refine (HR.out _ (Wok_below HW.out HB.out) _ (grownCap_ge _ _ _ _)).mono ?_; rintro e w2 ⟨rfl, hb2⟩; have HB2 := Lib.hid (HB.out.trans (hb2.mono HB.out.size)); clear hb2) | (go_at_call 25; refine (HP.out _ (Wok_below HW.out HB2.out)).mono ?_; rintro e w3 ⟨rfl, hb3⟩; have HB3 := Lib.hid (HB2.out.trans (hb3.mono HB2.out.size)); clear hb3))
                  go_ret
                  exact ⟨rfl, HB3.out⟩
  · cases h
def decanterlaw05_RefNumbers.Pure : Prop := ∀ (a0 : Int) (a1 : Bool) (a2 : Bool), (Lit.int .u32 a0).wf = true → ∃ k, decanterlaw05_RefNumbers.f k a0 a1 a2 = some true
theorem decanterlaw05_RefNumbers.walk (P : decanterlaw05_RefNumbers.Pure) (a0 : Int) (a1 : Bool) (a2 : Bool) (w : World) (hW : Wok w) (w0 : (Lit.int .u32 a0).wf = true) :
    Calls Tryd.prog 11 #[.int .u32 a0, .bool a1, .bool a2] w fun e w' => e = .returned (.bool true) ∧ Below w.heap.size w w' := by
  obtain ⟨k, h⟩ := P a0 a1 a2 w0
  refine (decanterlaw05_RefNumbers.calls k a0 a1 a2 true w hW h).mono ?_
  rintro e w' ⟨rfl, hd⟩
  exact ⟨rfl, hd⟩
end Go.Proofs.YtnmjocoopbfpnaaDoor.PRefA
