import Derived.Test.YtnmjocoopbfpnaaDoorNumbersWalk
import Derived.Test.YtnmjocoopbfpnaaDoorRefStay
namespace Go.Proofs.YtnmjocoopbfpnaaDoor.Pure
open Go.RowKit Go.Proofs.YtnmjocoopbfpnaaDoor.PRefA Go.Proofs.YtnmjocoopbfpnaaDoor.EntBaseR Go.Proofs.YtnmjocoopbfpnaaDoor.EntRefR Go.Proofs.YtnmjocoopbfpnaaDoor.RefModel Go.Proofs.YtnmjocoopbfpnaaDoor.CharPure Go.Proofs.YtnmjocoopbfpnaaDoorW.PrintWords Go.Proofs.YtnmjocoopbfpnaaDoorW.PrintLast Go.Proofs.YtnmjocoopbfpnaaDoorW.PrintMore
open decanterlaw05_RefNumbers (D one dl ds str ahead byOf)
theorem bytes_app (a b : ByteArray) : bytesOf (a ++ b) = bytesOf a ++ bytesOf b := by
  unfold bytesOf
  rw [app_list, List.map_append]
theorem bytes_all (s : ByteArray) : Bytes (bytesOf s) := by
  intro x hx
  obtain ⟨u, -, rfl⟩ := List.mem_map.1 hx
  have := u.toNat_lt
  omega
theorem bytes_len (s : ByteArray) : (bytesOf s).length = s.size := by
  unfold bytesOf
  rw [List.length_map]
  rfl
theorem D0 : ((List.range 16).all fun j => hx (D j).toNat == some j) = true := by kernel_rfl
theorem D_hx (j : Nat) (h : j < 16) : hx (D j).toNat = some j := eq_of_beq (List.all_eq_true.1 D0 j (List.mem_range.2 h))
theorem dl_dig (by_ : Nat) (h2 : 2 ≤ by_) (h16 : by_ ≤ 16) : ∀ (g k : Nat) (x : ByteArray), k < by_ ^ g → ∃ pre : List UInt8, (dl by_ g k x).data.toList = pre ++ x.data.toList ∧ ∀ n m tail, n * by_ ^ pre.length + k ≤ 1114111 → dig by_ (pre.map UInt8.toNat ++ tail) n m = dig by_ tail (n * by_ ^ pre.length + k) (m + pre.length)
  | 0, k, x, hk => by
    obtain rfl : k = 0 := by
      rw [Nat.pow_zero] at hk
      omega
    exact ⟨[], rfl, fun n m tail _ => by simp⟩
  | g + 1, k, x, hk => by
    rw [dl]
    split
    · have hlt : k / by_ < by_ ^ g := Nat.div_lt_of_lt_mul (by rw [Nat.mul_comm, ← Nat.pow_succ]; exact hk)
      obtain ⟨pre, hp, hd⟩ := dl_dig by_ h2 h16 g (k / by_) (one (k % by_) ++ x) hlt
      have hr : k % by_ < by_ := Nat.mod_lt _ (by omega)
      refine ⟨pre ++ [D (k % by_)], ?_, fun n m tail hle => ?_⟩
      · rw [hp, app_list, List.append_assoc]
        rfl
      · have hk2 : k / by_ * by_ + k % by_ = k := Nat.div_add_mod' k by_
        have hq : k / by_ ≤ k := Nat.div_le_self _ _
        rw [List.length_append, List.length_singleton, Nat.pow_succ, ← Nat.mul_assoc] at hle ⊢
        have hmul : n * by_ ^ pre.length ≤ n * by_ ^ pre.length * by_ := Nat.le_mul_of_pos_right _ (by omega)
        rw [List.map_append, List.append_assoc]
        show dig by_ (pre.map UInt8.toNat ++ ((D (k % by_)).toNat :: tail)) n m = _
        rw [hd n m _ (by omega), dig, D_hx _ (by omega)]
        dsimp only
        have hval : (n * by_ ^ pre.length + k / by_) * by_ + k % by_ = n * by_ ^ pre.length * by_ + k := by
          rw [Nat.add_mul, Nat.add_assoc, hk2]
        rw [if_neg (by omega), hval, Nat.min_eq_left (by omega), Nat.add_assoc]
    · rename_i h
      obtain rfl : k = 0 := by omega
      exact ⟨[], rfl, fun n m tail _ => by simp⟩
/-- What stands behind & and #. -/
def rr (c : Nat) (b e : Bool) : List Int := (if b = true then [120] else []) ++ (48 :: 48 :: (bytesOf (ds c b) ++ (if e = true then [59] else [])))
theorem str_rr (c : Nat) (b e : Bool) : bytesOf (str c b e) = 38 :: 35 :: rr c b e := by
  have h1 : bytesOf (⟨#[38, 35, 120]⟩ : ByteArray) = [38, 35, 120] := rfl
  have h2 : bytesOf (⟨#[38, 35]⟩ : ByteArray) = [38, 35] := rfl
  have h3 : bytesOf (⟨#[48, 48]⟩ : ByteArray) = [48, 48] := rfl
  have h4 : bytesOf (⟨#[59]⟩ : ByteArray) = [59] := rfl
  unfold str decanterlaw05_RefNumbers.ahead rr
  cases b <;> cases e <;> simp [bytes_app, h1, h2, h3, h4]
theorem ns_bytes (s : ByteArray) : ns (bytesOf s) = s.data.toList.map UInt8.toNat := by
  unfold ns bytesOf
  rw [List.map_map]
  exact List.map_congr_left fun x _ => rfl
theorem num_rr (c : Nat) (hc : c ≤ 1114111) (b e : Bool) : num (rr c b e) = some (pn c, (rr c b e).length) := by
  have hby : 2 ≤ byOf b ∧ byOf b ≤ 16 ∧ c < byOf b ^ 7 := by
    unfold byOf
    cases b
    · exact ⟨by decide, by decide, Nat.lt_of_le_of_lt hc (by decide)⟩
    · exact ⟨by decide, by decide, Nat.lt_of_le_of_lt hc (by decide)⟩
  obtain ⟨pre, hp, hd⟩ := dl_dig (byOf b) hby.1 hby.2.1 7 c ⟨#[]⟩ hby.2.2
  have hpre : (ds c b).data.toList = pre := by
    show (dl (byOf b) 7 c ⟨#[]⟩).data.toList = pre
    rw [hp]
    exact List.append_nil _
  have hL : ns (bytesOf (ds c b)) = pre.map UInt8.toNat := by rw [ns_bytes, hpre]
  have hlen : (bytesOf (ds c b)).length = pre.length := by rw [← ns_len, hL, List.length_map]
  have h0 : isX (bn (rr c b e) 0) = b := by
    unfold rr
    cases b <;> rfl
  have hs : skp (rr c b e) = if b = true then 1 else 0 := by unfold skp; rw [h0]
  have hb : bas (rr c b e) = byOf b := by unfold bas byOf; rw [h0]
  have hdr : (ns (rr c b e)).drop (skp (rr c b e)) = 48 :: 48 :: (pre.map UInt8.toNat ++ (if e = true then [59] else [])) := by
    rw [hs]
    unfold rr
    cases b <;> cases e <;> simp [← hL, ns]
  have hdg : dgs (rr c b e) = (c, 2 + pre.length) := by
    unfold dgs
    rw [hb, hdr, dig]
    have h48 : hx 48 = some 0 := rfl
    rw [h48]
    dsimp only
    rw [if_neg (by omega), dig, h48]
    dsimp only
    rw [if_neg (by omega)]
    have := hd 0 2 (if e = true then [59] else []) (by rw [Nat.zero_mul]; omega)
    rw [Nat.zero_mul, Nat.zero_add] at this
    have ez : min (min (0 * byOf b + 0) 1114112 * byOf b + 0) 1114112 = 0 := by simp
    rw [ez]
    refine Eq.trans this ?_
    cases e <;> rfl
  have hlr : (rr c b e).length = skp (rr c b e) + (2 + pre.length) + (if e = true then 1 else 0) := by
    rw [hs]
    unfold rr
    cases b <;> cases e <;> simp [hlen] <;> omega
  unfold num
  rw [hdg]
  dsimp only
  rw [if_neg (by omega), hlr]
  cases e with
  | true =>
    have h59 : bn (rr c b true) (skp (rr c b true) + (2 + pre.length)) = 59 := by
      rw [← ns_getD, ← Nat.add_zero (skp (rr c b true) + (2 + pre.length)), Nat.add_assoc, List.getD_eq_getElem?_getD, ← List.getElem?_drop, hdr, ← List.getD_eq_getElem?_getD]
      rw [show 2 + pre.length + 0 = (pre.map UInt8.toNat).length + 0 + 1 + 1 by rw [List.length_map]; omega]
      show (pre.map UInt8.toNat ++ [59]).getD ((pre.map UInt8.toNat).length + 0) 0 = 59
      rw [List.getD_eq_getElem?_getD, List.getElem?_append_right (by omega)]
      simp
    rw [if_pos h59]
    rfl
  | false =>
    have h0 : bn (rr c b false) (skp (rr c b false) + (2 + pre.length)) = 0 := bn_out _ _ (by rw [hlr]; simp)
    rw [if_neg (by rw [h0]; decide)]
    rfl
theorem numbers_read (c : Nat) (hc : c ≤ 1114111) (b e : Bool) : ref_Read.f 1100 (bytesOf (str c b e)) 0 true = some (Go.Utf8.encode (ref_Point.pt (c : Int)), ((str c b e).size : Int), true) := by
  have hsz : (ds c b).size ≤ 7 := decanterlaw05_RefNumbers.dl_size _ 7 c ⟨#[]⟩
  have hlen : (str c b e).size = (rr c b e).length + 2 := by
    rw [← bytes_len, str_rr]
    rfl
  have hl : (bytesOf (str c b e)).length ≤ 100 := by
    rw [bytes_len, hlen]
    unfold rr
    have := bytes_len (ds c b)
    cases b <;> cases e <;> simp [this] <;> omega
  rw [read_eq _ (bytes_all _) (by omega) 0 true 1100 (by omega)]
  have h0 : 0 < (bytesOf (str c b e)).length := by rw [str_rr]; exact Nat.succ_pos _
  have hr : rdI (bytesOf (str c b e)) 0 true = rdm (bytesOf (str c b e)) 0 true := by
    unfold rdI
    rw [if_pos ⟨by omega, by omega⟩]
    rfl
  rw [hr, rdm_in _ 0 true h0 (by rw [str_rr]; rfl), if_pos (by rw [str_rr]; rfl)]
  have hdrop : (bytesOf (str c b e)).drop (0 + 2) = rr c b e := by rw [str_rr]; rfl
  rw [hdrop, num_rr c hc b e, Option.map_some]
  dsimp only
  unfold pres
  dsimp only
  rw [(pn_eq c).1, enc_ofL, hlen, show 0 + 2 + (rr c b e).length = (rr c b e).length + 2 by omega]
theorem RefNumbers : decanterlaw05_RefNumbers.Pure := by
  intro a0 b e hw
  have hw0 : 0 ≤ a0 ∧ a0 ≤ 4294967295 := by
    simpa [Lit.wf, IntKind.min, IntKind.max, IntKind.signed, IntKind.bits] using hw
  refine ⟨1100, ?_⟩
  unfold decanterlaw05_RefNumbers.f
  have hm : a0.toNat % 1114112 < 1114112 := Nat.mod_lt _ (by decide)
  refine (if_pos ⟨hw0.1, hw0.2, ?_, numbers_read _ (by omega) b e⟩).trans rfl
  generalize a0.toNat % 1114112 = c at *
  by_cases h1 : c < 32
  · exact .inl h1
  · by_cases h2 : 126 < c
    · exact .inr (.inl h2)
    · refine .inr (.inr ?_)
      have hv : Lib.validRune (c : Int) = true := by
        unfold Lib.validRune
        exact decide_eq_true (by omega)
      unfold ref_Point.pt
      rw [if_neg (by rw [hv]; simp; omega), if_neg (by omega)]
end Go.Proofs.YtnmjocoopbfpnaaDoor.Pure
