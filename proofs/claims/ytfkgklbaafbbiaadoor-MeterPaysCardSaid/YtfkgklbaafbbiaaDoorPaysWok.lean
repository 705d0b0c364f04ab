/-
  MeterPays: what the laid world gives the walk: the table of the powers, the sentinel's cell, the handle of the type error.
-/
import Derived.Test.YtfkgklbaafbbiaaDoorRows
import Derived.Test.YtfkgklbaafbbiaaDoorPays
import Derived.Test.YtfkgklbaafbbiaaDoorPureShorts
import Derived.LaidHandle
import Derived.LaidLaws
import Derived.RowKit
import Derived.RowKitTokens
namespace Go.Proofs.YtfkgklbaafbbiaaDoor.PaysWok
open Go.ChangeShapes Go.WideShapes Go.RowKit Go.Proofs.YtfkgklbaafbbiaaDoor.PMeter
theorem gOut : Tryd.prog.globalNamed "decanter/meter.ErrOut" = some 0 := by kernel_rfl
theorem gEty : Tryd.prog.globalNamed "errors.errorType" = some 2 := by kernel_rfl
theorem tOut : (Tryd.prog.globals[0]?).map (·.type) = some 54 := by kernel_rfl
theorem rt : (Tryd.prog.cutTypes.find? (·.1 == "internal/reflectlite.rtype")).map (·.2) = some 94 := by kernel_rfl
theorem star : "*" ++ "errors.errorString" = "*errors.errorString" := by decide
theorem row127 (u : TypeId) (h : Tryd.prog.typeName? 3 u = some "*errors.errorString") : u = 127 :=
  typeName_ptr_named (nm := "errors.errorString") (by rw [star]; kernel_rfl) (by kernel_rfl) (by decide) u (by rw [star]; exact h)
theorem oneRow : ((List.range Tryd.prog.types.size).filter fun t => Tryd.prog.rowNamed t [101, 114, 114, 111, 114]) = [54] := by kernel_rfl
theorem cells146 : Tryd.prog.cellsOf 146 = 1 := by kernel_rfl
theorem cells9 : Tryd.prog.cellsOf 9 = 1 := by kernel_rfl
theorem parted : (Rows.meterPaysRow.laid.filter fun x => x.2.handleName?.isSome) = [("errors.errorType", Rows.laid_errors_errorType)] := by kernel_rfl
theorem parted2 : (Rows.meterPaysRow.laid.filter fun x => x.2.handleName?.isNone) = [("math/bits.deBruijn32tab", Rows.laid_math_bits_deBruijn32tab), ("math/bits.deBruijn64tab", Rows.laid_math_bits_deBruijn64tab), ("internal/strconv.uint64pow10", Rows.laid_internal_strconv_uint64pow10), ("decanter/meter.ErrOut", Rows.laid_decanter_meter_ErrOut)] := by kernel_rfl
theorem two {W : World} (h : laidMetH Tryd.prog Rows.meterPaysRow.laid W) :
    laidMet Tryd.prog [("math/bits.deBruijn32tab", Rows.laid_math_bits_deBruijn32tab), ("math/bits.deBruijn64tab", Rows.laid_math_bits_deBruijn64tab), ("internal/strconv.uint64pow10", Rows.laid_internal_strconv_uint64pow10), ("decanter/meter.ErrOut", Rows.laid_decanter_meter_ErrOut)] W ∧ handlesMet Tryd.prog [("errors.errorType", Rows.laid_errors_errorType)] W := by
  unfold laidMetH at h
  rw [parted, parted2] at h
  exact h
theorem pow_of {W : World} (h : laidMet Tryd.prog [("math/bits.deBruijn32tab", Rows.laid_math_bits_deBruijn32tab), ("math/bits.deBruijn64tab", Rows.laid_math_bits_deBruijn64tab), ("internal/strconv.uint64pow10", Rows.laid_internal_strconv_uint64pow10), ("decanter/meter.ErrOut", Rows.laid_decanter_meter_ErrOut)] W) : Wok W := by
  obtain ⟨g', t', cs, fuel, p, hg', ht', hvar, hd⟩ := Lib.laidMet.reads h (List.mem_cons_of_mem _ (List.mem_cons_of_mem _ (List.mem_cons_self ..)))
  obtain rfl := Option.some.inj (gPow.symm.trans hg')
  obtain rfl := Option.some.inj ((show (Tryd.prog.globals[3]?).map (·.type) = some 118 by kernel_rfl).symm.trans ht')
  have hd' : DataW.trod (fun _ => ()) Tryd.prog W 0 (fun _ => true) false fuel 118 cs.toList = some (Lib.tabData .u64 Lib.pow10Tab, p) := (show (Rows.laid_internal_strconv_uint64pow10 : DataW Unit) = Lib.tabData .u64 Lib.pow10Tab by kernel_rfl) ▸ hd
  unfold Wok Lib.TabIs
  rw [hvar, ← Lib.cells_of_tab Tryd.underlying118 Tryd.underlying111 (by kernel_rfl) (by kernel_rfl) hd']
set_option maxRecDepth 100000 in
theorem out_of {W : World} (h : laidMet Tryd.prog [("math/bits.deBruijn32tab", Rows.laid_math_bits_deBruijn32tab), ("math/bits.deBruijn64tab", Rows.laid_math_bits_deBruijn64tab), ("internal/strconv.uint64pow10", Rows.laid_internal_strconv_uint64pow10), ("decanter/meter.ErrOut", Rows.laid_decanter_meter_ErrOut)] W) : ∃ b, W.cell? ⟨0, 0, none⟩ = some (.iface 127 (.pointer (some b))) := by
  obtain ⟨ps, ⟨g0, t0, cs0, f0, p0, q0, _, _, _, _, ⟨g1, t1, cs1, f1, p1, q1, _, _, _, _, ⟨g2, t2, cs2, f2, p2, q2, _, _, _, _, ⟨g3, t3, cs3, f3, p3, q3, hg, ht, hv, hd, _, e3⟩, e2⟩, e1⟩, e0⟩, _, hrows⟩ := h
  obtain rfl := Option.some.inj (gOut.symm.trans hg)
  obtain rfl := Option.some.inj (tOut.symm.trans ht)
  obtain ⟨l3⟩ := cs3
  have hin : ∀ x, x ∈ MemPlace.row ⟨0, 0, none⟩ (Array.mk l3).size → x ∈ ps := fun x hx => by
    rw [e0, e1, e2, e3]
    exact List.mem_append_right _ (List.mem_append_right _ (List.mem_append_right _ (List.mem_append_left _ (List.mem_append_left _ hx))))
  have ok0 : ∀ u v, l3 = [.iface u v] → Value.okWide Tryd.prog W .any 0 u v := fun u v e => by
    subst e
    exact (hrows 0 0 (hin _ (by simp [MemPlace.row]))).2 u v (by simpa using World.var?_cell gOut hv 0)
  obtain ⟨a0, s0, rfl, hc0, hs0, hz0, rfl⟩ := errorString_of_trod Tryd.underlying54 row127 Tryd.underlying127 Tryd.underlying146 rfl rfl Tryd.underlying9 cells146 cells9 hd ok0
  exact ⟨a0, by simpa using World.var?_cell gOut hv 0⟩
theorem ety_of {W : World} (h : handlesMet Tryd.prog [("errors.errorType", Rows.laid_errors_errorType)] W) : W.cell? ⟨2, 0, none⟩ = some (.iface 94 (.agg #[.pointer (some ⟨6, 54, none⟩)])) := by
  obtain ⟨name, u, ty, e1, e2, e3, e4, e5⟩ := h _ (List.mem_singleton.2 rfl)
  have en : name = [101, 114, 114, 111, 114] := (Option.some.inj e1).symm
  subst en
  obtain rfl := Option.some.inj (rt.symm.trans e2)
  have hm : ty ∈ (List.range Tryd.prog.types.size).filter fun t => Tryd.prog.rowNamed t [101, 114, 114, 111, 114] := List.mem_filter.2 ⟨List.mem_range.2 e3, e4⟩
  rw [oneRow] at hm
  obtain rfl := List.mem_singleton.1 hm
  have hh : typeHandle Tryd.prog 54 = .pointer (some ⟨6, 54, none⟩) := by kernel_rfl
  rw [hh] at e5
  simpa using World.var?_cell gEty e5 0
theorem PW_of_laid {W : World} (h : laidMetH Tryd.prog Rows.meterPaysRow.laid W) : PaysWalk.PW W :=
  ⟨pow_of (two h).1, out_of (two h).1, ety_of (two h).2⟩
theorem dec (x : Int) (h : Shorts.I64 x) : ∃ k, decanterref01_Decimal.f k x = some (Shorts.tx x) := ⟨100, Shorts.dec_all x h⟩
end Go.Proofs.YtfkgklbaafbbiaaDoor.PaysWok
