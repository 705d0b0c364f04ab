/-
  The structs that the laws of the limits take, opened: what their cells hold.
-/
import Derived.Test.YtfkgklbaafbbiaaDoorPCapsx
import Derived.Test.YtfkgklbaafbbiaaDoorOpens
namespace Go.Proofs.YtfkgklbaafbbiaaDoor.CapsOpens
open Go.ChangeShapes Go.WideShapes Go.RowKit Go.Proofs.YtfkgklbaafbbiaaDoorW.PrintWords Go.Proofs.YtfkgklbaafbbiaaDoorW.Opens Go.Proofs.YtfkgklbaafbbiaaDoor.PCaps
section
variable {H : Type} {enc : TypeId × Value → H} {W : World} {base : Nat} {v : Value} {d : DataW H} {p : List MemPlace}
theorem c3 : Tryd.prog.cellsOf 3 = 1 := by kernel_rfl
theorem c0 : Tryd.prog.cellsOf 0 = 1 := by kernel_rfl
set_option maxRecDepth 100000 in
theorem open_limits (hval : Value.okWide Tryd.prog W .any base 23 v) (h : DataW.Trod enc Tryd.prog W 0 (fun _ => true) true 23 v d p) : ∃ x0 x1 x2 x3 x4 : Int, v = .agg #[.int .i64 x0, .int .i64 x1, .int .i64 x2, .int .i64 x3, .int .i64 x4] := by
  obtain ⟨cs, rfl, hsz⟩ := okWide_struct Tryd.underlying23 hval
  rw [show Tryd.prog.cellsOf 23 = 5 by kernel_rfl] at hsz
  obtain ⟨fuel, hf⟩ := h
  obtain ⟨xs, n, _, _, _, hlen, hfl⟩ := DataW.trod_struct Tryd.underlying23 hf
  obtain ⟨l⟩ := cs
  match l, hsz, xs, hlen with
  | [v0, v1, v2, v3, v4], _, [y0, y1, y2, y3, y4], _ =>
    obtain ⟨x0, rfl, _⟩ := cell_int (i := 0) (y := y0) Tryd.underlying3 c3 rfl (hfl 0 _ rfl)
    obtain ⟨x1, rfl, _⟩ := cell_int (i := 1) (y := y1) Tryd.underlying3 c3 rfl (hfl 1 _ rfl)
    obtain ⟨x2, rfl, _⟩ := cell_int (i := 2) (y := y2) Tryd.underlying3 c3 rfl (hfl 2 _ rfl)
    obtain ⟨x3, rfl, _⟩ := cell_int (i := 3) (y := y3) Tryd.underlying3 c3 rfl (hfl 3 _ rfl)
    obtain ⟨x4, rfl, _⟩ := cell_int (i := 4) (y := y4) Tryd.underlying3 c3 rfl (hfl 4 _ rfl)
    exact ⟨x0, x1, x2, x3, x4, rfl⟩
set_option maxRecDepth 100000 in
theorem open_state (hval : Value.okWide Tryd.prog W .any base 25 v) (h : DataW.Trod enc Tryd.prog W 0 (fun _ => true) true 25 v d p) : ∃ x0 x1 x2 : Int, v = .agg #[.int .i64 x0, .int .i64 x1, .int .i64 x2] := by
  obtain ⟨cs, rfl, hsz⟩ := okWide_struct Tryd.underlying25 hval
  rw [show Tryd.prog.cellsOf 25 = 3 by kernel_rfl] at hsz
  obtain ⟨fuel, hf⟩ := h
  obtain ⟨xs, n, _, _, _, hlen, hfl⟩ := DataW.trod_struct Tryd.underlying25 hf
  obtain ⟨l⟩ := cs
  match l, hsz, xs, hlen with
  | [v0, v1, v2], _, [y0, y1, y2], _ =>
    obtain ⟨x0, rfl, _⟩ := cell_int (i := 0) (y := y0) Tryd.underlying3 c3 rfl (hfl 0 _ rfl)
    obtain ⟨x1, rfl, _⟩ := cell_int (i := 1) (y := y1) Tryd.underlying3 c3 rfl (hfl 1 _ rfl)
    obtain ⟨x2, rfl, _⟩ := cell_int (i := 2) (y := y2) Tryd.underlying3 c3 rfl (hfl 2 _ rfl)
    exact ⟨x0, x1, x2, rfl⟩
set_option maxRecDepth 100000 in
theorem open_attr {held : Bool} {spare : Nat → Bool} {b : Nat} {n : Nat} {cs : List Value} {x : DataW H × List MemPlace} (h : DataW.trod enc Tryd.prog W b spare held n 91 cs = some x) : ∃ a, k91.K W a cs ∧ True := by
  obtain ⟨a, b, rfl, _⟩ := open_two Tryd.underlying91 (by kernel_rfl) ⟨rfl, rfl⟩ ⟨rfl, rfl⟩ Tryd.underlying9 Tryd.underlying9 (by kernel_rfl) (by kernel_rfl) h
  exact ⟨⟨a, b⟩, k91_mk W ⟨a, b⟩, trivial⟩
set_option maxRecDepth 100000 in
theorem open_token (hval : Value.okWide Tryd.prog W .any base 28 v) (h : DataW.Trod enc Tryd.prog W 0 (fun _ => true) true 28 v d p) : ∃ (kd fr th : Int) (nm tx : ByteArray) (A : Option Addr) (l : List S91) (c : Nat), v = .agg #[.int .i64 kd, .string nm, .slice A l.length c, .string tx, .int .i64 fr, .int .i64 th] ∧ Kd.C k91 W A l.length l ∧ l.length ≤ c := by
  obtain ⟨cs, rfl, hsz⟩ := okWide_struct Tryd.underlying28 hval
  rw [show Tryd.prog.cellsOf 28 = 6 by kernel_rfl] at hsz
  obtain ⟨fuel, hf⟩ := h
  obtain ⟨xs, n, _, _, _, hlen, hfl⟩ := DataW.trod_struct Tryd.underlying28 hf
  obtain ⟨l⟩ := cs
  match l, hsz, xs, hlen with
  | [v0, v1, v2, v3, v4, v5], _, [y0, y1, y2, y3, y4, y5], _ =>
    obtain ⟨x0, rfl, _⟩ := cell_int (i := 0) (y := y0) Tryd.underlying3 c3 rfl (hfl 0 _ rfl)
    obtain ⟨x1, rfl, _⟩ := cell_string (i := 1) (y := y1) Tryd.underlying9 (by kernel_rfl) rfl (hfl 1 _ rfl)
    obtain ⟨A, len, c, rfl, hs⟩ := cell_slice (i := 2) (y := y2) Tryd.underlying26 (by kernel_rfl) rfl (hfl 2 _ rfl)
    obtain ⟨x3, rfl, _⟩ := cell_string (i := 3) (y := y3) Tryd.underlying9 (by kernel_rfl) rfl (hfl 3 _ rfl)
    obtain ⟨x4, rfl, _⟩ := cell_int (i := 4) (y := y4) Tryd.underlying3 c3 rfl (hfl 4 _ rfl)
    obtain ⟨x5, rfl, _⟩ := cell_int (i := 5) (y := y5) Tryd.underlying3 c3 rfl (hfl 5 _ rfl)
    obtain ⟨rows, hC, rfl, hlc, _, _⟩ := open_C k91 (fun _ => True) Tryd.underlying26 (by kernel_rfl) (fun n cs x h => open_attr h) hs
    exact ⟨x0, x4, x5, x1, x3, A, rows, c, rfl, hC, hlc⟩
end
end Go.Proofs.YtfkgklbaafbbiaaDoor.CapsOpens
