import Derived.Test.YtfkgklbaafbbiaaOpens
import Derived.Test.YtfkgklbaafbbiaaPAGetsx0
import Derived.ChangeOld
namespace Go.Proofs.Ytfkgklbaafbbiaa.AttrOpens
open Go.ChangeShapes Go.WideShapes Go.RowKit Go.Proofs.YtfkgklbaafbbiaaW.Opens Go.Proofs.Ytfkgklbaafbbiaa.PAGets Go.Proofs.YtfkgklbaafbbiaaW.PrintWords
variable {H : Type} {enc : TypeId × Value → H} {W : World} {base : Nat} {v : Value} {d : DataW H} {p : List MemPlace}
theorem open_attr {held : Bool} {spare : Nat → Bool} {b : Nat} {n : Nat} {cs : List Value} {x : DataW H × List MemPlace} (h : DataW.trod enc Try.prog W b spare held n 38 cs = some x) : ∃ a, k38.K W a cs ∧ True := by
  obtain ⟨a, b, rfl, _⟩ := open_two Try.underlying38 (by kernel_rfl) ⟨rfl, rfl⟩ ⟨rfl, rfl⟩ Try.underlying9 Try.underlying9 (by kernel_rfl) (by kernel_rfl) h
  exact ⟨⟨a, b⟩, k38_mk W ⟨a, b⟩, trivial⟩
theorem open_list {A : Option Addr} {len cap : Nat} (h : DataW.Trod enc Try.prog W 0 (fun _ => true) true 33 (.slice A len cap) d p) : ∃ l : List S38, Kd.C k38 W A l.length l ∧ len = l.length ∧ l.length ≤ cap := by
  obtain ⟨xs, hC, hl, hc, -, -⟩ := open_C k38 (fun _ => True) Try.underlying33 (by kernel_rfl) (fun n cs x h => open_attr h) h
  subst hl
  exact ⟨xs, hC, rfl, hc⟩
theorem open_one (hval : Value.okWide Try.prog W .any base 38 v) (h : DataW.Trod enc Try.prog W 0 (fun _ => true) true 38 v d p) : ∃ x0 x1 : ByteArray, v = .agg #[.string x0, .string x1] := by
  obtain ⟨cs, rfl, hsz⟩ := okWide_struct Try.underlying38 hval
  obtain ⟨fuel, hf⟩ := h
  obtain ⟨a, b, he, _⟩ := open_two Try.underlying38 (by kernel_rfl) ⟨rfl, rfl⟩ ⟨rfl, rfl⟩ Try.underlying9 Try.underlying9 (by kernel_rfl) (by kernel_rfl) hf
  obtain ⟨l⟩ := cs
  have hl : l = [.string a, .string b] := he
  subst hl
  exact ⟨a, b, rfl⟩
end Go.Proofs.Ytfkgklbaafbbiaa.AttrOpens
