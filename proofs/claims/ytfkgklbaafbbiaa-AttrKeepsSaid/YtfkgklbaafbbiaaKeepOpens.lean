import Derived.Test.YtfkgklbaafbbiaaOpens
import Derived.Test.YtfkgklbaafbbiaaPAKeepx0
import Derived.ChangeOld
namespace Go.Proofs.Ytfkgklbaafbbiaa.KeepOpens
open Go.ChangeShapes Go.WideShapes Go.RowKit Go.Proofs.YtfkgklbaafbbiaaW.Opens Go.Proofs.Ytfkgklbaafbbiaa.PAKeep Go.Proofs.YtfkgklbaafbbiaaW.PrintWords
variable {H : Type} {enc : TypeId × Value → H} {W : World} {base : Nat} {v : Value} {d : DataW H} {p : List MemPlace}
theorem open_attr {held : Bool} {spare : Nat → Bool} {b : Nat} {n : Nat} {cs : List Value} {x : DataW H × List MemPlace} (h : DataW.trod enc Try.prog W b spare held n 38 cs = some x) : ∃ a, k38.K W a cs ∧ a.f0.size ≤ maxLen := by
  obtain ⟨a, b, rfl, ha, _⟩ := open_two Try.underlying38 (by kernel_rfl) ⟨rfl, rfl⟩ ⟨rfl, rfl⟩ Try.underlying9 Try.underlying9 (by kernel_rfl) (by kernel_rfl) h
  exact ⟨⟨a, b⟩, k38_mk W ⟨a, b⟩, ha⟩
theorem open_list {A : Option Addr} {len cap : Nat} (h : DataW.Trod enc Try.prog W 0 (fun _ => true) true 33 (.slice A len cap) d p) : ∃ l : List S38, Kd.C k38 W A l.length l ∧ len = l.length ∧ l.length ≤ cap ∧ ∀ x ∈ l, x.f0.size ≤ maxLen := by
  obtain ⟨xs, hC, hl, hc, -, hg⟩ := open_C k38 (fun x => x.f0.size ≤ maxLen) Try.underlying33 (by kernel_rfl) (fun n cs x h => open_attr h) h
  subst hl
  exact ⟨xs, hC, rfl, hc, hg⟩
end Go.Proofs.Ytfkgklbaafbbiaa.KeepOpens
