/-
  NARROWER THAN 'FOR EVERY INPUT', by the rows' own cells (each row's printed sentence says how): ArenaCounts: loops · ArenaBuilds: loops · ArenaMoves: loops · ArenaSames: loops.
  DERIVED. THE GIVEN ROWS OF THIS SEAT. 9 by the template 'for every input the law returns true; each argument reads behind the call as it read before'; 0 by the template 'total and deterministic' (their statements: YtcdkcnegejhnhaaTotals.lean).
  GIVEN WITH THE SEED: the statements are not yours to turn. If you find one false, say at which input.
  Laid BY PROGRAM, IN A SANDBOX (cutbox-rows.mjs): the forced cells as the released guide's own fill.sh prints them over the translation 7f6cf67538e28cec… (all of the seat's roots in one cut). By AI agents, Wed Nov 11 2026. No macro, syntax, notation, axiom, sorry.
-/
import Derived.Test.YtcdkcnegejhnhaaChecked
import GoSem.Claim
import GoSem.ClaimJoined
import GoSem.ClaimMapViews
import Derived.JoinedTies
import Derived.KernelRfl
namespace Go.Proofs.Ytcdkcnegejhnhaa
/- THE CELL 'sum', in the pinned program and in every row, IS THE sha256 OF THE DUMP (.gsa) THAT YtcdkcnegejhnhaaProg.lean LOADS. Nothing in Lean hashes anything: it is a label: what it is worth is what the hold of that sum in a sandbox is worth. -/
noncomputable def Try.pinned : Pinned := { name := "ytcdkcnegejhnhaa", sum := "7f6cf67538e28cec7fda7fbfee5e1c481e6f40a6afe2f40155ff64708bcbd410", checked := Try.checked }
namespace Rows
def none {H : Type} : Left H := { results := [], args := [] }

/-- 'decanterlaw12.ArenaCounts': WHATEVER THE INPUT: true; the input reads as it did. -/
def arenaCountsSpec : ChangeSpec := { name := "arenaCounts", fn := fun _ => fun
  | [d1, d2] => { results := [.lit (.bool true)], args := [d1, d2] }
  | _ => none }
def arenaCountsRow : OpenClaim := { program := "ytcdkcnegejhnhaa", sum := "7f6cf67538e28cec7fda7fbfee5e1c481e6f40a6afe2f40155ff64708bcbd410", func := "decanter/decanterlaw12.ArenaCounts", spec := "arenaCounts", unfollowed := true, recurses := true, loops := true, apart := false }
def ArenaCountsSaid : Prop := arenaCountsRow.holds Try.pinned (OpenSpec.ofChange arenaCountsSpec)

/-- ITS FALSE NEIGHBOUR: 'it returns false'. Refute it at one input. -/
def arenaCountsWrong : ChangeSpec := { name := "arenaCounts", fn := fun _ => fun
  | [d1, d2] => { results := [.lit (.bool false)], args := [d1, d2] }
  | _ => none }
def ArenaCountsWrongFalsely : Prop := arenaCountsRow.holds Try.pinned (OpenSpec.ofChange arenaCountsWrong)

/-- 'decanterlaw12.ArenaBuilds': WHATEVER THE INPUT: true; the input reads as it did. -/
def arenaBuildsSpec : ChangeSpec := { name := "arenaBuilds", fn := fun _ => fun
  | [d] => { results := [.lit (.bool true)], args := [d] }
  | _ => none }
def arenaBuildsRow : OpenClaim := { program := "ytcdkcnegejhnhaa", sum := "7f6cf67538e28cec7fda7fbfee5e1c481e6f40a6afe2f40155ff64708bcbd410", func := "decanter/decanterlaw12.ArenaBuilds", spec := "arenaBuilds", unfollowed := true, recurses := true, loops := true, apart := false }
def ArenaBuildsSaid : Prop := arenaBuildsRow.holds Try.pinned (OpenSpec.ofChange arenaBuildsSpec)

/-- ITS FALSE NEIGHBOUR: 'it returns false'. Refute it at one input. -/
def arenaBuildsWrong : ChangeSpec := { name := "arenaBuilds", fn := fun _ => fun
  | [d] => { results := [.lit (.bool false)], args := [d] }
  | _ => none }
def ArenaBuildsWrongFalsely : Prop := arenaBuildsRow.holds Try.pinned (OpenSpec.ofChange arenaBuildsWrong)

/-- 'decanterlaw12.ArenaMoves': WHATEVER THE INPUT: true; the input reads as it did. -/
def arenaMovesSpec : ChangeSpec := { name := "arenaMoves", fn := fun _ => fun
  | [d1, d2] => { results := [.lit (.bool true)], args := [d1, d2] }
  | _ => none }
def arenaMovesRow : OpenClaim := { program := "ytcdkcnegejhnhaa", sum := "7f6cf67538e28cec7fda7fbfee5e1c481e6f40a6afe2f40155ff64708bcbd410", func := "decanter/decanterlaw12.ArenaMoves", spec := "arenaMoves", unfollowed := true, recurses := true, loops := true, apart := false }
def ArenaMovesSaid : Prop := arenaMovesRow.holds Try.pinned (OpenSpec.ofChange arenaMovesSpec)

/-- ITS FALSE NEIGHBOUR: 'it returns false'. Refute it at one input. -/
def arenaMovesWrong : ChangeSpec := { name := "arenaMoves", fn := fun _ => fun
  | [d1, d2] => { results := [.lit (.bool false)], args := [d1, d2] }
  | _ => none }
def ArenaMovesWrongFalsely : Prop := arenaMovesRow.holds Try.pinned (OpenSpec.ofChange arenaMovesWrong)

/-- 'decanterlaw14.ListAlike': WHATEVER THE INPUT: true; the input reads as it did. -/
def listAlikeSpec : ChangeSpec := { name := "listAlike", fn := fun _ => fun
  | [d1, d2] => { results := [.lit (.bool true)], args := [d1, d2] }
  | _ => none }
def listAlikeRow : OpenClaim := { program := "ytcdkcnegejhnhaa", sum := "7f6cf67538e28cec7fda7fbfee5e1c481e6f40a6afe2f40155ff64708bcbd410", func := "decanter/decanterlaw14.ListAlike", spec := "listAlike", unfollowed := true, recurses := true, apart := false }
def ListAlikeSaid : Prop := listAlikeRow.holds Try.pinned (OpenSpec.ofChange listAlikeSpec)

/-- ITS FALSE NEIGHBOUR: 'it returns false'. Refute it at one input. -/
def listAlikeWrong : ChangeSpec := { name := "listAlike", fn := fun _ => fun
  | [d1, d2] => { results := [.lit (.bool false)], args := [d1, d2] }
  | _ => none }
def ListAlikeWrongFalsely : Prop := listAlikeRow.holds Try.pinned (OpenSpec.ofChange listAlikeWrong)

/-- 'decanterlaw12.ArenaActs': WHATEVER THE INPUT: true; the input reads as it did. -/
def arenaActsSpec : ChangeSpec := { name := "arenaActs", fn := fun _ => fun
  | [d] => { results := [.lit (.bool true)], args := [d] }
  | _ => none }
def arenaActsRow : OpenClaim := { program := "ytcdkcnegejhnhaa", sum := "7f6cf67538e28cec7fda7fbfee5e1c481e6f40a6afe2f40155ff64708bcbd410", func := "decanter/decanterlaw12.ArenaActs", spec := "arenaActs", unfollowed := true, recurses := true, apart := false }
def ArenaActsSaid : Prop := arenaActsRow.holds Try.pinned (OpenSpec.ofChange arenaActsSpec)

/-- ITS FALSE NEIGHBOUR: 'it returns false'. Refute it at one input. -/
def arenaActsWrong : ChangeSpec := { name := "arenaActs", fn := fun _ => fun
  | [d] => { results := [.lit (.bool false)], args := [d] }
  | _ => none }
def ArenaActsWrongFalsely : Prop := arenaActsRow.holds Try.pinned (OpenSpec.ofChange arenaActsWrong)

/-- 'decanterlaw12.ArenaSames': WHATEVER THE INPUT: true; the input reads as it did. -/
def arenaSamesSpec : ChangeSpec := { name := "arenaSames", fn := fun _ => fun
  | [d1, d2] => { results := [.lit (.bool true)], args := [d1, d2] }
  | _ => none }
def arenaSamesRow : OpenClaim := { program := "ytcdkcnegejhnhaa", sum := "7f6cf67538e28cec7fda7fbfee5e1c481e6f40a6afe2f40155ff64708bcbd410", func := "decanter/decanterlaw12.ArenaSames", spec := "arenaSames", unfollowed := true, recurses := true, loops := true, apart := false }
def ArenaSamesSaid : Prop := arenaSamesRow.holds Try.pinned (OpenSpec.ofChange arenaSamesSpec)

/-- ITS FALSE NEIGHBOUR: 'it returns false'. Refute it at one input. -/
def arenaSamesWrong : ChangeSpec := { name := "arenaSames", fn := fun _ => fun
  | [d1, d2] => { results := [.lit (.bool false)], args := [d1, d2] }
  | _ => none }
def ArenaSamesWrongFalsely : Prop := arenaSamesRow.holds Try.pinned (OpenSpec.ofChange arenaSamesWrong)

/-- 'decanterlaw14.ListMarks': WHATEVER THE INPUT: true; the input reads as it did. -/
def listMarksSpec : ChangeSpec := { name := "listMarks", fn := fun _ => fun
  | [d1, d2] => { results := [.lit (.bool true)], args := [d1, d2] }
  | _ => none }
def listMarksRow : OpenClaim := { program := "ytcdkcnegejhnhaa", sum := "7f6cf67538e28cec7fda7fbfee5e1c481e6f40a6afe2f40155ff64708bcbd410", func := "decanter/decanterlaw14.ListMarks", spec := "listMarks", unfollowed := true, recurses := true, apart := false }
def ListMarksSaid : Prop := listMarksRow.holds Try.pinned (OpenSpec.ofChange listMarksSpec)

/-- ITS FALSE NEIGHBOUR: 'it returns false'. Refute it at one input. -/
def listMarksWrong : ChangeSpec := { name := "listMarks", fn := fun _ => fun
  | [d1, d2] => { results := [.lit (.bool false)], args := [d1, d2] }
  | _ => none }
def ListMarksWrongFalsely : Prop := listMarksRow.holds Try.pinned (OpenSpec.ofChange listMarksWrong)

/-- 'decanterlaw14.ListPlaces': WHATEVER THE INPUT: true; the input reads as it did. -/
def listPlacesSpec : ChangeSpec := { name := "listPlaces", fn := fun _ => fun
  | [d1, d2] => { results := [.lit (.bool true)], args := [d1, d2] }
  | _ => none }
def listPlacesRow : OpenClaim := { program := "ytcdkcnegejhnhaa", sum := "7f6cf67538e28cec7fda7fbfee5e1c481e6f40a6afe2f40155ff64708bcbd410", func := "decanter/decanterlaw14.ListPlaces", spec := "listPlaces", inPlace := ["slices.overlaps[int]"], unfollowed := true, recurses := true, apart := false }
def ListPlacesSaid : Prop := listPlacesRow.holds Try.pinned (OpenSpec.ofChange listPlacesSpec)

/-- ITS FALSE NEIGHBOUR: 'it returns false'. Refute it at one input. -/
def listPlacesWrong : ChangeSpec := { name := "listPlaces", fn := fun _ => fun
  | [d1, d2] => { results := [.lit (.bool false)], args := [d1, d2] }
  | _ => none }
def ListPlacesWrongFalsely : Prop := listPlacesRow.holds Try.pinned (OpenSpec.ofChange listPlacesWrong)

/-- 'decanterlaw14.ListActs': WHATEVER THE INPUT: true; the input reads as it did. -/
def listActsSpec : ChangeSpec := { name := "listActs", fn := fun _ => fun
  | [d] => { results := [.lit (.bool true)], args := [d] }
  | _ => none }
def listActsRow : OpenClaim := { program := "ytcdkcnegejhnhaa", sum := "7f6cf67538e28cec7fda7fbfee5e1c481e6f40a6afe2f40155ff64708bcbd410", func := "decanter/decanterlaw14.ListActs", spec := "listActs", inPlace := ["slices.overlaps[int]"], unfollowed := true, recurses := true, apart := false }
def ListActsSaid : Prop := listActsRow.holds Try.pinned (OpenSpec.ofChange listActsSpec)

/-- ITS FALSE NEIGHBOUR: 'it returns false'. Refute it at one input. -/
def listActsWrong : ChangeSpec := { name := "listActs", fn := fun _ => fun
  | [d] => { results := [.lit (.bool false)], args := [d] }
  | _ => none }
def ListActsWrongFalsely : Prop := listActsRow.holds Try.pinned (OpenSpec.ofChange listActsWrong)

/- THE SECOND FORM. 'bulk': how many values and letters a reading holds, each counted each time it is reached (what is shared counts as often as it is met; a slice's spare places count too). A statement '..UptoSaid' is the law's where the arguments, and the package variables that the reading takes, are together of bulk at most 1048576: NARROWER than '..Said'. Prove '..Said' where nothing that the law and all that it calls make is longer than what came in: it says more and counts as full. Else prove '..UptoSaid'. A law counts once. -/
mutual
def uptoBulk {H : Type} : DataW H → Nat
  | .lit (.string bytes) => bytes.length + 1
  | .lit _ => 1
  | .nil => 1
  | .ptr d => uptoBulk d + 1
  | .slice elems spare => uptoBulkAll elems + uptoBulkAll spare + 1
  | .agg parts => uptoBulkAll parts + 1
  | .iface _ d => uptoBulk d + 1
  | .map entries => uptoBulkEntries entries + 1
  | .held _ => 1
def uptoBulkAll {H : Type} : List (DataW H) → Nat
  | [] => 0
  | d :: r => uptoBulk d + uptoBulkAll r
def uptoBulkEntries {H : Type} : List (Lit × DataW H) → Nat
  | [] => 0
  | x :: r => uptoBulkEntry x + uptoBulkEntries r
def uptoBulkEntry {H : Type} : Lit × DataW H → Nat
  | (.string bytes, d) => bytes.length + uptoBulk d + 1
  | (_, d) => uptoBulk d + 1
 end
def uptoSmall : (H : Type) → List (DataW H) → Bool := fun _ ds => decide (uptoBulkAll ds ≤ 1048576)
def OpenSpec.upto (s : _root_.Go.ChangeSpec) : _root_.Go.OpenSpec := { _root_.Go.OpenSpec.ofChange s with cond := some uptoSmall }

/-- 'decanterlaw12.ArenaCounts', WHERE WHAT IT READS IS OF BULK AT MOST 1048576: true; the input reads as it did. -/
def arenaCountsUptoRow : OpenClaim := { program := "ytcdkcnegejhnhaa", sum := "7f6cf67538e28cec7fda7fbfee5e1c481e6f40a6afe2f40155ff64708bcbd410", func := "decanter/decanterlaw12.ArenaCounts", spec := "arenaCounts", unfollowed := true, recurses := true, loops := true, apart := false, narrowed := true }
def ArenaCountsUptoSaid : Prop := arenaCountsUptoRow.holds Try.pinned (OpenSpec.upto arenaCountsSpec)

/-- 'decanterlaw12.ArenaBuilds', WHERE WHAT IT READS IS OF BULK AT MOST 1048576: true; the input reads as it did. -/
def arenaBuildsUptoRow : OpenClaim := { program := "ytcdkcnegejhnhaa", sum := "7f6cf67538e28cec7fda7fbfee5e1c481e6f40a6afe2f40155ff64708bcbd410", func := "decanter/decanterlaw12.ArenaBuilds", spec := "arenaBuilds", unfollowed := true, recurses := true, loops := true, apart := false, narrowed := true }
def ArenaBuildsUptoSaid : Prop := arenaBuildsUptoRow.holds Try.pinned (OpenSpec.upto arenaBuildsSpec)

/-- 'decanterlaw12.ArenaMoves', WHERE WHAT IT READS IS OF BULK AT MOST 1048576: true; the input reads as it did. -/
def arenaMovesUptoRow : OpenClaim := { program := "ytcdkcnegejhnhaa", sum := "7f6cf67538e28cec7fda7fbfee5e1c481e6f40a6afe2f40155ff64708bcbd410", func := "decanter/decanterlaw12.ArenaMoves", spec := "arenaMoves", unfollowed := true, recurses := true, loops := true, apart := false, narrowed := true }
def ArenaMovesUptoSaid : Prop := arenaMovesUptoRow.holds Try.pinned (OpenSpec.upto arenaMovesSpec)

/-- 'decanterlaw14.ListAlike', WHERE WHAT IT READS IS OF BULK AT MOST 1048576: true; the input reads as it did. -/
def listAlikeUptoRow : OpenClaim := { program := "ytcdkcnegejhnhaa", sum := "7f6cf67538e28cec7fda7fbfee5e1c481e6f40a6afe2f40155ff64708bcbd410", func := "decanter/decanterlaw14.ListAlike", spec := "listAlike", unfollowed := true, recurses := true, apart := false, narrowed := true }
def ListAlikeUptoSaid : Prop := listAlikeUptoRow.holds Try.pinned (OpenSpec.upto listAlikeSpec)

/-- 'decanterlaw12.ArenaActs', WHERE WHAT IT READS IS OF BULK AT MOST 1048576: true; the input reads as it did. -/
def arenaActsUptoRow : OpenClaim := { program := "ytcdkcnegejhnhaa", sum := "7f6cf67538e28cec7fda7fbfee5e1c481e6f40a6afe2f40155ff64708bcbd410", func := "decanter/decanterlaw12.ArenaActs", spec := "arenaActs", unfollowed := true, recurses := true, apart := false, narrowed := true }
def ArenaActsUptoSaid : Prop := arenaActsUptoRow.holds Try.pinned (OpenSpec.upto arenaActsSpec)

/-- 'decanterlaw12.ArenaSames', WHERE WHAT IT READS IS OF BULK AT MOST 1048576: true; the input reads as it did. -/
def arenaSamesUptoRow : OpenClaim := { program := "ytcdkcnegejhnhaa", sum := "7f6cf67538e28cec7fda7fbfee5e1c481e6f40a6afe2f40155ff64708bcbd410", func := "decanter/decanterlaw12.ArenaSames", spec := "arenaSames", unfollowed := true, recurses := true, loops := true, apart := false, narrowed := true }
def ArenaSamesUptoSaid : Prop := arenaSamesUptoRow.holds Try.pinned (OpenSpec.upto arenaSamesSpec)

/-- 'decanterlaw14.ListMarks', WHERE WHAT IT READS IS OF BULK AT MOST 1048576: true; the input reads as it did. -/
def listMarksUptoRow : OpenClaim := { program := "ytcdkcnegejhnhaa", sum := "7f6cf67538e28cec7fda7fbfee5e1c481e6f40a6afe2f40155ff64708bcbd410", func := "decanter/decanterlaw14.ListMarks", spec := "listMarks", unfollowed := true, recurses := true, apart := false, narrowed := true }
def ListMarksUptoSaid : Prop := listMarksUptoRow.holds Try.pinned (OpenSpec.upto listMarksSpec)

/-- 'decanterlaw14.ListPlaces', WHERE WHAT IT READS IS OF BULK AT MOST 1048576: true; the input reads as it did. -/
def listPlacesUptoRow : OpenClaim := { program := "ytcdkcnegejhnhaa", sum := "7f6cf67538e28cec7fda7fbfee5e1c481e6f40a6afe2f40155ff64708bcbd410", func := "decanter/decanterlaw14.ListPlaces", spec := "listPlaces", inPlace := ["slices.overlaps[int]"], unfollowed := true, recurses := true, apart := false, narrowed := true }
def ListPlacesUptoSaid : Prop := listPlacesUptoRow.holds Try.pinned (OpenSpec.upto listPlacesSpec)

/-- 'decanterlaw14.ListActs', WHERE WHAT IT READS IS OF BULK AT MOST 1048576: true; the input reads as it did. -/
def listActsUptoRow : OpenClaim := { program := "ytcdkcnegejhnhaa", sum := "7f6cf67538e28cec7fda7fbfee5e1c481e6f40a6afe2f40155ff64708bcbd410", func := "decanter/decanterlaw14.ListActs", spec := "listActs", inPlace := ["slices.overlaps[int]"], unfollowed := true, recurses := true, apart := false, narrowed := true }
def ListActsUptoSaid : Prop := listActsUptoRow.holds Try.pinned (OpenSpec.upto listActsSpec)

end Rows
end Go.Proofs.Ytcdkcnegejhnhaa
