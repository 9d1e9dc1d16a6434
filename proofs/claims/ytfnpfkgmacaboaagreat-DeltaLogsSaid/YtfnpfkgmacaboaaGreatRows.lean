/-
  NARROWER THAN 'FOR EVERY INPUT', by the rows' own cells (each row's printed sentence says how): DeltaLogs: loops · DeltaEffective: loops · DeltaNext: loops · DeltaSigns: loops · DeltaPurged: loops · DeltaPast: loops.
  DERIVED. THE GIVEN ROWS OF THIS SEAT. 6 by the template 'for every input the law returns true; each argument reads behind the call as it read before'; 0 by the template 'total and deterministic' (their statements: YtfnpfkgmacaboaaGreatTotals.lean).
  GIVEN WITH THE SEED: the statements are not yours to turn. If you find one false, say at which input.
  Laid BY PROGRAM, IN A SANDBOX (cutbox-rows.mjs): the forced cells as the released guide's own fill.sh prints them over the translation 462bd4ea299ec3a9… (all of the seat's roots in one cut). By AI agents, Wed Nov 11 2026. No macro, syntax, notation, axiom, sorry.
-/
import Derived.Test.YtfnpfkgmacaboaaGreatChecked
import GoSem.Claim
import GoSem.ClaimJoined
import GoSem.ClaimMapViews
import Derived.JoinedTies
import Derived.KernelRfl
namespace Go.Proofs.YtfnpfkgmacaboaaGreat
/- THE CELL 'sum', in the pinned program and in every row, IS THE sha256 OF THE DUMP (.gsa) THAT YtfnpfkgmacaboaaGreatProg.lean LOADS. Nothing in Lean hashes anything: it is a label: what it is worth is what the hold of that sum in a sandbox is worth. -/
noncomputable def Tryz.pinned : Pinned := { name := "ytfnpfkgmacaboaagreat", sum := "462bd4ea299ec3a959966df8a0e49d188831b91c23ed2187be5a98905eee768e", checked := Tryz.checked }
namespace Rows
def none {H : Type} : Left H := { results := [], args := [] }

/-- 'asoflaw20.DeltaLogs': WHATEVER THE INPUT: true; the input reads as it did. -/
def deltaLogsSpec : ChangeSpec := { name := "deltaLogs", fn := fun _ => fun
  | [d1, d2] => { results := [.lit (.bool true)], args := [d1, d2] }
  | _ => none }
def deltaLogsRow : OpenClaim := { program := "ytfnpfkgmacaboaagreat", sum := "462bd4ea299ec3a959966df8a0e49d188831b91c23ed2187be5a98905eee768e", func := "asof/asoflaw20.DeltaLogs", spec := "deltaLogs", inPlace := ["internal/bytealg.abigen_runtime_cmpstring"], unfollowed := true, recurses := true, loops := true, plainKeys := false, apart := false }
def DeltaLogsSaid : Prop := deltaLogsRow.holds Tryz.pinned (OpenSpec.ofChange deltaLogsSpec)

/-- ITS FALSE NEIGHBOUR: 'it returns false'. Refute it at one input. -/
def deltaLogsWrong : ChangeSpec := { name := "deltaLogs", fn := fun _ => fun
  | [d1, d2] => { results := [.lit (.bool false)], args := [d1, d2] }
  | _ => none }
def DeltaLogsWrongFalsely : Prop := deltaLogsRow.holds Tryz.pinned (OpenSpec.ofChange deltaLogsWrong)

/-- 'asoflaw20.DeltaEffective': WHATEVER THE INPUT: true; the input reads as it did. -/
def deltaEffectiveSpec : ChangeSpec := { name := "deltaEffective", fn := fun _ => fun
  | [d1, d2] => { results := [.lit (.bool true)], args := [d1, d2] }
  | _ => none }
def deltaEffectiveRow : OpenClaim := { program := "ytfnpfkgmacaboaagreat", sum := "462bd4ea299ec3a959966df8a0e49d188831b91c23ed2187be5a98905eee768e", func := "asof/asoflaw20.DeltaEffective", spec := "deltaEffective", inPlace := ["internal/bytealg.abigen_runtime_cmpstring"], unfollowed := true, recurses := true, loops := true, plainKeys := false, apart := false }
def DeltaEffectiveSaid : Prop := deltaEffectiveRow.holds Tryz.pinned (OpenSpec.ofChange deltaEffectiveSpec)

/-- ITS FALSE NEIGHBOUR: 'it returns false'. Refute it at one input. -/
def deltaEffectiveWrong : ChangeSpec := { name := "deltaEffective", fn := fun _ => fun
  | [d1, d2] => { results := [.lit (.bool false)], args := [d1, d2] }
  | _ => none }
def DeltaEffectiveWrongFalsely : Prop := deltaEffectiveRow.holds Tryz.pinned (OpenSpec.ofChange deltaEffectiveWrong)

/-- 'asoflaw20.DeltaNext': WHATEVER THE INPUT: true; the input reads as it did. -/
def deltaNextSpec : ChangeSpec := { name := "deltaNext", fn := fun _ => fun
  | [d1, d2, d3] => { results := [.lit (.bool true)], args := [d1, d2, d3] }
  | _ => none }
def deltaNextRow : OpenClaim := { program := "ytfnpfkgmacaboaagreat", sum := "462bd4ea299ec3a959966df8a0e49d188831b91c23ed2187be5a98905eee768e", func := "asof/asoflaw20.DeltaNext", spec := "deltaNext", inPlace := ["internal/bytealg.abigen_runtime_cmpstring"], unfollowed := true, recurses := true, loops := true, plainKeys := false, apart := false }
def DeltaNextSaid : Prop := deltaNextRow.holds Tryz.pinned (OpenSpec.ofChange deltaNextSpec)

/-- ITS FALSE NEIGHBOUR: 'it returns false'. Refute it at one input. -/
def deltaNextWrong : ChangeSpec := { name := "deltaNext", fn := fun _ => fun
  | [d1, d2, d3] => { results := [.lit (.bool false)], args := [d1, d2, d3] }
  | _ => none }
def DeltaNextWrongFalsely : Prop := deltaNextRow.holds Tryz.pinned (OpenSpec.ofChange deltaNextWrong)

/-- 'asoflaw20.DeltaSigns': WHATEVER THE INPUT: true; the input reads as it did. -/
def deltaSignsSpec : ChangeSpec := { name := "deltaSigns", fn := fun _ => fun
  | [d1, d2] => { results := [.lit (.bool true)], args := [d1, d2] }
  | _ => none }
def deltaSignsRow : OpenClaim := { program := "ytfnpfkgmacaboaagreat", sum := "462bd4ea299ec3a959966df8a0e49d188831b91c23ed2187be5a98905eee768e", func := "asof/asoflaw20.DeltaSigns", spec := "deltaSigns", inPlace := ["internal/bytealg.abigen_runtime_cmpstring"], unfollowed := true, recurses := true, loops := true, plainKeys := false, apart := false }
def DeltaSignsSaid : Prop := deltaSignsRow.holds Tryz.pinned (OpenSpec.ofChange deltaSignsSpec)

/-- ITS FALSE NEIGHBOUR: 'it returns false'. Refute it at one input. -/
def deltaSignsWrong : ChangeSpec := { name := "deltaSigns", fn := fun _ => fun
  | [d1, d2] => { results := [.lit (.bool false)], args := [d1, d2] }
  | _ => none }
def DeltaSignsWrongFalsely : Prop := deltaSignsRow.holds Tryz.pinned (OpenSpec.ofChange deltaSignsWrong)

/-- 'asoflaw20.DeltaPurged': WHATEVER THE INPUT: true; the input reads as it did. -/
def deltaPurgedSpec : ChangeSpec := { name := "deltaPurged", fn := fun _ => fun
  | [d1, d2, d3] => { results := [.lit (.bool true)], args := [d1, d2, d3] }
  | _ => none }
def deltaPurgedRow : OpenClaim := { program := "ytfnpfkgmacaboaagreat", sum := "462bd4ea299ec3a959966df8a0e49d188831b91c23ed2187be5a98905eee768e", func := "asof/asoflaw20.DeltaPurged", spec := "deltaPurged", inPlace := ["internal/bytealg.abigen_runtime_cmpstring"], unfollowed := true, recurses := true, loops := true, plainKeys := false, apart := false }
def DeltaPurgedSaid : Prop := deltaPurgedRow.holds Tryz.pinned (OpenSpec.ofChange deltaPurgedSpec)

/-- ITS FALSE NEIGHBOUR: 'it returns false'. Refute it at one input. -/
def deltaPurgedWrong : ChangeSpec := { name := "deltaPurged", fn := fun _ => fun
  | [d1, d2, d3] => { results := [.lit (.bool false)], args := [d1, d2, d3] }
  | _ => none }
def DeltaPurgedWrongFalsely : Prop := deltaPurgedRow.holds Tryz.pinned (OpenSpec.ofChange deltaPurgedWrong)

/-- 'asoflaw20.DeltaPast': WHATEVER THE INPUT: true; the input reads as it did. -/
def deltaPastSpec : ChangeSpec := { name := "deltaPast", fn := fun _ => fun
  | [d1, d2] => { results := [.lit (.bool true)], args := [d1, d2] }
  | _ => none }
def deltaPastRow : OpenClaim := { program := "ytfnpfkgmacaboaagreat", sum := "462bd4ea299ec3a959966df8a0e49d188831b91c23ed2187be5a98905eee768e", func := "asof/asoflaw20.DeltaPast", spec := "deltaPast", inPlace := ["internal/bytealg.abigen_runtime_cmpstring"], unfollowed := true, recurses := true, loops := true, plainKeys := false, apart := false }
def DeltaPastSaid : Prop := deltaPastRow.holds Tryz.pinned (OpenSpec.ofChange deltaPastSpec)

/-- ITS FALSE NEIGHBOUR: 'it returns false'. Refute it at one input. -/
def deltaPastWrong : ChangeSpec := { name := "deltaPast", fn := fun _ => fun
  | [d1, d2] => { results := [.lit (.bool false)], args := [d1, d2] }
  | _ => none }
def DeltaPastWrongFalsely : Prop := deltaPastRow.holds Tryz.pinned (OpenSpec.ofChange deltaPastWrong)

/- THE SECOND FORM. 'bulk': how many values and letters a reading holds, each counted each time it is reached (what is shared counts as often as it is met; a slice's spare places count too). A statement '..UptoSaid' is the law's where the arguments, and the package variables that the reading takes, are together of bulk at most 1048576: NARROWER than '..Said'. Prove '..Said' where nothing that the law and all that it calls make is longer than what came in: it says more and counts as full. Else prove '..UptoSaid'. A law counts once. -/
mutual
def uptoBulk {H : Type} : DataW H → Nat
  | .lit (.string bytes) => bytes.length + 1
  | .lit _ => 1
  | .nil => 1
  | .ptr d => uptoBulk d + 1
  | .slice elems spare => uptoBulkAll elems + uptoBulkAll spare + 1
  | .agg parts => uptoBulkAll parts + 1
  | .iface _ d => uptoBulk d + 1
  | .map entries => uptoBulkEntries entries + 1
  | .held _ => 1
def uptoBulkAll {H : Type} : List (DataW H) → Nat
  | [] => 0
  | d :: r => uptoBulk d + uptoBulkAll r
def uptoBulkEntries {H : Type} : List (Lit × DataW H) → Nat
  | [] => 0
  | x :: r => uptoBulkEntry x + uptoBulkEntries r
def uptoBulkEntry {H : Type} : Lit × DataW H → Nat
  | (.string bytes, d) => bytes.length + uptoBulk d + 1
  | (_, d) => uptoBulk d + 1
 end
def uptoSmall : (H : Type) → List (DataW H) → Bool := fun _ ds => decide (uptoBulkAll ds ≤ 1048576)
def OpenSpec.upto (s : _root_.Go.ChangeSpec) : _root_.Go.OpenSpec := { _root_.Go.OpenSpec.ofChange s with cond := some uptoSmall }

/-- 'asoflaw20.DeltaLogs', WHERE WHAT IT READS IS OF BULK AT MOST 1048576: true; the input reads as it did. -/
def deltaLogsUptoRow : OpenClaim := { program := "ytfnpfkgmacaboaagreat", sum := "462bd4ea299ec3a959966df8a0e49d188831b91c23ed2187be5a98905eee768e", func := "asof/asoflaw20.DeltaLogs", spec := "deltaLogs", inPlace := ["internal/bytealg.abigen_runtime_cmpstring"], unfollowed := true, recurses := true, loops := true, plainKeys := false, apart := false, narrowed := true }
def DeltaLogsUptoSaid : Prop := deltaLogsUptoRow.holds Tryz.pinned (OpenSpec.upto deltaLogsSpec)

/-- 'asoflaw20.DeltaEffective', WHERE WHAT IT READS IS OF BULK AT MOST 1048576: true; the input reads as it did. -/
def deltaEffectiveUptoRow : OpenClaim := { program := "ytfnpfkgmacaboaagreat", sum := "462bd4ea299ec3a959966df8a0e49d188831b91c23ed2187be5a98905eee768e", func := "asof/asoflaw20.DeltaEffective", spec := "deltaEffective", inPlace := ["internal/bytealg.abigen_runtime_cmpstring"], unfollowed := true, recurses := true, loops := true, plainKeys := false, apart := false, narrowed := true }
def DeltaEffectiveUptoSaid : Prop := deltaEffectiveUptoRow.holds Tryz.pinned (OpenSpec.upto deltaEffectiveSpec)

/-- 'asoflaw20.DeltaNext', WHERE WHAT IT READS IS OF BULK AT MOST 1048576: true; the input reads as it did. -/
def deltaNextUptoRow : OpenClaim := { program := "ytfnpfkgmacaboaagreat", sum := "462bd4ea299ec3a959966df8a0e49d188831b91c23ed2187be5a98905eee768e", func := "asof/asoflaw20.DeltaNext", spec := "deltaNext", inPlace := ["internal/bytealg.abigen_runtime_cmpstring"], unfollowed := true, recurses := true, loops := true, plainKeys := false, apart := false, narrowed := true }
def DeltaNextUptoSaid : Prop := deltaNextUptoRow.holds Tryz.pinned (OpenSpec.upto deltaNextSpec)

/-- 'asoflaw20.DeltaSigns', WHERE WHAT IT READS IS OF BULK AT MOST 1048576: true; the input reads as it did. -/
def deltaSignsUptoRow : OpenClaim := { program := "ytfnpfkgmacaboaagreat", sum := "462bd4ea299ec3a959966df8a0e49d188831b91c23ed2187be5a98905eee768e", func := "asof/asoflaw20.DeltaSigns", spec := "deltaSigns", inPlace := ["internal/bytealg.abigen_runtime_cmpstring"], unfollowed := true, recurses := true, loops := true, plainKeys := false, apart := false, narrowed := true }
def DeltaSignsUptoSaid : Prop := deltaSignsUptoRow.holds Tryz.pinned (OpenSpec.upto deltaSignsSpec)

/-- 'asoflaw20.DeltaPurged', WHERE WHAT IT READS IS OF BULK AT MOST 1048576: true; the input reads as it did. -/
def deltaPurgedUptoRow : OpenClaim := { program := "ytfnpfkgmacaboaagreat", sum := "462bd4ea299ec3a959966df8a0e49d188831b91c23ed2187be5a98905eee768e", func := "asof/asoflaw20.DeltaPurged", spec := "deltaPurged", inPlace := ["internal/bytealg.abigen_runtime_cmpstring"], unfollowed := true, recurses := true, loops := true, plainKeys := false, apart := false, narrowed := true }
def DeltaPurgedUptoSaid : Prop := deltaPurgedUptoRow.holds Tryz.pinned (OpenSpec.upto deltaPurgedSpec)

/-- 'asoflaw20.DeltaPast', WHERE WHAT IT READS IS OF BULK AT MOST 1048576: true; the input reads as it did. -/
def deltaPastUptoRow : OpenClaim := { program := "ytfnpfkgmacaboaagreat", sum := "462bd4ea299ec3a959966df8a0e49d188831b91c23ed2187be5a98905eee768e", func := "asof/asoflaw20.DeltaPast", spec := "deltaPast", inPlace := ["internal/bytealg.abigen_runtime_cmpstring"], unfollowed := true, recurses := true, loops := true, plainKeys := false, apart := false, narrowed := true }
def DeltaPastUptoSaid : Prop := deltaPastUptoRow.holds Tryz.pinned (OpenSpec.upto deltaPastSpec)

end Rows
end Go.Proofs.YtfnpfkgmacaboaaGreat
