/-
  No cell of these rows narrows 'for every input' (looked for: loops, veiled, ifaces, maps, wideKeys, modest, calm, conditions, laid).
  DERIVED. THE GIVEN ROWS OF THIS SEAT. 10 by the template 'for every input the law returns true; each argument reads behind the call as it read before'; 0 by the template 'total and deterministic' (their statements: YtjjibddpgjoeeaaTotals.lean).
  GIVEN WITH THE SEED: the statements are not yours to turn. If you find one false, say at which input.
  Laid BY PROGRAM, IN A SANDBOX (cutbox-rows.mjs): the forced cells as the released guide's own fill.sh prints them over the translation c4c1fd5ba729f042… (all of the seat's roots in one cut). By AI agents, Wed Nov 11 2026. No macro, syntax, notation, axiom, sorry.
-/
import Derived.Test.YtjjibddpgjoeeaaChecked
import GoSem.Claim
import GoSem.ClaimJoined
import GoSem.ClaimMapViews
import Derived.JoinedTies
import Derived.KernelRfl
namespace Go.Proofs.Ytjjibddpgjoeeaa
/- THE CELL 'sum', in the pinned program and in every row, IS THE sha256 OF THE DUMP (.gsa) THAT YtjjibddpgjoeeaaProg.lean LOADS. Nothing in Lean hashes anything: it is a label: what it is worth is what the hold of that sum in a sandbox is worth. -/
noncomputable def Try.pinned : Pinned := { name := "ytjjibddpgjoeeaa", sum := "c4c1fd5ba729f04267bf3b052720c8d92a57347722e3623b8cacd67898a514ad", checked := Try.checked }
namespace Rows
def none {H : Type} : Left H := { results := [], args := [] }

/-- 'asoflaw01.ExactMatchesProducts': WHATEVER THE INPUT: true; the input reads as it did. -/
def exactMatchesProductsSpec : ChangeSpec := { name := "exactMatchesProducts", fn := fun _ => fun
  | [d1, d2, d3] => { results := [.lit (.bool true)], args := [d1, d2, d3] }
  | _ => none }
def exactMatchesProductsRow : OpenClaim := { program := "ytjjibddpgjoeeaa", sum := "c4c1fd5ba729f04267bf3b052720c8d92a57347722e3623b8cacd67898a514ad", func := "asof/asoflaw01.ExactMatchesProducts", spec := "exactMatchesProducts", inPlace := ["math/bits.Sub64"], named := ["math/bits.divideError", "math/bits.overflowError"], apart := false }
def ExactMatchesProductsSaid : Prop := exactMatchesProductsRow.holds Try.pinned (OpenSpec.ofChange exactMatchesProductsSpec)

/-- ITS FALSE NEIGHBOUR: 'it returns false'. Refute it at one input. -/
def exactMatchesProductsWrong : ChangeSpec := { name := "exactMatchesProducts", fn := fun _ => fun
  | [d1, d2, d3] => { results := [.lit (.bool false)], args := [d1, d2, d3] }
  | _ => none }
def ExactMatchesProductsWrongFalsely : Prop := exactMatchesProductsRow.holds Try.pinned (OpenSpec.ofChange exactMatchesProductsWrong)

/-- 'asoflaw01.ExactMatchesDivide': WHATEVER THE INPUT: true; the input reads as it did. -/
def exactMatchesDivideSpec : ChangeSpec := { name := "exactMatchesDivide", fn := fun _ => fun
  | [d1, d2] => { results := [.lit (.bool true)], args := [d1, d2] }
  | _ => none }
def exactMatchesDivideRow : OpenClaim := { program := "ytjjibddpgjoeeaa", sum := "c4c1fd5ba729f04267bf3b052720c8d92a57347722e3623b8cacd67898a514ad", func := "asof/asoflaw01.ExactMatchesDivide", spec := "exactMatchesDivide", inPlace := ["math/bits.Sub64"], named := ["math/bits.divideError", "math/bits.overflowError"], apart := false }
def ExactMatchesDivideSaid : Prop := exactMatchesDivideRow.holds Try.pinned (OpenSpec.ofChange exactMatchesDivideSpec)

/-- ITS FALSE NEIGHBOUR: 'it returns false'. Refute it at one input. -/
def exactMatchesDivideWrong : ChangeSpec := { name := "exactMatchesDivide", fn := fun _ => fun
  | [d1, d2] => { results := [.lit (.bool false)], args := [d1, d2] }
  | _ => none }
def ExactMatchesDivideWrongFalsely : Prop := exactMatchesDivideRow.holds Try.pinned (OpenSpec.ofChange exactMatchesDivideWrong)

/-- 'asoflaw01.ExactProducts': WHATEVER THE INPUT: true; the input reads as it did. -/
def exactProductsSpec : ChangeSpec := { name := "exactProducts", fn := fun _ => fun
  | [d1, d2, d3] => { results := [.lit (.bool true)], args := [d1, d2, d3] }
  | _ => none }
def exactProductsRow : OpenClaim := { program := "ytjjibddpgjoeeaa", sum := "c4c1fd5ba729f04267bf3b052720c8d92a57347722e3623b8cacd67898a514ad", func := "asof/asoflaw01.ExactProducts", spec := "exactProducts", inPlace := ["math/bits.Sub64"], named := ["math/bits.divideError", "math/bits.overflowError"], apart := false }
def ExactProductsSaid : Prop := exactProductsRow.holds Try.pinned (OpenSpec.ofChange exactProductsSpec)

/-- ITS FALSE NEIGHBOUR: 'it returns false'. Refute it at one input. -/
def exactProductsWrong : ChangeSpec := { name := "exactProducts", fn := fun _ => fun
  | [d1, d2, d3] => { results := [.lit (.bool false)], args := [d1, d2, d3] }
  | _ => none }
def ExactProductsWrongFalsely : Prop := exactProductsRow.holds Try.pinned (OpenSpec.ofChange exactProductsWrong)

/-- 'asoflaw01.ExactDividesProducts': WHATEVER THE INPUT: true; the input reads as it did. -/
def exactDividesProductsSpec : ChangeSpec := { name := "exactDividesProducts", fn := fun _ => fun
  | [d1, d2] => { results := [.lit (.bool true)], args := [d1, d2] }
  | _ => none }
def exactDividesProductsRow : OpenClaim := { program := "ytjjibddpgjoeeaa", sum := "c4c1fd5ba729f04267bf3b052720c8d92a57347722e3623b8cacd67898a514ad", func := "asof/asoflaw01.ExactDividesProducts", spec := "exactDividesProducts", inPlace := ["math/bits.Sub64"], named := ["math/bits.divideError", "math/bits.overflowError"], apart := false }
def ExactDividesProductsSaid : Prop := exactDividesProductsRow.holds Try.pinned (OpenSpec.ofChange exactDividesProductsSpec)

/-- ITS FALSE NEIGHBOUR: 'it returns false'. Refute it at one input. -/
def exactDividesProductsWrong : ChangeSpec := { name := "exactDividesProducts", fn := fun _ => fun
  | [d1, d2] => { results := [.lit (.bool false)], args := [d1, d2] }
  | _ => none }
def ExactDividesProductsWrongFalsely : Prop := exactDividesProductsRow.holds Try.pinned (OpenSpec.ofChange exactDividesProductsWrong)

/-- 'asoflaw01.ExactMatchesSums': WHATEVER THE INPUT: true; the input reads as it did. -/
def exactMatchesSumsSpec : ChangeSpec := { name := "exactMatchesSums", fn := fun _ => fun
  | [d1, d2, d3] => { results := [.lit (.bool true)], args := [d1, d2, d3] }
  | _ => none }
def exactMatchesSumsRow : OpenClaim := { program := "ytjjibddpgjoeeaa", sum := "c4c1fd5ba729f04267bf3b052720c8d92a57347722e3623b8cacd67898a514ad", func := "asof/asoflaw01.ExactMatchesSums", spec := "exactMatchesSums", inPlace := ["math/bits.Sub64", "math/bits.Add64"], named := ["math/bits.divideError", "math/bits.overflowError"], apart := false }
def ExactMatchesSumsSaid : Prop := exactMatchesSumsRow.holds Try.pinned (OpenSpec.ofChange exactMatchesSumsSpec)

/-- ITS FALSE NEIGHBOUR: 'it returns false'. Refute it at one input. -/
def exactMatchesSumsWrong : ChangeSpec := { name := "exactMatchesSums", fn := fun _ => fun
  | [d1, d2, d3] => { results := [.lit (.bool false)], args := [d1, d2, d3] }
  | _ => none }
def ExactMatchesSumsWrongFalsely : Prop := exactMatchesSumsRow.holds Try.pinned (OpenSpec.ofChange exactMatchesSumsWrong)

/-- 'asoflaw01.ExactRing': WHATEVER THE INPUT: true; the input reads as it did. -/
def exactRingSpec : ChangeSpec := { name := "exactRing", fn := fun _ => fun
  | [d1, d2, d3, d4] => { results := [.lit (.bool true)], args := [d1, d2, d3, d4] }
  | _ => none }
def exactRingRow : OpenClaim := { program := "ytjjibddpgjoeeaa", sum := "c4c1fd5ba729f04267bf3b052720c8d92a57347722e3623b8cacd67898a514ad", func := "asof/asoflaw01.ExactRing", spec := "exactRing", inPlace := ["math/bits.Sub64", "math/bits.Add64"], named := ["math/bits.divideError", "math/bits.overflowError"], apart := false }
def ExactRingSaid : Prop := exactRingRow.holds Try.pinned (OpenSpec.ofChange exactRingSpec)

/-- ITS FALSE NEIGHBOUR: 'it returns false'. Refute it at one input. -/
def exactRingWrong : ChangeSpec := { name := "exactRing", fn := fun _ => fun
  | [d1, d2, d3, d4] => { results := [.lit (.bool false)], args := [d1, d2, d3, d4] }
  | _ => none }
def ExactRingWrongFalsely : Prop := exactRingRow.holds Try.pinned (OpenSpec.ofChange exactRingWrong)

/-- 'asoflaw01.ExactOrder': WHATEVER THE INPUT: true; the input reads as it did. -/
def exactOrderSpec : ChangeSpec := { name := "exactOrder", fn := fun _ => fun
  | [d1, d2, d3, d4, d5] => { results := [.lit (.bool true)], args := [d1, d2, d3, d4, d5] }
  | _ => none }
def exactOrderRow : OpenClaim := { program := "ytjjibddpgjoeeaa", sum := "c4c1fd5ba729f04267bf3b052720c8d92a57347722e3623b8cacd67898a514ad", func := "asof/asoflaw01.ExactOrder", spec := "exactOrder", inPlace := ["math/bits.Sub64", "math/bits.Add64"], named := ["math/bits.divideError", "math/bits.overflowError"], apart := false }
def ExactOrderSaid : Prop := exactOrderRow.holds Try.pinned (OpenSpec.ofChange exactOrderSpec)

/-- ITS FALSE NEIGHBOUR: 'it returns false'. Refute it at one input. -/
def exactOrderWrong : ChangeSpec := { name := "exactOrder", fn := fun _ => fun
  | [d1, d2, d3, d4, d5] => { results := [.lit (.bool false)], args := [d1, d2, d3, d4, d5] }
  | _ => none }
def ExactOrderWrongFalsely : Prop := exactOrderRow.holds Try.pinned (OpenSpec.ofChange exactOrderWrong)

/-- 'asoflaw01.ExactRounds': WHATEVER THE INPUT: true; the input reads as it did. -/
def exactRoundsSpec : ChangeSpec := { name := "exactRounds", fn := fun _ => fun
  | [d1, d2] => { results := [.lit (.bool true)], args := [d1, d2] }
  | _ => none }
def exactRoundsRow : OpenClaim := { program := "ytjjibddpgjoeeaa", sum := "c4c1fd5ba729f04267bf3b052720c8d92a57347722e3623b8cacd67898a514ad", func := "asof/asoflaw01.ExactRounds", spec := "exactRounds", inPlace := ["math/bits.Sub64", "math/bits.Add64"], named := ["math/bits.divideError", "math/bits.overflowError"], apart := false }
def ExactRoundsSaid : Prop := exactRoundsRow.holds Try.pinned (OpenSpec.ofChange exactRoundsSpec)

/-- ITS FALSE NEIGHBOUR: 'it returns false'. Refute it at one input. -/
def exactRoundsWrong : ChangeSpec := { name := "exactRounds", fn := fun _ => fun
  | [d1, d2] => { results := [.lit (.bool false)], args := [d1, d2] }
  | _ => none }
def ExactRoundsWrongFalsely : Prop := exactRoundsRow.holds Try.pinned (OpenSpec.ofChange exactRoundsWrong)

/-- 'asoflaw01.ExactLimit': WHATEVER THE INPUT: true; the input reads as it did. -/
def exactLimitSpec : ChangeSpec := { name := "exactLimit", fn := fun _ => fun
  | [d1, d2] => { results := [.lit (.bool true)], args := [d1, d2] }
  | _ => none }
def exactLimitRow : OpenClaim := { program := "ytjjibddpgjoeeaa", sum := "c4c1fd5ba729f04267bf3b052720c8d92a57347722e3623b8cacd67898a514ad", func := "asof/asoflaw01.ExactLimit", spec := "exactLimit", inPlace := ["math/bits.Sub64", "math/bits.Add64"], named := ["math/bits.divideError", "math/bits.overflowError"], apart := false }
def ExactLimitSaid : Prop := exactLimitRow.holds Try.pinned (OpenSpec.ofChange exactLimitSpec)

/-- ITS FALSE NEIGHBOUR: 'it returns false'. Refute it at one input. -/
def exactLimitWrong : ChangeSpec := { name := "exactLimit", fn := fun _ => fun
  | [d1, d2] => { results := [.lit (.bool false)], args := [d1, d2] }
  | _ => none }
def ExactLimitWrongFalsely : Prop := exactLimitRow.holds Try.pinned (OpenSpec.ofChange exactLimitWrong)

/-- 'asoflaw01.ExactSums': WHATEVER THE INPUT: true; the input reads as it did. -/
def exactSumsSpec : ChangeSpec := { name := "exactSums", fn := fun _ => fun
  | [d1, d2] => { results := [.lit (.bool true)], args := [d1, d2] }
  | _ => none }
def exactSumsRow : OpenClaim := { program := "ytjjibddpgjoeeaa", sum := "c4c1fd5ba729f04267bf3b052720c8d92a57347722e3623b8cacd67898a514ad", func := "asof/asoflaw01.ExactSums", spec := "exactSums", inPlace := ["math/bits.Sub64", "math/bits.Add64"], named := ["math/bits.divideError", "math/bits.overflowError"], apart := false }
def ExactSumsSaid : Prop := exactSumsRow.holds Try.pinned (OpenSpec.ofChange exactSumsSpec)

/-- ITS FALSE NEIGHBOUR: 'it returns false'. Refute it at one input. -/
def exactSumsWrong : ChangeSpec := { name := "exactSums", fn := fun _ => fun
  | [d1, d2] => { results := [.lit (.bool false)], args := [d1, d2] }
  | _ => none }
def ExactSumsWrongFalsely : Prop := exactSumsRow.holds Try.pinned (OpenSpec.ofChange exactSumsWrong)

/- THE SECOND FORM. 'bulk': how many values and letters a reading holds, each counted each time it is reached (what is shared counts as often as it is met; a slice's spare places count too). A statement '..UptoSaid' is the law's where the arguments, and the package variables that the reading takes, are together of bulk at most 1048576: NARROWER than '..Said'. Prove '..Said' where nothing that the law and all that it calls make is longer than what came in: it says more and counts as full. Else prove '..UptoSaid'. A law counts once. -/
mutual
def uptoBulk {H : Type} : DataW H → Nat
  | .lit (.string bytes) => bytes.length + 1
  | .lit _ => 1
  | .nil => 1
  | .ptr d => uptoBulk d + 1
  | .slice elems spare => uptoBulkAll elems + uptoBulkAll spare + 1
  | .agg parts => uptoBulkAll parts + 1
  | .iface _ d => uptoBulk d + 1
  | .map entries => uptoBulkEntries entries + 1
  | .held _ => 1
def uptoBulkAll {H : Type} : List (DataW H) → Nat
  | [] => 0
  | d :: r => uptoBulk d + uptoBulkAll r
def uptoBulkEntries {H : Type} : List (Lit × DataW H) → Nat
  | [] => 0
  | x :: r => uptoBulkEntry x + uptoBulkEntries r
def uptoBulkEntry {H : Type} : Lit × DataW H → Nat
  | (.string bytes, d) => bytes.length + uptoBulk d + 1
  | (_, d) => uptoBulk d + 1
 end
def uptoSmall : (H : Type) → List (DataW H) → Bool := fun _ ds => decide (uptoBulkAll ds ≤ 1048576)
def OpenSpec.upto (s : _root_.Go.ChangeSpec) : _root_.Go.OpenSpec := { _root_.Go.OpenSpec.ofChange s with cond := some uptoSmall }

/-- 'asoflaw01.ExactMatchesProducts', WHERE WHAT IT READS IS OF BULK AT MOST 1048576: true; the input reads as it did. -/
def exactMatchesProductsUptoRow : OpenClaim := { program := "ytjjibddpgjoeeaa", sum := "c4c1fd5ba729f04267bf3b052720c8d92a57347722e3623b8cacd67898a514ad", func := "asof/asoflaw01.ExactMatchesProducts", spec := "exactMatchesProducts", inPlace := ["math/bits.Sub64"], named := ["math/bits.divideError", "math/bits.overflowError"], apart := false, narrowed := true }
def ExactMatchesProductsUptoSaid : Prop := exactMatchesProductsUptoRow.holds Try.pinned (OpenSpec.upto exactMatchesProductsSpec)

/-- 'asoflaw01.ExactMatchesDivide', WHERE WHAT IT READS IS OF BULK AT MOST 1048576: true; the input reads as it did. -/
def exactMatchesDivideUptoRow : OpenClaim := { program := "ytjjibddpgjoeeaa", sum := "c4c1fd5ba729f04267bf3b052720c8d92a57347722e3623b8cacd67898a514ad", func := "asof/asoflaw01.ExactMatchesDivide", spec := "exactMatchesDivide", inPlace := ["math/bits.Sub64"], named := ["math/bits.divideError", "math/bits.overflowError"], apart := false, narrowed := true }
def ExactMatchesDivideUptoSaid : Prop := exactMatchesDivideUptoRow.holds Try.pinned (OpenSpec.upto exactMatchesDivideSpec)

/-- 'asoflaw01.ExactProducts', WHERE WHAT IT READS IS OF BULK AT MOST 1048576: true; the input reads as it did. -/
def exactProductsUptoRow : OpenClaim := { program := "ytjjibddpgjoeeaa", sum := "c4c1fd5ba729f04267bf3b052720c8d92a57347722e3623b8cacd67898a514ad", func := "asof/asoflaw01.ExactProducts", spec := "exactProducts", inPlace := ["math/bits.Sub64"], named := ["math/bits.divideError", "math/bits.overflowError"], apart := false, narrowed := true }
def ExactProductsUptoSaid : Prop := exactProductsUptoRow.holds Try.pinned (OpenSpec.upto exactProductsSpec)

/-- 'asoflaw01.ExactDividesProducts', WHERE WHAT IT READS IS OF BULK AT MOST 1048576: true; the input reads as it did. -/
def exactDividesProductsUptoRow : OpenClaim := { program := "ytjjibddpgjoeeaa", sum := "c4c1fd5ba729f04267bf3b052720c8d92a57347722e3623b8cacd67898a514ad", func := "asof/asoflaw01.ExactDividesProducts", spec := "exactDividesProducts", inPlace := ["math/bits.Sub64"], named := ["math/bits.divideError", "math/bits.overflowError"], apart := false, narrowed := true }
def ExactDividesProductsUptoSaid : Prop := exactDividesProductsUptoRow.holds Try.pinned (OpenSpec.upto exactDividesProductsSpec)

/-- 'asoflaw01.ExactMatchesSums', WHERE WHAT IT READS IS OF BULK AT MOST 1048576: true; the input reads as it did. -/
def exactMatchesSumsUptoRow : OpenClaim := { program := "ytjjibddpgjoeeaa", sum := "c4c1fd5ba729f04267bf3b052720c8d92a57347722e3623b8cacd67898a514ad", func := "asof/asoflaw01.ExactMatchesSums", spec := "exactMatchesSums", inPlace := ["math/bits.Sub64", "math/bits.Add64"], named := ["math/bits.divideError", "math/bits.overflowError"], apart := false, narrowed := true }
def ExactMatchesSumsUptoSaid : Prop := exactMatchesSumsUptoRow.holds Try.pinned (OpenSpec.upto exactMatchesSumsSpec)

/-- 'asoflaw01.ExactRing', WHERE WHAT IT READS IS OF BULK AT MOST 1048576: true; the input reads as it did. -/
def exactRingUptoRow : OpenClaim := { program := "ytjjibddpgjoeeaa", sum := "c4c1fd5ba729f04267bf3b052720c8d92a57347722e3623b8cacd67898a514ad", func := "asof/asoflaw01.ExactRing", spec := "exactRing", inPlace := ["math/bits.Sub64", "math/bits.Add64"], named := ["math/bits.divideError", "math/bits.overflowError"], apart := false, narrowed := true }
def ExactRingUptoSaid : Prop := exactRingUptoRow.holds Try.pinned (OpenSpec.upto exactRingSpec)

/-- 'asoflaw01.ExactOrder', WHERE WHAT IT READS IS OF BULK AT MOST 1048576: true; the input reads as it did. -/
def exactOrderUptoRow : OpenClaim := { program := "ytjjibddpgjoeeaa", sum := "c4c1fd5ba729f04267bf3b052720c8d92a57347722e3623b8cacd67898a514ad", func := "asof/asoflaw01.ExactOrder", spec := "exactOrder", inPlace := ["math/bits.Sub64", "math/bits.Add64"], named := ["math/bits.divideError", "math/bits.overflowError"], apart := false, narrowed := true }
def ExactOrderUptoSaid : Prop := exactOrderUptoRow.holds Try.pinned (OpenSpec.upto exactOrderSpec)

/-- 'asoflaw01.ExactRounds', WHERE WHAT IT READS IS OF BULK AT MOST 1048576: true; the input reads as it did. -/
def exactRoundsUptoRow : OpenClaim := { program := "ytjjibddpgjoeeaa", sum := "c4c1fd5ba729f04267bf3b052720c8d92a57347722e3623b8cacd67898a514ad", func := "asof/asoflaw01.ExactRounds", spec := "exactRounds", inPlace := ["math/bits.Sub64", "math/bits.Add64"], named := ["math/bits.divideError", "math/bits.overflowError"], apart := false, narrowed := true }
def ExactRoundsUptoSaid : Prop := exactRoundsUptoRow.holds Try.pinned (OpenSpec.upto exactRoundsSpec)

/-- 'asoflaw01.ExactLimit', WHERE WHAT IT READS IS OF BULK AT MOST 1048576: true; the input reads as it did. -/
def exactLimitUptoRow : OpenClaim := { program := "ytjjibddpgjoeeaa", sum := "c4c1fd5ba729f04267bf3b052720c8d92a57347722e3623b8cacd67898a514ad", func := "asof/asoflaw01.ExactLimit", spec := "exactLimit", inPlace := ["math/bits.Sub64", "math/bits.Add64"], named := ["math/bits.divideError", "math/bits.overflowError"], apart := false, narrowed := true }
def ExactLimitUptoSaid : Prop := exactLimitUptoRow.holds Try.pinned (OpenSpec.upto exactLimitSpec)

/-- 'asoflaw01.ExactSums', WHERE WHAT IT READS IS OF BULK AT MOST 1048576: true; the input reads as it did. -/
def exactSumsUptoRow : OpenClaim := { program := "ytjjibddpgjoeeaa", sum := "c4c1fd5ba729f04267bf3b052720c8d92a57347722e3623b8cacd67898a514ad", func := "asof/asoflaw01.ExactSums", spec := "exactSums", inPlace := ["math/bits.Sub64", "math/bits.Add64"], named := ["math/bits.divideError", "math/bits.overflowError"], apart := false, narrowed := true }
def ExactSumsUptoSaid : Prop := exactSumsUptoRow.holds Try.pinned (OpenSpec.upto exactSumsSpec)

end Rows
end Go.Proofs.Ytjjibddpgjoeeaa
