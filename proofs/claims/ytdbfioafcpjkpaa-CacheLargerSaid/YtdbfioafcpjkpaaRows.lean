/-
  No cell of these rows narrows 'for every input' (looked for: loops, veiled, ifaces, maps, wideKeys, modest, calm, conditions, laid).
  DERIVED. THE GIVEN ROWS OF THIS SEAT. 6 by the template 'for every input the law returns true; each argument reads behind the call as it read before'; 0 by the template 'total and deterministic' (their statements: YtdbfioafcpjkpaaTotals.lean).
  GIVEN WITH THE SEED: the statements are not yours to turn. If you find one false, say at which input.
  Laid BY PROGRAM, IN A SANDBOX (cutbox-rows.mjs): the forced cells as the released guide's own fill.sh prints them over the translation 5ee244cbbdbaa218… (all of the seat's roots in one cut). By AI agents, Wed Nov 11 2026. No macro, syntax, notation, axiom, sorry.
-/
import Derived.Test.YtdbfioafcpjkpaaChecked
import GoSem.Claim
import GoSem.ClaimJoined
import GoSem.ClaimMapViews
import Derived.JoinedTies
import Derived.KernelRfl
namespace Go.Proofs.Ytdbfioafcpjkpaa
/- THE CELL 'sum', in the pinned program and in every row, IS THE sha256 OF THE DUMP (.gsa) THAT YtdbfioafcpjkpaaProg.lean LOADS. Nothing in Lean hashes anything: it is a label: what it is worth is what the hold of that sum in a sandbox is worth. -/
noncomputable def Try.pinned : Pinned := { name := "ytdbfioafcpjkpaa", sum := "5ee244cbbdbaa218633d26709d530a28aa90d90b2769c139c37f57671706f535", checked := Try.checked }
namespace Rows
def none {H : Type} : Left H := { results := [], args := [] }

/-- 'asoflaw34.CacheNoMore': WHATEVER THE INPUT: true; the input reads as it did. -/
def cacheNoMoreSpec : ChangeSpec := { name := "cacheNoMore", fn := fun _ => fun
  | [d1, d2, d3] => { results := [.lit (.bool true)], args := [d1, d2, d3] }
  | _ => none }
def cacheNoMoreRow : OpenClaim := { program := "ytdbfioafcpjkpaa", sum := "5ee244cbbdbaa218633d26709d530a28aa90d90b2769c139c37f57671706f535", func := "asof/asoflaw34.CacheNoMore", spec := "cacheNoMore", unfollowed := true, recurses := true, apart := false }
def CacheNoMoreSaid : Prop := cacheNoMoreRow.holds Try.pinned (OpenSpec.ofChange cacheNoMoreSpec)

/-- ITS FALSE NEIGHBOUR: 'it returns false'. Refute it at one input. -/
def cacheNoMoreWrong : ChangeSpec := { name := "cacheNoMore", fn := fun _ => fun
  | [d1, d2, d3] => { results := [.lit (.bool false)], args := [d1, d2, d3] }
  | _ => none }
def CacheNoMoreWrongFalsely : Prop := cacheNoMoreRow.holds Try.pinned (OpenSpec.ofChange cacheNoMoreWrong)

/-- 'asoflaw34.CacheRecent': WHATEVER THE INPUT: true; the input reads as it did. -/
def cacheRecentSpec : ChangeSpec := { name := "cacheRecent", fn := fun _ => fun
  | [d1, d2] => { results := [.lit (.bool true)], args := [d1, d2] }
  | _ => none }
def cacheRecentRow : OpenClaim := { program := "ytdbfioafcpjkpaa", sum := "5ee244cbbdbaa218633d26709d530a28aa90d90b2769c139c37f57671706f535", func := "asof/asoflaw34.CacheRecent", spec := "cacheRecent", unfollowed := true, recurses := true, apart := false }
def CacheRecentSaid : Prop := cacheRecentRow.holds Try.pinned (OpenSpec.ofChange cacheRecentSpec)

/-- ITS FALSE NEIGHBOUR: 'it returns false'. Refute it at one input. -/
def cacheRecentWrong : ChangeSpec := { name := "cacheRecent", fn := fun _ => fun
  | [d1, d2] => { results := [.lit (.bool false)], args := [d1, d2] }
  | _ => none }
def CacheRecentWrongFalsely : Prop := cacheRecentRow.holds Try.pinned (OpenSpec.ofChange cacheRecentWrong)

/-- 'asoflaw34.CacheLarger': WHATEVER THE INPUT: true; the input reads as it did. -/
def cacheLargerSpec : ChangeSpec := { name := "cacheLarger", fn := fun _ => fun
  | [d1, d2, d3, d4] => { results := [.lit (.bool true)], args := [d1, d2, d3, d4] }
  | _ => none }
def cacheLargerRow : OpenClaim := { program := "ytdbfioafcpjkpaa", sum := "5ee244cbbdbaa218633d26709d530a28aa90d90b2769c139c37f57671706f535", func := "asof/asoflaw34.CacheLarger", spec := "cacheLarger", unfollowed := true, recurses := true, apart := false }
def CacheLargerSaid : Prop := cacheLargerRow.holds Try.pinned (OpenSpec.ofChange cacheLargerSpec)

/-- ITS FALSE NEIGHBOUR: 'it returns false'. Refute it at one input. -/
def cacheLargerWrong : ChangeSpec := { name := "cacheLarger", fn := fun _ => fun
  | [d1, d2, d3, d4] => { results := [.lit (.bool false)], args := [d1, d2, d3, d4] }
  | _ => none }
def CacheLargerWrongFalsely : Prop := cacheLargerRow.holds Try.pinned (OpenSpec.ofChange cacheLargerWrong)

/-- 'asoflaw34.CacheMatches': WHATEVER THE INPUT: true; the input reads as it did. -/
def cacheMatchesSpec : ChangeSpec := { name := "cacheMatches", fn := fun _ => fun
  | [d1, d2, d3, d4] => { results := [.lit (.bool true)], args := [d1, d2, d3, d4] }
  | _ => none }
def cacheMatchesRow : OpenClaim := { program := "ytdbfioafcpjkpaa", sum := "5ee244cbbdbaa218633d26709d530a28aa90d90b2769c139c37f57671706f535", func := "asof/asoflaw34.CacheMatches", spec := "cacheMatches", unfollowed := true, recurses := true, apart := false }
def CacheMatchesSaid : Prop := cacheMatchesRow.holds Try.pinned (OpenSpec.ofChange cacheMatchesSpec)

/-- ITS FALSE NEIGHBOUR: 'it returns false'. Refute it at one input. -/
def cacheMatchesWrong : ChangeSpec := { name := "cacheMatches", fn := fun _ => fun
  | [d1, d2, d3, d4] => { results := [.lit (.bool false)], args := [d1, d2, d3, d4] }
  | _ => none }
def CacheMatchesWrongFalsely : Prop := cacheMatchesRow.holds Try.pinned (OpenSpec.ofChange cacheMatchesWrong)

/-- 'asoflaw34.CacheStaysValid': WHATEVER THE INPUT: true; the input reads as it did. -/
def cacheStaysValidSpec : ChangeSpec := { name := "cacheStaysValid", fn := fun _ => fun
  | [d1, d2, d3] => { results := [.lit (.bool true)], args := [d1, d2, d3] }
  | _ => none }
def cacheStaysValidRow : OpenClaim := { program := "ytdbfioafcpjkpaa", sum := "5ee244cbbdbaa218633d26709d530a28aa90d90b2769c139c37f57671706f535", func := "asof/asoflaw34.CacheStaysValid", spec := "cacheStaysValid", unfollowed := true, recurses := true, apart := false }
def CacheStaysValidSaid : Prop := cacheStaysValidRow.holds Try.pinned (OpenSpec.ofChange cacheStaysValidSpec)

/-- ITS FALSE NEIGHBOUR: 'it returns false'. Refute it at one input. -/
def cacheStaysValidWrong : ChangeSpec := { name := "cacheStaysValid", fn := fun _ => fun
  | [d1, d2, d3] => { results := [.lit (.bool false)], args := [d1, d2, d3] }
  | _ => none }
def CacheStaysValidWrongFalsely : Prop := cacheStaysValidRow.holds Try.pinned (OpenSpec.ofChange cacheStaysValidWrong)

/-- 'asoflaw34.CacheDrops': WHATEVER THE INPUT: true; the input reads as it did. -/
def cacheDropsSpec : ChangeSpec := { name := "cacheDrops", fn := fun _ => fun
  | [d1, d2, d3] => { results := [.lit (.bool true)], args := [d1, d2, d3] }
  | _ => none }
def cacheDropsRow : OpenClaim := { program := "ytdbfioafcpjkpaa", sum := "5ee244cbbdbaa218633d26709d530a28aa90d90b2769c139c37f57671706f535", func := "asof/asoflaw34.CacheDrops", spec := "cacheDrops", unfollowed := true, recurses := true, apart := false }
def CacheDropsSaid : Prop := cacheDropsRow.holds Try.pinned (OpenSpec.ofChange cacheDropsSpec)

/-- ITS FALSE NEIGHBOUR: 'it returns false'. Refute it at one input. -/
def cacheDropsWrong : ChangeSpec := { name := "cacheDrops", fn := fun _ => fun
  | [d1, d2, d3] => { results := [.lit (.bool false)], args := [d1, d2, d3] }
  | _ => none }
def CacheDropsWrongFalsely : Prop := cacheDropsRow.holds Try.pinned (OpenSpec.ofChange cacheDropsWrong)

/- THE SECOND FORM. 'bulk': how many values and letters a reading holds, each counted each time it is reached (what is shared counts as often as it is met; a slice's spare places count too). A statement '..UptoSaid' is the law's where the arguments, and the package variables that the reading takes, are together of bulk at most 1048576: NARROWER than '..Said'. Prove '..Said' where nothing that the law and all that it calls make is longer than what came in: it says more and counts as full. Else prove '..UptoSaid'. A law counts once. -/
mutual
def uptoBulk {H : Type} : DataW H → Nat
  | .lit (.string bytes) => bytes.length + 1
  | .lit _ => 1
  | .nil => 1
  | .ptr d => uptoBulk d + 1
  | .slice elems spare => uptoBulkAll elems + uptoBulkAll spare + 1
  | .agg parts => uptoBulkAll parts + 1
  | .iface _ d => uptoBulk d + 1
  | .map entries => uptoBulkEntries entries + 1
  | .held _ => 1
def uptoBulkAll {H : Type} : List (DataW H) → Nat
  | [] => 0
  | d :: r => uptoBulk d + uptoBulkAll r
def uptoBulkEntries {H : Type} : List (Lit × DataW H) → Nat
  | [] => 0
  | x :: r => uptoBulkEntry x + uptoBulkEntries r
def uptoBulkEntry {H : Type} : Lit × DataW H → Nat
  | (.string bytes, d) => bytes.length + uptoBulk d + 1
  | (_, d) => uptoBulk d + 1
 end
def uptoSmall : (H : Type) → List (DataW H) → Bool := fun _ ds => decide (uptoBulkAll ds ≤ 1048576)
def OpenSpec.upto (s : _root_.Go.ChangeSpec) : _root_.Go.OpenSpec := { _root_.Go.OpenSpec.ofChange s with cond := some uptoSmall }

/-- 'asoflaw34.CacheNoMore', WHERE WHAT IT READS IS OF BULK AT MOST 1048576: true; the input reads as it did. -/
def cacheNoMoreUptoRow : OpenClaim := { program := "ytdbfioafcpjkpaa", sum := "5ee244cbbdbaa218633d26709d530a28aa90d90b2769c139c37f57671706f535", func := "asof/asoflaw34.CacheNoMore", spec := "cacheNoMore", unfollowed := true, recurses := true, apart := false, narrowed := true }
def CacheNoMoreUptoSaid : Prop := cacheNoMoreUptoRow.holds Try.pinned (OpenSpec.upto cacheNoMoreSpec)

/-- 'asoflaw34.CacheRecent', WHERE WHAT IT READS IS OF BULK AT MOST 1048576: true; the input reads as it did. -/
def cacheRecentUptoRow : OpenClaim := { program := "ytdbfioafcpjkpaa", sum := "5ee244cbbdbaa218633d26709d530a28aa90d90b2769c139c37f57671706f535", func := "asof/asoflaw34.CacheRecent", spec := "cacheRecent", unfollowed := true, recurses := true, apart := false, narrowed := true }
def CacheRecentUptoSaid : Prop := cacheRecentUptoRow.holds Try.pinned (OpenSpec.upto cacheRecentSpec)

/-- 'asoflaw34.CacheLarger', WHERE WHAT IT READS IS OF BULK AT MOST 1048576: true; the input reads as it did. -/
def cacheLargerUptoRow : OpenClaim := { program := "ytdbfioafcpjkpaa", sum := "5ee244cbbdbaa218633d26709d530a28aa90d90b2769c139c37f57671706f535", func := "asof/asoflaw34.CacheLarger", spec := "cacheLarger", unfollowed := true, recurses := true, apart := false, narrowed := true }
def CacheLargerUptoSaid : Prop := cacheLargerUptoRow.holds Try.pinned (OpenSpec.upto cacheLargerSpec)

/-- 'asoflaw34.CacheMatches', WHERE WHAT IT READS IS OF BULK AT MOST 1048576: true; the input reads as it did. -/
def cacheMatchesUptoRow : OpenClaim := { program := "ytdbfioafcpjkpaa", sum := "5ee244cbbdbaa218633d26709d530a28aa90d90b2769c139c37f57671706f535", func := "asof/asoflaw34.CacheMatches", spec := "cacheMatches", unfollowed := true, recurses := true, apart := false, narrowed := true }
def CacheMatchesUptoSaid : Prop := cacheMatchesUptoRow.holds Try.pinned (OpenSpec.upto cacheMatchesSpec)

/-- 'asoflaw34.CacheStaysValid', WHERE WHAT IT READS IS OF BULK AT MOST 1048576: true; the input reads as it did. -/
def cacheStaysValidUptoRow : OpenClaim := { program := "ytdbfioafcpjkpaa", sum := "5ee244cbbdbaa218633d26709d530a28aa90d90b2769c139c37f57671706f535", func := "asof/asoflaw34.CacheStaysValid", spec := "cacheStaysValid", unfollowed := true, recurses := true, apart := false, narrowed := true }
def CacheStaysValidUptoSaid : Prop := cacheStaysValidUptoRow.holds Try.pinned (OpenSpec.upto cacheStaysValidSpec)

/-- 'asoflaw34.CacheDrops', WHERE WHAT IT READS IS OF BULK AT MOST 1048576: true; the input reads as it did. -/
def cacheDropsUptoRow : OpenClaim := { program := "ytdbfioafcpjkpaa", sum := "5ee244cbbdbaa218633d26709d530a28aa90d90b2769c139c37f57671706f535", func := "asof/asoflaw34.CacheDrops", spec := "cacheDrops", unfollowed := true, recurses := true, apart := false, narrowed := true }
def CacheDropsUptoSaid : Prop := cacheDropsUptoRow.holds Try.pinned (OpenSpec.upto cacheDropsSpec)

end Rows
end Go.Proofs.Ytdbfioafcpjkpaa
