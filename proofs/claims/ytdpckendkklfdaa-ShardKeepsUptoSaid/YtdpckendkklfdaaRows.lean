/-
  No cell of these rows narrows 'for every input' (looked for: loops, veiled, ifaces, maps, wideKeys, modest, calm, conditions, laid).
  DERIVED. THE GIVEN ROWS OF THIS SEAT. 3 by the template 'for every input the law returns true; each argument reads behind the call as it read before'; 0 by the template 'total and deterministic' (their statements: YtdpckendkklfdaaTotals.lean).
  GIVEN WITH THE SEED: the statements are not yours to turn. If you find one false, say at which input.
  Laid BY PROGRAM, IN A SANDBOX (cutbox-rows.mjs): the forced cells as the released guide's own fill.sh prints them over the translation 27d51693d7d808f4… (all of the seat's roots in one cut). By AI agents, Wed Nov 11 2026. No macro, syntax, notation, axiom, sorry.
-/
import Derived.Test.YtdpckendkklfdaaChecked
import GoSem.Claim
import GoSem.ClaimJoined
import GoSem.ClaimMapViews
import Derived.JoinedTies
import Derived.KernelRfl
namespace Go.Proofs.Ytdpckendkklfdaa
/- THE CELL 'sum', in the pinned program and in every row, IS THE sha256 OF THE DUMP (.gsa) THAT YtdpckendkklfdaaProg.lean LOADS. Nothing in Lean hashes anything: it is a label: what it is worth is what the hold of that sum in a sandbox is worth. -/
noncomputable def Try.pinned : Pinned := { name := "ytdpckendkklfdaa", sum := "27d51693d7d808f49155eb00a94f1440ba899c978a81fb2709fcdd20e7b268c7", checked := Try.checked }
namespace Rows
def none {H : Type} : Left H := { results := [], args := [] }

/-- 'rampartlaw17.FixKeeps': WHATEVER THE INPUT: true; the input reads as it did. -/
def fixKeepsSpec : ChangeSpec := { name := "fixKeeps", fn := fun _ => fun
  | [d1, d2, d3] => { results := [.lit (.bool true)], args := [d1, d2, d3] }
  | _ => none }
def fixKeepsRow : OpenClaim := { program := "ytdpckendkklfdaa", sum := "27d51693d7d808f49155eb00a94f1440ba899c978a81fb2709fcdd20e7b268c7", func := "rampart/rampartlaw17.FixKeeps", spec := "fixKeeps", unfollowed := true, recurses := true, plainKeys := false, apart := false }
def FixKeepsSaid : Prop := fixKeepsRow.holds Try.pinned (OpenSpec.ofChange fixKeepsSpec)

/-- ITS FALSE NEIGHBOUR: 'it returns false'. Refute it at one input. -/
def fixKeepsWrong : ChangeSpec := { name := "fixKeeps", fn := fun _ => fun
  | [d1, d2, d3] => { results := [.lit (.bool false)], args := [d1, d2, d3] }
  | _ => none }
def FixKeepsWrongFalsely : Prop := fixKeepsRow.holds Try.pinned (OpenSpec.ofChange fixKeepsWrong)

/-- 'rampartlaw05.ShardKeeps': WHATEVER THE INPUT: true; the input reads as it did. -/
def shardKeepsSpec : ChangeSpec := { name := "shardKeeps", fn := fun _ => fun
  | [d1, d2, d3] => { results := [.lit (.bool true)], args := [d1, d2, d3] }
  | _ => none }
def shardKeepsRow : OpenClaim := { program := "ytdpckendkklfdaa", sum := "27d51693d7d808f49155eb00a94f1440ba899c978a81fb2709fcdd20e7b268c7", func := "rampart/rampartlaw05.ShardKeeps", spec := "shardKeeps", inPlace := ["slices.overlaps[rampart/shard.Part]", "slices.overlaps[rampart/shard.PairPart]"], unfollowed := true, recurses := true, plainKeys := false, apart := false }
def ShardKeepsSaid : Prop := shardKeepsRow.holds Try.pinned (OpenSpec.ofChange shardKeepsSpec)

/-- ITS FALSE NEIGHBOUR: 'it returns false'. Refute it at one input. -/
def shardKeepsWrong : ChangeSpec := { name := "shardKeeps", fn := fun _ => fun
  | [d1, d2, d3] => { results := [.lit (.bool false)], args := [d1, d2, d3] }
  | _ => none }
def ShardKeepsWrongFalsely : Prop := shardKeepsRow.holds Try.pinned (OpenSpec.ofChange shardKeepsWrong)

/-- 'rampartlaw12.RetainMemory': WHATEVER THE INPUT: true; the input reads as it did. -/
def retainMemorySpec : ChangeSpec := { name := "retainMemory", fn := fun _ => fun
  | [d] => { results := [.lit (.bool true)], args := [d] }
  | _ => none }
def retainMemoryRow : OpenClaim := { program := "ytdpckendkklfdaa", sum := "27d51693d7d808f49155eb00a94f1440ba899c978a81fb2709fcdd20e7b268c7", func := "rampart/rampartlaw12.RetainMemory", spec := "retainMemory", inPlace := ["slices.overlaps[rampart/api.ID]"], unfollowed := true, recurses := true, plainKeys := false, apart := false }
def RetainMemorySaid : Prop := retainMemoryRow.holds Try.pinned (OpenSpec.ofChange retainMemorySpec)

/-- ITS FALSE NEIGHBOUR: 'it returns false'. Refute it at one input. -/
def retainMemoryWrong : ChangeSpec := { name := "retainMemory", fn := fun _ => fun
  | [d] => { results := [.lit (.bool false)], args := [d] }
  | _ => none }
def RetainMemoryWrongFalsely : Prop := retainMemoryRow.holds Try.pinned (OpenSpec.ofChange retainMemoryWrong)

/- THE SECOND FORM. 'bulk': how many values and letters a reading holds, each counted each time it is reached (what is shared counts as often as it is met; a slice's spare places count too). A statement '..UptoSaid' is the law's where the arguments, and the package variables that the reading takes, are together of bulk at most 1048576: NARROWER than '..Said'. Prove '..Said' where nothing that the law and all that it calls make is longer than what came in: it says more and counts as full. Else prove '..UptoSaid'. A law counts once. -/
mutual
def uptoBulk {H : Type} : DataW H → Nat
  | .lit (.string bytes) => bytes.length + 1
  | .lit _ => 1
  | .nil => 1
  | .ptr d => uptoBulk d + 1
  | .slice elems spare => uptoBulkAll elems + uptoBulkAll spare + 1
  | .agg parts => uptoBulkAll parts + 1
  | .iface _ d => uptoBulk d + 1
  | .map entries => uptoBulkEntries entries + 1
  | .held _ => 1
def uptoBulkAll {H : Type} : List (DataW H) → Nat
  | [] => 0
  | d :: r => uptoBulk d + uptoBulkAll r
def uptoBulkEntries {H : Type} : List (Lit × DataW H) → Nat
  | [] => 0
  | x :: r => uptoBulkEntry x + uptoBulkEntries r
def uptoBulkEntry {H : Type} : Lit × DataW H → Nat
  | (.string bytes, d) => bytes.length + uptoBulk d + 1
  | (_, d) => uptoBulk d + 1
 end
def uptoSmall : (H : Type) → List (DataW H) → Bool := fun _ ds => decide (uptoBulkAll ds ≤ 1048576)
def OpenSpec.upto (s : _root_.Go.ChangeSpec) : _root_.Go.OpenSpec := { _root_.Go.OpenSpec.ofChange s with cond := some uptoSmall }

/-- 'rampartlaw17.FixKeeps', WHERE WHAT IT READS IS OF BULK AT MOST 1048576: true; the input reads as it did. -/
def fixKeepsUptoRow : OpenClaim := { program := "ytdpckendkklfdaa", sum := "27d51693d7d808f49155eb00a94f1440ba899c978a81fb2709fcdd20e7b268c7", func := "rampart/rampartlaw17.FixKeeps", spec := "fixKeeps", unfollowed := true, recurses := true, plainKeys := false, apart := false, narrowed := true }
def FixKeepsUptoSaid : Prop := fixKeepsUptoRow.holds Try.pinned (OpenSpec.upto fixKeepsSpec)

/-- 'rampartlaw05.ShardKeeps', WHERE WHAT IT READS IS OF BULK AT MOST 1048576: true; the input reads as it did. -/
def shardKeepsUptoRow : OpenClaim := { program := "ytdpckendkklfdaa", sum := "27d51693d7d808f49155eb00a94f1440ba899c978a81fb2709fcdd20e7b268c7", func := "rampart/rampartlaw05.ShardKeeps", spec := "shardKeeps", inPlace := ["slices.overlaps[rampart/shard.Part]", "slices.overlaps[rampart/shard.PairPart]"], unfollowed := true, recurses := true, plainKeys := false, apart := false, narrowed := true }
def ShardKeepsUptoSaid : Prop := shardKeepsUptoRow.holds Try.pinned (OpenSpec.upto shardKeepsSpec)

/-- 'rampartlaw12.RetainMemory', WHERE WHAT IT READS IS OF BULK AT MOST 1048576: true; the input reads as it did. -/
def retainMemoryUptoRow : OpenClaim := { program := "ytdpckendkklfdaa", sum := "27d51693d7d808f49155eb00a94f1440ba899c978a81fb2709fcdd20e7b268c7", func := "rampart/rampartlaw12.RetainMemory", spec := "retainMemory", inPlace := ["slices.overlaps[rampart/api.ID]"], unfollowed := true, recurses := true, plainKeys := false, apart := false, narrowed := true }
def RetainMemoryUptoSaid : Prop := retainMemoryUptoRow.holds Try.pinned (OpenSpec.upto retainMemorySpec)

end Rows
end Go.Proofs.Ytdpckendkklfdaa
