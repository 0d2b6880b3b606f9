/-
  No cell of these rows narrows 'for every input' (looked for: loops, veiled, ifaces, maps, wideKeys, modest, calm, conditions, laid).
  DERIVED. THE GIVEN ROWS OF THIS SEAT. 10 by the template 'for every input the law returns true; each argument reads behind the call as it read before'; 0 by the template 'total and deterministic' (their statements: YtdpckendkklfdaaGreatTotals.lean).
  GIVEN WITH THE SEED: the statements are not yours to turn. If you find one false, say at which input.
  Laid BY PROGRAM, IN A SANDBOX (cutbox-rows.mjs): the forced cells as the released guide's own fill.sh prints them over the translation 0e415c003f0b2d67… (all of the seat's roots in one cut). By AI agents, Wed Nov 11 2026. No macro, syntax, notation, axiom, sorry.
-/
import Derived.Test.YtdpckendkklfdaaGreatChecked
import GoSem.Claim
import GoSem.ClaimJoined
import GoSem.ClaimMapViews
import Derived.JoinedTies
import Derived.KernelRfl
namespace Go.Proofs.YtdpckendkklfdaaGreat
/- THE CELL 'sum', in the pinned program and in every row, IS THE sha256 OF THE DUMP (.gsa) THAT YtdpckendkklfdaaGreatProg.lean LOADS. Nothing in Lean hashes anything: it is a label: what it is worth is what the hold of that sum in a sandbox is worth. -/
noncomputable def Tryz.pinned : Pinned := { name := "ytdpckendkklfdaagreat", sum := "0e415c003f0b2d67a2255d521cfaa581ef2359ae05d78afeb17e5a6f6288380c", checked := Tryz.checked }
namespace Rows
def none {H : Type} : Left H := { results := [], args := [] }

/-- 'rampartlaw28.HybridMakes': WHATEVER THE INPUT: true; the input reads as it did. -/
def hybridMakesSpec : ChangeSpec := { name := "hybridMakes", fn := fun _ => fun
  | [d1, d2, d3] => { results := [.lit (.bool true)], args := [d1, d2, d3] }
  | _ => none }
def hybridMakesRow : OpenClaim := { program := "ytdpckendkklfdaagreat", sum := "0e415c003f0b2d67a2255d521cfaa581ef2359ae05d78afeb17e5a6f6288380c", func := "rampart/rampartlaw28.HybridMakes", spec := "hybridMakes", inPlace := ["slices.overlaps[rampart/api.ID]"], unfollowed := true, recurses := true, plainKeys := false, apart := false }
def HybridMakesSaid : Prop := hybridMakesRow.holds Tryz.pinned (OpenSpec.ofChange hybridMakesSpec)

/-- ITS FALSE NEIGHBOUR: 'it returns false'. Refute it at one input. -/
def hybridMakesWrong : ChangeSpec := { name := "hybridMakes", fn := fun _ => fun
  | [d1, d2, d3] => { results := [.lit (.bool false)], args := [d1, d2, d3] }
  | _ => none }
def HybridMakesWrongFalsely : Prop := hybridMakesRow.holds Tryz.pinned (OpenSpec.ofChange hybridMakesWrong)

/-- 'rampartlaw28.HybridAsks': WHATEVER THE INPUT: true; the input reads as it did. -/
def hybridAsksSpec : ChangeSpec := { name := "hybridAsks", fn := fun _ => fun
  | [d] => { results := [.lit (.bool true)], args := [d] }
  | _ => none }
def hybridAsksRow : OpenClaim := { program := "ytdpckendkklfdaagreat", sum := "0e415c003f0b2d67a2255d521cfaa581ef2359ae05d78afeb17e5a6f6288380c", func := "rampart/rampartlaw28.HybridAsks", spec := "hybridAsks", inPlace := ["slices.overlaps[rampart/api.ID]"], unfollowed := true, recurses := true, plainKeys := false, apart := false }
def HybridAsksSaid : Prop := hybridAsksRow.holds Tryz.pinned (OpenSpec.ofChange hybridAsksSpec)

/-- ITS FALSE NEIGHBOUR: 'it returns false'. Refute it at one input. -/
def hybridAsksWrong : ChangeSpec := { name := "hybridAsks", fn := fun _ => fun
  | [d] => { results := [.lit (.bool false)], args := [d] }
  | _ => none }
def HybridAsksWrongFalsely : Prop := hybridAsksRow.holds Tryz.pinned (OpenSpec.ofChange hybridAsksWrong)

/-- 'rampartlaw28.HybridRefuses': WHATEVER THE INPUT: true; the input reads as it did. -/
def hybridRefusesSpec : ChangeSpec := { name := "hybridRefuses", fn := fun _ => fun
  | [d1, d2, d3] => { results := [.lit (.bool true)], args := [d1, d2, d3] }
  | _ => none }
def hybridRefusesRow : OpenClaim := { program := "ytdpckendkklfdaagreat", sum := "0e415c003f0b2d67a2255d521cfaa581ef2359ae05d78afeb17e5a6f6288380c", func := "rampart/rampartlaw28.HybridRefuses", spec := "hybridRefuses", inPlace := ["slices.overlaps[rampart/api.ID]"], unfollowed := true, recurses := true, plainKeys := false, apart := false }
def HybridRefusesSaid : Prop := hybridRefusesRow.holds Tryz.pinned (OpenSpec.ofChange hybridRefusesSpec)

/-- ITS FALSE NEIGHBOUR: 'it returns false'. Refute it at one input. -/
def hybridRefusesWrong : ChangeSpec := { name := "hybridRefuses", fn := fun _ => fun
  | [d1, d2, d3] => { results := [.lit (.bool false)], args := [d1, d2, d3] }
  | _ => none }
def HybridRefusesWrongFalsely : Prop := hybridRefusesRow.holds Tryz.pinned (OpenSpec.ofChange hybridRefusesWrong)

/-- 'rampartlaw28.HybridMemory': WHATEVER THE INPUT: true; the input reads as it did. -/
def hybridMemorySpec : ChangeSpec := { name := "hybridMemory", fn := fun _ => fun
  | [d1, d2, d3] => { results := [.lit (.bool true)], args := [d1, d2, d3] }
  | _ => none }
def hybridMemoryRow : OpenClaim := { program := "ytdpckendkklfdaagreat", sum := "0e415c003f0b2d67a2255d521cfaa581ef2359ae05d78afeb17e5a6f6288380c", func := "rampart/rampartlaw28.HybridMemory", spec := "hybridMemory", inPlace := ["slices.overlaps[rampart/api.ID]"], unfollowed := true, recurses := true, plainKeys := false, apart := false }
def HybridMemorySaid : Prop := hybridMemoryRow.holds Tryz.pinned (OpenSpec.ofChange hybridMemorySpec)

/-- ITS FALSE NEIGHBOUR: 'it returns false'. Refute it at one input. -/
def hybridMemoryWrong : ChangeSpec := { name := "hybridMemory", fn := fun _ => fun
  | [d1, d2, d3] => { results := [.lit (.bool false)], args := [d1, d2, d3] }
  | _ => none }
def HybridMemoryWrongFalsely : Prop := hybridMemoryRow.holds Tryz.pinned (OpenSpec.ofChange hybridMemoryWrong)

/-- 'rampartlaw28.HybridMisses': WHATEVER THE INPUT: true; the input reads as it did. -/
def hybridMissesSpec : ChangeSpec := { name := "hybridMisses", fn := fun _ => fun
  | [d1, d2, d3, d4] => { results := [.lit (.bool true)], args := [d1, d2, d3, d4] }
  | _ => none }
def hybridMissesRow : OpenClaim := { program := "ytdpckendkklfdaagreat", sum := "0e415c003f0b2d67a2255d521cfaa581ef2359ae05d78afeb17e5a6f6288380c", func := "rampart/rampartlaw28.HybridMisses", spec := "hybridMisses", inPlace := ["slices.overlaps[rampart/api.ID]"], unfollowed := true, recurses := true, plainKeys := false, apart := false }
def HybridMissesSaid : Prop := hybridMissesRow.holds Tryz.pinned (OpenSpec.ofChange hybridMissesSpec)

/-- ITS FALSE NEIGHBOUR: 'it returns false'. Refute it at one input. -/
def hybridMissesWrong : ChangeSpec := { name := "hybridMisses", fn := fun _ => fun
  | [d1, d2, d3, d4] => { results := [.lit (.bool false)], args := [d1, d2, d3, d4] }
  | _ => none }
def HybridMissesWrongFalsely : Prop := hybridMissesRow.holds Tryz.pinned (OpenSpec.ofChange hybridMissesWrong)

/-- 'rampartlaw11.StoreKeeps': WHATEVER THE INPUT: true; the input reads as it did. -/
def storeKeepsSpec : ChangeSpec := { name := "storeKeeps", fn := fun _ => fun
  | [d1, d2] => { results := [.lit (.bool true)], args := [d1, d2] }
  | _ => none }
def storeKeepsRow : OpenClaim := { program := "ytdpckendkklfdaagreat", sum := "0e415c003f0b2d67a2255d521cfaa581ef2359ae05d78afeb17e5a6f6288380c", func := "rampart/rampartlaw11.StoreKeeps", spec := "storeKeeps", inPlace := ["slices.overlaps[rampart/api.ID]"], unfollowed := true, recurses := true, plainKeys := false, apart := false }
def StoreKeepsSaid : Prop := storeKeepsRow.holds Tryz.pinned (OpenSpec.ofChange storeKeepsSpec)

/-- ITS FALSE NEIGHBOUR: 'it returns false'. Refute it at one input. -/
def storeKeepsWrong : ChangeSpec := { name := "storeKeeps", fn := fun _ => fun
  | [d1, d2] => { results := [.lit (.bool false)], args := [d1, d2] }
  | _ => none }
def StoreKeepsWrongFalsely : Prop := storeKeepsRow.holds Tryz.pinned (OpenSpec.ofChange storeKeepsWrong)

/-- 'rampartlaw28.HybridWhole': WHATEVER THE INPUT: true; the input reads as it did. -/
def hybridWholeSpec : ChangeSpec := { name := "hybridWhole", fn := fun _ => fun
  | [d1, d2, d3, d4, d5, d6] => { results := [.lit (.bool true)], args := [d1, d2, d3, d4, d5, d6] }
  | _ => none }
def hybridWholeRow : OpenClaim := { program := "ytdpckendkklfdaagreat", sum := "0e415c003f0b2d67a2255d521cfaa581ef2359ae05d78afeb17e5a6f6288380c", func := "rampart/rampartlaw28.HybridWhole", spec := "hybridWhole", inPlace := ["slices.overlaps[rampart/api.ID]"], unfollowed := true, recurses := true, plainKeys := false, apart := false }
def HybridWholeSaid : Prop := hybridWholeRow.holds Tryz.pinned (OpenSpec.ofChange hybridWholeSpec)

/-- ITS FALSE NEIGHBOUR: 'it returns false'. Refute it at one input. -/
def hybridWholeWrong : ChangeSpec := { name := "hybridWhole", fn := fun _ => fun
  | [d1, d2, d3, d4, d5, d6] => { results := [.lit (.bool false)], args := [d1, d2, d3, d4, d5, d6] }
  | _ => none }
def HybridWholeWrongFalsely : Prop := hybridWholeRow.holds Tryz.pinned (OpenSpec.ofChange hybridWholeWrong)

/-- 'rampartlaw13.SnapLays': WHATEVER THE INPUT: true; the input reads as it did. -/
def snapLaysSpec : ChangeSpec := { name := "snapLays", fn := fun _ => fun
  | [d1, d2] => { results := [.lit (.bool true)], args := [d1, d2] }
  | _ => none }
def snapLaysRow : OpenClaim := { program := "ytdpckendkklfdaagreat", sum := "0e415c003f0b2d67a2255d521cfaa581ef2359ae05d78afeb17e5a6f6288380c", func := "rampart/rampartlaw13.SnapLays", spec := "snapLays", inPlace := ["slices.overlaps[rampart/api.ID]"], unfollowed := true, recurses := true, plainKeys := false, apart := false }
def SnapLaysSaid : Prop := snapLaysRow.holds Tryz.pinned (OpenSpec.ofChange snapLaysSpec)

/-- ITS FALSE NEIGHBOUR: 'it returns false'. Refute it at one input. -/
def snapLaysWrong : ChangeSpec := { name := "snapLays", fn := fun _ => fun
  | [d1, d2] => { results := [.lit (.bool false)], args := [d1, d2] }
  | _ => none }
def SnapLaysWrongFalsely : Prop := snapLaysRow.holds Tryz.pinned (OpenSpec.ofChange snapLaysWrong)

/-- 'rampartlaw13.SnapReads': WHATEVER THE INPUT: true; the input reads as it did. -/
def snapReadsSpec : ChangeSpec := { name := "snapReads", fn := fun _ => fun
  | [d1, d2] => { results := [.lit (.bool true)], args := [d1, d2] }
  | _ => none }
def snapReadsRow : OpenClaim := { program := "ytdpckendkklfdaagreat", sum := "0e415c003f0b2d67a2255d521cfaa581ef2359ae05d78afeb17e5a6f6288380c", func := "rampart/rampartlaw13.SnapReads", spec := "snapReads", inPlace := ["slices.overlaps[rampart/api.ID]"], unfollowed := true, recurses := true, plainKeys := false, apart := false }
def SnapReadsSaid : Prop := snapReadsRow.holds Tryz.pinned (OpenSpec.ofChange snapReadsSpec)

/-- ITS FALSE NEIGHBOUR: 'it returns false'. Refute it at one input. -/
def snapReadsWrong : ChangeSpec := { name := "snapReads", fn := fun _ => fun
  | [d1, d2] => { results := [.lit (.bool false)], args := [d1, d2] }
  | _ => none }
def SnapReadsWrongFalsely : Prop := snapReadsRow.holds Tryz.pinned (OpenSpec.ofChange snapReadsWrong)

/-- 'rampartlaw13.SnapBursts': WHATEVER THE INPUT: true; the input reads as it did. -/
def snapBurstsSpec : ChangeSpec := { name := "snapBursts", fn := fun _ => fun
  | [d1, d2, d3] => { results := [.lit (.bool true)], args := [d1, d2, d3] }
  | _ => none }
def snapBurstsRow : OpenClaim := { program := "ytdpckendkklfdaagreat", sum := "0e415c003f0b2d67a2255d521cfaa581ef2359ae05d78afeb17e5a6f6288380c", func := "rampart/rampartlaw13.SnapBursts", spec := "snapBursts", inPlace := ["slices.overlaps[rampart/api.ID]"], unfollowed := true, recurses := true, plainKeys := false, apart := false }
def SnapBurstsSaid : Prop := snapBurstsRow.holds Tryz.pinned (OpenSpec.ofChange snapBurstsSpec)

/-- ITS FALSE NEIGHBOUR: 'it returns false'. Refute it at one input. -/
def snapBurstsWrong : ChangeSpec := { name := "snapBursts", fn := fun _ => fun
  | [d1, d2, d3] => { results := [.lit (.bool false)], args := [d1, d2, d3] }
  | _ => none }
def SnapBurstsWrongFalsely : Prop := snapBurstsRow.holds Tryz.pinned (OpenSpec.ofChange snapBurstsWrong)

/- THE SECOND FORM. 'bulk': how many values and letters a reading holds, each counted each time it is reached (what is shared counts as often as it is met; a slice's spare places count too). A statement '..UptoSaid' is the law's where the arguments, and the package variables that the reading takes, are together of bulk at most 1048576: NARROWER than '..Said'. Prove '..Said' where nothing that the law and all that it calls make is longer than what came in: it says more and counts as full. Else prove '..UptoSaid'. A law counts once. -/
mutual
def uptoBulk {H : Type} : DataW H → Nat
  | .lit (.string bytes) => bytes.length + 1
  | .lit _ => 1
  | .nil => 1
  | .ptr d => uptoBulk d + 1
  | .slice elems spare => uptoBulkAll elems + uptoBulkAll spare + 1
  | .agg parts => uptoBulkAll parts + 1
  | .iface _ d => uptoBulk d + 1
  | .map entries => uptoBulkEntries entries + 1
  | .held _ => 1
def uptoBulkAll {H : Type} : List (DataW H) → Nat
  | [] => 0
  | d :: r => uptoBulk d + uptoBulkAll r
def uptoBulkEntries {H : Type} : List (Lit × DataW H) → Nat
  | [] => 0
  | x :: r => uptoBulkEntry x + uptoBulkEntries r
def uptoBulkEntry {H : Type} : Lit × DataW H → Nat
  | (.string bytes, d) => bytes.length + uptoBulk d + 1
  | (_, d) => uptoBulk d + 1
 end
def uptoSmall : (H : Type) → List (DataW H) → Bool := fun _ ds => decide (uptoBulkAll ds ≤ 1048576)
def OpenSpec.upto (s : _root_.Go.ChangeSpec) : _root_.Go.OpenSpec := { _root_.Go.OpenSpec.ofChange s with cond := some uptoSmall }

/-- 'rampartlaw28.HybridMakes', WHERE WHAT IT READS IS OF BULK AT MOST 1048576: true; the input reads as it did. -/
def hybridMakesUptoRow : OpenClaim := { program := "ytdpckendkklfdaagreat", sum := "0e415c003f0b2d67a2255d521cfaa581ef2359ae05d78afeb17e5a6f6288380c", func := "rampart/rampartlaw28.HybridMakes", spec := "hybridMakes", inPlace := ["slices.overlaps[rampart/api.ID]"], unfollowed := true, recurses := true, plainKeys := false, apart := false, narrowed := true }
def HybridMakesUptoSaid : Prop := hybridMakesUptoRow.holds Tryz.pinned (OpenSpec.upto hybridMakesSpec)

/-- 'rampartlaw28.HybridAsks', WHERE WHAT IT READS IS OF BULK AT MOST 1048576: true; the input reads as it did. -/
def hybridAsksUptoRow : OpenClaim := { program := "ytdpckendkklfdaagreat", sum := "0e415c003f0b2d67a2255d521cfaa581ef2359ae05d78afeb17e5a6f6288380c", func := "rampart/rampartlaw28.HybridAsks", spec := "hybridAsks", inPlace := ["slices.overlaps[rampart/api.ID]"], unfollowed := true, recurses := true, plainKeys := false, apart := false, narrowed := true }
def HybridAsksUptoSaid : Prop := hybridAsksUptoRow.holds Tryz.pinned (OpenSpec.upto hybridAsksSpec)

/-- 'rampartlaw28.HybridRefuses', WHERE WHAT IT READS IS OF BULK AT MOST 1048576: true; the input reads as it did. -/
def hybridRefusesUptoRow : OpenClaim := { program := "ytdpckendkklfdaagreat", sum := "0e415c003f0b2d67a2255d521cfaa581ef2359ae05d78afeb17e5a6f6288380c", func := "rampart/rampartlaw28.HybridRefuses", spec := "hybridRefuses", inPlace := ["slices.overlaps[rampart/api.ID]"], unfollowed := true, recurses := true, plainKeys := false, apart := false, narrowed := true }
def HybridRefusesUptoSaid : Prop := hybridRefusesUptoRow.holds Tryz.pinned (OpenSpec.upto hybridRefusesSpec)

/-- 'rampartlaw28.HybridMemory', WHERE WHAT IT READS IS OF BULK AT MOST 1048576: true; the input reads as it did. -/
def hybridMemoryUptoRow : OpenClaim := { program := "ytdpckendkklfdaagreat", sum := "0e415c003f0b2d67a2255d521cfaa581ef2359ae05d78afeb17e5a6f6288380c", func := "rampart/rampartlaw28.HybridMemory", spec := "hybridMemory", inPlace := ["slices.overlaps[rampart/api.ID]"], unfollowed := true, recurses := true, plainKeys := false, apart := false, narrowed := true }
def HybridMemoryUptoSaid : Prop := hybridMemoryUptoRow.holds Tryz.pinned (OpenSpec.upto hybridMemorySpec)

/-- 'rampartlaw28.HybridMisses', WHERE WHAT IT READS IS OF BULK AT MOST 1048576: true; the input reads as it did. -/
def hybridMissesUptoRow : OpenClaim := { program := "ytdpckendkklfdaagreat", sum := "0e415c003f0b2d67a2255d521cfaa581ef2359ae05d78afeb17e5a6f6288380c", func := "rampart/rampartlaw28.HybridMisses", spec := "hybridMisses", inPlace := ["slices.overlaps[rampart/api.ID]"], unfollowed := true, recurses := true, plainKeys := false, apart := false, narrowed := true }
def HybridMissesUptoSaid : Prop := hybridMissesUptoRow.holds Tryz.pinned (OpenSpec.upto hybridMissesSpec)

/-- 'rampartlaw11.StoreKeeps', WHERE WHAT IT READS IS OF BULK AT MOST 1048576: true; the input reads as it did. -/
def storeKeepsUptoRow : OpenClaim := { program := "ytdpckendkklfdaagreat", sum := "0e415c003f0b2d67a2255d521cfaa581ef2359ae05d78afeb17e5a6f6288380c", func := "rampart/rampartlaw11.StoreKeeps", spec := "storeKeeps", inPlace := ["slices.overlaps[rampart/api.ID]"], unfollowed := true, recurses := true, plainKeys := false, apart := false, narrowed := true }
def StoreKeepsUptoSaid : Prop := storeKeepsUptoRow.holds Tryz.pinned (OpenSpec.upto storeKeepsSpec)

/-- 'rampartlaw28.HybridWhole', WHERE WHAT IT READS IS OF BULK AT MOST 1048576: true; the input reads as it did. -/
def hybridWholeUptoRow : OpenClaim := { program := "ytdpckendkklfdaagreat", sum := "0e415c003f0b2d67a2255d521cfaa581ef2359ae05d78afeb17e5a6f6288380c", func := "rampart/rampartlaw28.HybridWhole", spec := "hybridWhole", inPlace := ["slices.overlaps[rampart/api.ID]"], unfollowed := true, recurses := true, plainKeys := false, apart := false, narrowed := true }
def HybridWholeUptoSaid : Prop := hybridWholeUptoRow.holds Tryz.pinned (OpenSpec.upto hybridWholeSpec)

/-- 'rampartlaw13.SnapLays', WHERE WHAT IT READS IS OF BULK AT MOST 1048576: true; the input reads as it did. -/
def snapLaysUptoRow : OpenClaim := { program := "ytdpckendkklfdaagreat", sum := "0e415c003f0b2d67a2255d521cfaa581ef2359ae05d78afeb17e5a6f6288380c", func := "rampart/rampartlaw13.SnapLays", spec := "snapLays", inPlace := ["slices.overlaps[rampart/api.ID]"], unfollowed := true, recurses := true, plainKeys := false, apart := false, narrowed := true }
def SnapLaysUptoSaid : Prop := snapLaysUptoRow.holds Tryz.pinned (OpenSpec.upto snapLaysSpec)

/-- 'rampartlaw13.SnapReads', WHERE WHAT IT READS IS OF BULK AT MOST 1048576: true; the input reads as it did. -/
def snapReadsUptoRow : OpenClaim := { program := "ytdpckendkklfdaagreat", sum := "0e415c003f0b2d67a2255d521cfaa581ef2359ae05d78afeb17e5a6f6288380c", func := "rampart/rampartlaw13.SnapReads", spec := "snapReads", inPlace := ["slices.overlaps[rampart/api.ID]"], unfollowed := true, recurses := true, plainKeys := false, apart := false, narrowed := true }
def SnapReadsUptoSaid : Prop := snapReadsUptoRow.holds Tryz.pinned (OpenSpec.upto snapReadsSpec)

/-- 'rampartlaw13.SnapBursts', WHERE WHAT IT READS IS OF BULK AT MOST 1048576: true; the input reads as it did. -/
def snapBurstsUptoRow : OpenClaim := { program := "ytdpckendkklfdaagreat", sum := "0e415c003f0b2d67a2255d521cfaa581ef2359ae05d78afeb17e5a6f6288380c", func := "rampart/rampartlaw13.SnapBursts", spec := "snapBursts", inPlace := ["slices.overlaps[rampart/api.ID]"], unfollowed := true, recurses := true, plainKeys := false, apart := false, narrowed := true }
def SnapBurstsUptoSaid : Prop := snapBurstsUptoRow.holds Tryz.pinned (OpenSpec.upto snapBurstsSpec)

end Rows
end Go.Proofs.YtdpckendkklfdaaGreat
