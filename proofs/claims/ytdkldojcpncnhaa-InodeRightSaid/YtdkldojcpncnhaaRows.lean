/-
  No cell of these rows narrows 'for every input' (looked for: loops, veiled, ifaces, maps, wideKeys, modest, calm, conditions, laid).
  DERIVED. THE GIVEN ROWS OF THIS SEAT. 12 by the template 'for every input the law returns true; each argument reads behind the call as it read before'; 0 by the template 'total and deterministic' (their statements: YtdkldojcpncnhaaTotals.lean).
  GIVEN WITH THE SEED: the statements are not yours to turn. If you find one false, say at which input.
  Laid BY PROGRAM, IN A SANDBOX (cutbox-rows.mjs): the forced cells as the released guide's own fill.sh prints them over the translation c4628f8dbb4db803… (all of the seat's roots in one cut). By AI agents, Wed Nov 11 2026. No macro, syntax, notation, axiom, sorry.
-/
import Derived.Test.YtdkldojcpncnhaaChecked
import GoSem.Claim
import GoSem.ClaimJoined
import GoSem.ClaimMapViews
import Derived.JoinedTies
import Derived.KernelRfl
namespace Go.Proofs.Ytdkldojcpncnhaa
/- THE CELL 'sum', in the pinned program and in every row, IS THE sha256 OF THE DUMP (.gsa) THAT YtdkldojcpncnhaaProg.lean LOADS. Nothing in Lean hashes anything: it is a label: what it is worth is what the hold of that sum in a sandbox is worth. -/
noncomputable def Try.pinned : Pinned := { name := "ytdkldojcpncnhaa", sum := "c4628f8dbb4db8036d5ca0024c3e6f14996908d2f17a51e1226b7994b23bca8b", checked := Try.checked }
namespace Rows
def none {H : Type} : Left H := { results := [], args := [] }

/-- 'gabionlaw14.AllocMakes': WHATEVER THE INPUT: true; the input reads as it did. -/
def allocMakesSpec : ChangeSpec := { name := "allocMakes", fn := fun _ => fun
  | [d] => { results := [.lit (.bool true)], args := [d] }
  | _ => none }
def allocMakesRow : OpenClaim := { program := "ytdkldojcpncnhaa", sum := "c4628f8dbb4db8036d5ca0024c3e6f14996908d2f17a51e1226b7994b23bca8b", func := "gabion/gabionlaw14.AllocMakes", spec := "allocMakes", unfollowed := true, recurses := true, apart := false }
def AllocMakesSaid : Prop := allocMakesRow.holds Try.pinned (OpenSpec.ofChange allocMakesSpec)

/-- ITS FALSE NEIGHBOUR: 'it returns false'. Refute it at one input. -/
def allocMakesWrong : ChangeSpec := { name := "allocMakes", fn := fun _ => fun
  | [d] => { results := [.lit (.bool false)], args := [d] }
  | _ => none }
def AllocMakesWrongFalsely : Prop := allocMakesRow.holds Try.pinned (OpenSpec.ofChange allocMakesWrong)

/-- 'gabionlaw14.AllocAll': WHATEVER THE INPUT: true; the input reads as it did. -/
def allocAllSpec : ChangeSpec := { name := "allocAll", fn := fun _ => fun
  | [d] => { results := [.lit (.bool true)], args := [d] }
  | _ => none }
def allocAllRow : OpenClaim := { program := "ytdkldojcpncnhaa", sum := "c4628f8dbb4db8036d5ca0024c3e6f14996908d2f17a51e1226b7994b23bca8b", func := "gabion/gabionlaw14.AllocAll", spec := "allocAll", unfollowed := true, recurses := true, apart := false }
def AllocAllSaid : Prop := allocAllRow.holds Try.pinned (OpenSpec.ofChange allocAllSpec)

/-- ITS FALSE NEIGHBOUR: 'it returns false'. Refute it at one input. -/
def allocAllWrong : ChangeSpec := { name := "allocAll", fn := fun _ => fun
  | [d] => { results := [.lit (.bool false)], args := [d] }
  | _ => none }
def AllocAllWrongFalsely : Prop := allocAllRow.holds Try.pinned (OpenSpec.ofChange allocAllWrong)

/-- 'gabionlaw15.ExtGrows': WHATEVER THE INPUT: true; the input reads as it did. -/
def extGrowsSpec : ChangeSpec := { name := "extGrows", fn := fun _ => fun
  | [d1, d2, d3] => { results := [.lit (.bool true)], args := [d1, d2, d3] }
  | _ => none }
def extGrowsRow : OpenClaim := { program := "ytdkldojcpncnhaa", sum := "c4628f8dbb4db8036d5ca0024c3e6f14996908d2f17a51e1226b7994b23bca8b", func := "gabion/gabionlaw15.ExtGrows", spec := "extGrows", unfollowed := true, recurses := true, apart := false }
def ExtGrowsSaid : Prop := extGrowsRow.holds Try.pinned (OpenSpec.ofChange extGrowsSpec)

/-- ITS FALSE NEIGHBOUR: 'it returns false'. Refute it at one input. -/
def extGrowsWrong : ChangeSpec := { name := "extGrows", fn := fun _ => fun
  | [d1, d2, d3] => { results := [.lit (.bool false)], args := [d1, d2, d3] }
  | _ => none }
def ExtGrowsWrongFalsely : Prop := extGrowsRow.holds Try.pinned (OpenSpec.ofChange extGrowsWrong)

/-- 'gabionlaw15.ExtBack': WHATEVER THE INPUT: true; the input reads as it did. -/
def extBackSpec : ChangeSpec := { name := "extBack", fn := fun _ => fun
  | [d1, d2, d3] => { results := [.lit (.bool true)], args := [d1, d2, d3] }
  | _ => none }
def extBackRow : OpenClaim := { program := "ytdkldojcpncnhaa", sum := "c4628f8dbb4db8036d5ca0024c3e6f14996908d2f17a51e1226b7994b23bca8b", func := "gabion/gabionlaw15.ExtBack", spec := "extBack", unfollowed := true, recurses := true, apart := false }
def ExtBackSaid : Prop := extBackRow.holds Try.pinned (OpenSpec.ofChange extBackSpec)

/-- ITS FALSE NEIGHBOUR: 'it returns false'. Refute it at one input. -/
def extBackWrong : ChangeSpec := { name := "extBack", fn := fun _ => fun
  | [d1, d2, d3] => { results := [.lit (.bool false)], args := [d1, d2, d3] }
  | _ => none }
def ExtBackWrongFalsely : Prop := extBackRow.holds Try.pinned (OpenSpec.ofChange extBackWrong)

/-- 'gabionlaw14.AllocBack': WHATEVER THE INPUT: true; the input reads as it did. -/
def allocBackSpec : ChangeSpec := { name := "allocBack", fn := fun _ => fun
  | [d1, d2] => { results := [.lit (.bool true)], args := [d1, d2] }
  | _ => none }
def allocBackRow : OpenClaim := { program := "ytdkldojcpncnhaa", sum := "c4628f8dbb4db8036d5ca0024c3e6f14996908d2f17a51e1226b7994b23bca8b", func := "gabion/gabionlaw14.AllocBack", spec := "allocBack", unfollowed := true, recurses := true, apart := false }
def AllocBackSaid : Prop := allocBackRow.holds Try.pinned (OpenSpec.ofChange allocBackSpec)

/-- ITS FALSE NEIGHBOUR: 'it returns false'. Refute it at one input. -/
def allocBackWrong : ChangeSpec := { name := "allocBack", fn := fun _ => fun
  | [d1, d2] => { results := [.lit (.bool false)], args := [d1, d2] }
  | _ => none }
def AllocBackWrongFalsely : Prop := allocBackRow.holds Try.pinned (OpenSpec.ofChange allocBackWrong)

/-- 'gabionlaw14.AllocPlays': WHATEVER THE INPUT: true; the input reads as it did. -/
def allocPlaysSpec : ChangeSpec := { name := "allocPlays", fn := fun _ => fun
  | [d1, d2] => { results := [.lit (.bool true)], args := [d1, d2] }
  | _ => none }
def allocPlaysRow : OpenClaim := { program := "ytdkldojcpncnhaa", sum := "c4628f8dbb4db8036d5ca0024c3e6f14996908d2f17a51e1226b7994b23bca8b", func := "gabion/gabionlaw14.AllocPlays", spec := "allocPlays", unfollowed := true, recurses := true, apart := false }
def AllocPlaysSaid : Prop := allocPlaysRow.holds Try.pinned (OpenSpec.ofChange allocPlaysSpec)

/-- ITS FALSE NEIGHBOUR: 'it returns false'. Refute it at one input. -/
def allocPlaysWrong : ChangeSpec := { name := "allocPlays", fn := fun _ => fun
  | [d1, d2] => { results := [.lit (.bool false)], args := [d1, d2] }
  | _ => none }
def AllocPlaysWrongFalsely : Prop := allocPlaysRow.holds Try.pinned (OpenSpec.ofChange allocPlaysWrong)

/-- 'gabionlaw15.ExtMaps': WHATEVER THE INPUT: true; the input reads as it did. -/
def extMapsSpec : ChangeSpec := { name := "extMaps", fn := fun _ => fun
  | [d1, d2, d3] => { results := [.lit (.bool true)], args := [d1, d2, d3] }
  | _ => none }
def extMapsRow : OpenClaim := { program := "ytdkldojcpncnhaa", sum := "c4628f8dbb4db8036d5ca0024c3e6f14996908d2f17a51e1226b7994b23bca8b", func := "gabion/gabionlaw15.ExtMaps", spec := "extMaps", apart := false }
def ExtMapsSaid : Prop := extMapsRow.holds Try.pinned (OpenSpec.ofChange extMapsSpec)

/-- ITS FALSE NEIGHBOUR: 'it returns false'. Refute it at one input. -/
def extMapsWrong : ChangeSpec := { name := "extMaps", fn := fun _ => fun
  | [d1, d2, d3] => { results := [.lit (.bool false)], args := [d1, d2, d3] }
  | _ => none }
def ExtMapsWrongFalsely : Prop := extMapsRow.holds Try.pinned (OpenSpec.ofChange extMapsWrong)

/-- 'gabionlaw15.ExtParts': WHATEVER THE INPUT: true; the input reads as it did. -/
def extPartsSpec : ChangeSpec := { name := "extParts", fn := fun _ => fun
  | [d] => { results := [.lit (.bool true)], args := [d] }
  | _ => none }
def extPartsRow : OpenClaim := { program := "ytdkldojcpncnhaa", sum := "c4628f8dbb4db8036d5ca0024c3e6f14996908d2f17a51e1226b7994b23bca8b", func := "gabion/gabionlaw15.ExtParts", spec := "extParts", apart := false }
def ExtPartsSaid : Prop := extPartsRow.holds Try.pinned (OpenSpec.ofChange extPartsSpec)

/-- ITS FALSE NEIGHBOUR: 'it returns false'. Refute it at one input. -/
def extPartsWrong : ChangeSpec := { name := "extParts", fn := fun _ => fun
  | [d] => { results := [.lit (.bool false)], args := [d] }
  | _ => none }
def ExtPartsWrongFalsely : Prop := extPartsRow.holds Try.pinned (OpenSpec.ofChange extPartsWrong)

/-- 'gabionlaw16.InodeRight': WHATEVER THE INPUT: true; the input reads as it did. -/
def inodeRightSpec : ChangeSpec := { name := "inodeRight", fn := fun _ => fun
  | [d1, d2] => { results := [.lit (.bool true)], args := [d1, d2] }
  | _ => none }
def inodeRightRow : OpenClaim := { program := "ytdkldojcpncnhaa", sum := "c4628f8dbb4db8036d5ca0024c3e6f14996908d2f17a51e1226b7994b23bca8b", func := "gabion/gabionlaw16.InodeRight", spec := "inodeRight", inPlace := ["internal/bytealg.IndexByteString", "internal/bytealg.IndexString"], named := ["internal/bytealg.MaxLen"], apart := false }
def InodeRightSaid : Prop := inodeRightRow.holds Try.pinned (OpenSpec.ofChange inodeRightSpec)

/-- ITS FALSE NEIGHBOUR: 'it returns false'. Refute it at one input. -/
def inodeRightWrong : ChangeSpec := { name := "inodeRight", fn := fun _ => fun
  | [d1, d2] => { results := [.lit (.bool false)], args := [d1, d2] }
  | _ => none }
def InodeRightWrongFalsely : Prop := inodeRightRow.holds Try.pinned (OpenSpec.ofChange inodeRightWrong)

/-- 'gabionlaw16.InodeBack': WHATEVER THE INPUT: true; the input reads as it did. -/
def inodeBackSpec : ChangeSpec := { name := "inodeBack", fn := fun _ => fun
  | [d1, d2, d3] => { results := [.lit (.bool true)], args := [d1, d2, d3] }
  | _ => none }
def inodeBackRow : OpenClaim := { program := "ytdkldojcpncnhaa", sum := "c4628f8dbb4db8036d5ca0024c3e6f14996908d2f17a51e1226b7994b23bca8b", func := "gabion/gabionlaw16.InodeBack", spec := "inodeBack", inPlace := ["internal/bytealg.IndexByteString", "internal/bytealg.IndexString"], named := ["internal/bytealg.MaxLen"], apart := false }
def InodeBackSaid : Prop := inodeBackRow.holds Try.pinned (OpenSpec.ofChange inodeBackSpec)

/-- ITS FALSE NEIGHBOUR: 'it returns false'. Refute it at one input. -/
def inodeBackWrong : ChangeSpec := { name := "inodeBack", fn := fun _ => fun
  | [d1, d2, d3] => { results := [.lit (.bool false)], args := [d1, d2, d3] }
  | _ => none }
def InodeBackWrongFalsely : Prop := inodeBackRow.holds Try.pinned (OpenSpec.ofChange inodeBackWrong)

/-- 'gabionlaw16.InodeEqual': WHATEVER THE INPUT: true; the input reads as it did. -/
def inodeEqualSpec : ChangeSpec := { name := "inodeEqual", fn := fun _ => fun
  | [d1, d2] => { results := [.lit (.bool true)], args := [d1, d2] }
  | _ => none }
def inodeEqualRow : OpenClaim := { program := "ytdkldojcpncnhaa", sum := "c4628f8dbb4db8036d5ca0024c3e6f14996908d2f17a51e1226b7994b23bca8b", func := "gabion/gabionlaw16.InodeEqual", spec := "inodeEqual", inPlace := ["internal/bytealg.IndexByteString", "internal/bytealg.IndexString"], named := ["internal/bytealg.MaxLen"], apart := false }
def InodeEqualSaid : Prop := inodeEqualRow.holds Try.pinned (OpenSpec.ofChange inodeEqualSpec)

/-- ITS FALSE NEIGHBOUR: 'it returns false'. Refute it at one input. -/
def inodeEqualWrong : ChangeSpec := { name := "inodeEqual", fn := fun _ => fun
  | [d1, d2] => { results := [.lit (.bool false)], args := [d1, d2] }
  | _ => none }
def InodeEqualWrongFalsely : Prop := inodeEqualRow.holds Try.pinned (OpenSpec.ofChange inodeEqualWrong)

/-- 'gabionlaw16.InodeNeeds': WHATEVER THE INPUT: true; the input reads as it did. -/
def inodeNeedsSpec : ChangeSpec := { name := "inodeNeeds", fn := fun _ => fun
  | [d1, d2] => { results := [.lit (.bool true)], args := [d1, d2] }
  | _ => none }
def inodeNeedsRow : OpenClaim := { program := "ytdkldojcpncnhaa", sum := "c4628f8dbb4db8036d5ca0024c3e6f14996908d2f17a51e1226b7994b23bca8b", func := "gabion/gabionlaw16.InodeNeeds", spec := "inodeNeeds", inPlace := ["internal/bytealg.IndexByteString", "internal/bytealg.IndexString"], named := ["internal/bytealg.MaxLen"], apart := false }
def InodeNeedsSaid : Prop := inodeNeedsRow.holds Try.pinned (OpenSpec.ofChange inodeNeedsSpec)

/-- ITS FALSE NEIGHBOUR: 'it returns false'. Refute it at one input. -/
def inodeNeedsWrong : ChangeSpec := { name := "inodeNeeds", fn := fun _ => fun
  | [d1, d2] => { results := [.lit (.bool false)], args := [d1, d2] }
  | _ => none }
def InodeNeedsWrongFalsely : Prop := inodeNeedsRow.holds Try.pinned (OpenSpec.ofChange inodeNeedsWrong)

/- THE SECOND FORM. 'bulk': how many values and letters a reading holds, each counted each time it is reached (what is shared counts as often as it is met; a slice's spare places count too). A statement '..UptoSaid' is the law's where the arguments, and the package variables that the reading takes, are together of bulk at most 1048576: NARROWER than '..Said'. Prove '..Said' where nothing that the law and all that it calls make is longer than what came in: it says more and counts as full. Else prove '..UptoSaid'. A law counts once. -/
mutual
def uptoBulk {H : Type} : DataW H → Nat
  | .lit (.string bytes) => bytes.length + 1
  | .lit _ => 1
  | .nil => 1
  | .ptr d => uptoBulk d + 1
  | .slice elems spare => uptoBulkAll elems + uptoBulkAll spare + 1
  | .agg parts => uptoBulkAll parts + 1
  | .iface _ d => uptoBulk d + 1
  | .map entries => uptoBulkEntries entries + 1
  | .held _ => 1
def uptoBulkAll {H : Type} : List (DataW H) → Nat
  | [] => 0
  | d :: r => uptoBulk d + uptoBulkAll r
def uptoBulkEntries {H : Type} : List (Lit × DataW H) → Nat
  | [] => 0
  | x :: r => uptoBulkEntry x + uptoBulkEntries r
def uptoBulkEntry {H : Type} : Lit × DataW H → Nat
  | (.string bytes, d) => bytes.length + uptoBulk d + 1
  | (_, d) => uptoBulk d + 1
 end
def uptoSmall : (H : Type) → List (DataW H) → Bool := fun _ ds => decide (uptoBulkAll ds ≤ 1048576)
def OpenSpec.upto (s : _root_.Go.ChangeSpec) : _root_.Go.OpenSpec := { _root_.Go.OpenSpec.ofChange s with cond := some uptoSmall }

/-- 'gabionlaw14.AllocMakes', WHERE WHAT IT READS IS OF BULK AT MOST 1048576: true; the input reads as it did. -/
def allocMakesUptoRow : OpenClaim := { program := "ytdkldojcpncnhaa", sum := "c4628f8dbb4db8036d5ca0024c3e6f14996908d2f17a51e1226b7994b23bca8b", func := "gabion/gabionlaw14.AllocMakes", spec := "allocMakes", unfollowed := true, recurses := true, apart := false, narrowed := true }
def AllocMakesUptoSaid : Prop := allocMakesUptoRow.holds Try.pinned (OpenSpec.upto allocMakesSpec)

/-- 'gabionlaw14.AllocAll', WHERE WHAT IT READS IS OF BULK AT MOST 1048576: true; the input reads as it did. -/
def allocAllUptoRow : OpenClaim := { program := "ytdkldojcpncnhaa", sum := "c4628f8dbb4db8036d5ca0024c3e6f14996908d2f17a51e1226b7994b23bca8b", func := "gabion/gabionlaw14.AllocAll", spec := "allocAll", unfollowed := true, recurses := true, apart := false, narrowed := true }
def AllocAllUptoSaid : Prop := allocAllUptoRow.holds Try.pinned (OpenSpec.upto allocAllSpec)

/-- 'gabionlaw15.ExtGrows', WHERE WHAT IT READS IS OF BULK AT MOST 1048576: true; the input reads as it did. -/
def extGrowsUptoRow : OpenClaim := { program := "ytdkldojcpncnhaa", sum := "c4628f8dbb4db8036d5ca0024c3e6f14996908d2f17a51e1226b7994b23bca8b", func := "gabion/gabionlaw15.ExtGrows", spec := "extGrows", unfollowed := true, recurses := true, apart := false, narrowed := true }
def ExtGrowsUptoSaid : Prop := extGrowsUptoRow.holds Try.pinned (OpenSpec.upto extGrowsSpec)

/-- 'gabionlaw15.ExtBack', WHERE WHAT IT READS IS OF BULK AT MOST 1048576: true; the input reads as it did. -/
def extBackUptoRow : OpenClaim := { program := "ytdkldojcpncnhaa", sum := "c4628f8dbb4db8036d5ca0024c3e6f14996908d2f17a51e1226b7994b23bca8b", func := "gabion/gabionlaw15.ExtBack", spec := "extBack", unfollowed := true, recurses := true, apart := false, narrowed := true }
def ExtBackUptoSaid : Prop := extBackUptoRow.holds Try.pinned (OpenSpec.upto extBackSpec)

/-- 'gabionlaw14.AllocBack', WHERE WHAT IT READS IS OF BULK AT MOST 1048576: true; the input reads as it did. -/
def allocBackUptoRow : OpenClaim := { program := "ytdkldojcpncnhaa", sum := "c4628f8dbb4db8036d5ca0024c3e6f14996908d2f17a51e1226b7994b23bca8b", func := "gabion/gabionlaw14.AllocBack", spec := "allocBack", unfollowed := true, recurses := true, apart := false, narrowed := true }
def AllocBackUptoSaid : Prop := allocBackUptoRow.holds Try.pinned (OpenSpec.upto allocBackSpec)

/-- 'gabionlaw14.AllocPlays', WHERE WHAT IT READS IS OF BULK AT MOST 1048576: true; the input reads as it did. -/
def allocPlaysUptoRow : OpenClaim := { program := "ytdkldojcpncnhaa", sum := "c4628f8dbb4db8036d5ca0024c3e6f14996908d2f17a51e1226b7994b23bca8b", func := "gabion/gabionlaw14.AllocPlays", spec := "allocPlays", unfollowed := true, recurses := true, apart := false, narrowed := true }
def AllocPlaysUptoSaid : Prop := allocPlaysUptoRow.holds Try.pinned (OpenSpec.upto allocPlaysSpec)

/-- 'gabionlaw15.ExtMaps', WHERE WHAT IT READS IS OF BULK AT MOST 1048576: true; the input reads as it did. -/
def extMapsUptoRow : OpenClaim := { program := "ytdkldojcpncnhaa", sum := "c4628f8dbb4db8036d5ca0024c3e6f14996908d2f17a51e1226b7994b23bca8b", func := "gabion/gabionlaw15.ExtMaps", spec := "extMaps", apart := false, narrowed := true }
def ExtMapsUptoSaid : Prop := extMapsUptoRow.holds Try.pinned (OpenSpec.upto extMapsSpec)

/-- 'gabionlaw15.ExtParts', WHERE WHAT IT READS IS OF BULK AT MOST 1048576: true; the input reads as it did. -/
def extPartsUptoRow : OpenClaim := { program := "ytdkldojcpncnhaa", sum := "c4628f8dbb4db8036d5ca0024c3e6f14996908d2f17a51e1226b7994b23bca8b", func := "gabion/gabionlaw15.ExtParts", spec := "extParts", apart := false, narrowed := true }
def ExtPartsUptoSaid : Prop := extPartsUptoRow.holds Try.pinned (OpenSpec.upto extPartsSpec)

/-- 'gabionlaw16.InodeRight', WHERE WHAT IT READS IS OF BULK AT MOST 1048576: true; the input reads as it did. -/
def inodeRightUptoRow : OpenClaim := { program := "ytdkldojcpncnhaa", sum := "c4628f8dbb4db8036d5ca0024c3e6f14996908d2f17a51e1226b7994b23bca8b", func := "gabion/gabionlaw16.InodeRight", spec := "inodeRight", inPlace := ["internal/bytealg.IndexByteString", "internal/bytealg.IndexString"], named := ["internal/bytealg.MaxLen"], apart := false, narrowed := true }
def InodeRightUptoSaid : Prop := inodeRightUptoRow.holds Try.pinned (OpenSpec.upto inodeRightSpec)

/-- 'gabionlaw16.InodeBack', WHERE WHAT IT READS IS OF BULK AT MOST 1048576: true; the input reads as it did. -/
def inodeBackUptoRow : OpenClaim := { program := "ytdkldojcpncnhaa", sum := "c4628f8dbb4db8036d5ca0024c3e6f14996908d2f17a51e1226b7994b23bca8b", func := "gabion/gabionlaw16.InodeBack", spec := "inodeBack", inPlace := ["internal/bytealg.IndexByteString", "internal/bytealg.IndexString"], named := ["internal/bytealg.MaxLen"], apart := false, narrowed := true }
def InodeBackUptoSaid : Prop := inodeBackUptoRow.holds Try.pinned (OpenSpec.upto inodeBackSpec)

/-- 'gabionlaw16.InodeEqual', WHERE WHAT IT READS IS OF BULK AT MOST 1048576: true; the input reads as it did. -/
def inodeEqualUptoRow : OpenClaim := { program := "ytdkldojcpncnhaa", sum := "c4628f8dbb4db8036d5ca0024c3e6f14996908d2f17a51e1226b7994b23bca8b", func := "gabion/gabionlaw16.InodeEqual", spec := "inodeEqual", inPlace := ["internal/bytealg.IndexByteString", "internal/bytealg.IndexString"], named := ["internal/bytealg.MaxLen"], apart := false, narrowed := true }
def InodeEqualUptoSaid : Prop := inodeEqualUptoRow.holds Try.pinned (OpenSpec.upto inodeEqualSpec)

/-- 'gabionlaw16.InodeNeeds', WHERE WHAT IT READS IS OF BULK AT MOST 1048576: true; the input reads as it did. -/
def inodeNeedsUptoRow : OpenClaim := { program := "ytdkldojcpncnhaa", sum := "c4628f8dbb4db8036d5ca0024c3e6f14996908d2f17a51e1226b7994b23bca8b", func := "gabion/gabionlaw16.InodeNeeds", spec := "inodeNeeds", inPlace := ["internal/bytealg.IndexByteString", "internal/bytealg.IndexString"], named := ["internal/bytealg.MaxLen"], apart := false, narrowed := true }
def InodeNeedsUptoSaid : Prop := inodeNeedsUptoRow.holds Try.pinned (OpenSpec.upto inodeNeedsSpec)

end Rows
end Go.Proofs.Ytdkldojcpncnhaa
