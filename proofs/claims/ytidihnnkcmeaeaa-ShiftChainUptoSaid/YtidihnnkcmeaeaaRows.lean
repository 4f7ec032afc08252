/-
  No cell of these rows narrows 'for every input' (looked for: loops, veiled, ifaces, maps, wideKeys, modest, calm, conditions, laid).
  DERIVED. THE GIVEN ROWS OF THIS SEAT. 20 by the template 'for every input the law returns true; each argument reads behind the call as it read before'; 0 by the template 'total and deterministic' (their statements: YtidihnnkcmeaeaaTotals.lean).
  GIVEN WITH THE SEED: the statements are not yours to turn. If you find one false, say at which input.
  Laid BY PROGRAM, IN A SANDBOX (cutbox-rows.mjs): the forced cells as the released guide's own fill.sh prints them over the translation e91f4cb347e2de7f… (all of the seat's roots in one cut). By AI agents, Wed Nov 11 2026. No macro, syntax, notation, axiom, sorry.
-/
import Derived.Test.YtidihnnkcmeaeaaChecked
import GoSem.Claim
import GoSem.ClaimJoined
import GoSem.ClaimMapViews
import Derived.JoinedTies
import Derived.KernelRfl
namespace Go.Proofs.Ytidihnnkcmeaeaa
/- THE CELL 'sum', in the pinned program and in every row, IS THE sha256 OF THE DUMP (.gsa) THAT YtidihnnkcmeaeaaProg.lean LOADS. Nothing in Lean hashes anything: it is a label: what it is worth is what the hold of that sum in a sandbox is worth. -/
noncomputable def Try.pinned : Pinned := { name := "ytidihnnkcmeaeaa", sum := "e91f4cb347e2de7fbe48433b839e940976fa7b1522c34f914100e4bc3e6420a1", checked := Try.checked }
namespace Rows
def none {H : Type} : Left H := { results := [], args := [] }

/-- 'galleylaw13.DeltaNames': WHATEVER THE INPUT: true; the input reads as it did. -/
def deltaNamesSpec : ChangeSpec := { name := "deltaNames", fn := fun _ => fun
  | [] => { results := [.lit (.bool true)], args := [] }
  | _ => none }
def deltaNamesRow : OpenClaim := { program := "ytidihnnkcmeaeaa", sum := "e91f4cb347e2de7fbe48433b839e940976fa7b1522c34f914100e4bc3e6420a1", func := "galley/galleylaw13.DeltaNames", spec := "deltaNames", apart := false }
def DeltaNamesSaid : Prop := deltaNamesRow.holds Try.pinned (OpenSpec.ofChange deltaNamesSpec)

/-- ITS FALSE NEIGHBOUR: 'it returns false'. Refute it at one input. -/
def deltaNamesWrong : ChangeSpec := { name := "deltaNames", fn := fun _ => fun
  | [] => { results := [.lit (.bool false)], args := [] }
  | _ => none }
def DeltaNamesWrongFalsely : Prop := deltaNamesRow.holds Try.pinned (OpenSpec.ofChange deltaNamesWrong)

/-- 'galleylaw13.DeltaApply': WHATEVER THE INPUT: true; the input reads as it did. -/
def deltaApplySpec : ChangeSpec := { name := "deltaApply", fn := fun _ => fun
  | [d1, d2] => { results := [.lit (.bool true)], args := [d1, d2] }
  | _ => none }
def deltaApplyRow : OpenClaim := { program := "ytidihnnkcmeaeaa", sum := "e91f4cb347e2de7fbe48433b839e940976fa7b1522c34f914100e4bc3e6420a1", func := "galley/galleylaw13.DeltaApply", spec := "deltaApply", unfollowed := true, recurses := true, apart := false }
def DeltaApplySaid : Prop := deltaApplyRow.holds Try.pinned (OpenSpec.ofChange deltaApplySpec)

/-- ITS FALSE NEIGHBOUR: 'it returns false'. Refute it at one input. -/
def deltaApplyWrong : ChangeSpec := { name := "deltaApply", fn := fun _ => fun
  | [d1, d2] => { results := [.lit (.bool false)], args := [d1, d2] }
  | _ => none }
def DeltaApplyWrongFalsely : Prop := deltaApplyRow.holds Try.pinned (OpenSpec.ofChange deltaApplyWrong)

/-- 'galleylaw13.DeltaOf': WHATEVER THE INPUT: true; the input reads as it did. -/
def deltaOfSpec : ChangeSpec := { name := "deltaOf", fn := fun _ => fun
  | [d1, d2] => { results := [.lit (.bool true)], args := [d1, d2] }
  | _ => none }
def deltaOfRow : OpenClaim := { program := "ytidihnnkcmeaeaa", sum := "e91f4cb347e2de7fbe48433b839e940976fa7b1522c34f914100e4bc3e6420a1", func := "galley/galleylaw13.DeltaOf", spec := "deltaOf", unfollowed := true, recurses := true, apart := false }
def DeltaOfSaid : Prop := deltaOfRow.holds Try.pinned (OpenSpec.ofChange deltaOfSpec)

/-- ITS FALSE NEIGHBOUR: 'it returns false'. Refute it at one input. -/
def deltaOfWrong : ChangeSpec := { name := "deltaOf", fn := fun _ => fun
  | [d1, d2] => { results := [.lit (.bool false)], args := [d1, d2] }
  | _ => none }
def DeltaOfWrongFalsely : Prop := deltaOfRow.holds Try.pinned (OpenSpec.ofChange deltaOfWrong)

/-- 'galleylaw13.DeltaCanon': WHATEVER THE INPUT: true; the input reads as it did. -/
def deltaCanonSpec : ChangeSpec := { name := "deltaCanon", fn := fun _ => fun
  | [d] => { results := [.lit (.bool true)], args := [d] }
  | _ => none }
def deltaCanonRow : OpenClaim := { program := "ytidihnnkcmeaeaa", sum := "e91f4cb347e2de7fbe48433b839e940976fa7b1522c34f914100e4bc3e6420a1", func := "galley/galleylaw13.DeltaCanon", spec := "deltaCanon", unfollowed := true, recurses := true, apart := false }
def DeltaCanonSaid : Prop := deltaCanonRow.holds Try.pinned (OpenSpec.ofChange deltaCanonSpec)

/-- ITS FALSE NEIGHBOUR: 'it returns false'. Refute it at one input. -/
def deltaCanonWrong : ChangeSpec := { name := "deltaCanon", fn := fun _ => fun
  | [d] => { results := [.lit (.bool false)], args := [d] }
  | _ => none }
def DeltaCanonWrongFalsely : Prop := deltaCanonRow.holds Try.pinned (OpenSpec.ofChange deltaCanonWrong)

/-- 'galleylaw13.DeltaCompose': WHATEVER THE INPUT: true; the input reads as it did. -/
def deltaComposeSpec : ChangeSpec := { name := "deltaCompose", fn := fun _ => fun
  | [d1, d2] => { results := [.lit (.bool true)], args := [d1, d2] }
  | _ => none }
def deltaComposeRow : OpenClaim := { program := "ytidihnnkcmeaeaa", sum := "e91f4cb347e2de7fbe48433b839e940976fa7b1522c34f914100e4bc3e6420a1", func := "galley/galleylaw13.DeltaCompose", spec := "deltaCompose", unfollowed := true, recurses := true, apart := false }
def DeltaComposeSaid : Prop := deltaComposeRow.holds Try.pinned (OpenSpec.ofChange deltaComposeSpec)

/-- ITS FALSE NEIGHBOUR: 'it returns false'. Refute it at one input. -/
def deltaComposeWrong : ChangeSpec := { name := "deltaCompose", fn := fun _ => fun
  | [d1, d2] => { results := [.lit (.bool false)], args := [d1, d2] }
  | _ => none }
def DeltaComposeWrongFalsely : Prop := deltaComposeRow.holds Try.pinned (OpenSpec.ofChange deltaComposeWrong)

/-- 'galleylaw14.ShiftMeets': WHATEVER THE INPUT: true; the input reads as it did. -/
def shiftMeetsSpec : ChangeSpec := { name := "shiftMeets", fn := fun _ => fun
  | [d1, d2, d3] => { results := [.lit (.bool true)], args := [d1, d2, d3] }
  | _ => none }
def shiftMeetsRow : OpenClaim := { program := "ytidihnnkcmeaeaa", sum := "e91f4cb347e2de7fbe48433b839e940976fa7b1522c34f914100e4bc3e6420a1", func := "galley/galleylaw14.ShiftMeets", spec := "shiftMeets", unfollowed := true, recurses := true, apart := false }
def ShiftMeetsSaid : Prop := shiftMeetsRow.holds Try.pinned (OpenSpec.ofChange shiftMeetsSpec)

/-- ITS FALSE NEIGHBOUR: 'it returns false'. Refute it at one input. -/
def shiftMeetsWrong : ChangeSpec := { name := "shiftMeets", fn := fun _ => fun
  | [d1, d2, d3] => { results := [.lit (.bool false)], args := [d1, d2, d3] }
  | _ => none }
def ShiftMeetsWrongFalsely : Prop := shiftMeetsRow.holds Try.pinned (OpenSpec.ofChange shiftMeetsWrong)

/-- 'galleylaw13.DeltaDoes': WHATEVER THE INPUT: true; the input reads as it did. -/
def deltaDoesSpec : ChangeSpec := { name := "deltaDoes", fn := fun _ => fun
  | [d1, d2, d3] => { results := [.lit (.bool true)], args := [d1, d2, d3] }
  | _ => none }
def deltaDoesRow : OpenClaim := { program := "ytidihnnkcmeaeaa", sum := "e91f4cb347e2de7fbe48433b839e940976fa7b1522c34f914100e4bc3e6420a1", func := "galley/galleylaw13.DeltaDoes", spec := "deltaDoes", unfollowed := true, recurses := true, apart := false }
def DeltaDoesSaid : Prop := deltaDoesRow.holds Try.pinned (OpenSpec.ofChange deltaDoesSpec)

/-- ITS FALSE NEIGHBOUR: 'it returns false'. Refute it at one input. -/
def deltaDoesWrong : ChangeSpec := { name := "deltaDoes", fn := fun _ => fun
  | [d1, d2, d3] => { results := [.lit (.bool false)], args := [d1, d2, d3] }
  | _ => none }
def DeltaDoesWrongFalsely : Prop := deltaDoesRow.holds Try.pinned (OpenSpec.ofChange deltaDoesWrong)

/-- 'galleylaw14.ShiftChains': WHATEVER THE INPUT: true; the input reads as it did. -/
def shiftChainsSpec : ChangeSpec := { name := "shiftChains", fn := fun _ => fun
  | [d1, d2] => { results := [.lit (.bool true)], args := [d1, d2] }
  | _ => none }
def shiftChainsRow : OpenClaim := { program := "ytidihnnkcmeaeaa", sum := "e91f4cb347e2de7fbe48433b839e940976fa7b1522c34f914100e4bc3e6420a1", func := "galley/galleylaw14.ShiftChains", spec := "shiftChains", unfollowed := true, recurses := true, apart := false }
def ShiftChainsSaid : Prop := shiftChainsRow.holds Try.pinned (OpenSpec.ofChange shiftChainsSpec)

/-- ITS FALSE NEIGHBOUR: 'it returns false'. Refute it at one input. -/
def shiftChainsWrong : ChangeSpec := { name := "shiftChains", fn := fun _ => fun
  | [d1, d2] => { results := [.lit (.bool false)], args := [d1, d2] }
  | _ => none }
def ShiftChainsWrongFalsely : Prop := shiftChainsRow.holds Try.pinned (OpenSpec.ofChange shiftChainsWrong)

/-- 'galleylaw13.DeltaAssoc': WHATEVER THE INPUT: true; the input reads as it did. -/
def deltaAssocSpec : ChangeSpec := { name := "deltaAssoc", fn := fun _ => fun
  | [d1, d2] => { results := [.lit (.bool true)], args := [d1, d2] }
  | _ => none }
def deltaAssocRow : OpenClaim := { program := "ytidihnnkcmeaeaa", sum := "e91f4cb347e2de7fbe48433b839e940976fa7b1522c34f914100e4bc3e6420a1", func := "galley/galleylaw13.DeltaAssoc", spec := "deltaAssoc", unfollowed := true, recurses := true, apart := false }
def DeltaAssocSaid : Prop := deltaAssocRow.holds Try.pinned (OpenSpec.ofChange deltaAssocSpec)

/-- ITS FALSE NEIGHBOUR: 'it returns false'. Refute it at one input. -/
def deltaAssocWrong : ChangeSpec := { name := "deltaAssoc", fn := fun _ => fun
  | [d1, d2] => { results := [.lit (.bool false)], args := [d1, d2] }
  | _ => none }
def DeltaAssocWrongFalsely : Prop := deltaAssocRow.holds Try.pinned (OpenSpec.ofChange deltaAssocWrong)

/-- 'galleylaw13.DeltaBack': WHATEVER THE INPUT: true; the input reads as it did. -/
def deltaBackSpec : ChangeSpec := { name := "deltaBack", fn := fun _ => fun
  | [d1, d2] => { results := [.lit (.bool true)], args := [d1, d2] }
  | _ => none }
def deltaBackRow : OpenClaim := { program := "ytidihnnkcmeaeaa", sum := "e91f4cb347e2de7fbe48433b839e940976fa7b1522c34f914100e4bc3e6420a1", func := "galley/galleylaw13.DeltaBack", spec := "deltaBack", unfollowed := true, recurses := true, apart := false }
def DeltaBackSaid : Prop := deltaBackRow.holds Try.pinned (OpenSpec.ofChange deltaBackSpec)

/-- ITS FALSE NEIGHBOUR: 'it returns false'. Refute it at one input. -/
def deltaBackWrong : ChangeSpec := { name := "deltaBack", fn := fun _ => fun
  | [d1, d2] => { results := [.lit (.bool false)], args := [d1, d2] }
  | _ => none }
def DeltaBackWrongFalsely : Prop := deltaBackRow.holds Try.pinned (OpenSpec.ofChange deltaBackWrong)

/-- 'galleylaw13.DeltaSame': WHATEVER THE INPUT: true; the input reads as it did. -/
def deltaSameSpec : ChangeSpec := { name := "deltaSame", fn := fun _ => fun
  | [d1, d2, d3] => { results := [.lit (.bool true)], args := [d1, d2, d3] }
  | _ => none }
def deltaSameRow : OpenClaim := { program := "ytidihnnkcmeaeaa", sum := "e91f4cb347e2de7fbe48433b839e940976fa7b1522c34f914100e4bc3e6420a1", func := "galley/galleylaw13.DeltaSame", spec := "deltaSame", unfollowed := true, recurses := true, apart := false }
def DeltaSameSaid : Prop := deltaSameRow.holds Try.pinned (OpenSpec.ofChange deltaSameSpec)

/-- ITS FALSE NEIGHBOUR: 'it returns false'. Refute it at one input. -/
def deltaSameWrong : ChangeSpec := { name := "deltaSame", fn := fun _ => fun
  | [d1, d2, d3] => { results := [.lit (.bool false)], args := [d1, d2, d3] }
  | _ => none }
def DeltaSameWrongFalsely : Prop := deltaSameRow.holds Try.pinned (OpenSpec.ofChange deltaSameWrong)

/-- 'galleylaw14.ShiftPlaces': WHATEVER THE INPUT: true; the input reads as it did. -/
def shiftPlacesSpec : ChangeSpec := { name := "shiftPlaces", fn := fun _ => fun
  | [d1, d2, d3] => { results := [.lit (.bool true)], args := [d1, d2, d3] }
  | _ => none }
def shiftPlacesRow : OpenClaim := { program := "ytidihnnkcmeaeaa", sum := "e91f4cb347e2de7fbe48433b839e940976fa7b1522c34f914100e4bc3e6420a1", func := "galley/galleylaw14.ShiftPlaces", spec := "shiftPlaces", unfollowed := true, recurses := true, apart := false }
def ShiftPlacesSaid : Prop := shiftPlacesRow.holds Try.pinned (OpenSpec.ofChange shiftPlacesSpec)

/-- ITS FALSE NEIGHBOUR: 'it returns false'. Refute it at one input. -/
def shiftPlacesWrong : ChangeSpec := { name := "shiftPlaces", fn := fun _ => fun
  | [d1, d2, d3] => { results := [.lit (.bool false)], args := [d1, d2, d3] }
  | _ => none }
def ShiftPlacesWrongFalsely : Prop := shiftPlacesRow.holds Try.pinned (OpenSpec.ofChange shiftPlacesWrong)

/-- 'galleylaw14.ShiftNothing': WHATEVER THE INPUT: true; the input reads as it did. -/
def shiftNothingSpec : ChangeSpec := { name := "shiftNothing", fn := fun _ => fun
  | [d1, d2] => { results := [.lit (.bool true)], args := [d1, d2] }
  | _ => none }
def shiftNothingRow : OpenClaim := { program := "ytidihnnkcmeaeaa", sum := "e91f4cb347e2de7fbe48433b839e940976fa7b1522c34f914100e4bc3e6420a1", func := "galley/galleylaw14.ShiftNothing", spec := "shiftNothing", unfollowed := true, recurses := true, apart := false }
def ShiftNothingSaid : Prop := shiftNothingRow.holds Try.pinned (OpenSpec.ofChange shiftNothingSpec)

/-- ITS FALSE NEIGHBOUR: 'it returns false'. Refute it at one input. -/
def shiftNothingWrong : ChangeSpec := { name := "shiftNothing", fn := fun _ => fun
  | [d1, d2] => { results := [.lit (.bool false)], args := [d1, d2] }
  | _ => none }
def ShiftNothingWrongFalsely : Prop := shiftNothingRow.holds Try.pinned (OpenSpec.ofChange shiftNothingWrong)

/-- 'galleylaw14.ShiftRises': WHATEVER THE INPUT: true; the input reads as it did. -/
def shiftRisesSpec : ChangeSpec := { name := "shiftRises", fn := fun _ => fun
  | [d1, d2, d3] => { results := [.lit (.bool true)], args := [d1, d2, d3] }
  | _ => none }
def shiftRisesRow : OpenClaim := { program := "ytidihnnkcmeaeaa", sum := "e91f4cb347e2de7fbe48433b839e940976fa7b1522c34f914100e4bc3e6420a1", func := "galley/galleylaw14.ShiftRises", spec := "shiftRises", unfollowed := true, recurses := true, apart := false }
def ShiftRisesSaid : Prop := shiftRisesRow.holds Try.pinned (OpenSpec.ofChange shiftRisesSpec)

/-- ITS FALSE NEIGHBOUR: 'it returns false'. Refute it at one input. -/
def shiftRisesWrong : ChangeSpec := { name := "shiftRises", fn := fun _ => fun
  | [d1, d2, d3] => { results := [.lit (.bool false)], args := [d1, d2, d3] }
  | _ => none }
def ShiftRisesWrongFalsely : Prop := shiftRisesRow.holds Try.pinned (OpenSpec.ofChange shiftRisesWrong)

/-- 'galleylaw14.ShiftOver': WHATEVER THE INPUT: true; the input reads as it did. -/
def shiftOverSpec : ChangeSpec := { name := "shiftOver", fn := fun _ => fun
  | [d1, d2, d3] => { results := [.lit (.bool true)], args := [d1, d2, d3] }
  | _ => none }
def shiftOverRow : OpenClaim := { program := "ytidihnnkcmeaeaa", sum := "e91f4cb347e2de7fbe48433b839e940976fa7b1522c34f914100e4bc3e6420a1", func := "galley/galleylaw14.ShiftOver", spec := "shiftOver", unfollowed := true, recurses := true, apart := false }
def ShiftOverSaid : Prop := shiftOverRow.holds Try.pinned (OpenSpec.ofChange shiftOverSpec)

/-- ITS FALSE NEIGHBOUR: 'it returns false'. Refute it at one input. -/
def shiftOverWrong : ChangeSpec := { name := "shiftOver", fn := fun _ => fun
  | [d1, d2, d3] => { results := [.lit (.bool false)], args := [d1, d2, d3] }
  | _ => none }
def ShiftOverWrongFalsely : Prop := shiftOverRow.holds Try.pinned (OpenSpec.ofChange shiftOverWrong)

/-- 'galleylaw14.ShiftNames': WHATEVER THE INPUT: true; the input reads as it did. -/
def shiftNamesSpec : ChangeSpec := { name := "shiftNames", fn := fun _ => fun
  | [] => { results := [.lit (.bool true)], args := [] }
  | _ => none }
def shiftNamesRow : OpenClaim := { program := "ytidihnnkcmeaeaa", sum := "e91f4cb347e2de7fbe48433b839e940976fa7b1522c34f914100e4bc3e6420a1", func := "galley/galleylaw14.ShiftNames", spec := "shiftNames", unfollowed := true, recurses := true, apart := false }
def ShiftNamesSaid : Prop := shiftNamesRow.holds Try.pinned (OpenSpec.ofChange shiftNamesSpec)

/-- ITS FALSE NEIGHBOUR: 'it returns false'. Refute it at one input. -/
def shiftNamesWrong : ChangeSpec := { name := "shiftNames", fn := fun _ => fun
  | [] => { results := [.lit (.bool false)], args := [] }
  | _ => none }
def ShiftNamesWrongFalsely : Prop := shiftNamesRow.holds Try.pinned (OpenSpec.ofChange shiftNamesWrong)

/-- 'galleylaw14.ShiftChain': WHATEVER THE INPUT: true; the input reads as it did. -/
def shiftChainSpec : ChangeSpec := { name := "shiftChain", fn := fun _ => fun
  | [d1, d2] => { results := [.lit (.bool true)], args := [d1, d2] }
  | _ => none }
def shiftChainRow : OpenClaim := { program := "ytidihnnkcmeaeaa", sum := "e91f4cb347e2de7fbe48433b839e940976fa7b1522c34f914100e4bc3e6420a1", func := "galley/galleylaw14.ShiftChain", spec := "shiftChain", unfollowed := true, recurses := true, apart := false }
def ShiftChainSaid : Prop := shiftChainRow.holds Try.pinned (OpenSpec.ofChange shiftChainSpec)

/-- ITS FALSE NEIGHBOUR: 'it returns false'. Refute it at one input. -/
def shiftChainWrong : ChangeSpec := { name := "shiftChain", fn := fun _ => fun
  | [d1, d2] => { results := [.lit (.bool false)], args := [d1, d2] }
  | _ => none }
def ShiftChainWrongFalsely : Prop := shiftChainRow.holds Try.pinned (OpenSpec.ofChange shiftChainWrong)

/-- 'galleylaw14.ShiftMemory': WHATEVER THE INPUT: true; the input reads as it did. -/
def shiftMemorySpec : ChangeSpec := { name := "shiftMemory", fn := fun _ => fun
  | [d1, d2] => { results := [.lit (.bool true)], args := [d1, d2] }
  | _ => none }
def shiftMemoryRow : OpenClaim := { program := "ytidihnnkcmeaeaa", sum := "e91f4cb347e2de7fbe48433b839e940976fa7b1522c34f914100e4bc3e6420a1", func := "galley/galleylaw14.ShiftMemory", spec := "shiftMemory", unfollowed := true, recurses := true, apart := false }
def ShiftMemorySaid : Prop := shiftMemoryRow.holds Try.pinned (OpenSpec.ofChange shiftMemorySpec)

/-- ITS FALSE NEIGHBOUR: 'it returns false'. Refute it at one input. -/
def shiftMemoryWrong : ChangeSpec := { name := "shiftMemory", fn := fun _ => fun
  | [d1, d2] => { results := [.lit (.bool false)], args := [d1, d2] }
  | _ => none }
def ShiftMemoryWrongFalsely : Prop := shiftMemoryRow.holds Try.pinned (OpenSpec.ofChange shiftMemoryWrong)

/-- 'galleylaw13.DeltaOwn': WHATEVER THE INPUT: true; the input reads as it did. -/
def deltaOwnSpec : ChangeSpec := { name := "deltaOwn", fn := fun _ => fun
  | [d1, d2, d3] => { results := [.lit (.bool true)], args := [d1, d2, d3] }
  | _ => none }
def deltaOwnRow : OpenClaim := { program := "ytidihnnkcmeaeaa", sum := "e91f4cb347e2de7fbe48433b839e940976fa7b1522c34f914100e4bc3e6420a1", func := "galley/galleylaw13.DeltaOwn", spec := "deltaOwn", unfollowed := true, recurses := true, apart := false }
def DeltaOwnSaid : Prop := deltaOwnRow.holds Try.pinned (OpenSpec.ofChange deltaOwnSpec)

/-- ITS FALSE NEIGHBOUR: 'it returns false'. Refute it at one input. -/
def deltaOwnWrong : ChangeSpec := { name := "deltaOwn", fn := fun _ => fun
  | [d1, d2, d3] => { results := [.lit (.bool false)], args := [d1, d2, d3] }
  | _ => none }
def DeltaOwnWrongFalsely : Prop := deltaOwnRow.holds Try.pinned (OpenSpec.ofChange deltaOwnWrong)

/-- 'galleylaw14.ShiftThrough': WHATEVER THE INPUT: true; the input reads as it did. -/
def shiftThroughSpec : ChangeSpec := { name := "shiftThrough", fn := fun _ => fun
  | [d1, d2, d3] => { results := [.lit (.bool true)], args := [d1, d2, d3] }
  | _ => none }
def shiftThroughRow : OpenClaim := { program := "ytidihnnkcmeaeaa", sum := "e91f4cb347e2de7fbe48433b839e940976fa7b1522c34f914100e4bc3e6420a1", func := "galley/galleylaw14.ShiftThrough", spec := "shiftThrough", unfollowed := true, recurses := true, apart := false }
def ShiftThroughSaid : Prop := shiftThroughRow.holds Try.pinned (OpenSpec.ofChange shiftThroughSpec)

/-- ITS FALSE NEIGHBOUR: 'it returns false'. Refute it at one input. -/
def shiftThroughWrong : ChangeSpec := { name := "shiftThrough", fn := fun _ => fun
  | [d1, d2, d3] => { results := [.lit (.bool false)], args := [d1, d2, d3] }
  | _ => none }
def ShiftThroughWrongFalsely : Prop := shiftThroughRow.holds Try.pinned (OpenSpec.ofChange shiftThroughWrong)

/- THE SECOND FORM. 'bulk': how many values and letters a reading holds, each counted each time it is reached (what is shared counts as often as it is met; a slice's spare places count too). A statement '..UptoSaid' is the law's where the arguments, and the package variables that the reading takes, are together of bulk at most 1048576: NARROWER than '..Said'. Prove '..Said' where nothing that the law and all that it calls make is longer than what came in: it says more and counts as full. Else prove '..UptoSaid'. A law counts once. -/
mutual
def uptoBulk {H : Type} : DataW H → Nat
  | .lit (.string bytes) => bytes.length + 1
  | .lit _ => 1
  | .nil => 1
  | .ptr d => uptoBulk d + 1
  | .slice elems spare => uptoBulkAll elems + uptoBulkAll spare + 1
  | .agg parts => uptoBulkAll parts + 1
  | .iface _ d => uptoBulk d + 1
  | .map entries => uptoBulkEntries entries + 1
  | .held _ => 1
def uptoBulkAll {H : Type} : List (DataW H) → Nat
  | [] => 0
  | d :: r => uptoBulk d + uptoBulkAll r
def uptoBulkEntries {H : Type} : List (Lit × DataW H) → Nat
  | [] => 0
  | x :: r => uptoBulkEntry x + uptoBulkEntries r
def uptoBulkEntry {H : Type} : Lit × DataW H → Nat
  | (.string bytes, d) => bytes.length + uptoBulk d + 1
  | (_, d) => uptoBulk d + 1
 end
def uptoSmall : (H : Type) → List (DataW H) → Bool := fun _ ds => decide (uptoBulkAll ds ≤ 1048576)
def OpenSpec.upto (s : _root_.Go.ChangeSpec) : _root_.Go.OpenSpec := { _root_.Go.OpenSpec.ofChange s with cond := some uptoSmall }

/-- 'galleylaw13.DeltaNames', WHERE WHAT IT READS IS OF BULK AT MOST 1048576: true; the input reads as it did. -/
def deltaNamesUptoRow : OpenClaim := { program := "ytidihnnkcmeaeaa", sum := "e91f4cb347e2de7fbe48433b839e940976fa7b1522c34f914100e4bc3e6420a1", func := "galley/galleylaw13.DeltaNames", spec := "deltaNames", apart := false, narrowed := true }
def DeltaNamesUptoSaid : Prop := deltaNamesUptoRow.holds Try.pinned (OpenSpec.upto deltaNamesSpec)

/-- 'galleylaw13.DeltaApply', WHERE WHAT IT READS IS OF BULK AT MOST 1048576: true; the input reads as it did. -/
def deltaApplyUptoRow : OpenClaim := { program := "ytidihnnkcmeaeaa", sum := "e91f4cb347e2de7fbe48433b839e940976fa7b1522c34f914100e4bc3e6420a1", func := "galley/galleylaw13.DeltaApply", spec := "deltaApply", unfollowed := true, recurses := true, apart := false, narrowed := true }
def DeltaApplyUptoSaid : Prop := deltaApplyUptoRow.holds Try.pinned (OpenSpec.upto deltaApplySpec)

/-- 'galleylaw13.DeltaOf', WHERE WHAT IT READS IS OF BULK AT MOST 1048576: true; the input reads as it did. -/
def deltaOfUptoRow : OpenClaim := { program := "ytidihnnkcmeaeaa", sum := "e91f4cb347e2de7fbe48433b839e940976fa7b1522c34f914100e4bc3e6420a1", func := "galley/galleylaw13.DeltaOf", spec := "deltaOf", unfollowed := true, recurses := true, apart := false, narrowed := true }
def DeltaOfUptoSaid : Prop := deltaOfUptoRow.holds Try.pinned (OpenSpec.upto deltaOfSpec)

/-- 'galleylaw13.DeltaCanon', WHERE WHAT IT READS IS OF BULK AT MOST 1048576: true; the input reads as it did. -/
def deltaCanonUptoRow : OpenClaim := { program := "ytidihnnkcmeaeaa", sum := "e91f4cb347e2de7fbe48433b839e940976fa7b1522c34f914100e4bc3e6420a1", func := "galley/galleylaw13.DeltaCanon", spec := "deltaCanon", unfollowed := true, recurses := true, apart := false, narrowed := true }
def DeltaCanonUptoSaid : Prop := deltaCanonUptoRow.holds Try.pinned (OpenSpec.upto deltaCanonSpec)

/-- 'galleylaw13.DeltaCompose', WHERE WHAT IT READS IS OF BULK AT MOST 1048576: true; the input reads as it did. -/
def deltaComposeUptoRow : OpenClaim := { program := "ytidihnnkcmeaeaa", sum := "e91f4cb347e2de7fbe48433b839e940976fa7b1522c34f914100e4bc3e6420a1", func := "galley/galleylaw13.DeltaCompose", spec := "deltaCompose", unfollowed := true, recurses := true, apart := false, narrowed := true }
def DeltaComposeUptoSaid : Prop := deltaComposeUptoRow.holds Try.pinned (OpenSpec.upto deltaComposeSpec)

/-- 'galleylaw14.ShiftMeets', WHERE WHAT IT READS IS OF BULK AT MOST 1048576: true; the input reads as it did. -/
def shiftMeetsUptoRow : OpenClaim := { program := "ytidihnnkcmeaeaa", sum := "e91f4cb347e2de7fbe48433b839e940976fa7b1522c34f914100e4bc3e6420a1", func := "galley/galleylaw14.ShiftMeets", spec := "shiftMeets", unfollowed := true, recurses := true, apart := false, narrowed := true }
def ShiftMeetsUptoSaid : Prop := shiftMeetsUptoRow.holds Try.pinned (OpenSpec.upto shiftMeetsSpec)

/-- 'galleylaw13.DeltaDoes', WHERE WHAT IT READS IS OF BULK AT MOST 1048576: true; the input reads as it did. -/
def deltaDoesUptoRow : OpenClaim := { program := "ytidihnnkcmeaeaa", sum := "e91f4cb347e2de7fbe48433b839e940976fa7b1522c34f914100e4bc3e6420a1", func := "galley/galleylaw13.DeltaDoes", spec := "deltaDoes", unfollowed := true, recurses := true, apart := false, narrowed := true }
def DeltaDoesUptoSaid : Prop := deltaDoesUptoRow.holds Try.pinned (OpenSpec.upto deltaDoesSpec)

/-- 'galleylaw14.ShiftChains', WHERE WHAT IT READS IS OF BULK AT MOST 1048576: true; the input reads as it did. -/
def shiftChainsUptoRow : OpenClaim := { program := "ytidihnnkcmeaeaa", sum := "e91f4cb347e2de7fbe48433b839e940976fa7b1522c34f914100e4bc3e6420a1", func := "galley/galleylaw14.ShiftChains", spec := "shiftChains", unfollowed := true, recurses := true, apart := false, narrowed := true }
def ShiftChainsUptoSaid : Prop := shiftChainsUptoRow.holds Try.pinned (OpenSpec.upto shiftChainsSpec)

/-- 'galleylaw13.DeltaAssoc', WHERE WHAT IT READS IS OF BULK AT MOST 1048576: true; the input reads as it did. -/
def deltaAssocUptoRow : OpenClaim := { program := "ytidihnnkcmeaeaa", sum := "e91f4cb347e2de7fbe48433b839e940976fa7b1522c34f914100e4bc3e6420a1", func := "galley/galleylaw13.DeltaAssoc", spec := "deltaAssoc", unfollowed := true, recurses := true, apart := false, narrowed := true }
def DeltaAssocUptoSaid : Prop := deltaAssocUptoRow.holds Try.pinned (OpenSpec.upto deltaAssocSpec)

/-- 'galleylaw13.DeltaBack', WHERE WHAT IT READS IS OF BULK AT MOST 1048576: true; the input reads as it did. -/
def deltaBackUptoRow : OpenClaim := { program := "ytidihnnkcmeaeaa", sum := "e91f4cb347e2de7fbe48433b839e940976fa7b1522c34f914100e4bc3e6420a1", func := "galley/galleylaw13.DeltaBack", spec := "deltaBack", unfollowed := true, recurses := true, apart := false, narrowed := true }
def DeltaBackUptoSaid : Prop := deltaBackUptoRow.holds Try.pinned (OpenSpec.upto deltaBackSpec)

/-- 'galleylaw13.DeltaSame', WHERE WHAT IT READS IS OF BULK AT MOST 1048576: true; the input reads as it did. -/
def deltaSameUptoRow : OpenClaim := { program := "ytidihnnkcmeaeaa", sum := "e91f4cb347e2de7fbe48433b839e940976fa7b1522c34f914100e4bc3e6420a1", func := "galley/galleylaw13.DeltaSame", spec := "deltaSame", unfollowed := true, recurses := true, apart := false, narrowed := true }
def DeltaSameUptoSaid : Prop := deltaSameUptoRow.holds Try.pinned (OpenSpec.upto deltaSameSpec)

/-- 'galleylaw14.ShiftPlaces', WHERE WHAT IT READS IS OF BULK AT MOST 1048576: true; the input reads as it did. -/
def shiftPlacesUptoRow : OpenClaim := { program := "ytidihnnkcmeaeaa", sum := "e91f4cb347e2de7fbe48433b839e940976fa7b1522c34f914100e4bc3e6420a1", func := "galley/galleylaw14.ShiftPlaces", spec := "shiftPlaces", unfollowed := true, recurses := true, apart := false, narrowed := true }
def ShiftPlacesUptoSaid : Prop := shiftPlacesUptoRow.holds Try.pinned (OpenSpec.upto shiftPlacesSpec)

/-- 'galleylaw14.ShiftNothing', WHERE WHAT IT READS IS OF BULK AT MOST 1048576: true; the input reads as it did. -/
def shiftNothingUptoRow : OpenClaim := { program := "ytidihnnkcmeaeaa", sum := "e91f4cb347e2de7fbe48433b839e940976fa7b1522c34f914100e4bc3e6420a1", func := "galley/galleylaw14.ShiftNothing", spec := "shiftNothing", unfollowed := true, recurses := true, apart := false, narrowed := true }
def ShiftNothingUptoSaid : Prop := shiftNothingUptoRow.holds Try.pinned (OpenSpec.upto shiftNothingSpec)

/-- 'galleylaw14.ShiftRises', WHERE WHAT IT READS IS OF BULK AT MOST 1048576: true; the input reads as it did. -/
def shiftRisesUptoRow : OpenClaim := { program := "ytidihnnkcmeaeaa", sum := "e91f4cb347e2de7fbe48433b839e940976fa7b1522c34f914100e4bc3e6420a1", func := "galley/galleylaw14.ShiftRises", spec := "shiftRises", unfollowed := true, recurses := true, apart := false, narrowed := true }
def ShiftRisesUptoSaid : Prop := shiftRisesUptoRow.holds Try.pinned (OpenSpec.upto shiftRisesSpec)

/-- 'galleylaw14.ShiftOver', WHERE WHAT IT READS IS OF BULK AT MOST 1048576: true; the input reads as it did. -/
def shiftOverUptoRow : OpenClaim := { program := "ytidihnnkcmeaeaa", sum := "e91f4cb347e2de7fbe48433b839e940976fa7b1522c34f914100e4bc3e6420a1", func := "galley/galleylaw14.ShiftOver", spec := "shiftOver", unfollowed := true, recurses := true, apart := false, narrowed := true }
def ShiftOverUptoSaid : Prop := shiftOverUptoRow.holds Try.pinned (OpenSpec.upto shiftOverSpec)

/-- 'galleylaw14.ShiftNames', WHERE WHAT IT READS IS OF BULK AT MOST 1048576: true; the input reads as it did. -/
def shiftNamesUptoRow : OpenClaim := { program := "ytidihnnkcmeaeaa", sum := "e91f4cb347e2de7fbe48433b839e940976fa7b1522c34f914100e4bc3e6420a1", func := "galley/galleylaw14.ShiftNames", spec := "shiftNames", unfollowed := true, recurses := true, apart := false, narrowed := true }
def ShiftNamesUptoSaid : Prop := shiftNamesUptoRow.holds Try.pinned (OpenSpec.upto shiftNamesSpec)

/-- 'galleylaw14.ShiftChain', WHERE WHAT IT READS IS OF BULK AT MOST 1048576: true; the input reads as it did. -/
def shiftChainUptoRow : OpenClaim := { program := "ytidihnnkcmeaeaa", sum := "e91f4cb347e2de7fbe48433b839e940976fa7b1522c34f914100e4bc3e6420a1", func := "galley/galleylaw14.ShiftChain", spec := "shiftChain", unfollowed := true, recurses := true, apart := false, narrowed := true }
def ShiftChainUptoSaid : Prop := shiftChainUptoRow.holds Try.pinned (OpenSpec.upto shiftChainSpec)

/-- 'galleylaw14.ShiftMemory', WHERE WHAT IT READS IS OF BULK AT MOST 1048576: true; the input reads as it did. -/
def shiftMemoryUptoRow : OpenClaim := { program := "ytidihnnkcmeaeaa", sum := "e91f4cb347e2de7fbe48433b839e940976fa7b1522c34f914100e4bc3e6420a1", func := "galley/galleylaw14.ShiftMemory", spec := "shiftMemory", unfollowed := true, recurses := true, apart := false, narrowed := true }
def ShiftMemoryUptoSaid : Prop := shiftMemoryUptoRow.holds Try.pinned (OpenSpec.upto shiftMemorySpec)

/-- 'galleylaw13.DeltaOwn', WHERE WHAT IT READS IS OF BULK AT MOST 1048576: true; the input reads as it did. -/
def deltaOwnUptoRow : OpenClaim := { program := "ytidihnnkcmeaeaa", sum := "e91f4cb347e2de7fbe48433b839e940976fa7b1522c34f914100e4bc3e6420a1", func := "galley/galleylaw13.DeltaOwn", spec := "deltaOwn", unfollowed := true, recurses := true, apart := false, narrowed := true }
def DeltaOwnUptoSaid : Prop := deltaOwnUptoRow.holds Try.pinned (OpenSpec.upto deltaOwnSpec)

/-- 'galleylaw14.ShiftThrough', WHERE WHAT IT READS IS OF BULK AT MOST 1048576: true; the input reads as it did. -/
def shiftThroughUptoRow : OpenClaim := { program := "ytidihnnkcmeaeaa", sum := "e91f4cb347e2de7fbe48433b839e940976fa7b1522c34f914100e4bc3e6420a1", func := "galley/galleylaw14.ShiftThrough", spec := "shiftThrough", unfollowed := true, recurses := true, apart := false, narrowed := true }
def ShiftThroughUptoSaid : Prop := shiftThroughUptoRow.holds Try.pinned (OpenSpec.upto shiftThroughSpec)

end Rows
end Go.Proofs.Ytidihnnkcmeaeaa
