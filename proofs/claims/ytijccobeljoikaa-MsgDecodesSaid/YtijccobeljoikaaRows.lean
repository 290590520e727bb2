/-
  No cell of these rows narrows 'for every input' (looked for: loops, veiled, ifaces, maps, wideKeys, modest, calm, conditions, laid).
  DERIVED. THE GIVEN ROWS OF THIS SEAT. 21 by the template 'for every input the law returns true; each argument reads behind the call as it read before'; 0 by the template 'total and deterministic' (their statements: YtijccobeljoikaaTotals.lean).
  GIVEN WITH THE SEED: the statements are not yours to turn. If you find one false, say at which input.
  Laid BY PROGRAM, IN A SANDBOX (cutbox-rows.mjs): the forced cells as the released guide's own fill.sh prints them over the translation 5bf316629794747c… (all of the seat's roots in one cut). By AI agents, Wed Nov 11 2026. No macro, syntax, notation, axiom, sorry.
-/
import Derived.Test.YtijccobeljoikaaChecked
import GoSem.Claim
import GoSem.ClaimJoined
import GoSem.ClaimMapViews
import Derived.JoinedTies
import Derived.KernelRfl
namespace Go.Proofs.Ytijccobeljoikaa
/- THE CELL 'sum', in the pinned program and in every row, IS THE sha256 OF THE DUMP (.gsa) THAT YtijccobeljoikaaProg.lean LOADS. Nothing in Lean hashes anything: it is a label: what it is worth is what the hold of that sum in a sandbox is worth. -/
noncomputable def Try.pinned : Pinned := { name := "ytijccobeljoikaa", sum := "5bf316629794747c99d75497e43c30da1ccfec8cbfb8a208ebdbb92922afab04", checked := Try.checked }
namespace Rows
def none {H : Type} : Left H := { results := [], args := [] }

/-- 'stanchionlaw01.PackNames': WHATEVER THE INPUT: true; the input reads as it did. -/
def packNamesSpec : ChangeSpec := { name := "packNames", fn := fun _ => fun
  | [] => { results := [.lit (.bool true)], args := [] }
  | _ => none }
def packNamesRow : OpenClaim := { program := "ytijccobeljoikaa", sum := "5bf316629794747c99d75497e43c30da1ccfec8cbfb8a208ebdbb92922afab04", func := "stanchion/stanchionlaw01.PackNames", spec := "packNames", apart := false }
def PackNamesSaid : Prop := packNamesRow.holds Try.pinned (OpenSpec.ofChange packNamesSpec)

/-- ITS FALSE NEIGHBOUR: 'it returns false'. Refute it at one input. -/
def packNamesWrong : ChangeSpec := { name := "packNames", fn := fun _ => fun
  | [] => { results := [.lit (.bool false)], args := [] }
  | _ => none }
def PackNamesWrongFalsely : Prop := packNamesRow.holds Try.pinned (OpenSpec.ofChange packNamesWrong)

/-- 'stanchionlaw01.PackNums': WHATEVER THE INPUT: true; the input reads as it did. -/
def packNumsSpec : ChangeSpec := { name := "packNums", fn := fun _ => fun
  | [d] => { results := [.lit (.bool true)], args := [d] }
  | _ => none }
def packNumsRow : OpenClaim := { program := "ytijccobeljoikaa", sum := "5bf316629794747c99d75497e43c30da1ccfec8cbfb8a208ebdbb92922afab04", func := "stanchion/stanchionlaw01.PackNums", spec := "packNums", apart := false }
def PackNumsSaid : Prop := packNumsRow.holds Try.pinned (OpenSpec.ofChange packNumsSpec)

/-- ITS FALSE NEIGHBOUR: 'it returns false'. Refute it at one input. -/
def packNumsWrong : ChangeSpec := { name := "packNums", fn := fun _ => fun
  | [d] => { results := [.lit (.bool false)], args := [d] }
  | _ => none }
def PackNumsWrongFalsely : Prop := packNumsRow.holds Try.pinned (OpenSpec.ofChange packNumsWrong)

/-- 'stanchionlaw01.PackSizes': WHATEVER THE INPUT: true; the input reads as it did. -/
def packSizesSpec : ChangeSpec := { name := "packSizes", fn := fun _ => fun
  | [d1, d2] => { results := [.lit (.bool true)], args := [d1, d2] }
  | _ => none }
def packSizesRow : OpenClaim := { program := "ytijccobeljoikaa", sum := "5bf316629794747c99d75497e43c30da1ccfec8cbfb8a208ebdbb92922afab04", func := "stanchion/stanchionlaw01.PackSizes", spec := "packSizes", apart := false }
def PackSizesSaid : Prop := packSizesRow.holds Try.pinned (OpenSpec.ofChange packSizesSpec)

/-- ITS FALSE NEIGHBOUR: 'it returns false'. Refute it at one input. -/
def packSizesWrong : ChangeSpec := { name := "packSizes", fn := fun _ => fun
  | [d1, d2] => { results := [.lit (.bool false)], args := [d1, d2] }
  | _ => none }
def PackSizesWrongFalsely : Prop := packSizesRow.holds Try.pinned (OpenSpec.ofChange packSizesWrong)

/-- 'stanchionlaw01.PackJoins': WHATEVER THE INPUT: true; the input reads as it did. -/
def packJoinsSpec : ChangeSpec := { name := "packJoins", fn := fun _ => fun
  | [d] => { results := [.lit (.bool true)], args := [d] }
  | _ => none }
def packJoinsRow : OpenClaim := { program := "ytijccobeljoikaa", sum := "5bf316629794747c99d75497e43c30da1ccfec8cbfb8a208ebdbb92922afab04", func := "stanchion/stanchionlaw01.PackJoins", spec := "packJoins", apart := false }
def PackJoinsSaid : Prop := packJoinsRow.holds Try.pinned (OpenSpec.ofChange packJoinsSpec)

/-- ITS FALSE NEIGHBOUR: 'it returns false'. Refute it at one input. -/
def packJoinsWrong : ChangeSpec := { name := "packJoins", fn := fun _ => fun
  | [d] => { results := [.lit (.bool false)], args := [d] }
  | _ => none }
def PackJoinsWrongFalsely : Prop := packJoinsRow.holds Try.pinned (OpenSpec.ofChange packJoinsWrong)

/-- 'stanchionlaw01.PackReads': WHATEVER THE INPUT: true; the input reads as it did. -/
def packReadsSpec : ChangeSpec := { name := "packReads", fn := fun _ => fun
  | [d] => { results := [.lit (.bool true)], args := [d] }
  | _ => none }
def packReadsRow : OpenClaim := { program := "ytijccobeljoikaa", sum := "5bf316629794747c99d75497e43c30da1ccfec8cbfb8a208ebdbb92922afab04", func := "stanchion/stanchionlaw01.PackReads", spec := "packReads", apart := false }
def PackReadsSaid : Prop := packReadsRow.holds Try.pinned (OpenSpec.ofChange packReadsSpec)

/-- ITS FALSE NEIGHBOUR: 'it returns false'. Refute it at one input. -/
def packReadsWrong : ChangeSpec := { name := "packReads", fn := fun _ => fun
  | [d] => { results := [.lit (.bool false)], args := [d] }
  | _ => none }
def PackReadsWrongFalsely : Prop := packReadsRow.holds Try.pinned (OpenSpec.ofChange packReadsWrong)

/-- 'stanchionlaw01.PackSplits': WHATEVER THE INPUT: true; the input reads as it did. -/
def packSplitsSpec : ChangeSpec := { name := "packSplits", fn := fun _ => fun
  | [d] => { results := [.lit (.bool true)], args := [d] }
  | _ => none }
def packSplitsRow : OpenClaim := { program := "ytijccobeljoikaa", sum := "5bf316629794747c99d75497e43c30da1ccfec8cbfb8a208ebdbb92922afab04", func := "stanchion/stanchionlaw01.PackSplits", spec := "packSplits", apart := false }
def PackSplitsSaid : Prop := packSplitsRow.holds Try.pinned (OpenSpec.ofChange packSplitsSpec)

/-- ITS FALSE NEIGHBOUR: 'it returns false'. Refute it at one input. -/
def packSplitsWrong : ChangeSpec := { name := "packSplits", fn := fun _ => fun
  | [d] => { results := [.lit (.bool false)], args := [d] }
  | _ => none }
def PackSplitsWrongFalsely : Prop := packSplitsRow.holds Try.pinned (OpenSpec.ofChange packSplitsWrong)

/-- 'stanchionlaw01.PackRound': WHATEVER THE INPUT: true; the input reads as it did. -/
def packRoundSpec : ChangeSpec := { name := "packRound", fn := fun _ => fun
  | [d1, d2] => { results := [.lit (.bool true)], args := [d1, d2] }
  | _ => none }
def packRoundRow : OpenClaim := { program := "ytijccobeljoikaa", sum := "5bf316629794747c99d75497e43c30da1ccfec8cbfb8a208ebdbb92922afab04", func := "stanchion/stanchionlaw01.PackRound", spec := "packRound", apart := false }
def PackRoundSaid : Prop := packRoundRow.holds Try.pinned (OpenSpec.ofChange packRoundSpec)

/-- ITS FALSE NEIGHBOUR: 'it returns false'. Refute it at one input. -/
def packRoundWrong : ChangeSpec := { name := "packRound", fn := fun _ => fun
  | [d1, d2] => { results := [.lit (.bool false)], args := [d1, d2] }
  | _ => none }
def PackRoundWrongFalsely : Prop := packRoundRow.holds Try.pinned (OpenSpec.ofChange packRoundWrong)

/-- 'stanchionlaw01.PackCuts': WHATEVER THE INPUT: true; the input reads as it did. -/
def packCutsSpec : ChangeSpec := { name := "packCuts", fn := fun _ => fun
  | [d1, d2] => { results := [.lit (.bool true)], args := [d1, d2] }
  | _ => none }
def packCutsRow : OpenClaim := { program := "ytijccobeljoikaa", sum := "5bf316629794747c99d75497e43c30da1ccfec8cbfb8a208ebdbb92922afab04", func := "stanchion/stanchionlaw01.PackCuts", spec := "packCuts", apart := false }
def PackCutsSaid : Prop := packCutsRow.holds Try.pinned (OpenSpec.ofChange packCutsSpec)

/-- ITS FALSE NEIGHBOUR: 'it returns false'. Refute it at one input. -/
def packCutsWrong : ChangeSpec := { name := "packCuts", fn := fun _ => fun
  | [d1, d2] => { results := [.lit (.bool false)], args := [d1, d2] }
  | _ => none }
def PackCutsWrongFalsely : Prop := packCutsRow.holds Try.pinned (OpenSpec.ofChange packCutsWrong)

/-- 'stanchionlaw01.PackLists': WHATEVER THE INPUT: true; the input reads as it did. -/
def packListsSpec : ChangeSpec := { name := "packLists", fn := fun _ => fun
  | [d1, d2] => { results := [.lit (.bool true)], args := [d1, d2] }
  | _ => none }
def packListsRow : OpenClaim := { program := "ytijccobeljoikaa", sum := "5bf316629794747c99d75497e43c30da1ccfec8cbfb8a208ebdbb92922afab04", func := "stanchion/stanchionlaw01.PackLists", spec := "packLists", apart := false }
def PackListsSaid : Prop := packListsRow.holds Try.pinned (OpenSpec.ofChange packListsSpec)

/-- ITS FALSE NEIGHBOUR: 'it returns false'. Refute it at one input. -/
def packListsWrong : ChangeSpec := { name := "packLists", fn := fun _ => fun
  | [d1, d2] => { results := [.lit (.bool false)], args := [d1, d2] }
  | _ => none }
def PackListsWrongFalsely : Prop := packListsRow.holds Try.pinned (OpenSpec.ofChange packListsWrong)

/-- 'stanchionlaw01.PackFields': WHATEVER THE INPUT: true; the input reads as it did. -/
def packFieldsSpec : ChangeSpec := { name := "packFields", fn := fun _ => fun
  | [d1, d2] => { results := [.lit (.bool true)], args := [d1, d2] }
  | _ => none }
def packFieldsRow : OpenClaim := { program := "ytijccobeljoikaa", sum := "5bf316629794747c99d75497e43c30da1ccfec8cbfb8a208ebdbb92922afab04", func := "stanchion/stanchionlaw01.PackFields", spec := "packFields", apart := false }
def PackFieldsSaid : Prop := packFieldsRow.holds Try.pinned (OpenSpec.ofChange packFieldsSpec)

/-- ITS FALSE NEIGHBOUR: 'it returns false'. Refute it at one input. -/
def packFieldsWrong : ChangeSpec := { name := "packFields", fn := fun _ => fun
  | [d1, d2] => { results := [.lit (.bool false)], args := [d1, d2] }
  | _ => none }
def PackFieldsWrongFalsely : Prop := packFieldsRow.holds Try.pinned (OpenSpec.ofChange packFieldsWrong)

/-- 'stanchionlaw01.PackBehind': WHATEVER THE INPUT: true; the input reads as it did. -/
def packBehindSpec : ChangeSpec := { name := "packBehind", fn := fun _ => fun
  | [d1, d2] => { results := [.lit (.bool true)], args := [d1, d2] }
  | _ => none }
def packBehindRow : OpenClaim := { program := "ytijccobeljoikaa", sum := "5bf316629794747c99d75497e43c30da1ccfec8cbfb8a208ebdbb92922afab04", func := "stanchion/stanchionlaw01.PackBehind", spec := "packBehind", apart := false }
def PackBehindSaid : Prop := packBehindRow.holds Try.pinned (OpenSpec.ofChange packBehindSpec)

/-- ITS FALSE NEIGHBOUR: 'it returns false'. Refute it at one input. -/
def packBehindWrong : ChangeSpec := { name := "packBehind", fn := fun _ => fun
  | [d1, d2] => { results := [.lit (.bool false)], args := [d1, d2] }
  | _ => none }
def PackBehindWrongFalsely : Prop := packBehindRow.holds Try.pinned (OpenSpec.ofChange packBehindWrong)

/-- 'stanchionlaw21.NetSteps': WHATEVER THE INPUT: true; the input reads as it did. -/
def netStepsSpec : ChangeSpec := { name := "netSteps", fn := fun _ => fun
  | [d1, d2] => { results := [.lit (.bool true)], args := [d1, d2] }
  | _ => none }
def netStepsRow : OpenClaim := { program := "ytijccobeljoikaa", sum := "5bf316629794747c99d75497e43c30da1ccfec8cbfb8a208ebdbb92922afab04", func := "stanchion/stanchionlaw21.NetSteps", spec := "netSteps", apart := false }
def NetStepsSaid : Prop := netStepsRow.holds Try.pinned (OpenSpec.ofChange netStepsSpec)

/-- ITS FALSE NEIGHBOUR: 'it returns false'. Refute it at one input. -/
def netStepsWrong : ChangeSpec := { name := "netSteps", fn := fun _ => fun
  | [d1, d2] => { results := [.lit (.bool false)], args := [d1, d2] }
  | _ => none }
def NetStepsWrongFalsely : Prop := netStepsRow.holds Try.pinned (OpenSpec.ofChange netStepsWrong)

/-- 'stanchionlaw21.NetFair': WHATEVER THE INPUT: true; the input reads as it did. -/
def netFairSpec : ChangeSpec := { name := "netFair", fn := fun _ => fun
  | [d1, d2] => { results := [.lit (.bool true)], args := [d1, d2] }
  | _ => none }
def netFairRow : OpenClaim := { program := "ytijccobeljoikaa", sum := "5bf316629794747c99d75497e43c30da1ccfec8cbfb8a208ebdbb92922afab04", func := "stanchion/stanchionlaw21.NetFair", spec := "netFair", apart := false }
def NetFairSaid : Prop := netFairRow.holds Try.pinned (OpenSpec.ofChange netFairSpec)

/-- ITS FALSE NEIGHBOUR: 'it returns false'. Refute it at one input. -/
def netFairWrong : ChangeSpec := { name := "netFair", fn := fun _ => fun
  | [d1, d2] => { results := [.lit (.bool false)], args := [d1, d2] }
  | _ => none }
def NetFairWrongFalsely : Prop := netFairRow.holds Try.pinned (OpenSpec.ofChange netFairWrong)

/-- 'stanchionlaw21.NetRoom': WHATEVER THE INPUT: true; the input reads as it did. -/
def netRoomSpec : ChangeSpec := { name := "netRoom", fn := fun _ => fun
  | [d1, d2] => { results := [.lit (.bool true)], args := [d1, d2] }
  | _ => none }
def netRoomRow : OpenClaim := { program := "ytijccobeljoikaa", sum := "5bf316629794747c99d75497e43c30da1ccfec8cbfb8a208ebdbb92922afab04", func := "stanchion/stanchionlaw21.NetRoom", spec := "netRoom", apart := false }
def NetRoomSaid : Prop := netRoomRow.holds Try.pinned (OpenSpec.ofChange netRoomSpec)

/-- ITS FALSE NEIGHBOUR: 'it returns false'. Refute it at one input. -/
def netRoomWrong : ChangeSpec := { name := "netRoom", fn := fun _ => fun
  | [d1, d2] => { results := [.lit (.bool false)], args := [d1, d2] }
  | _ => none }
def NetRoomWrongFalsely : Prop := netRoomRow.holds Try.pinned (OpenSpec.ofChange netRoomWrong)

/-- 'stanchionlaw08.MsgEncodes': WHATEVER THE INPUT: true; the input reads as it did. -/
def msgEncodesSpec : ChangeSpec := { name := "msgEncodes", fn := fun _ => fun
  | [d] => { results := [.lit (.bool true)], args := [d] }
  | _ => none }
def msgEncodesRow : OpenClaim := { program := "ytijccobeljoikaa", sum := "5bf316629794747c99d75497e43c30da1ccfec8cbfb8a208ebdbb92922afab04", func := "stanchion/stanchionlaw08.MsgEncodes", spec := "msgEncodes", inPlace := ["internal/bytealg.IndexByteString", "internal/bytealg.IndexString"], unfollowed := true, recurses := true, named := ["internal/bytealg.MaxLen"], apart := false }
def MsgEncodesSaid : Prop := msgEncodesRow.holds Try.pinned (OpenSpec.ofChange msgEncodesSpec)

/-- ITS FALSE NEIGHBOUR: 'it returns false'. Refute it at one input. -/
def msgEncodesWrong : ChangeSpec := { name := "msgEncodes", fn := fun _ => fun
  | [d] => { results := [.lit (.bool false)], args := [d] }
  | _ => none }
def MsgEncodesWrongFalsely : Prop := msgEncodesRow.holds Try.pinned (OpenSpec.ofChange msgEncodesWrong)

/-- 'stanchionlaw08.MsgDecodes': WHATEVER THE INPUT: true; the input reads as it did. -/
def msgDecodesSpec : ChangeSpec := { name := "msgDecodes", fn := fun _ => fun
  | [d] => { results := [.lit (.bool true)], args := [d] }
  | _ => none }
def msgDecodesRow : OpenClaim := { program := "ytijccobeljoikaa", sum := "5bf316629794747c99d75497e43c30da1ccfec8cbfb8a208ebdbb92922afab04", func := "stanchion/stanchionlaw08.MsgDecodes", spec := "msgDecodes", inPlace := ["internal/bytealg.IndexByteString", "internal/bytealg.IndexString"], unfollowed := true, recurses := true, named := ["internal/bytealg.MaxLen"], apart := false }
def MsgDecodesSaid : Prop := msgDecodesRow.holds Try.pinned (OpenSpec.ofChange msgDecodesSpec)

/-- ITS FALSE NEIGHBOUR: 'it returns false'. Refute it at one input. -/
def msgDecodesWrong : ChangeSpec := { name := "msgDecodes", fn := fun _ => fun
  | [d] => { results := [.lit (.bool false)], args := [d] }
  | _ => none }
def MsgDecodesWrongFalsely : Prop := msgDecodesRow.holds Try.pinned (OpenSpec.ofChange msgDecodesWrong)

/-- 'stanchionlaw08.MsgRound': WHATEVER THE INPUT: true; the input reads as it did. -/
def msgRoundSpec : ChangeSpec := { name := "msgRound", fn := fun _ => fun
  | [d1, d2] => { results := [.lit (.bool true)], args := [d1, d2] }
  | _ => none }
def msgRoundRow : OpenClaim := { program := "ytijccobeljoikaa", sum := "5bf316629794747c99d75497e43c30da1ccfec8cbfb8a208ebdbb92922afab04", func := "stanchion/stanchionlaw08.MsgRound", spec := "msgRound", inPlace := ["internal/bytealg.IndexByteString", "internal/bytealg.IndexString"], unfollowed := true, recurses := true, named := ["internal/bytealg.MaxLen"], apart := false }
def MsgRoundSaid : Prop := msgRoundRow.holds Try.pinned (OpenSpec.ofChange msgRoundSpec)

/-- ITS FALSE NEIGHBOUR: 'it returns false'. Refute it at one input. -/
def msgRoundWrong : ChangeSpec := { name := "msgRound", fn := fun _ => fun
  | [d1, d2] => { results := [.lit (.bool false)], args := [d1, d2] }
  | _ => none }
def MsgRoundWrongFalsely : Prop := msgRoundRow.holds Try.pinned (OpenSpec.ofChange msgRoundWrong)

/-- 'stanchionlaw08.MsgSmall': WHATEVER THE INPUT: true; the input reads as it did. -/
def msgSmallSpec : ChangeSpec := { name := "msgSmall", fn := fun _ => fun
  | [d1, d2] => { results := [.lit (.bool true)], args := [d1, d2] }
  | _ => none }
def msgSmallRow : OpenClaim := { program := "ytijccobeljoikaa", sum := "5bf316629794747c99d75497e43c30da1ccfec8cbfb8a208ebdbb92922afab04", func := "stanchion/stanchionlaw08.MsgSmall", spec := "msgSmall", inPlace := ["internal/bytealg.IndexByteString", "internal/bytealg.IndexString"], unfollowed := true, recurses := true, named := ["internal/bytealg.MaxLen"], apart := false }
def MsgSmallSaid : Prop := msgSmallRow.holds Try.pinned (OpenSpec.ofChange msgSmallSpec)

/-- ITS FALSE NEIGHBOUR: 'it returns false'. Refute it at one input. -/
def msgSmallWrong : ChangeSpec := { name := "msgSmall", fn := fun _ => fun
  | [d1, d2] => { results := [.lit (.bool false)], args := [d1, d2] }
  | _ => none }
def MsgSmallWrongFalsely : Prop := msgSmallRow.holds Try.pinned (OpenSpec.ofChange msgSmallWrong)

/-- 'stanchionlaw08.MsgCuts': WHATEVER THE INPUT: true; the input reads as it did. -/
def msgCutsSpec : ChangeSpec := { name := "msgCuts", fn := fun _ => fun
  | [d1, d2] => { results := [.lit (.bool true)], args := [d1, d2] }
  | _ => none }
def msgCutsRow : OpenClaim := { program := "ytijccobeljoikaa", sum := "5bf316629794747c99d75497e43c30da1ccfec8cbfb8a208ebdbb92922afab04", func := "stanchion/stanchionlaw08.MsgCuts", spec := "msgCuts", inPlace := ["internal/bytealg.IndexByteString", "internal/bytealg.IndexString"], unfollowed := true, recurses := true, named := ["internal/bytealg.MaxLen"], apart := false }
def MsgCutsSaid : Prop := msgCutsRow.holds Try.pinned (OpenSpec.ofChange msgCutsSpec)

/-- ITS FALSE NEIGHBOUR: 'it returns false'. Refute it at one input. -/
def msgCutsWrong : ChangeSpec := { name := "msgCuts", fn := fun _ => fun
  | [d1, d2] => { results := [.lit (.bool false)], args := [d1, d2] }
  | _ => none }
def MsgCutsWrongFalsely : Prop := msgCutsRow.holds Try.pinned (OpenSpec.ofChange msgCutsWrong)

/-- 'stanchionlaw08.MsgLetters': WHATEVER THE INPUT: true; the input reads as it did. -/
def msgLettersSpec : ChangeSpec := { name := "msgLetters", fn := fun _ => fun
  | [d1, d2, d3] => { results := [.lit (.bool true)], args := [d1, d2, d3] }
  | _ => none }
def msgLettersRow : OpenClaim := { program := "ytijccobeljoikaa", sum := "5bf316629794747c99d75497e43c30da1ccfec8cbfb8a208ebdbb92922afab04", func := "stanchion/stanchionlaw08.MsgLetters", spec := "msgLetters", inPlace := ["internal/bytealg.IndexByteString", "internal/bytealg.IndexString"], unfollowed := true, recurses := true, named := ["internal/bytealg.MaxLen"], apart := false }
def MsgLettersSaid : Prop := msgLettersRow.holds Try.pinned (OpenSpec.ofChange msgLettersSpec)

/-- ITS FALSE NEIGHBOUR: 'it returns false'. Refute it at one input. -/
def msgLettersWrong : ChangeSpec := { name := "msgLetters", fn := fun _ => fun
  | [d1, d2, d3] => { results := [.lit (.bool false)], args := [d1, d2, d3] }
  | _ => none }
def MsgLettersWrongFalsely : Prop := msgLettersRow.holds Try.pinned (OpenSpec.ofChange msgLettersWrong)

/-- 'stanchionlaw08.MsgOthers': WHATEVER THE INPUT: true; the input reads as it did. -/
def msgOthersSpec : ChangeSpec := { name := "msgOthers", fn := fun _ => fun
  | [d1, d2, d3, d4] => { results := [.lit (.bool true)], args := [d1, d2, d3, d4] }
  | _ => none }
def msgOthersRow : OpenClaim := { program := "ytijccobeljoikaa", sum := "5bf316629794747c99d75497e43c30da1ccfec8cbfb8a208ebdbb92922afab04", func := "stanchion/stanchionlaw08.MsgOthers", spec := "msgOthers", inPlace := ["internal/bytealg.IndexByteString", "internal/bytealg.IndexString"], unfollowed := true, recurses := true, named := ["internal/bytealg.MaxLen"], apart := false }
def MsgOthersSaid : Prop := msgOthersRow.holds Try.pinned (OpenSpec.ofChange msgOthersSpec)

/-- ITS FALSE NEIGHBOUR: 'it returns false'. Refute it at one input. -/
def msgOthersWrong : ChangeSpec := { name := "msgOthers", fn := fun _ => fun
  | [d1, d2, d3, d4] => { results := [.lit (.bool false)], args := [d1, d2, d3, d4] }
  | _ => none }
def MsgOthersWrongFalsely : Prop := msgOthersRow.holds Try.pinned (OpenSpec.ofChange msgOthersWrong)

/- THE SECOND FORM. 'bulk': how many values and letters a reading holds, each counted each time it is reached (what is shared counts as often as it is met; a slice's spare places count too). A statement '..UptoSaid' is the law's where the arguments, and the package variables that the reading takes, are together of bulk at most 1048576: NARROWER than '..Said'. Prove '..Said' where nothing that the law and all that it calls make is longer than what came in: it says more and counts as full. Else prove '..UptoSaid'. A law counts once. -/
mutual
def uptoBulk {H : Type} : DataW H → Nat
  | .lit (.string bytes) => bytes.length + 1
  | .lit _ => 1
  | .nil => 1
  | .ptr d => uptoBulk d + 1
  | .slice elems spare => uptoBulkAll elems + uptoBulkAll spare + 1
  | .agg parts => uptoBulkAll parts + 1
  | .iface _ d => uptoBulk d + 1
  | .map entries => uptoBulkEntries entries + 1
  | .held _ => 1
def uptoBulkAll {H : Type} : List (DataW H) → Nat
  | [] => 0
  | d :: r => uptoBulk d + uptoBulkAll r
def uptoBulkEntries {H : Type} : List (Lit × DataW H) → Nat
  | [] => 0
  | x :: r => uptoBulkEntry x + uptoBulkEntries r
def uptoBulkEntry {H : Type} : Lit × DataW H → Nat
  | (.string bytes, d) => bytes.length + uptoBulk d + 1
  | (_, d) => uptoBulk d + 1
 end
def uptoSmall : (H : Type) → List (DataW H) → Bool := fun _ ds => decide (uptoBulkAll ds ≤ 1048576)
def OpenSpec.upto (s : _root_.Go.ChangeSpec) : _root_.Go.OpenSpec := { _root_.Go.OpenSpec.ofChange s with cond := some uptoSmall }

/-- 'stanchionlaw01.PackNames', WHERE WHAT IT READS IS OF BULK AT MOST 1048576: true; the input reads as it did. -/
def packNamesUptoRow : OpenClaim := { program := "ytijccobeljoikaa", sum := "5bf316629794747c99d75497e43c30da1ccfec8cbfb8a208ebdbb92922afab04", func := "stanchion/stanchionlaw01.PackNames", spec := "packNames", apart := false, narrowed := true }
def PackNamesUptoSaid : Prop := packNamesUptoRow.holds Try.pinned (OpenSpec.upto packNamesSpec)

/-- 'stanchionlaw01.PackNums', WHERE WHAT IT READS IS OF BULK AT MOST 1048576: true; the input reads as it did. -/
def packNumsUptoRow : OpenClaim := { program := "ytijccobeljoikaa", sum := "5bf316629794747c99d75497e43c30da1ccfec8cbfb8a208ebdbb92922afab04", func := "stanchion/stanchionlaw01.PackNums", spec := "packNums", apart := false, narrowed := true }
def PackNumsUptoSaid : Prop := packNumsUptoRow.holds Try.pinned (OpenSpec.upto packNumsSpec)

/-- 'stanchionlaw01.PackSizes', WHERE WHAT IT READS IS OF BULK AT MOST 1048576: true; the input reads as it did. -/
def packSizesUptoRow : OpenClaim := { program := "ytijccobeljoikaa", sum := "5bf316629794747c99d75497e43c30da1ccfec8cbfb8a208ebdbb92922afab04", func := "stanchion/stanchionlaw01.PackSizes", spec := "packSizes", apart := false, narrowed := true }
def PackSizesUptoSaid : Prop := packSizesUptoRow.holds Try.pinned (OpenSpec.upto packSizesSpec)

/-- 'stanchionlaw01.PackJoins', WHERE WHAT IT READS IS OF BULK AT MOST 1048576: true; the input reads as it did. -/
def packJoinsUptoRow : OpenClaim := { program := "ytijccobeljoikaa", sum := "5bf316629794747c99d75497e43c30da1ccfec8cbfb8a208ebdbb92922afab04", func := "stanchion/stanchionlaw01.PackJoins", spec := "packJoins", apart := false, narrowed := true }
def PackJoinsUptoSaid : Prop := packJoinsUptoRow.holds Try.pinned (OpenSpec.upto packJoinsSpec)

/-- 'stanchionlaw01.PackReads', WHERE WHAT IT READS IS OF BULK AT MOST 1048576: true; the input reads as it did. -/
def packReadsUptoRow : OpenClaim := { program := "ytijccobeljoikaa", sum := "5bf316629794747c99d75497e43c30da1ccfec8cbfb8a208ebdbb92922afab04", func := "stanchion/stanchionlaw01.PackReads", spec := "packReads", apart := false, narrowed := true }
def PackReadsUptoSaid : Prop := packReadsUptoRow.holds Try.pinned (OpenSpec.upto packReadsSpec)

/-- 'stanchionlaw01.PackSplits', WHERE WHAT IT READS IS OF BULK AT MOST 1048576: true; the input reads as it did. -/
def packSplitsUptoRow : OpenClaim := { program := "ytijccobeljoikaa", sum := "5bf316629794747c99d75497e43c30da1ccfec8cbfb8a208ebdbb92922afab04", func := "stanchion/stanchionlaw01.PackSplits", spec := "packSplits", apart := false, narrowed := true }
def PackSplitsUptoSaid : Prop := packSplitsUptoRow.holds Try.pinned (OpenSpec.upto packSplitsSpec)

/-- 'stanchionlaw01.PackRound', WHERE WHAT IT READS IS OF BULK AT MOST 1048576: true; the input reads as it did. -/
def packRoundUptoRow : OpenClaim := { program := "ytijccobeljoikaa", sum := "5bf316629794747c99d75497e43c30da1ccfec8cbfb8a208ebdbb92922afab04", func := "stanchion/stanchionlaw01.PackRound", spec := "packRound", apart := false, narrowed := true }
def PackRoundUptoSaid : Prop := packRoundUptoRow.holds Try.pinned (OpenSpec.upto packRoundSpec)

/-- 'stanchionlaw01.PackCuts', WHERE WHAT IT READS IS OF BULK AT MOST 1048576: true; the input reads as it did. -/
def packCutsUptoRow : OpenClaim := { program := "ytijccobeljoikaa", sum := "5bf316629794747c99d75497e43c30da1ccfec8cbfb8a208ebdbb92922afab04", func := "stanchion/stanchionlaw01.PackCuts", spec := "packCuts", apart := false, narrowed := true }
def PackCutsUptoSaid : Prop := packCutsUptoRow.holds Try.pinned (OpenSpec.upto packCutsSpec)

/-- 'stanchionlaw01.PackLists', WHERE WHAT IT READS IS OF BULK AT MOST 1048576: true; the input reads as it did. -/
def packListsUptoRow : OpenClaim := { program := "ytijccobeljoikaa", sum := "5bf316629794747c99d75497e43c30da1ccfec8cbfb8a208ebdbb92922afab04", func := "stanchion/stanchionlaw01.PackLists", spec := "packLists", apart := false, narrowed := true }
def PackListsUptoSaid : Prop := packListsUptoRow.holds Try.pinned (OpenSpec.upto packListsSpec)

/-- 'stanchionlaw01.PackFields', WHERE WHAT IT READS IS OF BULK AT MOST 1048576: true; the input reads as it did. -/
def packFieldsUptoRow : OpenClaim := { program := "ytijccobeljoikaa", sum := "5bf316629794747c99d75497e43c30da1ccfec8cbfb8a208ebdbb92922afab04", func := "stanchion/stanchionlaw01.PackFields", spec := "packFields", apart := false, narrowed := true }
def PackFieldsUptoSaid : Prop := packFieldsUptoRow.holds Try.pinned (OpenSpec.upto packFieldsSpec)

/-- 'stanchionlaw01.PackBehind', WHERE WHAT IT READS IS OF BULK AT MOST 1048576: true; the input reads as it did. -/
def packBehindUptoRow : OpenClaim := { program := "ytijccobeljoikaa", sum := "5bf316629794747c99d75497e43c30da1ccfec8cbfb8a208ebdbb92922afab04", func := "stanchion/stanchionlaw01.PackBehind", spec := "packBehind", apart := false, narrowed := true }
def PackBehindUptoSaid : Prop := packBehindUptoRow.holds Try.pinned (OpenSpec.upto packBehindSpec)

/-- 'stanchionlaw21.NetSteps', WHERE WHAT IT READS IS OF BULK AT MOST 1048576: true; the input reads as it did. -/
def netStepsUptoRow : OpenClaim := { program := "ytijccobeljoikaa", sum := "5bf316629794747c99d75497e43c30da1ccfec8cbfb8a208ebdbb92922afab04", func := "stanchion/stanchionlaw21.NetSteps", spec := "netSteps", apart := false, narrowed := true }
def NetStepsUptoSaid : Prop := netStepsUptoRow.holds Try.pinned (OpenSpec.upto netStepsSpec)

/-- 'stanchionlaw21.NetFair', WHERE WHAT IT READS IS OF BULK AT MOST 1048576: true; the input reads as it did. -/
def netFairUptoRow : OpenClaim := { program := "ytijccobeljoikaa", sum := "5bf316629794747c99d75497e43c30da1ccfec8cbfb8a208ebdbb92922afab04", func := "stanchion/stanchionlaw21.NetFair", spec := "netFair", apart := false, narrowed := true }
def NetFairUptoSaid : Prop := netFairUptoRow.holds Try.pinned (OpenSpec.upto netFairSpec)

/-- 'stanchionlaw21.NetRoom', WHERE WHAT IT READS IS OF BULK AT MOST 1048576: true; the input reads as it did. -/
def netRoomUptoRow : OpenClaim := { program := "ytijccobeljoikaa", sum := "5bf316629794747c99d75497e43c30da1ccfec8cbfb8a208ebdbb92922afab04", func := "stanchion/stanchionlaw21.NetRoom", spec := "netRoom", apart := false, narrowed := true }
def NetRoomUptoSaid : Prop := netRoomUptoRow.holds Try.pinned (OpenSpec.upto netRoomSpec)

/-- 'stanchionlaw08.MsgEncodes', WHERE WHAT IT READS IS OF BULK AT MOST 1048576: true; the input reads as it did. -/
def msgEncodesUptoRow : OpenClaim := { program := "ytijccobeljoikaa", sum := "5bf316629794747c99d75497e43c30da1ccfec8cbfb8a208ebdbb92922afab04", func := "stanchion/stanchionlaw08.MsgEncodes", spec := "msgEncodes", inPlace := ["internal/bytealg.IndexByteString", "internal/bytealg.IndexString"], unfollowed := true, recurses := true, named := ["internal/bytealg.MaxLen"], apart := false, narrowed := true }
def MsgEncodesUptoSaid : Prop := msgEncodesUptoRow.holds Try.pinned (OpenSpec.upto msgEncodesSpec)

/-- 'stanchionlaw08.MsgDecodes', WHERE WHAT IT READS IS OF BULK AT MOST 1048576: true; the input reads as it did. -/
def msgDecodesUptoRow : OpenClaim := { program := "ytijccobeljoikaa", sum := "5bf316629794747c99d75497e43c30da1ccfec8cbfb8a208ebdbb92922afab04", func := "stanchion/stanchionlaw08.MsgDecodes", spec := "msgDecodes", inPlace := ["internal/bytealg.IndexByteString", "internal/bytealg.IndexString"], unfollowed := true, recurses := true, named := ["internal/bytealg.MaxLen"], apart := false, narrowed := true }
def MsgDecodesUptoSaid : Prop := msgDecodesUptoRow.holds Try.pinned (OpenSpec.upto msgDecodesSpec)

/-- 'stanchionlaw08.MsgRound', WHERE WHAT IT READS IS OF BULK AT MOST 1048576: true; the input reads as it did. -/
def msgRoundUptoRow : OpenClaim := { program := "ytijccobeljoikaa", sum := "5bf316629794747c99d75497e43c30da1ccfec8cbfb8a208ebdbb92922afab04", func := "stanchion/stanchionlaw08.MsgRound", spec := "msgRound", inPlace := ["internal/bytealg.IndexByteString", "internal/bytealg.IndexString"], unfollowed := true, recurses := true, named := ["internal/bytealg.MaxLen"], apart := false, narrowed := true }
def MsgRoundUptoSaid : Prop := msgRoundUptoRow.holds Try.pinned (OpenSpec.upto msgRoundSpec)

/-- 'stanchionlaw08.MsgSmall', WHERE WHAT IT READS IS OF BULK AT MOST 1048576: true; the input reads as it did. -/
def msgSmallUptoRow : OpenClaim := { program := "ytijccobeljoikaa", sum := "5bf316629794747c99d75497e43c30da1ccfec8cbfb8a208ebdbb92922afab04", func := "stanchion/stanchionlaw08.MsgSmall", spec := "msgSmall", inPlace := ["internal/bytealg.IndexByteString", "internal/bytealg.IndexString"], unfollowed := true, recurses := true, named := ["internal/bytealg.MaxLen"], apart := false, narrowed := true }
def MsgSmallUptoSaid : Prop := msgSmallUptoRow.holds Try.pinned (OpenSpec.upto msgSmallSpec)

/-- 'stanchionlaw08.MsgCuts', WHERE WHAT IT READS IS OF BULK AT MOST 1048576: true; the input reads as it did. -/
def msgCutsUptoRow : OpenClaim := { program := "ytijccobeljoikaa", sum := "5bf316629794747c99d75497e43c30da1ccfec8cbfb8a208ebdbb92922afab04", func := "stanchion/stanchionlaw08.MsgCuts", spec := "msgCuts", inPlace := ["internal/bytealg.IndexByteString", "internal/bytealg.IndexString"], unfollowed := true, recurses := true, named := ["internal/bytealg.MaxLen"], apart := false, narrowed := true }
def MsgCutsUptoSaid : Prop := msgCutsUptoRow.holds Try.pinned (OpenSpec.upto msgCutsSpec)

/-- 'stanchionlaw08.MsgLetters', WHERE WHAT IT READS IS OF BULK AT MOST 1048576: true; the input reads as it did. -/
def msgLettersUptoRow : OpenClaim := { program := "ytijccobeljoikaa", sum := "5bf316629794747c99d75497e43c30da1ccfec8cbfb8a208ebdbb92922afab04", func := "stanchion/stanchionlaw08.MsgLetters", spec := "msgLetters", inPlace := ["internal/bytealg.IndexByteString", "internal/bytealg.IndexString"], unfollowed := true, recurses := true, named := ["internal/bytealg.MaxLen"], apart := false, narrowed := true }
def MsgLettersUptoSaid : Prop := msgLettersUptoRow.holds Try.pinned (OpenSpec.upto msgLettersSpec)

/-- 'stanchionlaw08.MsgOthers', WHERE WHAT IT READS IS OF BULK AT MOST 1048576: true; the input reads as it did. -/
def msgOthersUptoRow : OpenClaim := { program := "ytijccobeljoikaa", sum := "5bf316629794747c99d75497e43c30da1ccfec8cbfb8a208ebdbb92922afab04", func := "stanchion/stanchionlaw08.MsgOthers", spec := "msgOthers", inPlace := ["internal/bytealg.IndexByteString", "internal/bytealg.IndexString"], unfollowed := true, recurses := true, named := ["internal/bytealg.MaxLen"], apart := false, narrowed := true }
def MsgOthersUptoSaid : Prop := msgOthersUptoRow.holds Try.pinned (OpenSpec.upto msgOthersSpec)

end Rows
end Go.Proofs.Ytijccobeljoikaa
