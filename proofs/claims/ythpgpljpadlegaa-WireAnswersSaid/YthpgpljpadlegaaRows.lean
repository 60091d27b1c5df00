/-
  No cell of these rows narrows 'for every input' (looked for: loops, veiled, ifaces, maps, wideKeys, modest, calm, conditions, laid).
  DERIVED. THE GIVEN ROWS OF THIS SEAT. 13 by the template 'for every input the law returns true; each argument reads behind the call as it read before'; 0 by the template 'total and deterministic' (their statements: YthpgpljpadlegaaTotals.lean).
  GIVEN WITH THE SEED: the statements are not yours to turn. If you find one false, say at which input.
  Laid BY PROGRAM, IN A SANDBOX (cutbox-rows.mjs): the forced cells as the released guide's own fill.sh prints them over the translation 18aa3f16e930fc92… (all of the seat's roots in one cut). By AI agents, Wed Nov 11 2026. No macro, syntax, notation, axiom, sorry.
-/
import Derived.Test.YthpgpljpadlegaaChecked
import GoSem.Claim
import GoSem.ClaimJoined
import GoSem.ClaimMapViews
import Derived.JoinedTies
import Derived.KernelRfl
namespace Go.Proofs.Ythpgpljpadlegaa
/- THE CELL 'sum', in the pinned program and in every row, IS THE sha256 OF THE DUMP (.gsa) THAT YthpgpljpadlegaaProg.lean LOADS. Nothing in Lean hashes anything: it is a label: what it is worth is what the hold of that sum in a sandbox is worth. -/
noncomputable def Try.pinned : Pinned := { name := "ythpgpljpadlegaa", sum := "18aa3f16e930fc928c515baa811ce19e66deb2561101342192e56aa0455d9775", checked := Try.checked }
namespace Rows
def none {H : Type} : Left H := { results := [], args := [] }

/-- 'mailbaglaw01.OctetGrows': WHATEVER THE INPUT: true; the input reads as it did. -/
def octetGrowsSpec : ChangeSpec := { name := "octetGrows", fn := fun _ => fun
  | [d1, d2] => { results := [.lit (.bool true)], args := [d1, d2] }
  | _ => none }
def octetGrowsRow : OpenClaim := { program := "ythpgpljpadlegaa", sum := "18aa3f16e930fc928c515baa811ce19e66deb2561101342192e56aa0455d9775", func := "mailbag/mailbaglaw01.OctetGrows", spec := "octetGrows", apart := false }
def OctetGrowsSaid : Prop := octetGrowsRow.holds Try.pinned (OpenSpec.ofChange octetGrowsSpec)

/-- ITS FALSE NEIGHBOUR: 'it returns false'. Refute it at one input. -/
def octetGrowsWrong : ChangeSpec := { name := "octetGrows", fn := fun _ => fun
  | [d1, d2] => { results := [.lit (.bool false)], args := [d1, d2] }
  | _ => none }
def OctetGrowsWrongFalsely : Prop := octetGrowsRow.holds Try.pinned (OpenSpec.ofChange octetGrowsWrong)

/-- 'mailbaglaw01.OctetApart': WHATEVER THE INPUT: true; the input reads as it did. -/
def octetApartSpec : ChangeSpec := { name := "octetApart", fn := fun _ => fun
  | [d1, d2] => { results := [.lit (.bool true)], args := [d1, d2] }
  | _ => none }
def octetApartRow : OpenClaim := { program := "ythpgpljpadlegaa", sum := "18aa3f16e930fc928c515baa811ce19e66deb2561101342192e56aa0455d9775", func := "mailbag/mailbaglaw01.OctetApart", spec := "octetApart", apart := false }
def OctetApartSaid : Prop := octetApartRow.holds Try.pinned (OpenSpec.ofChange octetApartSpec)

/-- ITS FALSE NEIGHBOUR: 'it returns false'. Refute it at one input. -/
def octetApartWrong : ChangeSpec := { name := "octetApart", fn := fun _ => fun
  | [d1, d2] => { results := [.lit (.bool false)], args := [d1, d2] }
  | _ => none }
def OctetApartWrongFalsely : Prop := octetApartRow.holds Try.pinned (OpenSpec.ofChange octetApartWrong)

/-- 'mailbaglaw18.WireApart': WHATEVER THE INPUT: true; the input reads as it did. -/
def wireApartSpec : ChangeSpec := { name := "wireApart", fn := fun _ => fun
  | [d1, d2] => { results := [.lit (.bool true)], args := [d1, d2] }
  | _ => none }
def wireApartRow : OpenClaim := { program := "ythpgpljpadlegaa", sum := "18aa3f16e930fc928c515baa811ce19e66deb2561101342192e56aa0455d9775", func := "mailbag/mailbaglaw18.WireApart", spec := "wireApart", unfollowed := true, recurses := true, apart := false }
def WireApartSaid : Prop := wireApartRow.holds Try.pinned (OpenSpec.ofChange wireApartSpec)

/-- ITS FALSE NEIGHBOUR: 'it returns false'. Refute it at one input. -/
def wireApartWrong : ChangeSpec := { name := "wireApart", fn := fun _ => fun
  | [d1, d2] => { results := [.lit (.bool false)], args := [d1, d2] }
  | _ => none }
def WireApartWrongFalsely : Prop := wireApartRow.holds Try.pinned (OpenSpec.ofChange wireApartWrong)

/-- 'mailbaglaw01.OctetRaws': WHATEVER THE INPUT: true; the input reads as it did. -/
def octetRawsSpec : ChangeSpec := { name := "octetRaws", fn := fun _ => fun
  | [d1, d2] => { results := [.lit (.bool true)], args := [d1, d2] }
  | _ => none }
def octetRawsRow : OpenClaim := { program := "ythpgpljpadlegaa", sum := "18aa3f16e930fc928c515baa811ce19e66deb2561101342192e56aa0455d9775", func := "mailbag/mailbaglaw01.OctetRaws", spec := "octetRaws", apart := false }
def OctetRawsSaid : Prop := octetRawsRow.holds Try.pinned (OpenSpec.ofChange octetRawsSpec)

/-- ITS FALSE NEIGHBOUR: 'it returns false'. Refute it at one input. -/
def octetRawsWrong : ChangeSpec := { name := "octetRaws", fn := fun _ => fun
  | [d1, d2] => { results := [.lit (.bool false)], args := [d1, d2] }
  | _ => none }
def OctetRawsWrongFalsely : Prop := octetRawsRow.holds Try.pinned (OpenSpec.ofChange octetRawsWrong)

/-- 'mailbaglaw01.OctetReads': WHATEVER THE INPUT: true; the input reads as it did. -/
def octetReadsSpec : ChangeSpec := { name := "octetReads", fn := fun _ => fun
  | [d1, d2] => { results := [.lit (.bool true)], args := [d1, d2] }
  | _ => none }
def octetReadsRow : OpenClaim := { program := "ythpgpljpadlegaa", sum := "18aa3f16e930fc928c515baa811ce19e66deb2561101342192e56aa0455d9775", func := "mailbag/mailbaglaw01.OctetReads", spec := "octetReads", apart := false }
def OctetReadsSaid : Prop := octetReadsRow.holds Try.pinned (OpenSpec.ofChange octetReadsSpec)

/-- ITS FALSE NEIGHBOUR: 'it returns false'. Refute it at one input. -/
def octetReadsWrong : ChangeSpec := { name := "octetReads", fn := fun _ => fun
  | [d1, d2] => { results := [.lit (.bool false)], args := [d1, d2] }
  | _ => none }
def OctetReadsWrongFalsely : Prop := octetReadsRow.holds Try.pinned (OpenSpec.ofChange octetReadsWrong)

/-- 'mailbaglaw01.OctetCuts': WHATEVER THE INPUT: true; the input reads as it did. -/
def octetCutsSpec : ChangeSpec := { name := "octetCuts", fn := fun _ => fun
  | [d1, d2] => { results := [.lit (.bool true)], args := [d1, d2] }
  | _ => none }
def octetCutsRow : OpenClaim := { program := "ythpgpljpadlegaa", sum := "18aa3f16e930fc928c515baa811ce19e66deb2561101342192e56aa0455d9775", func := "mailbag/mailbaglaw01.OctetCuts", spec := "octetCuts", apart := false }
def OctetCutsSaid : Prop := octetCutsRow.holds Try.pinned (OpenSpec.ofChange octetCutsSpec)

/-- ITS FALSE NEIGHBOUR: 'it returns false'. Refute it at one input. -/
def octetCutsWrong : ChangeSpec := { name := "octetCuts", fn := fun _ => fun
  | [d1, d2] => { results := [.lit (.bool false)], args := [d1, d2] }
  | _ => none }
def OctetCutsWrongFalsely : Prop := octetCutsRow.holds Try.pinned (OpenSpec.ofChange octetCutsWrong)

/-- 'mailbaglaw01.OctetLays': WHATEVER THE INPUT: true; the input reads as it did. -/
def octetLaysSpec : ChangeSpec := { name := "octetLays", fn := fun _ => fun
  | [d1, d2] => { results := [.lit (.bool true)], args := [d1, d2] }
  | _ => none }
def octetLaysRow : OpenClaim := { program := "ythpgpljpadlegaa", sum := "18aa3f16e930fc928c515baa811ce19e66deb2561101342192e56aa0455d9775", func := "mailbag/mailbaglaw01.OctetLays", spec := "octetLays", apart := false }
def OctetLaysSaid : Prop := octetLaysRow.holds Try.pinned (OpenSpec.ofChange octetLaysSpec)

/-- ITS FALSE NEIGHBOUR: 'it returns false'. Refute it at one input. -/
def octetLaysWrong : ChangeSpec := { name := "octetLays", fn := fun _ => fun
  | [d1, d2] => { results := [.lit (.bool false)], args := [d1, d2] }
  | _ => none }
def OctetLaysWrongFalsely : Prop := octetLaysRow.holds Try.pinned (OpenSpec.ofChange octetLaysWrong)

/-- 'mailbaglaw01.OctetMosts': WHATEVER THE INPUT: true; the input reads as it did. -/
def octetMostsSpec : ChangeSpec := { name := "octetMosts", fn := fun _ => fun
  | [d1, d2, d3, d4] => { results := [.lit (.bool true)], args := [d1, d2, d3, d4] }
  | _ => none }
def octetMostsRow : OpenClaim := { program := "ythpgpljpadlegaa", sum := "18aa3f16e930fc928c515baa811ce19e66deb2561101342192e56aa0455d9775", func := "mailbag/mailbaglaw01.OctetMosts", spec := "octetMosts", apart := false }
def OctetMostsSaid : Prop := octetMostsRow.holds Try.pinned (OpenSpec.ofChange octetMostsSpec)

/-- ITS FALSE NEIGHBOUR: 'it returns false'. Refute it at one input. -/
def octetMostsWrong : ChangeSpec := { name := "octetMosts", fn := fun _ => fun
  | [d1, d2, d3, d4] => { results := [.lit (.bool false)], args := [d1, d2, d3, d4] }
  | _ => none }
def OctetMostsWrongFalsely : Prop := octetMostsRow.holds Try.pinned (OpenSpec.ofChange octetMostsWrong)

/-- 'mailbaglaw18.WireAsks': WHATEVER THE INPUT: true; the input reads as it did. -/
def wireAsksSpec : ChangeSpec := { name := "wireAsks", fn := fun _ => fun
  | [d1, d2] => { results := [.lit (.bool true)], args := [d1, d2] }
  | _ => none }
def wireAsksRow : OpenClaim := { program := "ythpgpljpadlegaa", sum := "18aa3f16e930fc928c515baa811ce19e66deb2561101342192e56aa0455d9775", func := "mailbag/mailbaglaw18.WireAsks", spec := "wireAsks", unfollowed := true, recurses := true, apart := false }
def WireAsksSaid : Prop := wireAsksRow.holds Try.pinned (OpenSpec.ofChange wireAsksSpec)

/-- ITS FALSE NEIGHBOUR: 'it returns false'. Refute it at one input. -/
def wireAsksWrong : ChangeSpec := { name := "wireAsks", fn := fun _ => fun
  | [d1, d2] => { results := [.lit (.bool false)], args := [d1, d2] }
  | _ => none }
def WireAsksWrongFalsely : Prop := wireAsksRow.holds Try.pinned (OpenSpec.ofChange wireAsksWrong)

/-- 'mailbaglaw18.WireLong': WHATEVER THE INPUT: true; the input reads as it did. -/
def wireLongSpec : ChangeSpec := { name := "wireLong", fn := fun _ => fun
  | [d1, d2] => { results := [.lit (.bool true)], args := [d1, d2] }
  | _ => none }
def wireLongRow : OpenClaim := { program := "ythpgpljpadlegaa", sum := "18aa3f16e930fc928c515baa811ce19e66deb2561101342192e56aa0455d9775", func := "mailbag/mailbaglaw18.WireLong", spec := "wireLong", unfollowed := true, recurses := true, apart := false }
def WireLongSaid : Prop := wireLongRow.holds Try.pinned (OpenSpec.ofChange wireLongSpec)

/-- ITS FALSE NEIGHBOUR: 'it returns false'. Refute it at one input. -/
def wireLongWrong : ChangeSpec := { name := "wireLong", fn := fun _ => fun
  | [d1, d2] => { results := [.lit (.bool false)], args := [d1, d2] }
  | _ => none }
def WireLongWrongFalsely : Prop := wireLongRow.holds Try.pinned (OpenSpec.ofChange wireLongWrong)

/-- 'mailbaglaw18.WireAnswers': WHATEVER THE INPUT: true; the input reads as it did. -/
def wireAnswersSpec : ChangeSpec := { name := "wireAnswers", fn := fun _ => fun
  | [d1, d2] => { results := [.lit (.bool true)], args := [d1, d2] }
  | _ => none }
def wireAnswersRow : OpenClaim := { program := "ythpgpljpadlegaa", sum := "18aa3f16e930fc928c515baa811ce19e66deb2561101342192e56aa0455d9775", func := "mailbag/mailbaglaw18.WireAnswers", spec := "wireAnswers", unfollowed := true, recurses := true, apart := false }
def WireAnswersSaid : Prop := wireAnswersRow.holds Try.pinned (OpenSpec.ofChange wireAnswersSpec)

/-- ITS FALSE NEIGHBOUR: 'it returns false'. Refute it at one input. -/
def wireAnswersWrong : ChangeSpec := { name := "wireAnswers", fn := fun _ => fun
  | [d1, d2] => { results := [.lit (.bool false)], args := [d1, d2] }
  | _ => none }
def WireAnswersWrongFalsely : Prop := wireAnswersRow.holds Try.pinned (OpenSpec.ofChange wireAnswersWrong)

/-- 'mailbaglaw18.WireFails': WHATEVER THE INPUT: true; the input reads as it did. -/
def wireFailsSpec : ChangeSpec := { name := "wireFails", fn := fun _ => fun
  | [d1, d2] => { results := [.lit (.bool true)], args := [d1, d2] }
  | _ => none }
def wireFailsRow : OpenClaim := { program := "ythpgpljpadlegaa", sum := "18aa3f16e930fc928c515baa811ce19e66deb2561101342192e56aa0455d9775", func := "mailbag/mailbaglaw18.WireFails", spec := "wireFails", unfollowed := true, recurses := true, apart := false }
def WireFailsSaid : Prop := wireFailsRow.holds Try.pinned (OpenSpec.ofChange wireFailsSpec)

/-- ITS FALSE NEIGHBOUR: 'it returns false'. Refute it at one input. -/
def wireFailsWrong : ChangeSpec := { name := "wireFails", fn := fun _ => fun
  | [d1, d2] => { results := [.lit (.bool false)], args := [d1, d2] }
  | _ => none }
def WireFailsWrongFalsely : Prop := wireFailsRow.holds Try.pinned (OpenSpec.ofChange wireFailsWrong)

/-- 'mailbaglaw18.WireReads': WHATEVER THE INPUT: true; the input reads as it did. -/
def wireReadsSpec : ChangeSpec := { name := "wireReads", fn := fun _ => fun
  | [d] => { results := [.lit (.bool true)], args := [d] }
  | _ => none }
def wireReadsRow : OpenClaim := { program := "ythpgpljpadlegaa", sum := "18aa3f16e930fc928c515baa811ce19e66deb2561101342192e56aa0455d9775", func := "mailbag/mailbaglaw18.WireReads", spec := "wireReads", unfollowed := true, recurses := true, apart := false }
def WireReadsSaid : Prop := wireReadsRow.holds Try.pinned (OpenSpec.ofChange wireReadsSpec)

/-- ITS FALSE NEIGHBOUR: 'it returns false'. Refute it at one input. -/
def wireReadsWrong : ChangeSpec := { name := "wireReads", fn := fun _ => fun
  | [d] => { results := [.lit (.bool false)], args := [d] }
  | _ => none }
def WireReadsWrongFalsely : Prop := wireReadsRow.holds Try.pinned (OpenSpec.ofChange wireReadsWrong)

/- THE SECOND FORM. 'bulk': how many values and letters a reading holds, each counted each time it is reached (what is shared counts as often as it is met; a slice's spare places count too). A statement '..UptoSaid' is the law's where the arguments, and the package variables that the reading takes, are together of bulk at most 1048576: NARROWER than '..Said'. Prove '..Said' where nothing that the law and all that it calls make is longer than what came in: it says more and counts as full. Else prove '..UptoSaid'. A law counts once. -/
mutual
def uptoBulk {H : Type} : DataW H → Nat
  | .lit (.string bytes) => bytes.length + 1
  | .lit _ => 1
  | .nil => 1
  | .ptr d => uptoBulk d + 1
  | .slice elems spare => uptoBulkAll elems + uptoBulkAll spare + 1
  | .agg parts => uptoBulkAll parts + 1
  | .iface _ d => uptoBulk d + 1
  | .map entries => uptoBulkEntries entries + 1
  | .held _ => 1
def uptoBulkAll {H : Type} : List (DataW H) → Nat
  | [] => 0
  | d :: r => uptoBulk d + uptoBulkAll r
def uptoBulkEntries {H : Type} : List (Lit × DataW H) → Nat
  | [] => 0
  | x :: r => uptoBulkEntry x + uptoBulkEntries r
def uptoBulkEntry {H : Type} : Lit × DataW H → Nat
  | (.string bytes, d) => bytes.length + uptoBulk d + 1
  | (_, d) => uptoBulk d + 1
 end
def uptoSmall : (H : Type) → List (DataW H) → Bool := fun _ ds => decide (uptoBulkAll ds ≤ 1048576)
def OpenSpec.upto (s : _root_.Go.ChangeSpec) : _root_.Go.OpenSpec := { _root_.Go.OpenSpec.ofChange s with cond := some uptoSmall }

/-- 'mailbaglaw01.OctetGrows', WHERE WHAT IT READS IS OF BULK AT MOST 1048576: true; the input reads as it did. -/
def octetGrowsUptoRow : OpenClaim := { program := "ythpgpljpadlegaa", sum := "18aa3f16e930fc928c515baa811ce19e66deb2561101342192e56aa0455d9775", func := "mailbag/mailbaglaw01.OctetGrows", spec := "octetGrows", apart := false, narrowed := true }
def OctetGrowsUptoSaid : Prop := octetGrowsUptoRow.holds Try.pinned (OpenSpec.upto octetGrowsSpec)

/-- 'mailbaglaw01.OctetApart', WHERE WHAT IT READS IS OF BULK AT MOST 1048576: true; the input reads as it did. -/
def octetApartUptoRow : OpenClaim := { program := "ythpgpljpadlegaa", sum := "18aa3f16e930fc928c515baa811ce19e66deb2561101342192e56aa0455d9775", func := "mailbag/mailbaglaw01.OctetApart", spec := "octetApart", apart := false, narrowed := true }
def OctetApartUptoSaid : Prop := octetApartUptoRow.holds Try.pinned (OpenSpec.upto octetApartSpec)

/-- 'mailbaglaw18.WireApart', WHERE WHAT IT READS IS OF BULK AT MOST 1048576: true; the input reads as it did. -/
def wireApartUptoRow : OpenClaim := { program := "ythpgpljpadlegaa", sum := "18aa3f16e930fc928c515baa811ce19e66deb2561101342192e56aa0455d9775", func := "mailbag/mailbaglaw18.WireApart", spec := "wireApart", unfollowed := true, recurses := true, apart := false, narrowed := true }
def WireApartUptoSaid : Prop := wireApartUptoRow.holds Try.pinned (OpenSpec.upto wireApartSpec)

/-- 'mailbaglaw01.OctetRaws', WHERE WHAT IT READS IS OF BULK AT MOST 1048576: true; the input reads as it did. -/
def octetRawsUptoRow : OpenClaim := { program := "ythpgpljpadlegaa", sum := "18aa3f16e930fc928c515baa811ce19e66deb2561101342192e56aa0455d9775", func := "mailbag/mailbaglaw01.OctetRaws", spec := "octetRaws", apart := false, narrowed := true }
def OctetRawsUptoSaid : Prop := octetRawsUptoRow.holds Try.pinned (OpenSpec.upto octetRawsSpec)

/-- 'mailbaglaw01.OctetReads', WHERE WHAT IT READS IS OF BULK AT MOST 1048576: true; the input reads as it did. -/
def octetReadsUptoRow : OpenClaim := { program := "ythpgpljpadlegaa", sum := "18aa3f16e930fc928c515baa811ce19e66deb2561101342192e56aa0455d9775", func := "mailbag/mailbaglaw01.OctetReads", spec := "octetReads", apart := false, narrowed := true }
def OctetReadsUptoSaid : Prop := octetReadsUptoRow.holds Try.pinned (OpenSpec.upto octetReadsSpec)

/-- 'mailbaglaw01.OctetCuts', WHERE WHAT IT READS IS OF BULK AT MOST 1048576: true; the input reads as it did. -/
def octetCutsUptoRow : OpenClaim := { program := "ythpgpljpadlegaa", sum := "18aa3f16e930fc928c515baa811ce19e66deb2561101342192e56aa0455d9775", func := "mailbag/mailbaglaw01.OctetCuts", spec := "octetCuts", apart := false, narrowed := true }
def OctetCutsUptoSaid : Prop := octetCutsUptoRow.holds Try.pinned (OpenSpec.upto octetCutsSpec)

/-- 'mailbaglaw01.OctetLays', WHERE WHAT IT READS IS OF BULK AT MOST 1048576: true; the input reads as it did. -/
def octetLaysUptoRow : OpenClaim := { program := "ythpgpljpadlegaa", sum := "18aa3f16e930fc928c515baa811ce19e66deb2561101342192e56aa0455d9775", func := "mailbag/mailbaglaw01.OctetLays", spec := "octetLays", apart := false, narrowed := true }
def OctetLaysUptoSaid : Prop := octetLaysUptoRow.holds Try.pinned (OpenSpec.upto octetLaysSpec)

/-- 'mailbaglaw01.OctetMosts', WHERE WHAT IT READS IS OF BULK AT MOST 1048576: true; the input reads as it did. -/
def octetMostsUptoRow : OpenClaim := { program := "ythpgpljpadlegaa", sum := "18aa3f16e930fc928c515baa811ce19e66deb2561101342192e56aa0455d9775", func := "mailbag/mailbaglaw01.OctetMosts", spec := "octetMosts", apart := false, narrowed := true }
def OctetMostsUptoSaid : Prop := octetMostsUptoRow.holds Try.pinned (OpenSpec.upto octetMostsSpec)

/-- 'mailbaglaw18.WireAsks', WHERE WHAT IT READS IS OF BULK AT MOST 1048576: true; the input reads as it did. -/
def wireAsksUptoRow : OpenClaim := { program := "ythpgpljpadlegaa", sum := "18aa3f16e930fc928c515baa811ce19e66deb2561101342192e56aa0455d9775", func := "mailbag/mailbaglaw18.WireAsks", spec := "wireAsks", unfollowed := true, recurses := true, apart := false, narrowed := true }
def WireAsksUptoSaid : Prop := wireAsksUptoRow.holds Try.pinned (OpenSpec.upto wireAsksSpec)

/-- 'mailbaglaw18.WireLong', WHERE WHAT IT READS IS OF BULK AT MOST 1048576: true; the input reads as it did. -/
def wireLongUptoRow : OpenClaim := { program := "ythpgpljpadlegaa", sum := "18aa3f16e930fc928c515baa811ce19e66deb2561101342192e56aa0455d9775", func := "mailbag/mailbaglaw18.WireLong", spec := "wireLong", unfollowed := true, recurses := true, apart := false, narrowed := true }
def WireLongUptoSaid : Prop := wireLongUptoRow.holds Try.pinned (OpenSpec.upto wireLongSpec)

/-- 'mailbaglaw18.WireAnswers', WHERE WHAT IT READS IS OF BULK AT MOST 1048576: true; the input reads as it did. -/
def wireAnswersUptoRow : OpenClaim := { program := "ythpgpljpadlegaa", sum := "18aa3f16e930fc928c515baa811ce19e66deb2561101342192e56aa0455d9775", func := "mailbag/mailbaglaw18.WireAnswers", spec := "wireAnswers", unfollowed := true, recurses := true, apart := false, narrowed := true }
def WireAnswersUptoSaid : Prop := wireAnswersUptoRow.holds Try.pinned (OpenSpec.upto wireAnswersSpec)

/-- 'mailbaglaw18.WireFails', WHERE WHAT IT READS IS OF BULK AT MOST 1048576: true; the input reads as it did. -/
def wireFailsUptoRow : OpenClaim := { program := "ythpgpljpadlegaa", sum := "18aa3f16e930fc928c515baa811ce19e66deb2561101342192e56aa0455d9775", func := "mailbag/mailbaglaw18.WireFails", spec := "wireFails", unfollowed := true, recurses := true, apart := false, narrowed := true }
def WireFailsUptoSaid : Prop := wireFailsUptoRow.holds Try.pinned (OpenSpec.upto wireFailsSpec)

/-- 'mailbaglaw18.WireReads', WHERE WHAT IT READS IS OF BULK AT MOST 1048576: true; the input reads as it did. -/
def wireReadsUptoRow : OpenClaim := { program := "ythpgpljpadlegaa", sum := "18aa3f16e930fc928c515baa811ce19e66deb2561101342192e56aa0455d9775", func := "mailbag/mailbaglaw18.WireReads", spec := "wireReads", unfollowed := true, recurses := true, apart := false, narrowed := true }
def WireReadsUptoSaid : Prop := wireReadsUptoRow.holds Try.pinned (OpenSpec.upto wireReadsSpec)

end Rows
end Go.Proofs.Ythpgpljpadlegaa
