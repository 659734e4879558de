/-
  No cell of these rows narrows 'for every input' (looked for: loops, veiled, ifaces, maps, wideKeys, modest, calm, conditions, laid).
  DERIVED. THE GIVEN ROWS OF THIS SEAT. 6 by the template 'for every input the law returns true; each argument reads behind the call as it read before'; 0 by the template 'total and deterministic' (their statements: YtaddpgjanbjcaaaTotals.lean).
  GIVEN WITH THE SEED: the statements are not yours to turn. If you find one false, say at which input.
  Laid BY PROGRAM, IN A SANDBOX (cutbox-rows.mjs): the forced cells as the released guide's own fill.sh prints them over the translation 0b23e726c0861153… (all of the seat's roots in one cut). By AI agents, Wed Nov 11 2026. No macro, syntax, notation, axiom, sorry.
-/
import Derived.Test.YtaddpgjanbjcaaaChecked
import GoSem.Claim
import GoSem.ClaimJoined
import GoSem.ClaimMapViews
import Derived.JoinedTies
import Derived.KernelRfl
namespace Go.Proofs.Ytaddpgjanbjcaaa
/- THE CELL 'sum', in the pinned program and in every row, IS THE sha256 OF THE DUMP (.gsa) THAT YtaddpgjanbjcaaaProg.lean LOADS. Nothing in Lean hashes anything: it is a label: what it is worth is what the hold of that sum in a sandbox is worth. -/
noncomputable def Try.pinned : Pinned := { name := "ytaddpgjanbjcaaa", sum := "0b23e726c0861153c1bafea1aba1527a1c2be293fd7f32dd461a428f71258c17", checked := Try.checked }
namespace Rows
def none {H : Type} : Left H := { results := [], args := [] }

/-- 'bloomerylaw27.DirtyNext': WHATEVER THE INPUT: true; the input reads as it did. -/
def dirtyNextSpec : ChangeSpec := { name := "dirtyNext", fn := fun _ => fun
  | [d1, d2, d3] => { results := [.lit (.bool true)], args := [d1, d2, d3] }
  | _ => none }
def dirtyNextRow : OpenClaim := { program := "ytaddpgjanbjcaaa", sum := "0b23e726c0861153c1bafea1aba1527a1c2be293fd7f32dd461a428f71258c17", func := "bloomery/bloomerylaw27.DirtyNext", spec := "dirtyNext", unfollowed := true, recurses := true, apart := false }
def DirtyNextSaid : Prop := dirtyNextRow.holds Try.pinned (OpenSpec.ofChange dirtyNextSpec)

/-- ITS FALSE NEIGHBOUR: 'it returns false'. Refute it at one input. -/
def dirtyNextWrong : ChangeSpec := { name := "dirtyNext", fn := fun _ => fun
  | [d1, d2, d3] => { results := [.lit (.bool false)], args := [d1, d2, d3] }
  | _ => none }
def DirtyNextWrongFalsely : Prop := dirtyNextRow.holds Try.pinned (OpenSpec.ofChange dirtyNextWrong)

/-- 'bloomerylaw27.DirtyAsks': WHATEVER THE INPUT: true; the input reads as it did. -/
def dirtyAsksSpec : ChangeSpec := { name := "dirtyAsks", fn := fun _ => fun
  | [d1, d2, d3] => { results := [.lit (.bool true)], args := [d1, d2, d3] }
  | _ => none }
def dirtyAsksRow : OpenClaim := { program := "ytaddpgjanbjcaaa", sum := "0b23e726c0861153c1bafea1aba1527a1c2be293fd7f32dd461a428f71258c17", func := "bloomery/bloomerylaw27.DirtyAsks", spec := "dirtyAsks", unfollowed := true, recurses := true, apart := false }
def DirtyAsksSaid : Prop := dirtyAsksRow.holds Try.pinned (OpenSpec.ofChange dirtyAsksSpec)

/-- ITS FALSE NEIGHBOUR: 'it returns false'. Refute it at one input. -/
def dirtyAsksWrong : ChangeSpec := { name := "dirtyAsks", fn := fun _ => fun
  | [d1, d2, d3] => { results := [.lit (.bool false)], args := [d1, d2, d3] }
  | _ => none }
def DirtyAsksWrongFalsely : Prop := dirtyAsksRow.holds Try.pinned (OpenSpec.ofChange dirtyAsksWrong)

/-- 'bloomerylaw27.DirtyMore': WHATEVER THE INPUT: true; the input reads as it did. -/
def dirtyMoreSpec : ChangeSpec := { name := "dirtyMore", fn := fun _ => fun
  | [d1, d2, d3, d4] => { results := [.lit (.bool true)], args := [d1, d2, d3, d4] }
  | _ => none }
def dirtyMoreRow : OpenClaim := { program := "ytaddpgjanbjcaaa", sum := "0b23e726c0861153c1bafea1aba1527a1c2be293fd7f32dd461a428f71258c17", func := "bloomery/bloomerylaw27.DirtyMore", spec := "dirtyMore", unfollowed := true, recurses := true, apart := false }
def DirtyMoreSaid : Prop := dirtyMoreRow.holds Try.pinned (OpenSpec.ofChange dirtyMoreSpec)

/-- ITS FALSE NEIGHBOUR: 'it returns false'. Refute it at one input. -/
def dirtyMoreWrong : ChangeSpec := { name := "dirtyMore", fn := fun _ => fun
  | [d1, d2, d3, d4] => { results := [.lit (.bool false)], args := [d1, d2, d3, d4] }
  | _ => none }
def DirtyMoreWrongFalsely : Prop := dirtyMoreRow.holds Try.pinned (OpenSpec.ofChange dirtyMoreWrong)

/-- 'bloomerylaw27.DirtyCone': WHATEVER THE INPUT: true; the input reads as it did. -/
def dirtyConeSpec : ChangeSpec := { name := "dirtyCone", fn := fun _ => fun
  | [d1, d2, d3] => { results := [.lit (.bool true)], args := [d1, d2, d3] }
  | _ => none }
def dirtyConeRow : OpenClaim := { program := "ytaddpgjanbjcaaa", sum := "0b23e726c0861153c1bafea1aba1527a1c2be293fd7f32dd461a428f71258c17", func := "bloomery/bloomerylaw27.DirtyCone", spec := "dirtyCone", unfollowed := true, recurses := true, apart := false }
def DirtyConeSaid : Prop := dirtyConeRow.holds Try.pinned (OpenSpec.ofChange dirtyConeSpec)

/-- ITS FALSE NEIGHBOUR: 'it returns false'. Refute it at one input. -/
def dirtyConeWrong : ChangeSpec := { name := "dirtyCone", fn := fun _ => fun
  | [d1, d2, d3] => { results := [.lit (.bool false)], args := [d1, d2, d3] }
  | _ => none }
def DirtyConeWrongFalsely : Prop := dirtyConeRow.holds Try.pinned (OpenSpec.ofChange dirtyConeWrong)

/-- 'bloomerylaw27.DirtyOutside': WHATEVER THE INPUT: true; the input reads as it did. -/
def dirtyOutsideSpec : ChangeSpec := { name := "dirtyOutside", fn := fun _ => fun
  | [d1, d2, d3, d4] => { results := [.lit (.bool true)], args := [d1, d2, d3, d4] }
  | _ => none }
def dirtyOutsideRow : OpenClaim := { program := "ytaddpgjanbjcaaa", sum := "0b23e726c0861153c1bafea1aba1527a1c2be293fd7f32dd461a428f71258c17", func := "bloomery/bloomerylaw27.DirtyOutside", spec := "dirtyOutside", unfollowed := true, recurses := true, apart := false }
def DirtyOutsideSaid : Prop := dirtyOutsideRow.holds Try.pinned (OpenSpec.ofChange dirtyOutsideSpec)

/-- ITS FALSE NEIGHBOUR: 'it returns false'. Refute it at one input. -/
def dirtyOutsideWrong : ChangeSpec := { name := "dirtyOutside", fn := fun _ => fun
  | [d1, d2, d3, d4] => { results := [.lit (.bool false)], args := [d1, d2, d3, d4] }
  | _ => none }
def DirtyOutsideWrongFalsely : Prop := dirtyOutsideRow.holds Try.pinned (OpenSpec.ofChange dirtyOutsideWrong)

/-- 'bloomerylaw27.DirtySums': WHATEVER THE INPUT: true; the input reads as it did. -/
def dirtySumsSpec : ChangeSpec := { name := "dirtySums", fn := fun _ => fun
  | [d1, d2] => { results := [.lit (.bool true)], args := [d1, d2] }
  | _ => none }
def dirtySumsRow : OpenClaim := { program := "ytaddpgjanbjcaaa", sum := "0b23e726c0861153c1bafea1aba1527a1c2be293fd7f32dd461a428f71258c17", func := "bloomery/bloomerylaw27.DirtySums", spec := "dirtySums", unfollowed := true, recurses := true, apart := false }
def DirtySumsSaid : Prop := dirtySumsRow.holds Try.pinned (OpenSpec.ofChange dirtySumsSpec)

/-- ITS FALSE NEIGHBOUR: 'it returns false'. Refute it at one input. -/
def dirtySumsWrong : ChangeSpec := { name := "dirtySums", fn := fun _ => fun
  | [d1, d2] => { results := [.lit (.bool false)], args := [d1, d2] }
  | _ => none }
def DirtySumsWrongFalsely : Prop := dirtySumsRow.holds Try.pinned (OpenSpec.ofChange dirtySumsWrong)

/- THE SECOND FORM. 'bulk': how many values and letters a reading holds, each counted each time it is reached (what is shared counts as often as it is met; a slice's spare places count too). A statement '..UptoSaid' is the law's where the arguments, and the package variables that the reading takes, are together of bulk at most 1048576: NARROWER than '..Said'. Prove '..Said' where nothing that the law and all that it calls make is longer than what came in: it says more and counts as full. Else prove '..UptoSaid'. A law counts once. -/
mutual
def uptoBulk {H : Type} : DataW H → Nat
  | .lit (.string bytes) => bytes.length + 1
  | .lit _ => 1
  | .nil => 1
  | .ptr d => uptoBulk d + 1
  | .slice elems spare => uptoBulkAll elems + uptoBulkAll spare + 1
  | .agg parts => uptoBulkAll parts + 1
  | .iface _ d => uptoBulk d + 1
  | .map entries => uptoBulkEntries entries + 1
  | .held _ => 1
def uptoBulkAll {H : Type} : List (DataW H) → Nat
  | [] => 0
  | d :: r => uptoBulk d + uptoBulkAll r
def uptoBulkEntries {H : Type} : List (Lit × DataW H) → Nat
  | [] => 0
  | x :: r => uptoBulkEntry x + uptoBulkEntries r
def uptoBulkEntry {H : Type} : Lit × DataW H → Nat
  | (.string bytes, d) => bytes.length + uptoBulk d + 1
  | (_, d) => uptoBulk d + 1
 end
def uptoSmall : (H : Type) → List (DataW H) → Bool := fun _ ds => decide (uptoBulkAll ds ≤ 1048576)
def OpenSpec.upto (s : _root_.Go.ChangeSpec) : _root_.Go.OpenSpec := { _root_.Go.OpenSpec.ofChange s with cond := some uptoSmall }

/-- 'bloomerylaw27.DirtyNext', WHERE WHAT IT READS IS OF BULK AT MOST 1048576: true; the input reads as it did. -/
def dirtyNextUptoRow : OpenClaim := { program := "ytaddpgjanbjcaaa", sum := "0b23e726c0861153c1bafea1aba1527a1c2be293fd7f32dd461a428f71258c17", func := "bloomery/bloomerylaw27.DirtyNext", spec := "dirtyNext", unfollowed := true, recurses := true, apart := false, narrowed := true }
def DirtyNextUptoSaid : Prop := dirtyNextUptoRow.holds Try.pinned (OpenSpec.upto dirtyNextSpec)

/-- 'bloomerylaw27.DirtyAsks', WHERE WHAT IT READS IS OF BULK AT MOST 1048576: true; the input reads as it did. -/
def dirtyAsksUptoRow : OpenClaim := { program := "ytaddpgjanbjcaaa", sum := "0b23e726c0861153c1bafea1aba1527a1c2be293fd7f32dd461a428f71258c17", func := "bloomery/bloomerylaw27.DirtyAsks", spec := "dirtyAsks", unfollowed := true, recurses := true, apart := false, narrowed := true }
def DirtyAsksUptoSaid : Prop := dirtyAsksUptoRow.holds Try.pinned (OpenSpec.upto dirtyAsksSpec)

/-- 'bloomerylaw27.DirtyMore', WHERE WHAT IT READS IS OF BULK AT MOST 1048576: true; the input reads as it did. -/
def dirtyMoreUptoRow : OpenClaim := { program := "ytaddpgjanbjcaaa", sum := "0b23e726c0861153c1bafea1aba1527a1c2be293fd7f32dd461a428f71258c17", func := "bloomery/bloomerylaw27.DirtyMore", spec := "dirtyMore", unfollowed := true, recurses := true, apart := false, narrowed := true }
def DirtyMoreUptoSaid : Prop := dirtyMoreUptoRow.holds Try.pinned (OpenSpec.upto dirtyMoreSpec)

/-- 'bloomerylaw27.DirtyCone', WHERE WHAT IT READS IS OF BULK AT MOST 1048576: true; the input reads as it did. -/
def dirtyConeUptoRow : OpenClaim := { program := "ytaddpgjanbjcaaa", sum := "0b23e726c0861153c1bafea1aba1527a1c2be293fd7f32dd461a428f71258c17", func := "bloomery/bloomerylaw27.DirtyCone", spec := "dirtyCone", unfollowed := true, recurses := true, apart := false, narrowed := true }
def DirtyConeUptoSaid : Prop := dirtyConeUptoRow.holds Try.pinned (OpenSpec.upto dirtyConeSpec)

/-- 'bloomerylaw27.DirtyOutside', WHERE WHAT IT READS IS OF BULK AT MOST 1048576: true; the input reads as it did. -/
def dirtyOutsideUptoRow : OpenClaim := { program := "ytaddpgjanbjcaaa", sum := "0b23e726c0861153c1bafea1aba1527a1c2be293fd7f32dd461a428f71258c17", func := "bloomery/bloomerylaw27.DirtyOutside", spec := "dirtyOutside", unfollowed := true, recurses := true, apart := false, narrowed := true }
def DirtyOutsideUptoSaid : Prop := dirtyOutsideUptoRow.holds Try.pinned (OpenSpec.upto dirtyOutsideSpec)

/-- 'bloomerylaw27.DirtySums', WHERE WHAT IT READS IS OF BULK AT MOST 1048576: true; the input reads as it did. -/
def dirtySumsUptoRow : OpenClaim := { program := "ytaddpgjanbjcaaa", sum := "0b23e726c0861153c1bafea1aba1527a1c2be293fd7f32dd461a428f71258c17", func := "bloomery/bloomerylaw27.DirtySums", spec := "dirtySums", unfollowed := true, recurses := true, apart := false, narrowed := true }
def DirtySumsUptoSaid : Prop := dirtySumsUptoRow.holds Try.pinned (OpenSpec.upto dirtySumsSpec)

end Rows
end Go.Proofs.Ytaddpgjanbjcaaa
