/-
  No cell of these rows narrows 'for every input' (looked for: loops, veiled, ifaces, maps, wideKeys, modest, calm, conditions, laid).
  DERIVED. THE GIVEN ROWS OF THIS SEAT. 4 by the template 'for every input the law returns true; each argument reads behind the call as it read before'; 0 by the template 'total and deterministic' (their statements: YtkpllkjionegeaaTotals.lean).
  GIVEN WITH THE SEED: the statements are not yours to turn. If you find one false, say at which input.
  Laid BY PROGRAM, IN A SANDBOX (cutbox-rows.mjs): the forced cells as the released guide's own fill.sh prints them over the translation 385cc26512db4a1e… (all of the seat's roots in one cut). By AI agents, Wed Nov 11 2026. No macro, syntax, notation, axiom, sorry.
-/
import Derived.Test.YtkpllkjionegeaaChecked
import GoSem.Claim
import GoSem.ClaimJoined
import GoSem.ClaimMapViews
import Derived.JoinedTies
import Derived.KernelRfl
namespace Go.Proofs.Ytkpllkjionegeaa
/- THE CELL 'sum', in the pinned program and in every row, IS THE sha256 OF THE DUMP (.gsa) THAT YtkpllkjionegeaaProg.lean LOADS. Nothing in Lean hashes anything: it is a label: what it is worth is what the hold of that sum in a sandbox is worth. -/
noncomputable def Try.pinned : Pinned := { name := "ytkpllkjionegeaa", sum := "385cc26512db4a1e3d41caba8d7be6b670fce713c4af662219f59ff837d08b18", checked := Try.checked }
namespace Rows
def none {H : Type} : Left H := { results := [], args := [] }

/-- 'sacristytop.WholeRotated': WHATEVER THE INPUT: true; the input reads as it did. -/
def wholeRotatedSpec : ChangeSpec := { name := "wholeRotated", fn := fun _ => fun
  | [d1, d2, d3, d4, d5] => { results := [.lit (.bool true)], args := [d1, d2, d3, d4, d5] }
  | _ => none }
def wholeRotatedRow : OpenClaim := { program := "ytkpllkjionegeaa", sum := "385cc26512db4a1e3d41caba8d7be6b670fce713c4af662219f59ff837d08b18", func := "sacristy/sacristytop.WholeRotated", spec := "wholeRotated", unfollowed := true, recurses := true, apart := false }
def WholeRotatedSaid : Prop := wholeRotatedRow.holds Try.pinned (OpenSpec.ofChange wholeRotatedSpec)

/-- ITS FALSE NEIGHBOUR: 'it returns false'. Refute it at one input. -/
def wholeRotatedWrong : ChangeSpec := { name := "wholeRotated", fn := fun _ => fun
  | [d1, d2, d3, d4, d5] => { results := [.lit (.bool false)], args := [d1, d2, d3, d4, d5] }
  | _ => none }
def WholeRotatedWrongFalsely : Prop := wholeRotatedRow.holds Try.pinned (OpenSpec.ofChange wholeRotatedWrong)

/-- 'sacristytop.WholeHeard': WHATEVER THE INPUT: true; the input reads as it did. -/
def wholeHeardSpec : ChangeSpec := { name := "wholeHeard", fn := fun _ => fun
  | [d1, d2, d3, d4, d5] => { results := [.lit (.bool true)], args := [d1, d2, d3, d4, d5] }
  | _ => none }
def wholeHeardRow : OpenClaim := { program := "ytkpllkjionegeaa", sum := "385cc26512db4a1e3d41caba8d7be6b670fce713c4af662219f59ff837d08b18", func := "sacristy/sacristytop.WholeHeard", spec := "wholeHeard", unfollowed := true, recurses := true, apart := false }
def WholeHeardSaid : Prop := wholeHeardRow.holds Try.pinned (OpenSpec.ofChange wholeHeardSpec)

/-- ITS FALSE NEIGHBOUR: 'it returns false'. Refute it at one input. -/
def wholeHeardWrong : ChangeSpec := { name := "wholeHeard", fn := fun _ => fun
  | [d1, d2, d3, d4, d5] => { results := [.lit (.bool false)], args := [d1, d2, d3, d4, d5] }
  | _ => none }
def WholeHeardWrongFalsely : Prop := wholeHeardRow.holds Try.pinned (OpenSpec.ofChange wholeHeardWrong)

/-- 'sacristytop.WholeValued': WHATEVER THE INPUT: true; the input reads as it did. -/
def wholeValuedSpec : ChangeSpec := { name := "wholeValued", fn := fun _ => fun
  | [d1, d2, d3] => { results := [.lit (.bool true)], args := [d1, d2, d3] }
  | _ => none }
def wholeValuedRow : OpenClaim := { program := "ytkpllkjionegeaa", sum := "385cc26512db4a1e3d41caba8d7be6b670fce713c4af662219f59ff837d08b18", func := "sacristy/sacristytop.WholeValued", spec := "wholeValued", unfollowed := true, recurses := true, apart := false }
def WholeValuedSaid : Prop := wholeValuedRow.holds Try.pinned (OpenSpec.ofChange wholeValuedSpec)

/-- ITS FALSE NEIGHBOUR: 'it returns false'. Refute it at one input. -/
def wholeValuedWrong : ChangeSpec := { name := "wholeValued", fn := fun _ => fun
  | [d1, d2, d3] => { results := [.lit (.bool false)], args := [d1, d2, d3] }
  | _ => none }
def WholeValuedWrongFalsely : Prop := wholeValuedRow.holds Try.pinned (OpenSpec.ofChange wholeValuedWrong)

/-- 'sacristytop.WholeUnheard': WHATEVER THE INPUT: true; the input reads as it did. -/
def wholeUnheardSpec : ChangeSpec := { name := "wholeUnheard", fn := fun _ => fun
  | [d1, d2, d3] => { results := [.lit (.bool true)], args := [d1, d2, d3] }
  | _ => none }
def wholeUnheardRow : OpenClaim := { program := "ytkpllkjionegeaa", sum := "385cc26512db4a1e3d41caba8d7be6b670fce713c4af662219f59ff837d08b18", func := "sacristy/sacristytop.WholeUnheard", spec := "wholeUnheard", unfollowed := true, recurses := true, apart := false }
def WholeUnheardSaid : Prop := wholeUnheardRow.holds Try.pinned (OpenSpec.ofChange wholeUnheardSpec)

/-- ITS FALSE NEIGHBOUR: 'it returns false'. Refute it at one input. -/
def wholeUnheardWrong : ChangeSpec := { name := "wholeUnheard", fn := fun _ => fun
  | [d1, d2, d3] => { results := [.lit (.bool false)], args := [d1, d2, d3] }
  | _ => none }
def WholeUnheardWrongFalsely : Prop := wholeUnheardRow.holds Try.pinned (OpenSpec.ofChange wholeUnheardWrong)

/- THE SECOND FORM. 'bulk': how many values and letters a reading holds, each counted each time it is reached (what is shared counts as often as it is met; a slice's spare places count too). A statement '..UptoSaid' is the law's where the arguments, and the package variables that the reading takes, are together of bulk at most 1048576: NARROWER than '..Said'. Prove '..Said' where nothing that the law and all that it calls make is longer than what came in: it says more and counts as full. Else prove '..UptoSaid'. A law counts once. -/
mutual
def uptoBulk {H : Type} : DataW H → Nat
  | .lit (.string bytes) => bytes.length + 1
  | .lit _ => 1
  | .nil => 1
  | .ptr d => uptoBulk d + 1
  | .slice elems spare => uptoBulkAll elems + uptoBulkAll spare + 1
  | .agg parts => uptoBulkAll parts + 1
  | .iface _ d => uptoBulk d + 1
  | .map entries => uptoBulkEntries entries + 1
  | .held _ => 1
def uptoBulkAll {H : Type} : List (DataW H) → Nat
  | [] => 0
  | d :: r => uptoBulk d + uptoBulkAll r
def uptoBulkEntries {H : Type} : List (Lit × DataW H) → Nat
  | [] => 0
  | x :: r => uptoBulkEntry x + uptoBulkEntries r
def uptoBulkEntry {H : Type} : Lit × DataW H → Nat
  | (.string bytes, d) => bytes.length + uptoBulk d + 1
  | (_, d) => uptoBulk d + 1
 end
def uptoSmall : (H : Type) → List (DataW H) → Bool := fun _ ds => decide (uptoBulkAll ds ≤ 1048576)
def OpenSpec.upto (s : _root_.Go.ChangeSpec) : _root_.Go.OpenSpec := { _root_.Go.OpenSpec.ofChange s with cond := some uptoSmall }

/-- 'sacristytop.WholeRotated', WHERE WHAT IT READS IS OF BULK AT MOST 1048576: true; the input reads as it did. -/
def wholeRotatedUptoRow : OpenClaim := { program := "ytkpllkjionegeaa", sum := "385cc26512db4a1e3d41caba8d7be6b670fce713c4af662219f59ff837d08b18", func := "sacristy/sacristytop.WholeRotated", spec := "wholeRotated", unfollowed := true, recurses := true, apart := false, narrowed := true }
def WholeRotatedUptoSaid : Prop := wholeRotatedUptoRow.holds Try.pinned (OpenSpec.upto wholeRotatedSpec)

/-- 'sacristytop.WholeHeard', WHERE WHAT IT READS IS OF BULK AT MOST 1048576: true; the input reads as it did. -/
def wholeHeardUptoRow : OpenClaim := { program := "ytkpllkjionegeaa", sum := "385cc26512db4a1e3d41caba8d7be6b670fce713c4af662219f59ff837d08b18", func := "sacristy/sacristytop.WholeHeard", spec := "wholeHeard", unfollowed := true, recurses := true, apart := false, narrowed := true }
def WholeHeardUptoSaid : Prop := wholeHeardUptoRow.holds Try.pinned (OpenSpec.upto wholeHeardSpec)

/-- 'sacristytop.WholeValued', WHERE WHAT IT READS IS OF BULK AT MOST 1048576: true; the input reads as it did. -/
def wholeValuedUptoRow : OpenClaim := { program := "ytkpllkjionegeaa", sum := "385cc26512db4a1e3d41caba8d7be6b670fce713c4af662219f59ff837d08b18", func := "sacristy/sacristytop.WholeValued", spec := "wholeValued", unfollowed := true, recurses := true, apart := false, narrowed := true }
def WholeValuedUptoSaid : Prop := wholeValuedUptoRow.holds Try.pinned (OpenSpec.upto wholeValuedSpec)

/-- 'sacristytop.WholeUnheard', WHERE WHAT IT READS IS OF BULK AT MOST 1048576: true; the input reads as it did. -/
def wholeUnheardUptoRow : OpenClaim := { program := "ytkpllkjionegeaa", sum := "385cc26512db4a1e3d41caba8d7be6b670fce713c4af662219f59ff837d08b18", func := "sacristy/sacristytop.WholeUnheard", spec := "wholeUnheard", unfollowed := true, recurses := true, apart := false, narrowed := true }
def WholeUnheardUptoSaid : Prop := wholeUnheardUptoRow.holds Try.pinned (OpenSpec.upto wholeUnheardSpec)

end Rows
end Go.Proofs.Ytkpllkjionegeaa
