/-
  No cell of these rows narrows 'for every input' (looked for: loops, veiled, ifaces, maps, wideKeys, modest, calm, conditions, laid).
  DERIVED. THE GIVEN ROWS OF THIS SEAT. 7 by the template 'for every input the law returns true; each argument reads behind the call as it read before'; 0 by the template 'total and deterministic' (their statements: YtenfgjanbneaeaaTotals.lean).
  GIVEN WITH THE SEED: the statements are not yours to turn. If you find one false, say at which input.
  Laid BY PROGRAM, IN A SANDBOX (cutbox-rows.mjs): the forced cells as the released guide's own fill.sh prints them over the translation d9e63d67be724b4e… (all of the seat's roots in one cut). By AI agents, Wed Nov 11 2026. No macro, syntax, notation, axiom, sorry.
-/
import Derived.Test.YtenfgjanbneaeaaChecked
import GoSem.Claim
import GoSem.ClaimJoined
import GoSem.ClaimMapViews
import Derived.JoinedTies
import Derived.KernelRfl
namespace Go.Proofs.Ytenfgjanbneaeaa
/- THE CELL 'sum', in the pinned program and in every row, IS THE sha256 OF THE DUMP (.gsa) THAT YtenfgjanbneaeaaProg.lean LOADS. Nothing in Lean hashes anything: it is a label: what it is worth is what the hold of that sum in a sandbox is worth. -/
noncomputable def Try.pinned : Pinned := { name := "ytenfgjanbneaeaa", sum := "d9e63d67be724b4e98c22402ece4a2bc526e4570bdf9964a1aff4e63be448625", checked := Try.checked }
namespace Rows
def none {H : Type} : Left H := { results := [], args := [] }

/-- 'vinculumlaw05.FontFinds': WHATEVER THE INPUT: true; the input reads as it did. -/
def fontFindsSpec : ChangeSpec := { name := "fontFinds", fn := fun _ => fun
  | [d1, d2] => { results := [.lit (.bool true)], args := [d1, d2] }
  | _ => none }
def fontFindsRow : OpenClaim := { program := "ytenfgjanbneaeaa", sum := "d9e63d67be724b4e98c22402ece4a2bc526e4570bdf9964a1aff4e63be448625", func := "vinculum/vinculumlaw05.FontFinds", spec := "fontFinds", apart := false }
def FontFindsSaid : Prop := fontFindsRow.holds Try.pinned (OpenSpec.ofChange fontFindsSpec)

/-- ITS FALSE NEIGHBOUR: 'it returns false'. Refute it at one input. -/
def fontFindsWrong : ChangeSpec := { name := "fontFinds", fn := fun _ => fun
  | [d1, d2] => { results := [.lit (.bool false)], args := [d1, d2] }
  | _ => none }
def FontFindsWrongFalsely : Prop := fontFindsRow.holds Try.pinned (OpenSpec.ofChange fontFindsWrong)

/-- 'vinculumlaw05.FontValid': WHATEVER THE INPUT: true; the input reads as it did. -/
def fontValidSpec : ChangeSpec := { name := "fontValid", fn := fun _ => fun
  | [d] => { results := [.lit (.bool true)], args := [d] }
  | _ => none }
def fontValidRow : OpenClaim := { program := "ytenfgjanbneaeaa", sum := "d9e63d67be724b4e98c22402ece4a2bc526e4570bdf9964a1aff4e63be448625", func := "vinculum/vinculumlaw05.FontValid", spec := "fontValid", unfollowed := true, recurses := true, apart := false }
def FontValidSaid : Prop := fontValidRow.holds Try.pinned (OpenSpec.ofChange fontValidSpec)

/-- ITS FALSE NEIGHBOUR: 'it returns false'. Refute it at one input. -/
def fontValidWrong : ChangeSpec := { name := "fontValid", fn := fun _ => fun
  | [d] => { results := [.lit (.bool false)], args := [d] }
  | _ => none }
def FontValidWrongFalsely : Prop := fontValidRow.holds Try.pinned (OpenSpec.ofChange fontValidWrong)

/-- 'vinculumlaw05.FontSpoiled': WHATEVER THE INPUT: true; the input reads as it did. -/
def fontSpoiledSpec : ChangeSpec := { name := "fontSpoiled", fn := fun _ => fun
  | [d1, d2] => { results := [.lit (.bool true)], args := [d1, d2] }
  | _ => none }
def fontSpoiledRow : OpenClaim := { program := "ytenfgjanbneaeaa", sum := "d9e63d67be724b4e98c22402ece4a2bc526e4570bdf9964a1aff4e63be448625", func := "vinculum/vinculumlaw05.FontSpoiled", spec := "fontSpoiled", unfollowed := true, recurses := true, apart := false }
def FontSpoiledSaid : Prop := fontSpoiledRow.holds Try.pinned (OpenSpec.ofChange fontSpoiledSpec)

/-- ITS FALSE NEIGHBOUR: 'it returns false'. Refute it at one input. -/
def fontSpoiledWrong : ChangeSpec := { name := "fontSpoiled", fn := fun _ => fun
  | [d1, d2] => { results := [.lit (.bool false)], args := [d1, d2] }
  | _ => none }
def FontSpoiledWrongFalsely : Prop := fontSpoiledRow.holds Try.pinned (OpenSpec.ofChange fontSpoiledWrong)

/-- 'vinculumlaw05.FontBox': WHATEVER THE INPUT: true; the input reads as it did. -/
def fontBoxSpec : ChangeSpec := { name := "fontBox", fn := fun _ => fun
  | [d1, d2, d3] => { results := [.lit (.bool true)], args := [d1, d2, d3] }
  | _ => none }
def fontBoxRow : OpenClaim := { program := "ytenfgjanbneaeaa", sum := "d9e63d67be724b4e98c22402ece4a2bc526e4570bdf9964a1aff4e63be448625", func := "vinculum/vinculumlaw05.FontBox", spec := "fontBox", unfollowed := true, recurses := true, apart := false }
def FontBoxSaid : Prop := fontBoxRow.holds Try.pinned (OpenSpec.ofChange fontBoxSpec)

/-- ITS FALSE NEIGHBOUR: 'it returns false'. Refute it at one input. -/
def fontBoxWrong : ChangeSpec := { name := "fontBox", fn := fun _ => fun
  | [d1, d2, d3] => { results := [.lit (.bool false)], args := [d1, d2, d3] }
  | _ => none }
def FontBoxWrongFalsely : Prop := fontBoxRow.holds Try.pinned (OpenSpec.ofChange fontBoxWrong)

/-- 'vinculumlaw05.FontOrder': WHATEVER THE INPUT: true; the input reads as it did. -/
def fontOrderSpec : ChangeSpec := { name := "fontOrder", fn := fun _ => fun
  | [d1, d2] => { results := [.lit (.bool true)], args := [d1, d2] }
  | _ => none }
def fontOrderRow : OpenClaim := { program := "ytenfgjanbneaeaa", sum := "d9e63d67be724b4e98c22402ece4a2bc526e4570bdf9964a1aff4e63be448625", func := "vinculum/vinculumlaw05.FontOrder", spec := "fontOrder", unfollowed := true, recurses := true, apart := false }
def FontOrderSaid : Prop := fontOrderRow.holds Try.pinned (OpenSpec.ofChange fontOrderSpec)

/-- ITS FALSE NEIGHBOUR: 'it returns false'. Refute it at one input. -/
def fontOrderWrong : ChangeSpec := { name := "fontOrder", fn := fun _ => fun
  | [d1, d2] => { results := [.lit (.bool false)], args := [d1, d2] }
  | _ => none }
def FontOrderWrongFalsely : Prop := fontOrderRow.holds Try.pinned (OpenSpec.ofChange fontOrderWrong)

/-- 'vinculumlaw25.StylePercent': WHATEVER THE INPUT: true; the input reads as it did. -/
def stylePercentSpec : ChangeSpec := { name := "stylePercent", fn := fun _ => fun
  | [d1, d2] => { results := [.lit (.bool true)], args := [d1, d2] }
  | _ => none }
def stylePercentRow : OpenClaim := { program := "ytenfgjanbneaeaa", sum := "d9e63d67be724b4e98c22402ece4a2bc526e4570bdf9964a1aff4e63be448625", func := "vinculum/vinculumlaw25.StylePercent", spec := "stylePercent", unfollowed := true, recurses := true, apart := false }
def StylePercentSaid : Prop := stylePercentRow.holds Try.pinned (OpenSpec.ofChange stylePercentSpec)

/-- ITS FALSE NEIGHBOUR: 'it returns false'. Refute it at one input. -/
def stylePercentWrong : ChangeSpec := { name := "stylePercent", fn := fun _ => fun
  | [d1, d2] => { results := [.lit (.bool false)], args := [d1, d2] }
  | _ => none }
def StylePercentWrongFalsely : Prop := stylePercentRow.holds Try.pinned (OpenSpec.ofChange stylePercentWrong)

/-- 'vinculumlaw25.StyleSizes': WHATEVER THE INPUT: true; the input reads as it did. -/
def styleSizesSpec : ChangeSpec := { name := "styleSizes", fn := fun _ => fun
  | [d1, d2, d3] => { results := [.lit (.bool true)], args := [d1, d2, d3] }
  | _ => none }
def styleSizesRow : OpenClaim := { program := "ytenfgjanbneaeaa", sum := "d9e63d67be724b4e98c22402ece4a2bc526e4570bdf9964a1aff4e63be448625", func := "vinculum/vinculumlaw25.StyleSizes", spec := "styleSizes", unfollowed := true, recurses := true, apart := false }
def StyleSizesSaid : Prop := styleSizesRow.holds Try.pinned (OpenSpec.ofChange styleSizesSpec)

/-- ITS FALSE NEIGHBOUR: 'it returns false'. Refute it at one input. -/
def styleSizesWrong : ChangeSpec := { name := "styleSizes", fn := fun _ => fun
  | [d1, d2, d3] => { results := [.lit (.bool false)], args := [d1, d2, d3] }
  | _ => none }
def StyleSizesWrongFalsely : Prop := styleSizesRow.holds Try.pinned (OpenSpec.ofChange styleSizesWrong)

/- THE SECOND FORM. 'bulk': how many values and letters a reading holds, each counted each time it is reached (what is shared counts as often as it is met; a slice's spare places count too). A statement '..UptoSaid' is the law's where the arguments, and the package variables that the reading takes, are together of bulk at most 1048576: NARROWER than '..Said'. Prove '..Said' where nothing that the law and all that it calls make is longer than what came in: it says more and counts as full. Else prove '..UptoSaid'. A law counts once. -/
mutual
def uptoBulk {H : Type} : DataW H → Nat
  | .lit (.string bytes) => bytes.length + 1
  | .lit _ => 1
  | .nil => 1
  | .ptr d => uptoBulk d + 1
  | .slice elems spare => uptoBulkAll elems + uptoBulkAll spare + 1
  | .agg parts => uptoBulkAll parts + 1
  | .iface _ d => uptoBulk d + 1
  | .map entries => uptoBulkEntries entries + 1
  | .held _ => 1
def uptoBulkAll {H : Type} : List (DataW H) → Nat
  | [] => 0
  | d :: r => uptoBulk d + uptoBulkAll r
def uptoBulkEntries {H : Type} : List (Lit × DataW H) → Nat
  | [] => 0
  | x :: r => uptoBulkEntry x + uptoBulkEntries r
def uptoBulkEntry {H : Type} : Lit × DataW H → Nat
  | (.string bytes, d) => bytes.length + uptoBulk d + 1
  | (_, d) => uptoBulk d + 1
 end
def uptoSmall : (H : Type) → List (DataW H) → Bool := fun _ ds => decide (uptoBulkAll ds ≤ 1048576)
def OpenSpec.upto (s : _root_.Go.ChangeSpec) : _root_.Go.OpenSpec := { _root_.Go.OpenSpec.ofChange s with cond := some uptoSmall }

/-- 'vinculumlaw05.FontFinds', WHERE WHAT IT READS IS OF BULK AT MOST 1048576: true; the input reads as it did. -/
def fontFindsUptoRow : OpenClaim := { program := "ytenfgjanbneaeaa", sum := "d9e63d67be724b4e98c22402ece4a2bc526e4570bdf9964a1aff4e63be448625", func := "vinculum/vinculumlaw05.FontFinds", spec := "fontFinds", apart := false, narrowed := true }
def FontFindsUptoSaid : Prop := fontFindsUptoRow.holds Try.pinned (OpenSpec.upto fontFindsSpec)

/-- 'vinculumlaw05.FontValid', WHERE WHAT IT READS IS OF BULK AT MOST 1048576: true; the input reads as it did. -/
def fontValidUptoRow : OpenClaim := { program := "ytenfgjanbneaeaa", sum := "d9e63d67be724b4e98c22402ece4a2bc526e4570bdf9964a1aff4e63be448625", func := "vinculum/vinculumlaw05.FontValid", spec := "fontValid", unfollowed := true, recurses := true, apart := false, narrowed := true }
def FontValidUptoSaid : Prop := fontValidUptoRow.holds Try.pinned (OpenSpec.upto fontValidSpec)

/-- 'vinculumlaw05.FontSpoiled', WHERE WHAT IT READS IS OF BULK AT MOST 1048576: true; the input reads as it did. -/
def fontSpoiledUptoRow : OpenClaim := { program := "ytenfgjanbneaeaa", sum := "d9e63d67be724b4e98c22402ece4a2bc526e4570bdf9964a1aff4e63be448625", func := "vinculum/vinculumlaw05.FontSpoiled", spec := "fontSpoiled", unfollowed := true, recurses := true, apart := false, narrowed := true }
def FontSpoiledUptoSaid : Prop := fontSpoiledUptoRow.holds Try.pinned (OpenSpec.upto fontSpoiledSpec)

/-- 'vinculumlaw05.FontBox', WHERE WHAT IT READS IS OF BULK AT MOST 1048576: true; the input reads as it did. -/
def fontBoxUptoRow : OpenClaim := { program := "ytenfgjanbneaeaa", sum := "d9e63d67be724b4e98c22402ece4a2bc526e4570bdf9964a1aff4e63be448625", func := "vinculum/vinculumlaw05.FontBox", spec := "fontBox", unfollowed := true, recurses := true, apart := false, narrowed := true }
def FontBoxUptoSaid : Prop := fontBoxUptoRow.holds Try.pinned (OpenSpec.upto fontBoxSpec)

/-- 'vinculumlaw05.FontOrder', WHERE WHAT IT READS IS OF BULK AT MOST 1048576: true; the input reads as it did. -/
def fontOrderUptoRow : OpenClaim := { program := "ytenfgjanbneaeaa", sum := "d9e63d67be724b4e98c22402ece4a2bc526e4570bdf9964a1aff4e63be448625", func := "vinculum/vinculumlaw05.FontOrder", spec := "fontOrder", unfollowed := true, recurses := true, apart := false, narrowed := true }
def FontOrderUptoSaid : Prop := fontOrderUptoRow.holds Try.pinned (OpenSpec.upto fontOrderSpec)

/-- 'vinculumlaw25.StylePercent', WHERE WHAT IT READS IS OF BULK AT MOST 1048576: true; the input reads as it did. -/
def stylePercentUptoRow : OpenClaim := { program := "ytenfgjanbneaeaa", sum := "d9e63d67be724b4e98c22402ece4a2bc526e4570bdf9964a1aff4e63be448625", func := "vinculum/vinculumlaw25.StylePercent", spec := "stylePercent", unfollowed := true, recurses := true, apart := false, narrowed := true }
def StylePercentUptoSaid : Prop := stylePercentUptoRow.holds Try.pinned (OpenSpec.upto stylePercentSpec)

/-- 'vinculumlaw25.StyleSizes', WHERE WHAT IT READS IS OF BULK AT MOST 1048576: true; the input reads as it did. -/
def styleSizesUptoRow : OpenClaim := { program := "ytenfgjanbneaeaa", sum := "d9e63d67be724b4e98c22402ece4a2bc526e4570bdf9964a1aff4e63be448625", func := "vinculum/vinculumlaw25.StyleSizes", spec := "styleSizes", unfollowed := true, recurses := true, apart := false, narrowed := true }
def StyleSizesUptoSaid : Prop := styleSizesUptoRow.holds Try.pinned (OpenSpec.upto styleSizesSpec)

end Rows
end Go.Proofs.Ytenfgjanbneaeaa
