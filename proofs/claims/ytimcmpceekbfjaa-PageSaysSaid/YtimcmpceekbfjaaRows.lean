/-
  No cell of these rows narrows 'for every input' (looked for: loops, veiled, ifaces, maps, wideKeys, modest, calm, conditions, laid).
  DERIVED. THE GIVEN ROWS OF THIS SEAT. 5 by the template 'for every input the law returns true; each argument reads behind the call as it read before'; 0 by the template 'total and deterministic' (their statements: YtimcmpceekbfjaaTotals.lean).
  GIVEN WITH THE SEED: the statements are not yours to turn. If you find one false, say at which input.
  Laid BY PROGRAM, IN A SANDBOX (cutbox-rows.mjs): the forced cells as the released guide's own fill.sh prints them over the translation eb4ffdf6aee93e53… (all of the seat's roots in one cut). By AI agents, Wed Nov 11 2026. No macro, syntax, notation, axiom, sorry.
-/
import Derived.Test.YtimcmpceekbfjaaChecked
import GoSem.Claim
import GoSem.ClaimJoined
import GoSem.ClaimMapViews
import Derived.JoinedTies
import Derived.KernelRfl
namespace Go.Proofs.Ytimcmpceekbfjaa
/- THE CELL 'sum', in the pinned program and in every row, IS THE sha256 OF THE DUMP (.gsa) THAT YtimcmpceekbfjaaProg.lean LOADS. Nothing in Lean hashes anything: it is a label: what it is worth is what the hold of that sum in a sandbox is worth. -/
noncomputable def Try.pinned : Pinned := { name := "ytimcmpceekbfjaa", sum := "eb4ffdf6aee93e53425afca26829710758e15ec66540c647976f8dfdadf6f30a", checked := Try.checked }
namespace Rows
def none {H : Type} : Left H := { results := [], args := [] }

/-- 'ceefaxlaw12.PageMerges': WHATEVER THE INPUT: true; the input reads as it did. -/
def pageMergesSpec : ChangeSpec := { name := "pageMerges", fn := fun _ => fun
  | [d1, d2, d3] => { results := [.lit (.bool true)], args := [d1, d2, d3] }
  | _ => none }
def pageMergesRow : OpenClaim := { program := "ytimcmpceekbfjaa", sum := "eb4ffdf6aee93e53425afca26829710758e15ec66540c647976f8dfdadf6f30a", func := "ceefax/ceefaxlaw12.PageMerges", spec := "pageMerges", apart := false }
def PageMergesSaid : Prop := pageMergesRow.holds Try.pinned (OpenSpec.ofChange pageMergesSpec)

/-- ITS FALSE NEIGHBOUR: 'it returns false'. Refute it at one input. -/
def pageMergesWrong : ChangeSpec := { name := "pageMerges", fn := fun _ => fun
  | [d1, d2, d3] => { results := [.lit (.bool false)], args := [d1, d2, d3] }
  | _ => none }
def PageMergesWrongFalsely : Prop := pageMergesRow.holds Try.pinned (OpenSpec.ofChange pageMergesWrong)

/-- 'ceefaxlaw12.PageExtras': WHATEVER THE INPUT: true; the input reads as it did. -/
def pageExtrasSpec : ChangeSpec := { name := "pageExtras", fn := fun _ => fun
  | [d] => { results := [.lit (.bool true)], args := [d] }
  | _ => none }
def pageExtrasRow : OpenClaim := { program := "ytimcmpceekbfjaa", sum := "eb4ffdf6aee93e53425afca26829710758e15ec66540c647976f8dfdadf6f30a", func := "ceefax/ceefaxlaw12.PageExtras", spec := "pageExtras", apart := false }
def PageExtrasSaid : Prop := pageExtrasRow.holds Try.pinned (OpenSpec.ofChange pageExtrasSpec)

/-- ITS FALSE NEIGHBOUR: 'it returns false'. Refute it at one input. -/
def pageExtrasWrong : ChangeSpec := { name := "pageExtras", fn := fun _ => fun
  | [d] => { results := [.lit (.bool false)], args := [d] }
  | _ => none }
def PageExtrasWrongFalsely : Prop := pageExtrasRow.holds Try.pinned (OpenSpec.ofChange pageExtrasWrong)

/-- 'ceefaxlaw12.PageKeeps': WHATEVER THE INPUT: true; the input reads as it did. -/
def pageKeepsSpec : ChangeSpec := { name := "pageKeeps", fn := fun _ => fun
  | [d1, d2, d3] => { results := [.lit (.bool true)], args := [d1, d2, d3] }
  | _ => none }
def pageKeepsRow : OpenClaim := { program := "ytimcmpceekbfjaa", sum := "eb4ffdf6aee93e53425afca26829710758e15ec66540c647976f8dfdadf6f30a", func := "ceefax/ceefaxlaw12.PageKeeps", spec := "pageKeeps", apart := false }
def PageKeepsSaid : Prop := pageKeepsRow.holds Try.pinned (OpenSpec.ofChange pageKeepsSpec)

/-- ITS FALSE NEIGHBOUR: 'it returns false'. Refute it at one input. -/
def pageKeepsWrong : ChangeSpec := { name := "pageKeeps", fn := fun _ => fun
  | [d1, d2, d3] => { results := [.lit (.bool false)], args := [d1, d2, d3] }
  | _ => none }
def PageKeepsWrongFalsely : Prop := pageKeepsRow.holds Try.pinned (OpenSpec.ofChange pageKeepsWrong)

/-- 'ceefaxlaw12.PageErases': WHATEVER THE INPUT: true; the input reads as it did. -/
def pageErasesSpec : ChangeSpec := { name := "pageErases", fn := fun _ => fun
  | [d1, d2, d3] => { results := [.lit (.bool true)], args := [d1, d2, d3] }
  | _ => none }
def pageErasesRow : OpenClaim := { program := "ytimcmpceekbfjaa", sum := "eb4ffdf6aee93e53425afca26829710758e15ec66540c647976f8dfdadf6f30a", func := "ceefax/ceefaxlaw12.PageErases", spec := "pageErases", apart := false }
def PageErasesSaid : Prop := pageErasesRow.holds Try.pinned (OpenSpec.ofChange pageErasesSpec)

/-- ITS FALSE NEIGHBOUR: 'it returns false'. Refute it at one input. -/
def pageErasesWrong : ChangeSpec := { name := "pageErases", fn := fun _ => fun
  | [d1, d2, d3] => { results := [.lit (.bool false)], args := [d1, d2, d3] }
  | _ => none }
def PageErasesWrongFalsely : Prop := pageErasesRow.holds Try.pinned (OpenSpec.ofChange pageErasesWrong)

/-- 'ceefaxlaw12.PageSays': WHATEVER THE INPUT: true; the input reads as it did. -/
def pageSaysSpec : ChangeSpec := { name := "pageSays", fn := fun _ => fun
  | [d1, d2, d3, d4, d5, d6, d7, d8] => { results := [.lit (.bool true)], args := [d1, d2, d3, d4, d5, d6, d7, d8] }
  | _ => none }
def pageSaysRow : OpenClaim := { program := "ytimcmpceekbfjaa", sum := "eb4ffdf6aee93e53425afca26829710758e15ec66540c647976f8dfdadf6f30a", func := "ceefax/ceefaxlaw12.PageSays", spec := "pageSays", apart := false }
def PageSaysSaid : Prop := pageSaysRow.holds Try.pinned (OpenSpec.ofChange pageSaysSpec)

/-- ITS FALSE NEIGHBOUR: 'it returns false'. Refute it at one input. -/
def pageSaysWrong : ChangeSpec := { name := "pageSays", fn := fun _ => fun
  | [d1, d2, d3, d4, d5, d6, d7, d8] => { results := [.lit (.bool false)], args := [d1, d2, d3, d4, d5, d6, d7, d8] }
  | _ => none }
def PageSaysWrongFalsely : Prop := pageSaysRow.holds Try.pinned (OpenSpec.ofChange pageSaysWrong)

/- THE SECOND FORM. 'bulk': how many values and letters a reading holds, each counted each time it is reached (what is shared counts as often as it is met; a slice's spare places count too). A statement '..UptoSaid' is the law's where the arguments, and the package variables that the reading takes, are together of bulk at most 1048576: NARROWER than '..Said'. Prove '..Said' where nothing that the law and all that it calls make is longer than what came in: it says more and counts as full. Else prove '..UptoSaid'. A law counts once. -/
mutual
def uptoBulk {H : Type} : DataW H → Nat
  | .lit (.string bytes) => bytes.length + 1
  | .lit _ => 1
  | .nil => 1
  | .ptr d => uptoBulk d + 1
  | .slice elems spare => uptoBulkAll elems + uptoBulkAll spare + 1
  | .agg parts => uptoBulkAll parts + 1
  | .iface _ d => uptoBulk d + 1
  | .map entries => uptoBulkEntries entries + 1
  | .held _ => 1
def uptoBulkAll {H : Type} : List (DataW H) → Nat
  | [] => 0
  | d :: r => uptoBulk d + uptoBulkAll r
def uptoBulkEntries {H : Type} : List (Lit × DataW H) → Nat
  | [] => 0
  | x :: r => uptoBulkEntry x + uptoBulkEntries r
def uptoBulkEntry {H : Type} : Lit × DataW H → Nat
  | (.string bytes, d) => bytes.length + uptoBulk d + 1
  | (_, d) => uptoBulk d + 1
 end
def uptoSmall : (H : Type) → List (DataW H) → Bool := fun _ ds => decide (uptoBulkAll ds ≤ 1048576)
def OpenSpec.upto (s : _root_.Go.ChangeSpec) : _root_.Go.OpenSpec := { _root_.Go.OpenSpec.ofChange s with cond := some uptoSmall }

/-- 'ceefaxlaw12.PageMerges', WHERE WHAT IT READS IS OF BULK AT MOST 1048576: true; the input reads as it did. -/
def pageMergesUptoRow : OpenClaim := { program := "ytimcmpceekbfjaa", sum := "eb4ffdf6aee93e53425afca26829710758e15ec66540c647976f8dfdadf6f30a", func := "ceefax/ceefaxlaw12.PageMerges", spec := "pageMerges", apart := false, narrowed := true }
def PageMergesUptoSaid : Prop := pageMergesUptoRow.holds Try.pinned (OpenSpec.upto pageMergesSpec)

/-- 'ceefaxlaw12.PageExtras', WHERE WHAT IT READS IS OF BULK AT MOST 1048576: true; the input reads as it did. -/
def pageExtrasUptoRow : OpenClaim := { program := "ytimcmpceekbfjaa", sum := "eb4ffdf6aee93e53425afca26829710758e15ec66540c647976f8dfdadf6f30a", func := "ceefax/ceefaxlaw12.PageExtras", spec := "pageExtras", apart := false, narrowed := true }
def PageExtrasUptoSaid : Prop := pageExtrasUptoRow.holds Try.pinned (OpenSpec.upto pageExtrasSpec)

/-- 'ceefaxlaw12.PageKeeps', WHERE WHAT IT READS IS OF BULK AT MOST 1048576: true; the input reads as it did. -/
def pageKeepsUptoRow : OpenClaim := { program := "ytimcmpceekbfjaa", sum := "eb4ffdf6aee93e53425afca26829710758e15ec66540c647976f8dfdadf6f30a", func := "ceefax/ceefaxlaw12.PageKeeps", spec := "pageKeeps", apart := false, narrowed := true }
def PageKeepsUptoSaid : Prop := pageKeepsUptoRow.holds Try.pinned (OpenSpec.upto pageKeepsSpec)

/-- 'ceefaxlaw12.PageErases', WHERE WHAT IT READS IS OF BULK AT MOST 1048576: true; the input reads as it did. -/
def pageErasesUptoRow : OpenClaim := { program := "ytimcmpceekbfjaa", sum := "eb4ffdf6aee93e53425afca26829710758e15ec66540c647976f8dfdadf6f30a", func := "ceefax/ceefaxlaw12.PageErases", spec := "pageErases", apart := false, narrowed := true }
def PageErasesUptoSaid : Prop := pageErasesUptoRow.holds Try.pinned (OpenSpec.upto pageErasesSpec)

/-- 'ceefaxlaw12.PageSays', WHERE WHAT IT READS IS OF BULK AT MOST 1048576: true; the input reads as it did. -/
def pageSaysUptoRow : OpenClaim := { program := "ytimcmpceekbfjaa", sum := "eb4ffdf6aee93e53425afca26829710758e15ec66540c647976f8dfdadf6f30a", func := "ceefax/ceefaxlaw12.PageSays", spec := "pageSays", apart := false, narrowed := true }
def PageSaysUptoSaid : Prop := pageSaysUptoRow.holds Try.pinned (OpenSpec.upto pageSaysSpec)

end Rows
end Go.Proofs.Ytimcmpceekbfjaa
