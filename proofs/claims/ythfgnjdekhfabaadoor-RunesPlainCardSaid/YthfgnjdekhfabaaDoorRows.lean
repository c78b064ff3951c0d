/-
  NARROWER THAN 'FOR EVERY INPUT', by the rows' own cells (each row's printed sentence says how): RunesFeed: laid · RunesParted: laid · RunesBack: laid · RunesClean: laid · RunesTell: laid · RunesPlain: laid.
  DERIVED. THE GIVEN ROWS OF THIS SEAT. 6 by the template 'for every input the law returns true; each argument reads behind the call as it read before'; 0 by the template 'total and deterministic' (their statements: YthfgnjdekhfabaaDoorTotals.lean).
  GIVEN WITH THE SEED: the statements are not yours to turn. If you find one false, say at which input.
  Laid BY PROGRAM, IN A SANDBOX (cutbox-rows.mjs): the forced cells as the released guide's own fill.sh prints them over the translation a3e8e1ab03c0c5ab… (all of the seat's roots in one cut). By AI agents, Wed Nov 11 2026. No macro, syntax, notation, axiom, sorry.
-/
import Derived.Test.YthfgnjdekhfabaaDoorChecked
import GoSem.PinnedTables
import GoSem.Claim
import GoSem.ClaimJoined
import GoSem.ClaimMapViews
import Derived.JoinedTies
import Derived.KernelRfl
namespace Go.Proofs.YthfgnjdekhfabaaDoor
/- THE CELL 'sum', in the pinned program and in every row, IS THE sha256 OF THE DUMP (.gsa) THAT YthfgnjdekhfabaaDoorProg.lean LOADS. Nothing in Lean hashes anything: it is a label: what it is worth is what the hold of that sum in a sandbox is worth. -/
noncomputable def Tryd.pinned : Pinned := { name := "ythfgnjdekhfabaadoor", sum := "a3e8e1ab03c0c5ab6e11fdd980f64110b23218bb8779896cb272805dc441bd68", checked := Tryd.checked }
namespace Rows
def none {H : Type} : Left H := { results := [], args := [] }

/- WHAT THE LISTED PACKAGE-LEVEL VARIABLES READ AS WHEN THE CALL BEGINS. Each datum BY PROGRAM (the guide's laid-datum.mjs) off the statement by which the dump's own 'gosem.cut.vars' lays the variable. In a bare row this is a premise. The card (YthfgnjdekhfabaaDoorCards.lean) ties it to the program's text. -/
def laid_unicode_utf8_acceptRanges {H : Type} : DataW H := .agg [.agg [.lit (.int .u8 128), .lit (.int .u8 191)], .agg [.lit (.int .u8 160), .lit (.int .u8 191)], .agg [.lit (.int .u8 128), .lit (.int .u8 159)], .agg [.lit (.int .u8 144), .lit (.int .u8 191)], .agg [.lit (.int .u8 128), .lit (.int .u8 143)], .agg [.lit (.int .u8 0), .lit (.int .u8 0)], .agg [.lit (.int .u8 0), .lit (.int .u8 0)], .agg [.lit (.int .u8 0), .lit (.int .u8 0)], .agg [.lit (.int .u8 0), .lit (.int .u8 0)], .agg [.lit (.int .u8 0), .lit (.int .u8 0)], .agg [.lit (.int .u8 0), .lit (.int .u8 0)], .agg [.lit (.int .u8 0), .lit (.int .u8 0)], .agg [.lit (.int .u8 0), .lit (.int .u8 0)], .agg [.lit (.int .u8 0), .lit (.int .u8 0)], .agg [.lit (.int .u8 0), .lit (.int .u8 0)], .agg [.lit (.int .u8 0), .lit (.int .u8 0)]]
/-- One of Go's own tables, pinned by name: the form's constant. -/
def laid_unicode_utf8_first : DataW Unit := Go.Pinned.utf8First

/-- 'lyceumlaw04.RunesFeed': WHATEVER THE INPUT: true; the input reads as it did. -/
def runesFeedSpec : ChangeSpec := { name := "runesFeed", fn := fun _ => fun
  | [d1, d2] => { results := [.lit (.bool true)], args := [d1, d2] }
  | _ => none }
def runesFeedRow : OpenClaim := { program := "ythfgnjdekhfabaadoor", sum := "a3e8e1ab03c0c5ab6e11fdd980f64110b23218bb8779896cb272805dc441bd68", func := "lyceum/lyceumlaw04.RunesFeed", spec := "runesFeed", named := ["unicode/utf8.first", "unicode/utf8.acceptRanges"], apart := false, laid := [("unicode/utf8.acceptRanges", laid_unicode_utf8_acceptRanges), ("unicode/utf8.first", laid_unicode_utf8_first)] }
def RunesFeedSaid : Prop := runesFeedRow.holds Tryd.pinned (OpenSpec.ofChange runesFeedSpec)

/-- ITS FALSE NEIGHBOUR: 'it returns false'. Refute it at one input. -/
def runesFeedWrong : ChangeSpec := { name := "runesFeed", fn := fun _ => fun
  | [d1, d2] => { results := [.lit (.bool false)], args := [d1, d2] }
  | _ => none }
def RunesFeedWrongFalsely : Prop := runesFeedRow.holds Tryd.pinned (OpenSpec.ofChange runesFeedWrong)

/-- 'lyceumlaw04.RunesParted': WHATEVER THE INPUT: true; the input reads as it did. -/
def runesPartedSpec : ChangeSpec := { name := "runesParted", fn := fun _ => fun
  | [d1, d2, d3] => { results := [.lit (.bool true)], args := [d1, d2, d3] }
  | _ => none }
def runesPartedRow : OpenClaim := { program := "ythfgnjdekhfabaadoor", sum := "a3e8e1ab03c0c5ab6e11fdd980f64110b23218bb8779896cb272805dc441bd68", func := "lyceum/lyceumlaw04.RunesParted", spec := "runesParted", named := ["unicode/utf8.first", "unicode/utf8.acceptRanges"], apart := false, laid := [("unicode/utf8.acceptRanges", laid_unicode_utf8_acceptRanges), ("unicode/utf8.first", laid_unicode_utf8_first)] }
def RunesPartedSaid : Prop := runesPartedRow.holds Tryd.pinned (OpenSpec.ofChange runesPartedSpec)

/-- ITS FALSE NEIGHBOUR: 'it returns false'. Refute it at one input. -/
def runesPartedWrong : ChangeSpec := { name := "runesParted", fn := fun _ => fun
  | [d1, d2, d3] => { results := [.lit (.bool false)], args := [d1, d2, d3] }
  | _ => none }
def RunesPartedWrongFalsely : Prop := runesPartedRow.holds Tryd.pinned (OpenSpec.ofChange runesPartedWrong)

/-- 'lyceumlaw04.RunesBack': WHATEVER THE INPUT: true; the input reads as it did. -/
def runesBackSpec : ChangeSpec := { name := "runesBack", fn := fun _ => fun
  | [d] => { results := [.lit (.bool true)], args := [d] }
  | _ => none }
def runesBackRow : OpenClaim := { program := "ythfgnjdekhfabaadoor", sum := "a3e8e1ab03c0c5ab6e11fdd980f64110b23218bb8779896cb272805dc441bd68", func := "lyceum/lyceumlaw04.RunesBack", spec := "runesBack", inPlace := ["internal/abi.NoEscape"], named := ["unicode/utf8.first", "unicode/utf8.acceptRanges"], apart := false, laid := [("unicode/utf8.acceptRanges", laid_unicode_utf8_acceptRanges), ("unicode/utf8.first", laid_unicode_utf8_first)] }
def RunesBackSaid : Prop := runesBackRow.holds Tryd.pinned (OpenSpec.ofChange runesBackSpec)

/-- ITS FALSE NEIGHBOUR: 'it returns false'. Refute it at one input. -/
def runesBackWrong : ChangeSpec := { name := "runesBack", fn := fun _ => fun
  | [d] => { results := [.lit (.bool false)], args := [d] }
  | _ => none }
def RunesBackWrongFalsely : Prop := runesBackRow.holds Tryd.pinned (OpenSpec.ofChange runesBackWrong)

/-- 'lyceumlaw04.RunesClean': WHATEVER THE INPUT: true; the input reads as it did. -/
def runesCleanSpec : ChangeSpec := { name := "runesClean", fn := fun _ => fun
  | [d] => { results := [.lit (.bool true)], args := [d] }
  | _ => none }
def runesCleanRow : OpenClaim := { program := "ythfgnjdekhfabaadoor", sum := "a3e8e1ab03c0c5ab6e11fdd980f64110b23218bb8779896cb272805dc441bd68", func := "lyceum/lyceumlaw04.RunesClean", spec := "runesClean", inPlace := ["internal/abi.NoEscape"], named := ["unicode/utf8.first", "unicode/utf8.acceptRanges"], apart := false, laid := [("unicode/utf8.acceptRanges", laid_unicode_utf8_acceptRanges), ("unicode/utf8.first", laid_unicode_utf8_first)] }
def RunesCleanSaid : Prop := runesCleanRow.holds Tryd.pinned (OpenSpec.ofChange runesCleanSpec)

/-- ITS FALSE NEIGHBOUR: 'it returns false'. Refute it at one input. -/
def runesCleanWrong : ChangeSpec := { name := "runesClean", fn := fun _ => fun
  | [d] => { results := [.lit (.bool false)], args := [d] }
  | _ => none }
def RunesCleanWrongFalsely : Prop := runesCleanRow.holds Tryd.pinned (OpenSpec.ofChange runesCleanWrong)

/-- 'lyceumlaw04.RunesTell': WHATEVER THE INPUT: true; the input reads as it did. -/
def runesTellSpec : ChangeSpec := { name := "runesTell", fn := fun _ => fun
  | [d1, d2, d3] => { results := [.lit (.bool true)], args := [d1, d2, d3] }
  | _ => none }
def runesTellRow : OpenClaim := { program := "ythfgnjdekhfabaadoor", sum := "a3e8e1ab03c0c5ab6e11fdd980f64110b23218bb8779896cb272805dc441bd68", func := "lyceum/lyceumlaw04.RunesTell", spec := "runesTell", inPlace := ["internal/abi.NoEscape"], named := ["unicode/utf8.first", "unicode/utf8.acceptRanges"], apart := false, laid := [("unicode/utf8.acceptRanges", laid_unicode_utf8_acceptRanges), ("unicode/utf8.first", laid_unicode_utf8_first)] }
def RunesTellSaid : Prop := runesTellRow.holds Tryd.pinned (OpenSpec.ofChange runesTellSpec)

/-- ITS FALSE NEIGHBOUR: 'it returns false'. Refute it at one input. -/
def runesTellWrong : ChangeSpec := { name := "runesTell", fn := fun _ => fun
  | [d1, d2, d3] => { results := [.lit (.bool false)], args := [d1, d2, d3] }
  | _ => none }
def RunesTellWrongFalsely : Prop := runesTellRow.holds Tryd.pinned (OpenSpec.ofChange runesTellWrong)

/-- 'lyceumlaw04.RunesPlain': WHATEVER THE INPUT: true; the input reads as it did. -/
def runesPlainSpec : ChangeSpec := { name := "runesPlain", fn := fun _ => fun
  | [d1, d2, d3] => { results := [.lit (.bool true)], args := [d1, d2, d3] }
  | _ => none }
def runesPlainRow : OpenClaim := { program := "ythfgnjdekhfabaadoor", sum := "a3e8e1ab03c0c5ab6e11fdd980f64110b23218bb8779896cb272805dc441bd68", func := "lyceum/lyceumlaw04.RunesPlain", spec := "runesPlain", inPlace := ["internal/abi.NoEscape"], named := ["unicode/utf8.first", "unicode/utf8.acceptRanges"], apart := false, laid := [("unicode/utf8.acceptRanges", laid_unicode_utf8_acceptRanges), ("unicode/utf8.first", laid_unicode_utf8_first)] }
def RunesPlainSaid : Prop := runesPlainRow.holds Tryd.pinned (OpenSpec.ofChange runesPlainSpec)

/-- ITS FALSE NEIGHBOUR: 'it returns false'. Refute it at one input. -/
def runesPlainWrong : ChangeSpec := { name := "runesPlain", fn := fun _ => fun
  | [d1, d2, d3] => { results := [.lit (.bool false)], args := [d1, d2, d3] }
  | _ => none }
def RunesPlainWrongFalsely : Prop := runesPlainRow.holds Tryd.pinned (OpenSpec.ofChange runesPlainWrong)

/- THE SECOND FORM. 'bulk': how many values and letters a reading holds, each counted each time it is reached (what is shared counts as often as it is met; a slice's spare places count too). A statement '..UptoSaid' is the law's where the arguments, and the package variables that the reading takes, are together of bulk at most 1048576: NARROWER than '..Said'. Prove '..Said' where nothing that the law and all that it calls make is longer than what came in: it says more and counts as full. Else prove '..UptoSaid'. A law counts once. -/
mutual
def uptoBulk {H : Type} : DataW H → Nat
  | .lit (.string bytes) => bytes.length + 1
  | .lit _ => 1
  | .nil => 1
  | .ptr d => uptoBulk d + 1
  | .slice elems spare => uptoBulkAll elems + uptoBulkAll spare + 1
  | .agg parts => uptoBulkAll parts + 1
  | .iface _ d => uptoBulk d + 1
  | .map entries => uptoBulkEntries entries + 1
  | .held _ => 1
def uptoBulkAll {H : Type} : List (DataW H) → Nat
  | [] => 0
  | d :: r => uptoBulk d + uptoBulkAll r
def uptoBulkEntries {H : Type} : List (Lit × DataW H) → Nat
  | [] => 0
  | x :: r => uptoBulkEntry x + uptoBulkEntries r
def uptoBulkEntry {H : Type} : Lit × DataW H → Nat
  | (.string bytes, d) => bytes.length + uptoBulk d + 1
  | (_, d) => uptoBulk d + 1
 end
def uptoSmall : (H : Type) → List (DataW H) → Bool := fun _ ds => decide (uptoBulkAll ds ≤ 1048576)
def OpenSpec.upto (s : _root_.Go.ChangeSpec) : _root_.Go.OpenSpec := { _root_.Go.OpenSpec.ofChange s with cond := some uptoSmall }

/-- 'lyceumlaw04.RunesFeed', WHERE WHAT IT READS IS OF BULK AT MOST 1048576: true; the input reads as it did. -/
def runesFeedUptoRow : OpenClaim := { program := "ythfgnjdekhfabaadoor", sum := "a3e8e1ab03c0c5ab6e11fdd980f64110b23218bb8779896cb272805dc441bd68", func := "lyceum/lyceumlaw04.RunesFeed", spec := "runesFeed", named := ["unicode/utf8.first", "unicode/utf8.acceptRanges"], apart := false, laid := [("unicode/utf8.acceptRanges", laid_unicode_utf8_acceptRanges), ("unicode/utf8.first", laid_unicode_utf8_first)], narrowed := true }
def RunesFeedUptoSaid : Prop := runesFeedUptoRow.holds Tryd.pinned (OpenSpec.upto runesFeedSpec)

/-- 'lyceumlaw04.RunesParted', WHERE WHAT IT READS IS OF BULK AT MOST 1048576: true; the input reads as it did. -/
def runesPartedUptoRow : OpenClaim := { program := "ythfgnjdekhfabaadoor", sum := "a3e8e1ab03c0c5ab6e11fdd980f64110b23218bb8779896cb272805dc441bd68", func := "lyceum/lyceumlaw04.RunesParted", spec := "runesParted", named := ["unicode/utf8.first", "unicode/utf8.acceptRanges"], apart := false, laid := [("unicode/utf8.acceptRanges", laid_unicode_utf8_acceptRanges), ("unicode/utf8.first", laid_unicode_utf8_first)], narrowed := true }
def RunesPartedUptoSaid : Prop := runesPartedUptoRow.holds Tryd.pinned (OpenSpec.upto runesPartedSpec)

/-- 'lyceumlaw04.RunesBack', WHERE WHAT IT READS IS OF BULK AT MOST 1048576: true; the input reads as it did. -/
def runesBackUptoRow : OpenClaim := { program := "ythfgnjdekhfabaadoor", sum := "a3e8e1ab03c0c5ab6e11fdd980f64110b23218bb8779896cb272805dc441bd68", func := "lyceum/lyceumlaw04.RunesBack", spec := "runesBack", inPlace := ["internal/abi.NoEscape"], named := ["unicode/utf8.first", "unicode/utf8.acceptRanges"], apart := false, laid := [("unicode/utf8.acceptRanges", laid_unicode_utf8_acceptRanges), ("unicode/utf8.first", laid_unicode_utf8_first)], narrowed := true }
def RunesBackUptoSaid : Prop := runesBackUptoRow.holds Tryd.pinned (OpenSpec.upto runesBackSpec)

/-- 'lyceumlaw04.RunesClean', WHERE WHAT IT READS IS OF BULK AT MOST 1048576: true; the input reads as it did. -/
def runesCleanUptoRow : OpenClaim := { program := "ythfgnjdekhfabaadoor", sum := "a3e8e1ab03c0c5ab6e11fdd980f64110b23218bb8779896cb272805dc441bd68", func := "lyceum/lyceumlaw04.RunesClean", spec := "runesClean", inPlace := ["internal/abi.NoEscape"], named := ["unicode/utf8.first", "unicode/utf8.acceptRanges"], apart := false, laid := [("unicode/utf8.acceptRanges", laid_unicode_utf8_acceptRanges), ("unicode/utf8.first", laid_unicode_utf8_first)], narrowed := true }
def RunesCleanUptoSaid : Prop := runesCleanUptoRow.holds Tryd.pinned (OpenSpec.upto runesCleanSpec)

/-- 'lyceumlaw04.RunesTell', WHERE WHAT IT READS IS OF BULK AT MOST 1048576: true; the input reads as it did. -/
def runesTellUptoRow : OpenClaim := { program := "ythfgnjdekhfabaadoor", sum := "a3e8e1ab03c0c5ab6e11fdd980f64110b23218bb8779896cb272805dc441bd68", func := "lyceum/lyceumlaw04.RunesTell", spec := "runesTell", inPlace := ["internal/abi.NoEscape"], named := ["unicode/utf8.first", "unicode/utf8.acceptRanges"], apart := false, laid := [("unicode/utf8.acceptRanges", laid_unicode_utf8_acceptRanges), ("unicode/utf8.first", laid_unicode_utf8_first)], narrowed := true }
def RunesTellUptoSaid : Prop := runesTellUptoRow.holds Tryd.pinned (OpenSpec.upto runesTellSpec)

/-- 'lyceumlaw04.RunesPlain', WHERE WHAT IT READS IS OF BULK AT MOST 1048576: true; the input reads as it did. -/
def runesPlainUptoRow : OpenClaim := { program := "ythfgnjdekhfabaadoor", sum := "a3e8e1ab03c0c5ab6e11fdd980f64110b23218bb8779896cb272805dc441bd68", func := "lyceum/lyceumlaw04.RunesPlain", spec := "runesPlain", inPlace := ["internal/abi.NoEscape"], named := ["unicode/utf8.first", "unicode/utf8.acceptRanges"], apart := false, laid := [("unicode/utf8.acceptRanges", laid_unicode_utf8_acceptRanges), ("unicode/utf8.first", laid_unicode_utf8_first)], narrowed := true }
def RunesPlainUptoSaid : Prop := runesPlainUptoRow.holds Tryd.pinned (OpenSpec.upto runesPlainSpec)

end Rows
end Go.Proofs.YthfgnjdekhfabaaDoor
