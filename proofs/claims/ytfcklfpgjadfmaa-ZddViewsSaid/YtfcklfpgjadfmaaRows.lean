/-
  No cell of these rows narrows 'for every input' (looked for: loops, veiled, ifaces, maps, wideKeys, modest, calm, conditions, laid).
  DERIVED. THE GIVEN ROWS OF THIS SEAT. 14 by the template 'for every input the law returns true; each argument reads behind the call as it read before'; 0 by the template 'total and deterministic' (their statements: YtfcklfpgjadfmaaTotals.lean).
  GIVEN WITH THE SEED: the statements are not yours to turn. If you find one false, say at which input.
  Laid BY PROGRAM, IN A SANDBOX (cutbox-rows.mjs): the forced cells as the released guide's own fill.sh prints them over the translation 34ee639551f2f7cb… (all of the seat's roots in one cut). By AI agents, Wed Nov 11 2026. No macro, syntax, notation, axiom, sorry.
-/
import Derived.Test.YtfcklfpgjadfmaaChecked
import GoSem.Claim
import GoSem.ClaimJoined
import GoSem.ClaimMapViews
import Derived.JoinedTies
import Derived.KernelRfl
namespace Go.Proofs.Ytfcklfpgjadfmaa
/- THE CELL 'sum', in the pinned program and in every row, IS THE sha256 OF THE DUMP (.gsa) THAT YtfcklfpgjadfmaaProg.lean LOADS. Nothing in Lean hashes anything: it is a label: what it is worth is what the hold of that sum in a sandbox is worth. -/
noncomputable def Try.pinned : Pinned := { name := "ytfcklfpgjadfmaa", sum := "34ee639551f2f7cbf42cc0dd61476a325aa9e985daa18e2b729451068ae8cb97", checked := Try.checked }
namespace Rows
def none {H : Type} : Left H := { results := [], args := [] }

/-- 'ramagelaw12.BddFits': WHATEVER THE INPUT: true; the input reads as it did. -/
def bddFitsSpec : ChangeSpec := { name := "bddFits", fn := fun _ => fun
  | [d1, d2, d3] => { results := [.lit (.bool true)], args := [d1, d2, d3] }
  | _ => none }
def bddFitsRow : OpenClaim := { program := "ytfcklfpgjadfmaa", sum := "34ee639551f2f7cbf42cc0dd61476a325aa9e985daa18e2b729451068ae8cb97", func := "ramage/ramagelaw12.BddFits", spec := "bddFits", unfollowed := true, recurses := true, apart := false }
def BddFitsSaid : Prop := bddFitsRow.holds Try.pinned (OpenSpec.ofChange bddFitsSpec)

/-- ITS FALSE NEIGHBOUR: 'it returns false'. Refute it at one input. -/
def bddFitsWrong : ChangeSpec := { name := "bddFits", fn := fun _ => fun
  | [d1, d2, d3] => { results := [.lit (.bool false)], args := [d1, d2, d3] }
  | _ => none }
def BddFitsWrongFalsely : Prop := bddFitsRow.holds Try.pinned (OpenSpec.ofChange bddFitsWrong)

/-- 'ramagelaw13.ZddFits': WHATEVER THE INPUT: true; the input reads as it did. -/
def zddFitsSpec : ChangeSpec := { name := "zddFits", fn := fun _ => fun
  | [d1, d2, d3] => { results := [.lit (.bool true)], args := [d1, d2, d3] }
  | _ => none }
def zddFitsRow : OpenClaim := { program := "ytfcklfpgjadfmaa", sum := "34ee639551f2f7cbf42cc0dd61476a325aa9e985daa18e2b729451068ae8cb97", func := "ramage/ramagelaw13.ZddFits", spec := "zddFits", unfollowed := true, recurses := true, apart := false }
def ZddFitsSaid : Prop := zddFitsRow.holds Try.pinned (OpenSpec.ofChange zddFitsSpec)

/-- ITS FALSE NEIGHBOUR: 'it returns false'. Refute it at one input. -/
def zddFitsWrong : ChangeSpec := { name := "zddFits", fn := fun _ => fun
  | [d1, d2, d3] => { results := [.lit (.bool false)], args := [d1, d2, d3] }
  | _ => none }
def ZddFitsWrongFalsely : Prop := zddFitsRow.holds Try.pinned (OpenSpec.ofChange zddFitsWrong)

/-- 'ramagelaw12.BddTerms': WHATEVER THE INPUT: true; the input reads as it did. -/
def bddTermsSpec : ChangeSpec := { name := "bddTerms", fn := fun _ => fun
  | [d1, d2, d3] => { results := [.lit (.bool true)], args := [d1, d2, d3] }
  | _ => none }
def bddTermsRow : OpenClaim := { program := "ytfcklfpgjadfmaa", sum := "34ee639551f2f7cbf42cc0dd61476a325aa9e985daa18e2b729451068ae8cb97", func := "ramage/ramagelaw12.BddTerms", spec := "bddTerms", unfollowed := true, recurses := true, apart := false }
def BddTermsSaid : Prop := bddTermsRow.holds Try.pinned (OpenSpec.ofChange bddTermsSpec)

/-- ITS FALSE NEIGHBOUR: 'it returns false'. Refute it at one input. -/
def bddTermsWrong : ChangeSpec := { name := "bddTerms", fn := fun _ => fun
  | [d1, d2, d3] => { results := [.lit (.bool false)], args := [d1, d2, d3] }
  | _ => none }
def BddTermsWrongFalsely : Prop := bddTermsRow.holds Try.pinned (OpenSpec.ofChange bddTermsWrong)

/-- 'ramagelaw13.ZddTerms': WHATEVER THE INPUT: true; the input reads as it did. -/
def zddTermsSpec : ChangeSpec := { name := "zddTerms", fn := fun _ => fun
  | [d1, d2, d3] => { results := [.lit (.bool true)], args := [d1, d2, d3] }
  | _ => none }
def zddTermsRow : OpenClaim := { program := "ytfcklfpgjadfmaa", sum := "34ee639551f2f7cbf42cc0dd61476a325aa9e985daa18e2b729451068ae8cb97", func := "ramage/ramagelaw13.ZddTerms", spec := "zddTerms", unfollowed := true, recurses := true, apart := false }
def ZddTermsSaid : Prop := zddTermsRow.holds Try.pinned (OpenSpec.ofChange zddTermsSpec)

/-- ITS FALSE NEIGHBOUR: 'it returns false'. Refute it at one input. -/
def zddTermsWrong : ChangeSpec := { name := "zddTerms", fn := fun _ => fun
  | [d1, d2, d3] => { results := [.lit (.bool false)], args := [d1, d2, d3] }
  | _ => none }
def ZddTermsWrongFalsely : Prop := zddTermsRow.holds Try.pinned (OpenSpec.ofChange zddTermsWrong)

/-- 'ramagelaw12.BddMakes': WHATEVER THE INPUT: true; the input reads as it did. -/
def bddMakesSpec : ChangeSpec := { name := "bddMakes", fn := fun _ => fun
  | [d1, d2, d3, d4, d5, d6] => { results := [.lit (.bool true)], args := [d1, d2, d3, d4, d5, d6] }
  | _ => none }
def bddMakesRow : OpenClaim := { program := "ytfcklfpgjadfmaa", sum := "34ee639551f2f7cbf42cc0dd61476a325aa9e985daa18e2b729451068ae8cb97", func := "ramage/ramagelaw12.BddMakes", spec := "bddMakes", unfollowed := true, recurses := true, apart := false }
def BddMakesSaid : Prop := bddMakesRow.holds Try.pinned (OpenSpec.ofChange bddMakesSpec)

/-- ITS FALSE NEIGHBOUR: 'it returns false'. Refute it at one input. -/
def bddMakesWrong : ChangeSpec := { name := "bddMakes", fn := fun _ => fun
  | [d1, d2, d3, d4, d5, d6] => { results := [.lit (.bool false)], args := [d1, d2, d3, d4, d5, d6] }
  | _ => none }
def BddMakesWrongFalsely : Prop := bddMakesRow.holds Try.pinned (OpenSpec.ofChange bddMakesWrong)

/-- 'ramagelaw13.ZddMakes': WHATEVER THE INPUT: true; the input reads as it did. -/
def zddMakesSpec : ChangeSpec := { name := "zddMakes", fn := fun _ => fun
  | [d1, d2, d3, d4, d5, d6] => { results := [.lit (.bool true)], args := [d1, d2, d3, d4, d5, d6] }
  | _ => none }
def zddMakesRow : OpenClaim := { program := "ytfcklfpgjadfmaa", sum := "34ee639551f2f7cbf42cc0dd61476a325aa9e985daa18e2b729451068ae8cb97", func := "ramage/ramagelaw13.ZddMakes", spec := "zddMakes", unfollowed := true, recurses := true, apart := false }
def ZddMakesSaid : Prop := zddMakesRow.holds Try.pinned (OpenSpec.ofChange zddMakesSpec)

/-- ITS FALSE NEIGHBOUR: 'it returns false'. Refute it at one input. -/
def zddMakesWrong : ChangeSpec := { name := "zddMakes", fn := fun _ => fun
  | [d1, d2, d3, d4, d5, d6] => { results := [.lit (.bool false)], args := [d1, d2, d3, d4, d5, d6] }
  | _ => none }
def ZddMakesWrongFalsely : Prop := zddMakesRow.holds Try.pinned (OpenSpec.ofChange zddMakesWrong)

/-- 'ramagelaw12.BddHalves': WHATEVER THE INPUT: true; the input reads as it did. -/
def bddHalvesSpec : ChangeSpec := { name := "bddHalves", fn := fun _ => fun
  | [d1, d2] => { results := [.lit (.bool true)], args := [d1, d2] }
  | _ => none }
def bddHalvesRow : OpenClaim := { program := "ytfcklfpgjadfmaa", sum := "34ee639551f2f7cbf42cc0dd61476a325aa9e985daa18e2b729451068ae8cb97", func := "ramage/ramagelaw12.BddHalves", spec := "bddHalves", unfollowed := true, recurses := true, apart := false }
def BddHalvesSaid : Prop := bddHalvesRow.holds Try.pinned (OpenSpec.ofChange bddHalvesSpec)

/-- ITS FALSE NEIGHBOUR: 'it returns false'. Refute it at one input. -/
def bddHalvesWrong : ChangeSpec := { name := "bddHalves", fn := fun _ => fun
  | [d1, d2] => { results := [.lit (.bool false)], args := [d1, d2] }
  | _ => none }
def BddHalvesWrongFalsely : Prop := bddHalvesRow.holds Try.pinned (OpenSpec.ofChange bddHalvesWrong)

/-- 'ramagelaw12.BddRights': WHATEVER THE INPUT: true; the input reads as it did. -/
def bddRightsSpec : ChangeSpec := { name := "bddRights", fn := fun _ => fun
  | [d1, d2, d3, d4] => { results := [.lit (.bool true)], args := [d1, d2, d3, d4] }
  | _ => none }
def bddRightsRow : OpenClaim := { program := "ytfcklfpgjadfmaa", sum := "34ee639551f2f7cbf42cc0dd61476a325aa9e985daa18e2b729451068ae8cb97", func := "ramage/ramagelaw12.BddRights", spec := "bddRights", unfollowed := true, recurses := true, apart := false }
def BddRightsSaid : Prop := bddRightsRow.holds Try.pinned (OpenSpec.ofChange bddRightsSpec)

/-- ITS FALSE NEIGHBOUR: 'it returns false'. Refute it at one input. -/
def bddRightsWrong : ChangeSpec := { name := "bddRights", fn := fun _ => fun
  | [d1, d2, d3, d4] => { results := [.lit (.bool false)], args := [d1, d2, d3, d4] }
  | _ => none }
def BddRightsWrongFalsely : Prop := bddRightsRow.holds Try.pinned (OpenSpec.ofChange bddRightsWrong)

/-- 'ramagelaw12.BddNil': WHATEVER THE INPUT: true; the input reads as it did. -/
def bddNilSpec : ChangeSpec := { name := "bddNil", fn := fun _ => fun
  | [d1, d2, d3] => { results := [.lit (.bool true)], args := [d1, d2, d3] }
  | _ => none }
def bddNilRow : OpenClaim := { program := "ytfcklfpgjadfmaa", sum := "34ee639551f2f7cbf42cc0dd61476a325aa9e985daa18e2b729451068ae8cb97", func := "ramage/ramagelaw12.BddNil", spec := "bddNil", unfollowed := true, recurses := true, apart := false }
def BddNilSaid : Prop := bddNilRow.holds Try.pinned (OpenSpec.ofChange bddNilSpec)

/-- ITS FALSE NEIGHBOUR: 'it returns false'. Refute it at one input. -/
def bddNilWrong : ChangeSpec := { name := "bddNil", fn := fun _ => fun
  | [d1, d2, d3] => { results := [.lit (.bool false)], args := [d1, d2, d3] }
  | _ => none }
def BddNilWrongFalsely : Prop := bddNilRow.holds Try.pinned (OpenSpec.ofChange bddNilWrong)

/-- 'ramagelaw13.ZddHalves': WHATEVER THE INPUT: true; the input reads as it did. -/
def zddHalvesSpec : ChangeSpec := { name := "zddHalves", fn := fun _ => fun
  | [d1, d2] => { results := [.lit (.bool true)], args := [d1, d2] }
  | _ => none }
def zddHalvesRow : OpenClaim := { program := "ytfcklfpgjadfmaa", sum := "34ee639551f2f7cbf42cc0dd61476a325aa9e985daa18e2b729451068ae8cb97", func := "ramage/ramagelaw13.ZddHalves", spec := "zddHalves", unfollowed := true, recurses := true, apart := false }
def ZddHalvesSaid : Prop := zddHalvesRow.holds Try.pinned (OpenSpec.ofChange zddHalvesSpec)

/-- ITS FALSE NEIGHBOUR: 'it returns false'. Refute it at one input. -/
def zddHalvesWrong : ChangeSpec := { name := "zddHalves", fn := fun _ => fun
  | [d1, d2] => { results := [.lit (.bool false)], args := [d1, d2] }
  | _ => none }
def ZddHalvesWrongFalsely : Prop := zddHalvesRow.holds Try.pinned (OpenSpec.ofChange zddHalvesWrong)

/-- 'ramagelaw13.ZddRights': WHATEVER THE INPUT: true; the input reads as it did. -/
def zddRightsSpec : ChangeSpec := { name := "zddRights", fn := fun _ => fun
  | [d1, d2, d3, d4] => { results := [.lit (.bool true)], args := [d1, d2, d3, d4] }
  | _ => none }
def zddRightsRow : OpenClaim := { program := "ytfcklfpgjadfmaa", sum := "34ee639551f2f7cbf42cc0dd61476a325aa9e985daa18e2b729451068ae8cb97", func := "ramage/ramagelaw13.ZddRights", spec := "zddRights", unfollowed := true, recurses := true, apart := false }
def ZddRightsSaid : Prop := zddRightsRow.holds Try.pinned (OpenSpec.ofChange zddRightsSpec)

/-- ITS FALSE NEIGHBOUR: 'it returns false'. Refute it at one input. -/
def zddRightsWrong : ChangeSpec := { name := "zddRights", fn := fun _ => fun
  | [d1, d2, d3, d4] => { results := [.lit (.bool false)], args := [d1, d2, d3, d4] }
  | _ => none }
def ZddRightsWrongFalsely : Prop := zddRightsRow.holds Try.pinned (OpenSpec.ofChange zddRightsWrong)

/-- 'ramagelaw13.ZddNil': WHATEVER THE INPUT: true; the input reads as it did. -/
def zddNilSpec : ChangeSpec := { name := "zddNil", fn := fun _ => fun
  | [d1, d2, d3] => { results := [.lit (.bool true)], args := [d1, d2, d3] }
  | _ => none }
def zddNilRow : OpenClaim := { program := "ytfcklfpgjadfmaa", sum := "34ee639551f2f7cbf42cc0dd61476a325aa9e985daa18e2b729451068ae8cb97", func := "ramage/ramagelaw13.ZddNil", spec := "zddNil", unfollowed := true, recurses := true, apart := false }
def ZddNilSaid : Prop := zddNilRow.holds Try.pinned (OpenSpec.ofChange zddNilSpec)

/-- ITS FALSE NEIGHBOUR: 'it returns false'. Refute it at one input. -/
def zddNilWrong : ChangeSpec := { name := "zddNil", fn := fun _ => fun
  | [d1, d2, d3] => { results := [.lit (.bool false)], args := [d1, d2, d3] }
  | _ => none }
def ZddNilWrongFalsely : Prop := zddNilRow.holds Try.pinned (OpenSpec.ofChange zddNilWrong)

/-- 'ramagelaw12.BddViews': WHATEVER THE INPUT: true; the input reads as it did. -/
def bddViewsSpec : ChangeSpec := { name := "bddViews", fn := fun _ => fun
  | [d1, d2, d3, d4, d5] => { results := [.lit (.bool true)], args := [d1, d2, d3, d4, d5] }
  | _ => none }
def bddViewsRow : OpenClaim := { program := "ytfcklfpgjadfmaa", sum := "34ee639551f2f7cbf42cc0dd61476a325aa9e985daa18e2b729451068ae8cb97", func := "ramage/ramagelaw12.BddViews", spec := "bddViews", unfollowed := true, recurses := true, apart := false }
def BddViewsSaid : Prop := bddViewsRow.holds Try.pinned (OpenSpec.ofChange bddViewsSpec)

/-- ITS FALSE NEIGHBOUR: 'it returns false'. Refute it at one input. -/
def bddViewsWrong : ChangeSpec := { name := "bddViews", fn := fun _ => fun
  | [d1, d2, d3, d4, d5] => { results := [.lit (.bool false)], args := [d1, d2, d3, d4, d5] }
  | _ => none }
def BddViewsWrongFalsely : Prop := bddViewsRow.holds Try.pinned (OpenSpec.ofChange bddViewsWrong)

/-- 'ramagelaw13.ZddViews': WHATEVER THE INPUT: true; the input reads as it did. -/
def zddViewsSpec : ChangeSpec := { name := "zddViews", fn := fun _ => fun
  | [d1, d2, d3, d4, d5] => { results := [.lit (.bool true)], args := [d1, d2, d3, d4, d5] }
  | _ => none }
def zddViewsRow : OpenClaim := { program := "ytfcklfpgjadfmaa", sum := "34ee639551f2f7cbf42cc0dd61476a325aa9e985daa18e2b729451068ae8cb97", func := "ramage/ramagelaw13.ZddViews", spec := "zddViews", unfollowed := true, recurses := true, apart := false }
def ZddViewsSaid : Prop := zddViewsRow.holds Try.pinned (OpenSpec.ofChange zddViewsSpec)

/-- ITS FALSE NEIGHBOUR: 'it returns false'. Refute it at one input. -/
def zddViewsWrong : ChangeSpec := { name := "zddViews", fn := fun _ => fun
  | [d1, d2, d3, d4, d5] => { results := [.lit (.bool false)], args := [d1, d2, d3, d4, d5] }
  | _ => none }
def ZddViewsWrongFalsely : Prop := zddViewsRow.holds Try.pinned (OpenSpec.ofChange zddViewsWrong)

/- THE SECOND FORM. 'bulk': how many values and letters a reading holds, each counted each time it is reached (what is shared counts as often as it is met; a slice's spare places count too). A statement '..UptoSaid' is the law's where the arguments, and the package variables that the reading takes, are together of bulk at most 1048576: NARROWER than '..Said'. Prove '..Said' where nothing that the law and all that it calls make is longer than what came in: it says more and counts as full. Else prove '..UptoSaid'. A law counts once. -/
mutual
def uptoBulk {H : Type} : DataW H → Nat
  | .lit (.string bytes) => bytes.length + 1
  | .lit _ => 1
  | .nil => 1
  | .ptr d => uptoBulk d + 1
  | .slice elems spare => uptoBulkAll elems + uptoBulkAll spare + 1
  | .agg parts => uptoBulkAll parts + 1
  | .iface _ d => uptoBulk d + 1
  | .map entries => uptoBulkEntries entries + 1
  | .held _ => 1
def uptoBulkAll {H : Type} : List (DataW H) → Nat
  | [] => 0
  | d :: r => uptoBulk d + uptoBulkAll r
def uptoBulkEntries {H : Type} : List (Lit × DataW H) → Nat
  | [] => 0
  | x :: r => uptoBulkEntry x + uptoBulkEntries r
def uptoBulkEntry {H : Type} : Lit × DataW H → Nat
  | (.string bytes, d) => bytes.length + uptoBulk d + 1
  | (_, d) => uptoBulk d + 1
 end
def uptoSmall : (H : Type) → List (DataW H) → Bool := fun _ ds => decide (uptoBulkAll ds ≤ 1048576)
def OpenSpec.upto (s : _root_.Go.ChangeSpec) : _root_.Go.OpenSpec := { _root_.Go.OpenSpec.ofChange s with cond := some uptoSmall }

/-- 'ramagelaw12.BddFits', WHERE WHAT IT READS IS OF BULK AT MOST 1048576: true; the input reads as it did. -/
def bddFitsUptoRow : OpenClaim := { program := "ytfcklfpgjadfmaa", sum := "34ee639551f2f7cbf42cc0dd61476a325aa9e985daa18e2b729451068ae8cb97", func := "ramage/ramagelaw12.BddFits", spec := "bddFits", unfollowed := true, recurses := true, apart := false, narrowed := true }
def BddFitsUptoSaid : Prop := bddFitsUptoRow.holds Try.pinned (OpenSpec.upto bddFitsSpec)

/-- 'ramagelaw13.ZddFits', WHERE WHAT IT READS IS OF BULK AT MOST 1048576: true; the input reads as it did. -/
def zddFitsUptoRow : OpenClaim := { program := "ytfcklfpgjadfmaa", sum := "34ee639551f2f7cbf42cc0dd61476a325aa9e985daa18e2b729451068ae8cb97", func := "ramage/ramagelaw13.ZddFits", spec := "zddFits", unfollowed := true, recurses := true, apart := false, narrowed := true }
def ZddFitsUptoSaid : Prop := zddFitsUptoRow.holds Try.pinned (OpenSpec.upto zddFitsSpec)

/-- 'ramagelaw12.BddTerms', WHERE WHAT IT READS IS OF BULK AT MOST 1048576: true; the input reads as it did. -/
def bddTermsUptoRow : OpenClaim := { program := "ytfcklfpgjadfmaa", sum := "34ee639551f2f7cbf42cc0dd61476a325aa9e985daa18e2b729451068ae8cb97", func := "ramage/ramagelaw12.BddTerms", spec := "bddTerms", unfollowed := true, recurses := true, apart := false, narrowed := true }
def BddTermsUptoSaid : Prop := bddTermsUptoRow.holds Try.pinned (OpenSpec.upto bddTermsSpec)

/-- 'ramagelaw13.ZddTerms', WHERE WHAT IT READS IS OF BULK AT MOST 1048576: true; the input reads as it did. -/
def zddTermsUptoRow : OpenClaim := { program := "ytfcklfpgjadfmaa", sum := "34ee639551f2f7cbf42cc0dd61476a325aa9e985daa18e2b729451068ae8cb97", func := "ramage/ramagelaw13.ZddTerms", spec := "zddTerms", unfollowed := true, recurses := true, apart := false, narrowed := true }
def ZddTermsUptoSaid : Prop := zddTermsUptoRow.holds Try.pinned (OpenSpec.upto zddTermsSpec)

/-- 'ramagelaw12.BddMakes', WHERE WHAT IT READS IS OF BULK AT MOST 1048576: true; the input reads as it did. -/
def bddMakesUptoRow : OpenClaim := { program := "ytfcklfpgjadfmaa", sum := "34ee639551f2f7cbf42cc0dd61476a325aa9e985daa18e2b729451068ae8cb97", func := "ramage/ramagelaw12.BddMakes", spec := "bddMakes", unfollowed := true, recurses := true, apart := false, narrowed := true }
def BddMakesUptoSaid : Prop := bddMakesUptoRow.holds Try.pinned (OpenSpec.upto bddMakesSpec)

/-- 'ramagelaw13.ZddMakes', WHERE WHAT IT READS IS OF BULK AT MOST 1048576: true; the input reads as it did. -/
def zddMakesUptoRow : OpenClaim := { program := "ytfcklfpgjadfmaa", sum := "34ee639551f2f7cbf42cc0dd61476a325aa9e985daa18e2b729451068ae8cb97", func := "ramage/ramagelaw13.ZddMakes", spec := "zddMakes", unfollowed := true, recurses := true, apart := false, narrowed := true }
def ZddMakesUptoSaid : Prop := zddMakesUptoRow.holds Try.pinned (OpenSpec.upto zddMakesSpec)

/-- 'ramagelaw12.BddHalves', WHERE WHAT IT READS IS OF BULK AT MOST 1048576: true; the input reads as it did. -/
def bddHalvesUptoRow : OpenClaim := { program := "ytfcklfpgjadfmaa", sum := "34ee639551f2f7cbf42cc0dd61476a325aa9e985daa18e2b729451068ae8cb97", func := "ramage/ramagelaw12.BddHalves", spec := "bddHalves", unfollowed := true, recurses := true, apart := false, narrowed := true }
def BddHalvesUptoSaid : Prop := bddHalvesUptoRow.holds Try.pinned (OpenSpec.upto bddHalvesSpec)

/-- 'ramagelaw12.BddRights', WHERE WHAT IT READS IS OF BULK AT MOST 1048576: true; the input reads as it did. -/
def bddRightsUptoRow : OpenClaim := { program := "ytfcklfpgjadfmaa", sum := "34ee639551f2f7cbf42cc0dd61476a325aa9e985daa18e2b729451068ae8cb97", func := "ramage/ramagelaw12.BddRights", spec := "bddRights", unfollowed := true, recurses := true, apart := false, narrowed := true }
def BddRightsUptoSaid : Prop := bddRightsUptoRow.holds Try.pinned (OpenSpec.upto bddRightsSpec)

/-- 'ramagelaw12.BddNil', WHERE WHAT IT READS IS OF BULK AT MOST 1048576: true; the input reads as it did. -/
def bddNilUptoRow : OpenClaim := { program := "ytfcklfpgjadfmaa", sum := "34ee639551f2f7cbf42cc0dd61476a325aa9e985daa18e2b729451068ae8cb97", func := "ramage/ramagelaw12.BddNil", spec := "bddNil", unfollowed := true, recurses := true, apart := false, narrowed := true }
def BddNilUptoSaid : Prop := bddNilUptoRow.holds Try.pinned (OpenSpec.upto bddNilSpec)

/-- 'ramagelaw13.ZddHalves', WHERE WHAT IT READS IS OF BULK AT MOST 1048576: true; the input reads as it did. -/
def zddHalvesUptoRow : OpenClaim := { program := "ytfcklfpgjadfmaa", sum := "34ee639551f2f7cbf42cc0dd61476a325aa9e985daa18e2b729451068ae8cb97", func := "ramage/ramagelaw13.ZddHalves", spec := "zddHalves", unfollowed := true, recurses := true, apart := false, narrowed := true }
def ZddHalvesUptoSaid : Prop := zddHalvesUptoRow.holds Try.pinned (OpenSpec.upto zddHalvesSpec)

/-- 'ramagelaw13.ZddRights', WHERE WHAT IT READS IS OF BULK AT MOST 1048576: true; the input reads as it did. -/
def zddRightsUptoRow : OpenClaim := { program := "ytfcklfpgjadfmaa", sum := "34ee639551f2f7cbf42cc0dd61476a325aa9e985daa18e2b729451068ae8cb97", func := "ramage/ramagelaw13.ZddRights", spec := "zddRights", unfollowed := true, recurses := true, apart := false, narrowed := true }
def ZddRightsUptoSaid : Prop := zddRightsUptoRow.holds Try.pinned (OpenSpec.upto zddRightsSpec)

/-- 'ramagelaw13.ZddNil', WHERE WHAT IT READS IS OF BULK AT MOST 1048576: true; the input reads as it did. -/
def zddNilUptoRow : OpenClaim := { program := "ytfcklfpgjadfmaa", sum := "34ee639551f2f7cbf42cc0dd61476a325aa9e985daa18e2b729451068ae8cb97", func := "ramage/ramagelaw13.ZddNil", spec := "zddNil", unfollowed := true, recurses := true, apart := false, narrowed := true }
def ZddNilUptoSaid : Prop := zddNilUptoRow.holds Try.pinned (OpenSpec.upto zddNilSpec)

/-- 'ramagelaw12.BddViews', WHERE WHAT IT READS IS OF BULK AT MOST 1048576: true; the input reads as it did. -/
def bddViewsUptoRow : OpenClaim := { program := "ytfcklfpgjadfmaa", sum := "34ee639551f2f7cbf42cc0dd61476a325aa9e985daa18e2b729451068ae8cb97", func := "ramage/ramagelaw12.BddViews", spec := "bddViews", unfollowed := true, recurses := true, apart := false, narrowed := true }
def BddViewsUptoSaid : Prop := bddViewsUptoRow.holds Try.pinned (OpenSpec.upto bddViewsSpec)

/-- 'ramagelaw13.ZddViews', WHERE WHAT IT READS IS OF BULK AT MOST 1048576: true; the input reads as it did. -/
def zddViewsUptoRow : OpenClaim := { program := "ytfcklfpgjadfmaa", sum := "34ee639551f2f7cbf42cc0dd61476a325aa9e985daa18e2b729451068ae8cb97", func := "ramage/ramagelaw13.ZddViews", spec := "zddViews", unfollowed := true, recurses := true, apart := false, narrowed := true }
def ZddViewsUptoSaid : Prop := zddViewsUptoRow.holds Try.pinned (OpenSpec.upto zddViewsSpec)

end Rows
end Go.Proofs.Ytfcklfpgjadfmaa
