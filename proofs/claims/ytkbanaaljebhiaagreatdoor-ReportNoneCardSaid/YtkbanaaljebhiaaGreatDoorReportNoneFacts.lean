/- Closed facts of ReportNone's card: each a theorem of its own, so that each stays below the memory limit. -/
import Derived.Test.YtkbanaaljebhiaaGreatDoorRows
import Derived.Test.YtkbanaaljebhiaaGreatDoorCards
import Derived.JoinedOf
import Derived.KernelRfl
import Derived.SevenTiedAt
namespace Go.Proofs.YtkbanaaljebhiaaGreatDoor.reportNone
open Go

theorem c_0 : (Rows.reportNoneRow.wf (OpenSpec.ofChange Rows.reportNoneSpec)) = true := by kernel_rfl
theorem c_1 : (laidOutB Tryz.prog) = true := by kernel_rfl
theorem c_2 : (mapsRowed Tryz.prog) = true := by kernel_rfl
theorem c_3 : (Tryz.f4.params.all (Tryz.prog.readableRec ·)) = true := by kernel_rfl
theorem c_4 : (namedTie Tryz.prog Rows.reportNoneRow.named Rows.reportNoneSpec.vars) = true := by kernel_rfl
theorem c_5 : ((Rows.reportNoneRow.stops == [])) = true := by kernel_rfl
theorem c_6 : ((Tryz.prog.stops == [])) = true := by kernel_rfl
theorem c_7 : ((Rows.reportNoneRow.knobs == [])) = true := by kernel_rfl
theorem c_8 : ((Tryz.prog.stopKnobs == [])) = true := by kernel_rfl
theorem c_9 : ((Rows.reportNoneRow.inPlace == Tryz.prog.inPlace 4)) = true := by kernel_rfl
theorem c_10 : ((Rows.reportNoneRow.unfollowed == Tryz.prog.unfollowed 4)) = true := by kernel_rfl
theorem c_11 : ((Rows.reportNoneRow.recurses == Tryz.prog.recurses 4)) = true := by kernel_rfl
theorem c_12 : ((Rows.reportNoneRow.named == Tryz.prog.varsNamed 4)) = true := by kernel_rfl
theorem c_13 : ((Rows.reportNoneRow.maps == (Tryz.f4.params.toList ++ Rows.reportNoneSpec.plain.varTypes Tryz.prog).any (Tryz.prog.mapsRec ·))) = true := by kernel_rfl
theorem c_14 : ((Rows.reportNoneRow.ifaces == (Tryz.f4.params.toList ++ Rows.reportNoneSpec.plain.varTypes Tryz.prog).any (Tryz.prog.ifacesRec ·))) = true := by kernel_rfl
theorem c_15 : ((Rows.reportNoneRow.mapsOut == Tryz.prog.mapsAmong Tryz.f4.resultTypes.toList)) = true := by kernel_rfl
theorem c_16 : ((Rows.reportNoneRow.loops == (Tryz.f4.params.toList ++ Rows.reportNoneSpec.plain.varTypes Tryz.prog).any (Tryz.prog.loopsFrom ·))) = true := by kernel_rfl
theorem c_17 : ((Rows.reportNoneRow.wideKeys == (Tryz.f4.params.toList ++ Rows.reportNoneSpec.plain.varTypes Tryz.prog ++ Tryz.f4.resultTypes.toList).any (Tryz.prog.wideKeysFrom ·))) = true := by kernel_rfl
theorem c_18 : (Rows.reportNoneSpec.vars.all (Tryz.prog.varReadable ·)) = true := by kernel_rfl
theorem c_19 : (Tryz.f4.resultTypes.all (fun t => Tryz.prog.readableRec t && decide (t < Tryz.prog.types.size))) = true := by kernel_rfl
theorem c_20 : ((Rows.reportNoneRow.ifacesOut == Tryz.f4.resultTypes.toList.any (Tryz.prog.ifacesRec ·))) = true := by kernel_rfl
theorem c_21 : ((Rows.reportNoneRow.loopsOut == Tryz.f4.resultTypes.toList.any (Tryz.prog.loopsFrom ·))) = true := by kernel_rfl
theorem c_22 : ((Rows.reportNoneRow.plainKeys == Tryz.prog.plainKeys)) = true := by kernel_rfl
theorem c_23 : (Rows.reportNoneRow.shortTexts.isNone) = true := by kernel_rfl
theorem c_24 : (Tryz.prog.stopsHeard) = true := by kernel_rfl
theorem c_25 : (Tryz.prog.mayEnter) = true := by kernel_rfl
theorem c_26 : ((Rows.reportNoneRow.lifted == Tryz.prog.liftsFinal)) = true := by kernel_rfl
theorem c_27 : ((Tryz.prog.make == some Rows.reportNoneRow.make)) = true := by kernel_rfl
theorem c_28 : ((Rows.reportNoneRow.kinds == (if Rows.reportNoneRow.domain.isEmpty then [] else Tryz.f4.params.toList.map fun t => match Tryz.prog.underlying t with | some (.int k) => some k | _ => none))) = true := by kernel_rfl
theorem c_29 : ((Rows.reportNoneRow.pinned == Rows.reportNoneRow.pinnedBy)) = true := by kernel_rfl
theorem c_30 : ((Rows.reportNoneRow.veiled == (Tryz.f4.params.toList ++ Rows.reportNoneSpec.plain.varTypes Tryz.prog ++ Tryz.f4.resultTypes.toList).any (Tryz.prog.veiledRec ·))) = true := by kernel_rfl
theorem c_31 : (Rows.reportNoneRow.veiledFits Tryz.prog Tryz.f4.params.toList (Tryz.f4.params.toList ++ Rows.reportNoneSpec.plain.varTypes Tryz.prog ++ Tryz.f4.resultTypes.toList)) = true := by kernel_rfl
theorem f_named : Tryz.prog.funcNamed "ramage/ramagelaw32.ReportNone" = some 4 := by kernel_rfl
theorem f_inst : Tryz.f4.isInstance Tryz.prog Rows.reportNoneRow.origin Rows.reportNoneRow.targs := of_decide_eq_true (by kernel_rfl)
theorem f_wrap : Tryz.f4.isWrapper Tryz.prog Rows.reportNoneRow.wrapper Rows.reportNoneRow.mainSum := by unfold Func.isWrapper; first | (rw [if_pos (by decide +kernel)]; kernel_rfl) | (rw [if_neg (by decide +kernel)]; exact ⟨rfl, rfl⟩)
theorem f_text : Rows.reportNoneRow.wfByText (OpenSpec.ofChange Rows.reportNoneSpec) = true := by kernel_rfl
theorem f_main : Tryz.prog.mainIs = some (((true, "f5ad9e0ad16b5d3d5837dc80c742f172035582614aa6b999def00508ef630a2b") : Bool × String).1, ((true, "f5ad9e0ad16b5d3d5837dc80c742f172035582614aa6b999def00508ef630a2b") : Bool × String).2.toList) := by kernel_rfl
theorem f_looks : true = Tryz.prog.looks [] := by kernel_rfl
theorem f_stand : (([3, 3, 3, 22] : List TypeId).all fun u => !Tryz.prog.wantsStandIn u) = true := by kernel_rfl
theorem f_nogo : Tryz.prog.funcs.any Func.goes = false := by kernel_rfl
theorem goes_none (P : Program) (c : OpenClaim) (hs : c.start = .entering) (h : P.funcs.any Func.goes = false) : false = c.goesBy P := by
  have hg : ∀ g, P.goes g = false := fun g => by
    unfold Program.goes
    rw [h, Bool.and_false, Bool.or_false]
    cases hc : (P.closure g).any fun g => (P.funcs[g]?).any Func.goes with
    | false => rfl
    | true =>
      exfalso
      rw [List.any_eq_true] at hc
      obtain ⟨x, _, hx⟩ := hc
      cases hf : P.funcs[x]? with
      | none => rw [hf] at hx; cases hx
      | some fn =>
        rw [hf, Option.any_some] at hx
        have hm := Array.mem_of_getElem? hf
        have : P.funcs.any Func.goes = true := by
          rw [Array.any_eq_true']
          exact ⟨fn, hm, hx⟩
        rw [h] at this
        cases this
  unfold OpenClaim.goesBy Program.goesAt Program.goesFrom
  rw [hs]
  cases P.funcNamed c.func with
  | none => rfl
  | some f => rw [Option.any_some, hg]; rfl
theorem f_goes : false = Rows.reportNoneRow.goesBy Tryz.prog := goes_none _ _ rfl f_nogo
theorem and2 {a b : Bool} (h : a = true) (k : b = true) : (a && b) = true := by rw [h, k]; rfl
set_option maxRecDepth 100000 in
theorem closed : joinedFacts Tryz.prog 4 Tryz.f4 Rows.reportNoneSpec Rows.reportNoneRow = true := by
  unfold joinedFacts
  exact (and2 (and2 (and2 (and2 (and2 (and2 (and2 (and2 (and2 (and2 (and2 (and2 (and2 (and2 (and2 (and2 (and2 (and2 (and2 (and2 (and2 (and2 (and2 (and2 (and2 (and2 (and2 (and2 (and2 (and2 (and2 c_0 c_1) c_2) c_3) c_4) c_5) c_6) c_7) c_8) c_9) c_10) c_11) c_12) c_13) c_14) c_15) c_16) c_17) c_18) c_19) c_20) c_21) c_22) c_23) c_24) c_25) c_26) c_27) c_28) c_29) c_30) c_31)
end Go.Proofs.YtkbanaaljebhiaaGreatDoor.reportNone
