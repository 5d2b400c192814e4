/- Closed facts of ScriptNil's card: each a theorem of its own, so that each stays below the memory limit. -/
import Derived.Test.YtkbanaaljebhiaaGreatDoorRows
import Derived.Test.YtkbanaaljebhiaaGreatDoorCards
import Derived.JoinedOf
import Derived.KernelRfl
import Derived.SevenTiedAt
namespace Go.Proofs.YtkbanaaljebhiaaGreatDoor.scriptNil
open Go

theorem c_0 : (Rows.scriptNilRow.wf (OpenSpec.ofChange Rows.scriptNilSpec)) = true := by kernel_rfl
theorem c_1 : (laidOutB Tryz.prog) = true := by kernel_rfl
theorem c_2 : (mapsRowed Tryz.prog) = true := by kernel_rfl
theorem c_3 : (Tryz.f3.params.all (Tryz.prog.readableRec ·)) = true := by kernel_rfl
theorem c_4 : (namedTie Tryz.prog Rows.scriptNilRow.named Rows.scriptNilSpec.vars) = true := by kernel_rfl
theorem c_5 : ((Rows.scriptNilRow.stops == [])) = true := by kernel_rfl
theorem c_6 : ((Tryz.prog.stops == [])) = true := by kernel_rfl
theorem c_7 : ((Rows.scriptNilRow.knobs == [])) = true := by kernel_rfl
theorem c_8 : ((Tryz.prog.stopKnobs == [])) = true := by kernel_rfl
theorem c_9 : ((Rows.scriptNilRow.inPlace == Tryz.prog.inPlace 3)) = true := by kernel_rfl
theorem c_10 : ((Rows.scriptNilRow.unfollowed == Tryz.prog.unfollowed 3)) = true := by kernel_rfl
theorem c_11 : ((Rows.scriptNilRow.recurses == Tryz.prog.recurses 3)) = true := by kernel_rfl
theorem c_12 : ((Rows.scriptNilRow.named == Tryz.prog.varsNamed 3)) = true := by kernel_rfl
theorem c_13 : ((Rows.scriptNilRow.maps == (Tryz.f3.params.toList ++ Rows.scriptNilSpec.plain.varTypes Tryz.prog).any (Tryz.prog.mapsRec ·))) = true := by kernel_rfl
theorem c_14 : ((Rows.scriptNilRow.ifaces == (Tryz.f3.params.toList ++ Rows.scriptNilSpec.plain.varTypes Tryz.prog).any (Tryz.prog.ifacesRec ·))) = true := by kernel_rfl
theorem c_15 : ((Rows.scriptNilRow.mapsOut == Tryz.prog.mapsAmong Tryz.f3.resultTypes.toList)) = true := by kernel_rfl
theorem c_16 : ((Rows.scriptNilRow.loops == (Tryz.f3.params.toList ++ Rows.scriptNilSpec.plain.varTypes Tryz.prog).any (Tryz.prog.loopsFrom ·))) = true := by kernel_rfl
theorem c_17 : ((Rows.scriptNilRow.wideKeys == (Tryz.f3.params.toList ++ Rows.scriptNilSpec.plain.varTypes Tryz.prog ++ Tryz.f3.resultTypes.toList).any (Tryz.prog.wideKeysFrom ·))) = true := by kernel_rfl
theorem c_18 : (Rows.scriptNilSpec.vars.all (Tryz.prog.varReadable ·)) = true := by kernel_rfl
theorem c_19 : (Tryz.f3.resultTypes.all (fun t => Tryz.prog.readableRec t && decide (t < Tryz.prog.types.size))) = true := by kernel_rfl
theorem c_20 : ((Rows.scriptNilRow.ifacesOut == Tryz.f3.resultTypes.toList.any (Tryz.prog.ifacesRec ·))) = true := by kernel_rfl
theorem c_21 : ((Rows.scriptNilRow.loopsOut == Tryz.f3.resultTypes.toList.any (Tryz.prog.loopsFrom ·))) = true := by kernel_rfl
theorem c_22 : ((Rows.scriptNilRow.plainKeys == Tryz.prog.plainKeys)) = true := by kernel_rfl
theorem c_23 : (Rows.scriptNilRow.shortTexts.isNone) = true := by kernel_rfl
theorem c_24 : (Tryz.prog.stopsHeard) = true := by kernel_rfl
theorem c_25 : (Tryz.prog.mayEnter) = true := by kernel_rfl
theorem c_26 : ((Rows.scriptNilRow.lifted == Tryz.prog.liftsFinal)) = true := by kernel_rfl
theorem c_27 : ((Tryz.prog.make == some Rows.scriptNilRow.make)) = true := by kernel_rfl
theorem c_28 : ((Rows.scriptNilRow.kinds == (if Rows.scriptNilRow.domain.isEmpty then [] else Tryz.f3.params.toList.map fun t => match Tryz.prog.underlying t with | some (.int k) => some k | _ => none))) = true := by kernel_rfl
theorem c_29 : ((Rows.scriptNilRow.pinned == Rows.scriptNilRow.pinnedBy)) = true := by kernel_rfl
theorem c_30 : ((Rows.scriptNilRow.veiled == (Tryz.f3.params.toList ++ Rows.scriptNilSpec.plain.varTypes Tryz.prog ++ Tryz.f3.resultTypes.toList).any (Tryz.prog.veiledRec ·))) = true := by kernel_rfl
theorem c_31 : (Rows.scriptNilRow.veiledFits Tryz.prog Tryz.f3.params.toList (Tryz.f3.params.toList ++ Rows.scriptNilSpec.plain.varTypes Tryz.prog ++ Tryz.f3.resultTypes.toList)) = true := by kernel_rfl
theorem f_named : Tryz.prog.funcNamed "ramage/ramagelaw31.ScriptNil" = some 3 := by kernel_rfl
theorem f_inst : Tryz.f3.isInstance Tryz.prog Rows.scriptNilRow.origin Rows.scriptNilRow.targs := of_decide_eq_true (by kernel_rfl)
theorem f_wrap : Tryz.f3.isWrapper Tryz.prog Rows.scriptNilRow.wrapper Rows.scriptNilRow.mainSum := by unfold Func.isWrapper; first | (rw [if_pos (by decide +kernel)]; kernel_rfl) | (rw [if_neg (by decide +kernel)]; exact ⟨rfl, rfl⟩)
theorem f_text : Rows.scriptNilRow.wfByText (OpenSpec.ofChange Rows.scriptNilSpec) = true := by kernel_rfl
theorem f_main : Tryz.prog.mainIs = some (((true, "f5ad9e0ad16b5d3d5837dc80c742f172035582614aa6b999def00508ef630a2b") : Bool × String).1, ((true, "f5ad9e0ad16b5d3d5837dc80c742f172035582614aa6b999def00508ef630a2b") : Bool × String).2.toList) := by kernel_rfl
theorem f_looks : true = Tryz.prog.looks [] := by kernel_rfl
theorem f_stand : (([22] : List TypeId).all fun u => !Tryz.prog.wantsStandIn u) = true := by kernel_rfl
theorem f_nogo : Tryz.prog.funcs.any Func.goes = false := by kernel_rfl
theorem goes_none (P : Program) (c : OpenClaim) (hs : c.start = .entering) (h : P.funcs.any Func.goes = false) : false = c.goesBy P := by
  have hg : ∀ g, P.goes g = false := fun g => by
    unfold Program.goes
    rw [h, Bool.and_false, Bool.or_false]
    cases hc : (P.closure g).any fun g => (P.funcs[g]?).any Func.goes with
    | false => rfl
    | true =>
      exfalso
      rw [List.any_eq_true] at hc
      obtain ⟨x, _, hx⟩ := hc
      cases hf : P.funcs[x]? with
      | none => rw [hf] at hx; cases hx
      | some fn =>
        rw [hf, Option.any_some] at hx
        have hm := Array.mem_of_getElem? hf
        have : P.funcs.any Func.goes = true := by
          rw [Array.any_eq_true']
          exact ⟨fn, hm, hx⟩
        rw [h] at this
        cases this
  unfold OpenClaim.goesBy Program.goesAt Program.goesFrom
  rw [hs]
  cases P.funcNamed c.func with
  | none => rfl
  | some f => rw [Option.any_some, hg]; rfl
theorem f_goes : false = Rows.scriptNilRow.goesBy Tryz.prog := goes_none _ _ rfl f_nogo
theorem and2 {a b : Bool} (h : a = true) (k : b = true) : (a && b) = true := by rw [h, k]; rfl
set_option maxRecDepth 100000 in
theorem closed : joinedFacts Tryz.prog 3 Tryz.f3 Rows.scriptNilSpec Rows.scriptNilRow = true := by
  unfold joinedFacts
  exact (and2 (and2 (and2 (and2 (and2 (and2 (and2 (and2 (and2 (and2 (and2 (and2 (and2 (and2 (and2 (and2 (and2 (and2 (and2 (and2 (and2 (and2 (and2 (and2 (and2 (and2 (and2 (and2 (and2 (and2 (and2 c_0 c_1) c_2) c_3) c_4) c_5) c_6) c_7) c_8) c_9) c_10) c_11) c_12) c_13) c_14) c_15) c_16) c_17) c_18) c_19) c_20) c_21) c_22) c_23) c_24) c_25) c_26) c_27) c_28) c_29) c_30) c_31)
end Go.Proofs.YtkbanaaljebhiaaGreatDoor.scriptNil
