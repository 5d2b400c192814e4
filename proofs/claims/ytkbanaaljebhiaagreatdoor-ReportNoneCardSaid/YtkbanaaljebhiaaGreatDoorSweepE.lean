/- Contracts: what an empty list reaches; a sweep of a store without nodes. -/
import Derived.Test.YtkbanaaljebhiaaGreatDoorMgrE
import Derived.Test.YtkbanaaljebhiaaGreatDoorSeqF
import Derived.LoopIn
import Derived.Shelf.Abstract
import Derived.OwnWalkIn
import Derived.TacticsInMore
namespace Go.Proofs.YtkbanaaljebhiaaGreatDoor
open Go Go.RowKit
set_option linter.unusedSimpArgs false
set_option linter.unusedVariables false

theorem below_put {B D : Nat} {w V : World} (h : Below B w V) (hD : B ≤ D) (o : Obj) : Below B w (V.putObj D o) :=
  ⟨h.os, h.tape, h.output, by rw [World.putObj_size]; exact h.size, fun k hk => by rw [World.putObj_heap_other (by omega)]; exact h.block k hk⟩
set_option maxRecDepth 100000 in
set_option maxHeartbeats 4000000 in
theorem reached_nil (gs : Nat) (w : World) : Calls Tryz.prog 162 #[.pointer (some ⟨gs, 0, none⟩), .slice none 0 0] w fun e w' => (∃ q, e = .returned (.map (some q))) ∧ Below w.heap.size w w' := by
  go_enter Tryz.func162, Tryz.ntmps162
  go_wp2_with fail
  rw [show ∀ W, (Instr.makeMap 231 none).run Tryz.prog W = .ok (.map (some W.heap.size)) (W.alloc (.map #[] 0)) from fun _ => rfl]
  simp only [Result.andThen]
  rw [Oper.upon_value]
  go_wp2_with fail
  rw [run_store _ _ _ _ _ rfl, World.cell?_alloc_at _ _ _ _ (by simp), World.frozen?_alloc_at _ _ _ _ (by simp)]
  simp only [Result.andThen]
  go_wp2_with fail
  go_loopw [13] (fun i wr => i = .int .i64 0 ∧ Below w.heap.size w wr ∧ wr.cell? ⟨w.heap.size + 1 + 1, 0, none⟩ = some (.map (some (w.heap.size + 1)))) (fun _ _ => 0)
  case atStart =>
    refine ⟨rfl, ?_, by simp [go_sem]⟩
    repeat (first | exact Below.refl _ _ | refine Below.setCell ?_ (by simp only; omega) _ | refine Below.alloc ?_ (by first | exact Nat.le_refl _ | (simp; done) | (simp; omega)) _)
  case round =>
    obtain ⟨rfl, hb, hc⟩ := hrel
    go_wp2_with fail
    go_ret
    exact ⟨⟨_, rfl⟩, hb⟩
set_option maxRecDepth 100000 in
theorem arenaIds_any (ga : Nat) (w : World) : Calls Tryz.prog 163 #[.pointer (some ⟨ga, 0, none⟩)] w fun e w' => e = .returned (.func (.func 224) #[] #[.pointer (some ⟨w.heap.size, 0, none⟩)]) ∧ w' = w.alloc (.cells #[.pointer (some ⟨ga, 0, none⟩)] 142) := by
  go_enter Tryz.func163, Tryz.ntmps163
  go_wp2_with fail
  go_ret
  exact ⟨rfl, rfl⟩
section
attribute [local go_sem] Oper.semAt_some
set_option maxRecDepth 100000 in
set_option maxHeartbeats 4000000 in
theorem ids_none (b ga : Nat) (F : List Nat) (room : Nat) (w : World) (hb : Blk w b 142 #[.pointer (some ⟨ga, 0, none⟩)]) (hA : ArenaAt w F ga [] [] room) :
    SeqRuns Tryz.prog 224 #[.pointer (some ⟨b, 0, none⟩)] (fun x : Nat => #[Value.int .u32 (x : Int)]) (fun _ => False) [] w := by
  intro l I Ix Fp0 W hW hR hI hIx bI bIx hY h0
  obtain ⟨A, n, c, A', n', c', hB, h1, h2, h3, h4, _, _⟩ := hA
  have hn0 : n = 0 := by simpa using h3.symm
  subst hn0
  have k0 := (hb.onB hW).cell 0
  have k1 : W.cell? ⟨ga, 0, none⟩ = some (.slice A 0 c) := (hB.onB hW).cell 0
  have H0 := Lib.hid h0
  clear hb hB h1 h2 h3 h4 hI hIx bI bIx hY h0 hR hW
  refine callsIn_of_wp Tryz.func224 rfl trivial ?_ rfl
  simp only [Tryz.ntmps224, List.size_toArray, List.length_cons, List.length_nil, Nat.reduceAdd, Nat.reduceSub, Array.replicate_succ, Array.replicate_zero, List.push_toArray, List.append_toArray, List.nil_append, List.cons_append]
  gi_wp2_with fail
  gi_loopw [11] (fun i wr => i = .int .i64 0 ∧ wr = W) (fun _ _ => 0)
  case atStart => exact ⟨rfl, rfl⟩
  case round =>
    obtain ⟨rfl, rfl⟩ := hrel
    gi_wp2_with fail
    go_end0
    exact ⟨⟨_, rfl⟩, Fp0, .inl H0.out⟩
set_option maxRecDepth 100000 in
set_option maxHeartbeats 8000000 in
theorem sweep_none (F : List Nat) (gs n room : Nat) (w : World) (h : StoreAt w F gs n room [] []) : Calls Tryz.prog 78 #[.pointer (some ⟨gs, 0, none⟩), .slice none 0 0] w fun e w' => e = .returned (.int .i64 0) ∧ Below w.heap.size w w' := by
  obtain ⟨ga, gi, Fa, Fi, m, hB, hA, _, _, _, _⟩ := h
  have HR := Lib.hid (fun W => reached_nil gs W)
  have HI := Lib.hid (fun W => arenaIds_any ga W)
  have HB := Lib.hid hB
  have HA := Lib.hid hA
  clear hB hA
  refine (callsIn_wide (n := 0)).1 ?_
  refine callsIn_of_wp_marks Tryz.func78 rfl trivial ?_ rfl
  simp only [Tryz.ntmps78, List.size_toArray, List.length_cons, List.length_nil, Nat.reduceAdd, Nat.reduceSub, Array.replicate_succ, Array.replicate_zero, List.push_toArray, List.append_toArray, List.nil_append, List.cons_append]
  gi_wp2_with fail
  refine ⟨trivial, rfl, ?_⟩
  refine (callsIn_wide.2 (HR.out _)).mono ?_
  rintro e w1 ⟨⟨q, rfl⟩, hb1⟩
  have k1 : w1.cell? ⟨gs, 1, none⟩ = some (.pointer (some ⟨ga, 0, none⟩)) := (HB.out.onB hb1).cell 1
  have hgl := (HB.out.onB hb1).lt
  have HB1 := Lib.hid hb1
  clear hb1
  gi_wp2_with fail
  refine ⟨trivial, rfl, ?_⟩
  refine (callsIn_wide.2 (HI.out _)).mono ?_
  rintro e w' ⟨rfl, rfl⟩
  gi_wp2_with fail
  obtain ⟨W3, hW3⟩ : ∃ W3, W3 = ((w1.alloc (.cells #[.map (some q)] 231)).alloc (.cells #[.slice none 0 0] 233)).alloc (.cells #[.pointer (some ⟨ga, 0, none⟩)] 142) := ⟨_, rfl⟩
  rw [← hW3]
  have hs3 : W3.heap.size = w1.heap.size + 3 := by rw [hW3]; simp
  have hb3 : Below w1.heap.size w1 W3 := by rw [hW3]; exact (((Below.refl _ _).alloc (Nat.le_refl _) _).alloc (by simp) _).alloc (by simp; omega) _
  have kb : Blk W3 (w1.heap.size + 1) 233 #[.slice none 0 0] := by
    rw [hW3]
    have := (Blk.new (w1.alloc (.cells #[.map (some q)] 231)) 233 #[.slice none 0 0]).alloc (.cells #[.pointer (some ⟨ga, 0, none⟩)] 142)
    rwa [World.size_alloc] at this
  have kx : Blk W3 (w1.heap.size + 1 + 1) 142 #[.pointer (some ⟨ga, 0, none⟩)] := by
    rw [hW3]
    have := Blk.new ((w1.alloc (.cells #[.map (some q)] 231)).alloc (.cells #[.slice none 0 0] 233)) 142 #[.pointer (some ⟨ga, 0, none⟩)]
    rwa [World.size_alloc, World.size_alloc] at this
  have hbw : Below w.heap.size w W3 := HB1.out.trans (hb3.mono HB1.out.size)
  have HSQ := Lib.hid (ids_none (w1.heap.size + 1 + 1) ga Fa room W3 kx (HA.out.on hbw))
  have HSZ := Lib.hid hs3
  clear hW3 kx hs3 k1 hgl hb3
  refine' wpIn_rangeFunc_fp (gf := 224) (lb := #[.pointer (some ⟨w1.heap.size + 1 + 1, 0, none⟩)]) rfl (Go.Proofs.enters_of Tryz.func224 (by kernel_rfl) rfl) HSQ.out (fun _ => rfl)
    (fun Fp pre V => Fp = [] ∧ Blk V (w1.heap.size + 1) 233 #[.slice none 0 0] ∧ Below w.heap.size w V)
    (fun _ _ _ _ => False)
    ?loc (fun _ _ _ _ _ h => h.elim) ?bnd (fun _ _ _ _ h => h.elim) [] (by simp) (fun _ h => h.elim) ⟨rfl, kb, hbw⟩
    _ ?assign ?body ?done ?stop
  case loc =>
    rintro Fp pre V V' ⟨rfl, hb, hbl⟩ e1 e2 e3 e4 e5
    exact ⟨rfl, (e5 _ hb.lt (.inl (by rw [HSZ.out]; omega))).trans hb, ⟨e1.trans hbl.os, e2.trans hbl.tape, e3.trans hbl.output, Nat.le_trans hbl.size e4, fun k hk => (e5 k (Nat.lt_of_lt_of_le hk hbl.size) (.inl (by have := HSZ.out; have := HB1.out.size; omega))).trans (hbl.block k hk)⟩⟩
  case bnd =>
    rintro Fp pre V ⟨rfl, _⟩ k hk
    simp at hk
  case assign =>
    intro l' x V K hK
    gi_wp2
    exact hK
  case body =>
    rintro l' Fp pre x V _ _ hpre
    have := hpre.length_le
    simp at this
  case done =>
    rintro D Fp V hD nD ⟨rfl, hb, hbl⟩ hK
    have q0 : V.cell? ⟨w1.heap.size + 1, 0, none⟩ = some (.slice none 0 0) := hb.cell 0
    have HBL := Lib.hid hbl
    have HK := Lib.hid hK
    clear hb hbl hK
    gi_wp2_with fail
    gi_loopw [33] (fun i wr => i = .int .i64 0 ∧ wr = V) (fun _ _ => 0)
    case atStart => exact ⟨rfl, rfl⟩
    case round =>
      obtain ⟨rfl, rfl⟩ := hrel
      gi_wp2_with fail
      refine ⟨by simp, .inl ⟨_, _, rfl, run_takeDeferred HK.out, ?_⟩⟩
      exact ⟨_, results_tmp rfl _ _ _, rfl, below_put HBL.out (by have := HSZ.out; have := HB1.out.size; omega) _⟩
  case stop =>
    rintro D c Fp pre V hD nD hpre h hK
    exact h.elim
end
end Go.Proofs.YtkbanaaljebhiaaGreatDoor
