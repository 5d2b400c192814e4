/- Find of a record that is there: nothing turns. -/
import Derived.Test.YtfcklfpgjadfmaaFindS
import Derived.Test.YtfcklfpgjadfmaaStoreP
namespace Go.Proofs.Ytfcklfpgjadfmaa
open Go.RowKit Go.Sort
set_option linter.unusedSimpArgs false
set_option linter.unusedVariables false

set_option maxRecDepth 100000 in
set_option maxHeartbeats 4000000 in
theorem find_hit (F : List Nat) (g n room id : Nat) (cs : List (Option Rec)) (r : Rec) (w : World) (h : StoreAt w F g n room cs []) (hr : r.Wf) (hit : idOf cs r = some id) :
    Calls Try.prog 60 #[.pointer (some ⟨g, 0, none⟩), .agg r.cells.toArray] w fun e w' => e = .returned (.tuple #[.int .u32 id, .int .u8 (0 : Nat)]) ∧ Below w.heap.size w w' := by
  have HIT0 := Lib.hid hit
  clear hit
  have hst := h
  obtain ⟨ga, gi, Fa, Fi, m, hB, hA, hI, h4, hFe, h6, h7⟩ := h
  have hlt := hB.lt
  have HR := Lib.hid hr
  have HST := Lib.hid hst
  have HOK := Lib.hid h7
  have HM4 := Lib.hid h4
  have HFE := Lib.hid hFe
  have HND := Lib.hid h6
  have HID := Lib.hid (fun r => idOf_eq h4 r)
  obtain ⟨f, t, b, ⟨lt, lp⟩, ⟨ht, hp⟩⟩ := r
  obtain ⟨⟨r1, r2⟩, ⟨r3, r4⟩, ⟨r5, r6⟩, ⟨r7, r8, r9, r10⟩, ⟨r11, r12, r13, r14⟩⟩ := hr
  simp only at r1 r2 r3 r4 r5 r6 r7 r8 r9 r10 r11 r12 r13 r14
  simp only [Rec.cells]
  obtain ⟨W, hW⟩ : ∃ W, W = w.alloc (.cells #[.int .u8 f, .int .u8 t, .int .u8 b, .int .u8 lt, .int .u32 lp, .int .u8 ht, .int .u32 hp] 69) := ⟨_, rfl⟩
  have hbW : Below w.heap.size w W := by rw [hW]; exact (Below.refl _ _).alloc (Nat.le_refl _) _
  have hK : Blk W w.heap.size 69 #[.int .u8 f, .int .u8 t, .int .u8 b, .int .u8 lt, .int .u32 lp, .int .u8 ht, .int .u32 hp] := by rw [hW]; exact Blk.new w _ _
  have hkW := hK.lt
  have hgW : g < W.heap.size := by have := hbW.size; omega
  have HWW := Lib.hid hW
  have HbW := Lib.hid hbW
  have HI := Lib.hid (hI.on hbW)
  have HA := Lib.hid (hA.on hbW)
  have HSW := Lib.hid (hst.on hbW)
  have HBW := Lib.hid (hB.on' hbW)
  have FACTS : Hid (∀ W', Below W.heap.size W W' → W'.cell? ⟨g, 2, none⟩ = some (.pointer (some ⟨gi, 0, none⟩)) ∧ W'.cell? ⟨w.heap.size, 0, none⟩ = some (.int .u8 f) ∧ W'.cell? ⟨w.heap.size, 1, none⟩ = some (.int .u8 t) ∧ W'.cell? ⟨w.heap.size, 2, none⟩ = some (.int .u8 b) ∧ W'.cell? ⟨w.heap.size, 3, none⟩ = some (.int .u8 lt) ∧ W'.cell? ⟨w.heap.size, 4, none⟩ = some (.int .u32 lp) ∧ W'.cell? ⟨w.heap.size, 5, none⟩ = some (.int .u8 ht) ∧ W'.cell? ⟨w.heap.size, 6, none⟩ = some (.int .u32 hp)) := Lib.hid fun W' hW' => ⟨(hW'.cell (p := ⟨g, 2, none⟩) hgW).trans ((hB.on' hbW).cell 2), (hW'.cell (p := ⟨w.heap.size, 0, none⟩) hkW).trans (hK.cell 0), (hW'.cell (p := ⟨w.heap.size, 1, none⟩) hkW).trans (hK.cell 1), (hW'.cell (p := ⟨w.heap.size, 2, none⟩) hkW).trans (hK.cell 2), (hW'.cell (p := ⟨w.heap.size, 3, none⟩) hkW).trans (hK.cell 3), (hW'.cell (p := ⟨w.heap.size, 4, none⟩) hkW).trans (hK.cell 4), (hW'.cell (p := ⟨w.heap.size, 5, none⟩) hkW).trans (hK.cell 5), (hW'.cell (p := ⟨w.heap.size, 6, none⟩) hkW).trans (hK.cell 6)⟩
  have hGT : ∀ W', Below W.heap.size W W' → Calls Try.prog 74 #[.pointer (some ⟨gi, 0, none⟩), .agg #[.int .u8 f, .int .u8 t, .int .u8 b, .int .u8 lt, .int .u32 lp, .int .u8 ht, .int .u32 hp]] W' fun r w' => r = .returned (getV (idOf cs ⟨f, t, b, ⟨lt, lp⟩, ⟨ht, hp⟩⟩)) ∧ Below W.heap.size W w' := fun W' hW' => by
    have h := idxGet_any Fi gi (cntC cs) m ⟨f, t, b, ⟨lt, lp⟩, ⟨ht, hp⟩⟩ W' (HI.out.on hW') HR.out
    rw [HID.out] at h
    exact h.mono fun _ _ ⟨q1, q2⟩ => ⟨q1, hW'.trans (q2.mono hW'.size)⟩
  have HGT := Lib.hid hGT
  have FACTS7 : Hid (∀ W', Below W.heap.size W W' → W'.cell? ⟨g, 0, none⟩ = some (.int .i64 (n : Nat)) ∧ W'.cell? ⟨w.heap.size, 0, none⟩ = some (.int .u8 f) ∧ W'.cell? ⟨w.heap.size, 1, none⟩ = some (.int .u8 t) ∧ W'.cell? ⟨w.heap.size, 2, none⟩ = some (.int .u8 b) ∧ W'.cell? ⟨w.heap.size, 3, none⟩ = some (.int .u8 lt) ∧ W'.cell? ⟨w.heap.size, 4, none⟩ = some (.int .u32 lp) ∧ W'.cell? ⟨w.heap.size, 5, none⟩ = some (.int .u8 ht) ∧ W'.cell? ⟨w.heap.size, 6, none⟩ = some (.int .u32 hp)) := Lib.hid fun W' hW' => ⟨(hW'.cell (p := ⟨g, 0, none⟩) hgW).trans ((hB.on' hbW).cell 0), (hW'.cell (p := ⟨w.heap.size, 0, none⟩) hkW).trans (hK.cell 0), (hW'.cell (p := ⟨w.heap.size, 1, none⟩) hkW).trans (hK.cell 1), (hW'.cell (p := ⟨w.heap.size, 2, none⟩) hkW).trans (hK.cell 2), (hW'.cell (p := ⟨w.heap.size, 3, none⟩) hkW).trans (hK.cell 3), (hW'.cell (p := ⟨w.heap.size, 4, none⟩) hkW).trans (hK.cell 4), (hW'.cell (p := ⟨w.heap.size, 5, none⟩) hkW).trans (hK.cell 5), (hW'.cell (p := ⟨w.heap.size, 6, none⟩) hkW).trans (hK.cell 6)⟩
  have hbox : w.heap.size ∉ Fa := fun h => by have := hA.lt _ h; omega
  have hgFa : g ∉ Fa := fun h => by rw [hFe, List.nodup_cons] at h6; exact h6.1 (by simp [h])
  have hgFi : g ∉ Fi := fun h => by rw [hFe, List.nodup_cons] at h6; exact h6.1 (by simp [h])
  have hboxi : w.heap.size ∉ Fi := fun h => by have := hI.lt _ h; omega
  have hgG : g ∉ Fa ++ Fi := by simp [hgFa, hgFi]
  have hboxG : w.heap.size ∉ Fa ++ Fi := by simp [hbox, hboxi]
  have hdis : ∀ k ∈ Fi, ¬ k ∈ Fa := fun k hk hk2 => by rw [hFe, List.nodup_cons, List.nodup_append] at h6; exact h6.2.2.2 k hk2 k hk rfl
  have FACTS9 : Hid (∀ W', Chg (Fa ++ Fi) W W' → W'.cell? ⟨g, 1, none⟩ = some (.pointer (some ⟨ga, 0, none⟩)) ∧ W'.cell? ⟨w.heap.size, 0, none⟩ = some (.int .u8 f) ∧ W'.cell? ⟨w.heap.size, 1, none⟩ = some (.int .u8 t) ∧ W'.cell? ⟨w.heap.size, 2, none⟩ = some (.int .u8 b) ∧ W'.cell? ⟨w.heap.size, 3, none⟩ = some (.int .u8 lt) ∧ W'.cell? ⟨w.heap.size, 4, none⟩ = some (.int .u32 lp) ∧ W'.cell? ⟨w.heap.size, 5, none⟩ = some (.int .u8 ht) ∧ W'.cell? ⟨w.heap.size, 6, none⟩ = some (.int .u32 hp)) := Lib.hid fun W' hW' => ⟨(hW'.cell (p := ⟨g, 1, none⟩) hgW hgG).trans ((hB.on' hbW).cell 1), (hW'.cell (p := ⟨w.heap.size, 0, none⟩) hkW hboxG).trans (hK.cell 0), (hW'.cell (p := ⟨w.heap.size, 1, none⟩) hkW hboxG).trans (hK.cell 1), (hW'.cell (p := ⟨w.heap.size, 2, none⟩) hkW hboxG).trans (hK.cell 2), (hW'.cell (p := ⟨w.heap.size, 3, none⟩) hkW hboxG).trans (hK.cell 3), (hW'.cell (p := ⟨w.heap.size, 4, none⟩) hkW hboxG).trans (hK.cell 4), (hW'.cell (p := ⟨w.heap.size, 5, none⟩) hkW hboxG).trans (hK.cell 5), (hW'.cell (p := ⟨w.heap.size, 6, none⟩) hkW hboxG).trans (hK.cell 6)⟩
  have FACTS12 : Hid (∀ W', Chg (Fa ++ Fi) W W' → W'.cell? ⟨g, 2, none⟩ = some (.pointer (some ⟨gi, 0, none⟩)) ∧ W'.cell? ⟨w.heap.size, 0, none⟩ = some (.int .u8 f) ∧ W'.cell? ⟨w.heap.size, 1, none⟩ = some (.int .u8 t) ∧ W'.cell? ⟨w.heap.size, 2, none⟩ = some (.int .u8 b) ∧ W'.cell? ⟨w.heap.size, 3, none⟩ = some (.int .u8 lt) ∧ W'.cell? ⟨w.heap.size, 4, none⟩ = some (.int .u32 lp) ∧ W'.cell? ⟨w.heap.size, 5, none⟩ = some (.int .u8 ht) ∧ W'.cell? ⟨w.heap.size, 6, none⟩ = some (.int .u32 hp)) := Lib.hid fun W' hW' => ⟨(hW'.cell (p := ⟨g, 2, none⟩) hgW hgG).trans ((hB.on' hbW).cell 2), (hW'.cell (p := ⟨w.heap.size, 0, none⟩) hkW hboxG).trans (hK.cell 0), (hW'.cell (p := ⟨w.heap.size, 1, none⟩) hkW hboxG).trans (hK.cell 1), (hW'.cell (p := ⟨w.heap.size, 2, none⟩) hkW hboxG).trans (hK.cell 2), (hW'.cell (p := ⟨w.heap.size, 3, none⟩) hkW hboxG).trans (hK.cell 3), (hW'.cell (p := ⟨w.heap.size, 4, none⟩) hkW hboxG).trans (hK.cell 4), (hW'.cell (p := ⟨w.heap.size, 5, none⟩) hkW hboxG).trans (hK.cell 5), (hW'.cell (p := ⟨w.heap.size, 6, none⟩) hkW hboxG).trans (hK.cell 6)⟩
  have HDIS := Lib.hid hdis
  have hRI : ∀ W', Below W.heap.size W W' → Calls Try.prog 75 #[.agg #[.int .u8 f, .int .u8 t, .int .u8 b, .int .u8 lt, .int .u32 lp, .int .u8 ht, .int .u32 hp], .int .i64 (n : Nat)] W' fun r w' => r = .returned (.bool (right ⟨f, t, b, ⟨lt, lp⟩, ⟨ht, hp⟩⟩ n)) ∧ Below W'.heap.size W' w' := fun W' hW' => (right_any ⟨f, t, b, ⟨lt, lp⟩, ⟨ht, hp⟩⟩ n W' HR.out (by have := HOK.out.n16; omega)).mono fun _ _ ⟨q1, q2⟩ => ⟨q1, q2⟩
  have HRI := Lib.hid hRI
  have hLO : ∀ W', Below W.heap.size W W' → Calls Try.prog 59 #[.pointer (some ⟨g, 0, none⟩), .int .u8 f, .agg #[.int .u8 lt, .int .u32 lp], .int .i64 (b + 1)] W' fun r w' => r = .returned (.bool (leads cs n f ⟨lt, lp⟩ (b + 1))) ∧ Below W'.heap.size W' w' := fun W' hW' => (leads_any F g n room cs [] f ⟨lt, lp⟩ (b + 1) W' (HSW.out.on hW') ⟨r1, r2⟩ ⟨r7, r8, r9, r10⟩).mono fun _ _ ⟨q1, q2⟩ => ⟨q1, q2⟩
  have HLO := Lib.hid hLO
  have hHI : ∀ W', Below W.heap.size W W' → Calls Try.prog 59 #[.pointer (some ⟨g, 0, none⟩), .int .u8 f, .agg #[.int .u8 ht, .int .u32 hp], .int .i64 (b + 1)] W' fun r w' => r = .returned (.bool (leads cs n f ⟨ht, hp⟩ (b + 1))) ∧ Below W'.heap.size W' w' := fun W' hW' => (leads_any F g n room cs [] f ⟨ht, hp⟩ (b + 1) W' (HSW.out.on hW') ⟨r1, r2⟩ ⟨r11, r12, r13, r14⟩).mono fun _ _ ⟨q1, q2⟩ => ⟨q1, q2⟩
  have HHI := Lib.hid hHI
  have hk0 := FACTS.out _ (Below.refl _ _)
  clear hB hA hI h4 hFe h6 h7 hst hbW hK hGT hRI hLO hHI hgG hboxG hdis hbox hgFa hboxi hgFi r3 r4 r7 r8 r9 r10 r11 r12 r13 r14
  have hx := HIT0.out
  have HX := Lib.hid hx
  clear hx
  go_enter Try.func60, Try.ntmps60
  go_wp2_with fail
  rw [← HWW.out]
  clear hW
  have j0 : ∀ d os, (grow (redrawn W d) os).cell? ⟨g, 2, none⟩ = some (.pointer (some ⟨gi, 0, none⟩)) := fun d os => cell_regrown (FACTS.out W (Below.refl _ _)).1 d os
  have j1 : ∀ d os, (grow (redrawn W d) os).cell? ⟨w.heap.size, 0, none⟩ = some (.int .u8 f) := fun d os => cell_regrown (FACTS.out W (Below.refl _ _)).2.1 d os
  have j2 : ∀ d os, (grow (redrawn W d) os).cell? ⟨w.heap.size, 1, none⟩ = some (.int .u8 t) := fun d os => cell_regrown (FACTS.out W (Below.refl _ _)).2.2.1 d os
  have j3 : ∀ d os, (grow (redrawn W d) os).cell? ⟨w.heap.size, 2, none⟩ = some (.int .u8 b) := fun d os => cell_regrown (FACTS.out W (Below.refl _ _)).2.2.2.1 d os
  have j4 : ∀ d os, (grow (redrawn W d) os).cell? ⟨w.heap.size, 3, none⟩ = some (.int .u8 lt) := fun d os => cell_regrown (FACTS.out W (Below.refl _ _)).2.2.2.2.1 d os
  have j5 : ∀ d os, (grow (redrawn W d) os).cell? ⟨w.heap.size, 4, none⟩ = some (.int .u32 lp) := fun d os => cell_regrown (FACTS.out W (Below.refl _ _)).2.2.2.2.2.1 d os
  have j6 : ∀ d os, (grow (redrawn W d) os).cell? ⟨w.heap.size, 5, none⟩ = some (.int .u8 ht) := fun d os => cell_regrown (FACTS.out W (Below.refl _ _)).2.2.2.2.2.2.1 d os
  have j7 : ∀ d os, (grow (redrawn W d) os).cell? ⟨w.heap.size, 6, none⟩ = some (.int .u32 hp) := fun d os => cell_regrown (FACTS.out W (Below.refl _ _)).2.2.2.2.2.2.2 d os
  have cGT := regrown_calls HGT.out
  rw [HX.out] at cGT
  unfold getV at cGT
  simp only at cGT
  refine wp_region_quiet_below (by kernel_rfl) (by kernel_rfl) ?_
  repeat (first | go_big_quiet_step ((first | with_reducible exact cGT _ _ | fail)) | quiet_step ((first | with_reducible exact cGT _ _ | fail)))
  refine wpQuiet_nil ?_
  intro w6 hw'
  have hbel6 : Below W.heap.size W w6 := regrown_below hw'
  clear hw'
  clear cGT j0 j1 j2 j3 j4 j5 j6 j7
  go_wp2_with fail
  go_ret2
  have hbf := HbW.out.trans (hbel6.mono HbW.out.size)
  exact ⟨rfl, hbf⟩
end Go.Proofs.Ytfcklfpgjadfmaa
