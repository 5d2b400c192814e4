/- What the document's store holds behind a new record. Contract: the document's store's Find. -/
import Derived.Test.YtpjciaomhfeeeaaGreatMaa
import Derived.Deep.RegionLaw
import Derived.Deep.AppendLies
section
namespace Go.Proofs.YtpjciaomhfeeeaaGreat
open Go.RowKit Go.Sort
set_option linter.unusedSimpArgs false
set_option linter.unusedVariables false

def findR (n room : Nat) (rs : List Rec) (r : Rec) : Nat × Nat × List Rec :=
  match idOf (rs.map some) r with
  | some id => (id, 0, rs)
  | none => if right r n && leads (rs.map some) n r.form r.lo (r.bot + 1) && leads (rs.map some) n r.form r.hi (r.bot + 1) then (if rs.length < room then (rs.length + 2, 0, rs ++ [r]) else (0, 6, rs)) else (0, 1, rs)
theorem cntC_map (rs : List Rec) : cntC (rs.map some) = rs.length := by
  unfold cntC
  rw [List.countP_eq_length.2, List.length_map]
  intro x hx
  obtain ⟨y, _, rfl⟩ := List.mem_map.1 hx
  rfl
theorem findR_eq (n room : Nat) (rs : List Rec) (r : Rec) : findP n room (rs.map some) r = ((findR n room rs r).1, (findR n room rs r).2.1, (findR n room rs r).2.2.map some) := by
  unfold findP findR
  rw [cntC_map]
  cases idOf (rs.map some) r with
  | some id => rfl
  | none =>
    simp only
    split
    · split
      · simp
      · rfl
    · rfl
theorem ref_end {w W w1 : World} {F : List Nat} {g len c n room g1 cap : Nat} {A : Option Addr} {rs : List Rec} {r : Rec} {O : Obj} (hch : Chg [g] w W) (hF : F = g :: blk (.slice A len c)) (hlt : ∀ k ∈ F, k < w.heap.size) (hnd : F.Nodup) (hl : rs.length = len)
    (hBW : Blk W g 58 #[.slice A len c, .slice none 0 0, .int .u32 ((rs.length : Int) + 1), .int .i64 (n : Nat), .int .i64 (room : Nat)])
    (hgrow : ((W.alloc O).drew).grownBy w1 (Value.slice A len c).ownBlock) (hown : w1.ownsRow 0 91 8 (.slice (some ⟨g1, 0, none⟩) (len + 1) cap) (len + 1) ((nodesOf rs).flatMap nodeEnc ++ nodeEnc (((rs.length + 2 : Nat) : Int), r)))
    (hat : (Value.slice A len c).ownBlock = some g1 ∨ g1 = ((W.alloc O).drew).heap.size) :
    Turns (fun W X => RefAt W X g n room (rs ++ [r])) F w (w1.setCell ⟨g, 0, none⟩ (.slice (some ⟨g1, 0, none⟩) (len + 1) cap)) := by
  subst hF
  have hgW : g < W.heap.size := hBW.lt
  have hsz := hch.size
  rw [List.nodup_cons] at hnd
  obtain ⟨hn1, _⟩ := hnd
  have hrow : ∀ k, (Value.slice A len c).ownBlock = some k → k ∈ blk (.slice A len c) := fun k hk => mem_blk.2 hk
  have hgne : some g ≠ (Value.slice A len c).ownBlock := fun e => hn1 (hrow g e.symm)
  have hg1 : g1 ≠ g := by
    rintro rfl
    rcases hat with h | h
    · exact hgne h.symm
    · simp at h; omega
  have hchW1 : Chg (blk (.slice A len c)) W w1 := (((Chg.refl (blk (.slice A len c)) W).alloc O).drew).trans (chg_of_grown hgrow hrow) (fun x hx => .inl hx)
  have hset : Chg [g] w1 (w1.setCell ⟨g, 0, none⟩ (.slice (some ⟨g1, 0, none⟩) (len + 1) cap)) := (Chg.refl _ _).setCell (.inl (by simp)) _
  have hB1 : Blk w1 g _ _ := hBW.chg hchW1 (fun h => hn1 h)
  refine ⟨⟨g :: blk (.slice (some ⟨g1, 0, none⟩) (len + 1) cap), ⟨_, len + 1, cap, ?_, ?_, by simp [hl], rfl, ?_⟩, ?_⟩, ?_⟩
  · have := hB1.set_ 0 (.slice (some ⟨g1, 0, none⟩) (len + 1) cap)
    have e : (((rs ++ [r]).length : Nat) : Int) = (rs.length : Int) + 1 := by simp
    rw [e]
    exact this
  · have h1 : OwnS 8 nodeEnc 91 w1 0 (.slice (some ⟨g1, 0, none⟩) (len + 1) cap) (nodesOf (rs ++ [r])) := by
      unfold OwnS
      rw [nodesOf_snoc, List.flatMap_append, List.length_append, nodesOf_len, hl]
      rw [hl] at hown
      simpa using hown
    exact h1.chg hset (fun k hk hm => by simp [mem_blk, Value.ownBlock] at hk hm; omega)
  · rw [List.nodup_cons]
    refine ⟨fun h => ?_, ?_⟩
    · simp [mem_blk, Value.ownBlock] at h; omega
    · simp [blk, Value.ownBlock]
  · intro k hk
    rcases List.mem_cons.1 hk with rfl | hk
    · exact .inl (by simp)
    · simp [mem_blk, Value.ownBlock] at hk
      subst hk
      rcases hat with h | h
      · exact .inl (by simp [hrow g1 h])
      · right; simp at h; omega
  · exact ((hch.mono (G := g :: blk (.slice A len c)) (fun x hx => .inl (by simp at hx; simp [hx]))).trans hchW1 (fun x hx => .inl (by simp [hx]))).trans hset (fun x hx => .inl (by simp at hx; simp [hx]))
theorem info_node : (Tryz.prog.info? 91).map (fun i => (i.zero, i.size, i.bytes)) = some (some (.agg (nodeEnc (0, Rec.nil)).toArray), 8, 24) := by kernel_rfl
end Go.Proofs.YtpjciaomhfeeeaaGreat
end

section
namespace Go.Proofs.YtpjciaomhfeeeaaGreat
open Go.RowKit Go.Sort
set_option linter.unusedSimpArgs false
set_option linter.unusedVariables false

set_option maxRecDepth 100000 in
set_option maxHeartbeats 4000000 in
theorem refFind_any (F : List Nat) (g n room : Nat) (rs : List Rec) (r : Rec) (w : World) (h : RefAt w F g n room rs) (hr : r.Wf) (hwf : ∀ r ∈ rs, r.Wf) (hn : n ≤ 16) (hroom : room ≤ 1048576) (hlen : rs.length ≤ room) :
    Calls Tryz.prog 20 #[.pointer (some ⟨g, 0, none⟩), .agg r.cells.toArray] w fun e w' => e = .returned (.tuple #[.int .u32 (findR n room rs r).1, .int .i64 (findR n room rs r).2.1]) ∧ Turns (fun W X => RefAt W X g n room (findR n room rs r).2.2) F w w' := by
  have HST := Lib.hid h
  have HR := Lib.hid hr
  have HWF := Lib.hid hwf
  have HLEN : Hid (rs.length ≤ 1048576) := Lib.hid (by omega)
  obtain ⟨f, t, b, ⟨lt, lp⟩, ⟨ht, hp⟩⟩ := r
  obtain ⟨⟨r1, r2⟩, ⟨r3, r4⟩, ⟨r5, r6⟩, ⟨r7, r8, r9, r10⟩, ⟨r11, r12, r13, r14⟩⟩ := hr
  simp only at r1 r2 r3 r4 r5 r6 r7 r8 r9 r10 r11 r12 r13 r14
  simp only [Rec.cells]
  obtain ⟨W, hW⟩ : ∃ W, W = w.alloc (.cells #[.int .u8 f, .int .u8 t, .int .u8 b, .int .u8 lt, .int .u32 lp, .int .u8 ht, .int .u32 hp] 62) := ⟨_, rfl⟩
  have hbW : Below w.heap.size w W := by rw [hW]; exact (Below.refl _ _).alloc (Nat.le_refl _) _
  have hK : Blk W w.heap.size 62 #[.int .u8 f, .int .u8 t, .int .u8 b, .int .u8 lt, .int .u32 lp, .int .u8 ht, .int .u32 hp] := by rw [hW]; exact Blk.new w _ _
  have hlt := h.lt
  have HSW := Lib.hid (HST.out.on hbW)
  obtain ⟨A, len, c, hB, hO, hl, hFe, hnd⟩ := HSW.out
  have HWW := Lib.hid hW
  have HbW := Lib.hid hbW
  have HK := Lib.hid hK
  have HB := Lib.hid hB
  have HO := Lib.hid hO
  have HL := Lib.hid hl
  have HFE := Lib.hid hFe
  have HND := Lib.hid hnd
  have HLTF := Lib.hid hlt
  have hHA := fun (W' : World) (hW' : Below W.heap.size W W') => refHas_any F g n room rs ⟨f, t, b, ⟨lt, lp⟩, ⟨ht, hp⟩⟩ W' (HSW.out.on hW') HLEN.out
  simp only [Rec.cells] at hHA
  have HHA := Lib.hid hHA
  have cRI := fun (w6 : World) => regrown_calls (W := w6) (fun W' hW' => (refRightR_any ⟨f, t, b, ⟨lt, lp⟩, ⟨ht, hp⟩⟩ n W' HR.out (by omega)).mono fun _ _ ⟨q1, q2⟩ => ⟨q1, hW'.trans (q2.mono hW'.size)⟩)
  have cLO := fun (w6 : World) (hb6 : Below W.heap.size W w6) => regrown_calls (W := w6) (fun W' hW' => (refLeads_any F g n room rs f ⟨lt, lp⟩ (b + 1) W' (HSW.out.on (hb6.trans (hW'.mono hb6.size))) ⟨r1, r2⟩ ⟨r7, r8, r9, r10⟩ HLEN.out HWF.out).mono fun _ _ ⟨q1, q2⟩ => ⟨q1, hW'.trans (q2.mono hW'.size)⟩)
  have cHI := fun (w6 : World) (hb6 : Below W.heap.size W w6) => regrown_calls (W := w6) (fun W' hW' => (refLeads_any F g n room rs f ⟨ht, hp⟩ (b + 1) W' (HSW.out.on (hb6.trans (hW'.mono hb6.size))) ⟨r1, r2⟩ ⟨r11, r12, r13, r14⟩ HLEN.out HWF.out).mono fun _ _ ⟨q1, q2⟩ => ⟨q1, hW'.trans (q2.mono hW'.size)⟩)
  simp only [Rec.cells, Edg.cells] at cRI cLO cHI
  have CRI := Lib.hid cRI
  have CLO := Lib.hid cLO
  have CHI := Lib.hid cHI
  clear h hbW hK hB hO hl hFe hnd hwf hlt hHA cRI cLO cHI r3 r4 r7 r8 r9 r10 r11 r12 r13 r14
  cases hx : idOf (rs.map some) ⟨f, t, b, ⟨lt, lp⟩, ⟨ht, hp⟩⟩ with  
  | some id =>
    have HX := Lib.hid hx
    have HFP : Hid (findR n room rs ⟨f, t, b, ⟨lt, lp⟩, ⟨ht, hp⟩⟩ = (id, 0, rs)) := Lib.hid (by unfold findR; rw [hx])
    have hid := idOf_le hx
    have hpos : (0 : Int) < (id : Int) := by omega
    clear hx hid
    go_enter Tryz.func20, Tryz.ntmps20
    go_wp2_with fail
    rw [← HWW.out]
    clear hW
    refine (HHA.out _ (Below.refl _ _)).mono ?_
    rintro e w6 ⟨rfl, hbel6⟩
    rw [HX.out]
    simp only [Option.getD_some]
    go_wp2_with fail
    go_ret2
    have hbf := HbW.out.trans (hbel6.mono HbW.out.size)
    rw [HFP.out]
    exact ⟨rfl, turns_of_below (HST.out.on hbf) hbf⟩
  | none =>
    have HX := Lib.hid hx
    clear hx
    cases hri : right ⟨f, t, b, ⟨lt, lp⟩, ⟨ht, hp⟩⟩ n
    · have HRT := Lib.hid hri
      have HFP : Hid (findR n room rs ⟨f, t, b, ⟨lt, lp⟩, ⟨ht, hp⟩⟩ = (0, 1, rs)) := Lib.hid (by unfold findR; rw [HX.out, hri]; rfl)
      clear hri
      go_enter Tryz.func20, Tryz.ntmps20
      go_wp2_with fail
      rw [← HWW.out]
      clear hW
      refine (HHA.out _ (Below.refl _ _)).mono ?_
      rintro e w6 ⟨rfl, hbel6⟩
      rw [HX.out]
      simp only [Option.getD_none]
      have hk2 : w6.cell? ⟨w.heap.size, 2, none⟩ = some (.int .u8 b) := (HK.out.on' hbel6).cell 2
      go_wp2_with fail
      clear hk2
      have j9 : ∀ d os, (grow (redrawn w6 d) os).cell? ⟨g, 3, none⟩ = some (.int .i64 (n : Nat)) := fun d os => cell_regrown ((HB.out.on' hbel6).cell 3) d os
      have j0 : ∀ d os, (grow (redrawn w6 d) os).cell? ⟨w.heap.size, 0, none⟩ = some (.int .u8 f) := fun d os => cell_regrown ((HK.out.on' hbel6).cell 0) d os
      have j1 : ∀ d os, (grow (redrawn w6 d) os).cell? ⟨w.heap.size, 1, none⟩ = some (.int .u8 t) := fun d os => cell_regrown ((HK.out.on' hbel6).cell 1) d os
      have j2 : ∀ d os, (grow (redrawn w6 d) os).cell? ⟨w.heap.size, 2, none⟩ = some (.int .u8 b) := fun d os => cell_regrown ((HK.out.on' hbel6).cell 2) d os
      have j3 : ∀ d os, (grow (redrawn w6 d) os).cell? ⟨w.heap.size, 3, none⟩ = some (.int .u8 lt) := fun d os => cell_regrown ((HK.out.on' hbel6).cell 3) d os
      have j4 : ∀ d os, (grow (redrawn w6 d) os).cell? ⟨w.heap.size, 4, none⟩ = some (.int .u32 lp) := fun d os => cell_regrown ((HK.out.on' hbel6).cell 4) d os
      have j5 : ∀ d os, (grow (redrawn w6 d) os).cell? ⟨w.heap.size, 5, none⟩ = some (.int .u8 ht) := fun d os => cell_regrown ((HK.out.on' hbel6).cell 5) d os
      have j6 : ∀ d os, (grow (redrawn w6 d) os).cell? ⟨w.heap.size, 6, none⟩ = some (.int .u32 hp) := fun d os => cell_regrown ((HK.out.on' hbel6).cell 6) d os
      have cRI := CRI.out w6
      rw [HRT.out] at cRI
      refine wp_region_quiet_below (by kernel_rfl) (by kernel_rfl) ?_
      repeat (first | go_big_quiet_step ((first | with_reducible exact cRI _ _ | fail)) | quiet_step ((first | with_reducible exact cRI _ _ | fail)))
      refine wpQuiet_nil ?_
      intro w9 hw'
      have hbel69 : Below w6.heap.size w6 w9 := regrown_below hw'
      clear hw'
      have hbel9 := hbel6.trans (hbel69.mono hbel6.size)
      clear cRI j9 j0 j1 j2 j3 j4 j5 j6
      go_wp2_with fail
      go_ret2
      have hbf := HbW.out.trans (hbel9.mono HbW.out.size)
      rw [HFP.out]
      exact ⟨rfl, turns_of_below (HST.out.on hbf) hbf⟩
    · have HRT := Lib.hid hri
      cases hlo : leads (rs.map some) n f ⟨lt, lp⟩ (b + 1)
      · have HLT := Lib.hid hlo
        have HFP : Hid (findR n room rs ⟨f, t, b, ⟨lt, lp⟩, ⟨ht, hp⟩⟩ = (0, 1, rs)) := Lib.hid (by unfold findR; rw [HX.out, hri, hlo]; rfl)
        clear hri hlo
        go_enter Tryz.func20, Tryz.ntmps20
        go_wp2_with fail
        rw [← HWW.out]
        clear hW
        refine (HHA.out _ (Below.refl _ _)).mono ?_
        rintro e w6 ⟨rfl, hbel6⟩
        rw [HX.out]
        simp only [Option.getD_none]
        have hk2 : w6.cell? ⟨w.heap.size, 2, none⟩ = some (.int .u8 b) := (HK.out.on' hbel6).cell 2
        go_wp2_with fail
        clear hk2
        have j9 : ∀ d os, (grow (redrawn w6 d) os).cell? ⟨g, 3, none⟩ = some (.int .i64 (n : Nat)) := fun d os => cell_regrown ((HB.out.on' hbel6).cell 3) d os
        have j0 : ∀ d os, (grow (redrawn w6 d) os).cell? ⟨w.heap.size, 0, none⟩ = some (.int .u8 f) := fun d os => cell_regrown ((HK.out.on' hbel6).cell 0) d os
        have j1 : ∀ d os, (grow (redrawn w6 d) os).cell? ⟨w.heap.size, 1, none⟩ = some (.int .u8 t) := fun d os => cell_regrown ((HK.out.on' hbel6).cell 1) d os
        have j2 : ∀ d os, (grow (redrawn w6 d) os).cell? ⟨w.heap.size, 2, none⟩ = some (.int .u8 b) := fun d os => cell_regrown ((HK.out.on' hbel6).cell 2) d os
        have j3 : ∀ d os, (grow (redrawn w6 d) os).cell? ⟨w.heap.size, 3, none⟩ = some (.int .u8 lt) := fun d os => cell_regrown ((HK.out.on' hbel6).cell 3) d os
        have j4 : ∀ d os, (grow (redrawn w6 d) os).cell? ⟨w.heap.size, 4, none⟩ = some (.int .u32 lp) := fun d os => cell_regrown ((HK.out.on' hbel6).cell 4) d os
        have j5 : ∀ d os, (grow (redrawn w6 d) os).cell? ⟨w.heap.size, 5, none⟩ = some (.int .u8 ht) := fun d os => cell_regrown ((HK.out.on' hbel6).cell 5) d os
        have j6 : ∀ d os, (grow (redrawn w6 d) os).cell? ⟨w.heap.size, 6, none⟩ = some (.int .u32 hp) := fun d os => cell_regrown ((HK.out.on' hbel6).cell 6) d os
        have cRI := CRI.out w6
        rw [HRT.out] at cRI
        have cLO := CLO.out w6 hbel6
        rw [HLT.out] at cLO
        refine wp_region_quiet_below (by kernel_rfl) (by kernel_rfl) ?_
        repeat (first | go_big_quiet_step ((first | with_reducible exact cRI _ _ | with_reducible exact cLO _ _ | fail)) | quiet_step ((first | with_reducible exact cRI _ _ | with_reducible exact cLO _ _ | fail)))
        refine wpQuiet_nil ?_
        intro w9 hw'
        have hbel69 : Below w6.heap.size w6 w9 := regrown_below hw'
        clear hw'
        have hbel9 := hbel6.trans (hbel69.mono hbel6.size)
        clear cRI cLO j9 j0 j1 j2 j3 j4 j5 j6
        go_wp2_with fail
        go_ret2
        have hbf := HbW.out.trans (hbel9.mono HbW.out.size)
        rw [HFP.out]
        exact ⟨rfl, turns_of_below (HST.out.on hbf) hbf⟩
      · have HLT := Lib.hid hlo
        cases hhi : leads (rs.map some) n f ⟨ht, hp⟩ (b + 1)
        · have HHT := Lib.hid hhi
          have HFP : Hid (findR n room rs ⟨f, t, b, ⟨lt, lp⟩, ⟨ht, hp⟩⟩ = (0, 1, rs)) := Lib.hid (by unfold findR; rw [HX.out, hri, hlo, hhi]; rfl)
          clear hri hlo hhi
          go_enter Tryz.func20, Tryz.ntmps20
          go_wp2_with fail
          rw [← HWW.out]
          clear hW
          refine (HHA.out _ (Below.refl _ _)).mono ?_
          rintro e w6 ⟨rfl, hbel6⟩
          rw [HX.out]
          simp only [Option.getD_none]
          have hk2 : w6.cell? ⟨w.heap.size, 2, none⟩ = some (.int .u8 b) := (HK.out.on' hbel6).cell 2
          go_wp2_with fail
          clear hk2
          have j9 : ∀ d os, (grow (redrawn w6 d) os).cell? ⟨g, 3, none⟩ = some (.int .i64 (n : Nat)) := fun d os => cell_regrown ((HB.out.on' hbel6).cell 3) d os
          have j0 : ∀ d os, (grow (redrawn w6 d) os).cell? ⟨w.heap.size, 0, none⟩ = some (.int .u8 f) := fun d os => cell_regrown ((HK.out.on' hbel6).cell 0) d os
          have j1 : ∀ d os, (grow (redrawn w6 d) os).cell? ⟨w.heap.size, 1, none⟩ = some (.int .u8 t) := fun d os => cell_regrown ((HK.out.on' hbel6).cell 1) d os
          have j2 : ∀ d os, (grow (redrawn w6 d) os).cell? ⟨w.heap.size, 2, none⟩ = some (.int .u8 b) := fun d os => cell_regrown ((HK.out.on' hbel6).cell 2) d os
          have j3 : ∀ d os, (grow (redrawn w6 d) os).cell? ⟨w.heap.size, 3, none⟩ = some (.int .u8 lt) := fun d os => cell_regrown ((HK.out.on' hbel6).cell 3) d os
          have j4 : ∀ d os, (grow (redrawn w6 d) os).cell? ⟨w.heap.size, 4, none⟩ = some (.int .u32 lp) := fun d os => cell_regrown ((HK.out.on' hbel6).cell 4) d os
          have j5 : ∀ d os, (grow (redrawn w6 d) os).cell? ⟨w.heap.size, 5, none⟩ = some (.int .u8 ht) := fun d os => cell_regrown ((HK.out.on' hbel6).cell 5) d os
          have j6 : ∀ d os, (grow (redrawn w6 d) os).cell? ⟨w.heap.size, 6, none⟩ = some (.int .u32 hp) := fun d os => cell_regrown ((HK.out.on' hbel6).cell 6) d os
          have cRI := CRI.out w6
          rw [HRT.out] at cRI
          have cLO := CLO.out w6 hbel6
          rw [HLT.out] at cLO
          have cHI := CHI.out w6 hbel6
          rw [HHT.out] at cHI
          refine wp_region_quiet_below (by kernel_rfl) (by kernel_rfl) ?_
          repeat (first | go_big_quiet_step ((first | with_reducible exact cRI _ _ | with_reducible exact cLO _ _ | with_reducible exact cHI _ _ | fail)) | quiet_step ((first | with_reducible exact cRI _ _ | with_reducible exact cLO _ _ | with_reducible exact cHI _ _ | fail)))
          refine wpQuiet_nil ?_
          intro w9 hw'
          have hbel69 : Below w6.heap.size w6 w9 := regrown_below hw'
          clear hw'
          have hbel9 := hbel6.trans (hbel69.mono hbel6.size)
          clear cRI cLO cHI j9 j0 j1 j2 j3 j4 j5 j6
          go_wp2_with fail
          go_ret2
          have hbf := HbW.out.trans (hbel9.mono HbW.out.size)
          rw [HFP.out]
          exact ⟨rfl, turns_of_below (HST.out.on hbf) hbf⟩
        · have HHT := Lib.hid hhi
          by_cases hfull : rs.length < room
          · have HFP : Hid (findR n room rs ⟨f, t, b, ⟨lt, lp⟩, ⟨ht, hp⟩⟩ = (rs.length + 2, 0, rs ++ [⟨f, t, b, ⟨lt, lp⟩, ⟨ht, hp⟩⟩])) := Lib.hid (by unfold findR; rw [HX.out, hri, hlo, hhi]; simp only [Bool.and_self, if_true]; rw [if_pos hfull])
            have HFU := Lib.hid hfull
            have hd : decide (room ≤ len) = false := by simp; have := HL.out; omega
            clear hri hlo hhi hfull
            go_enter Tryz.func20, Tryz.ntmps20
            go_wp2_with fail
            rw [← HWW.out]
            clear hW
            refine (HHA.out _ (Below.refl _ _)).mono ?_
            rintro e w6 ⟨rfl, hbel6⟩
            rw [HX.out]
            simp only [Option.getD_none]
            have hk2 : w6.cell? ⟨w.heap.size, 2, none⟩ = some (.int .u8 b) := (HK.out.on' hbel6).cell 2
            go_wp2_with fail
            clear hk2
            have j9 : ∀ d os, (grow (redrawn w6 d) os).cell? ⟨g, 3, none⟩ = some (.int .i64 (n : Nat)) := fun d os => cell_regrown ((HB.out.on' hbel6).cell 3) d os
            have j0 : ∀ d os, (grow (redrawn w6 d) os).cell? ⟨w.heap.size, 0, none⟩ = some (.int .u8 f) := fun d os => cell_regrown ((HK.out.on' hbel6).cell 0) d os
            have j1 : ∀ d os, (grow (redrawn w6 d) os).cell? ⟨w.heap.size, 1, none⟩ = some (.int .u8 t) := fun d os => cell_regrown ((HK.out.on' hbel6).cell 1) d os
            have j2 : ∀ d os, (grow (redrawn w6 d) os).cell? ⟨w.heap.size, 2, none⟩ = some (.int .u8 b) := fun d os => cell_regrown ((HK.out.on' hbel6).cell 2) d os
            have j3 : ∀ d os, (grow (redrawn w6 d) os).cell? ⟨w.heap.size, 3, none⟩ = some (.int .u8 lt) := fun d os => cell_regrown ((HK.out.on' hbel6).cell 3) d os
            have j4 : ∀ d os, (grow (redrawn w6 d) os).cell? ⟨w.heap.size, 4, none⟩ = some (.int .u32 lp) := fun d os => cell_regrown ((HK.out.on' hbel6).cell 4) d os
            have j5 : ∀ d os, (grow (redrawn w6 d) os).cell? ⟨w.heap.size, 5, none⟩ = some (.int .u8 ht) := fun d os => cell_regrown ((HK.out.on' hbel6).cell 5) d os
            have j6 : ∀ d os, (grow (redrawn w6 d) os).cell? ⟨w.heap.size, 6, none⟩ = some (.int .u32 hp) := fun d os => cell_regrown ((HK.out.on' hbel6).cell 6) d os
            have cRI := CRI.out w6
            rw [HRT.out] at cRI
            have cLO := CLO.out w6 hbel6
            rw [HLT.out] at cLO
            have cHI := CHI.out w6 hbel6
            rw [HHT.out] at cHI
            refine wp_region_quiet_below (by kernel_rfl) (by kernel_rfl) ?_
            repeat (first | go_big_quiet_step ((first | with_reducible exact cRI _ _ | with_reducible exact cLO _ _ | with_reducible exact cHI _ _ | fail)) | quiet_step ((first | with_reducible exact cRI _ _ | with_reducible exact cLO _ _ | with_reducible exact cHI _ _ | fail)))
            refine wpQuiet_nil ?_
            intro w9 hw'
            have hbel69 : Below w6.heap.size w6 w9 := regrown_below hw'
            clear hw'
            have hbel9 := hbel6.trans (hbel69.mono hbel6.size)
            clear cRI cLO cHI j9 j0 j1 j2 j3 j4 j5 j6
            have a0 : w9.cell? ⟨g, 0, none⟩ = some (.slice A len c) := (HB.out.on' hbel9).cell 0
            have a1 : w9.cell? ⟨g, 1, none⟩ = some (.slice none 0 0) := (HB.out.on' hbel9).cell 1
            have a2 : w9.cell? ⟨g, 2, none⟩ = some (.int .u32 (rs.length : Nat)) := (HB.out.on' hbel9).cell 2
            have a4 : w9.cell? ⟨g, 4, none⟩ = some (.int .i64 (room : Nat)) := (HB.out.on' hbel9).cell 4
            have z2 : w9.frozen? ⟨g, 2, none⟩ = false := (HB.out.on' hbel9).frozen 2
            have hl9 := HLEN.out
            go_wp2_with fail
            go_quiet (fail)
            go_wp2_with fail
            refine wp_gen (fun W2 => Chg [g] w W2 ∧ Chg [g] W W2 ∧ Blk W2 g 58 #[.slice A len c, .slice none 0 0, .int .u32 ((rs.length : Int) + 1), .int .i64 (n : Nat), .int .i64 (room : Nat)] ∧ Blk W2 w.heap.size 62 #[.int .u8 f, .int .u8 t, .int .u8 b, .int .u8 lt, .int .u32 lp, .int .u8 ht, .int .u32 hp]) ⟨?_, ?_, ?_, ?_⟩ ?_
            · exact ((chg_of_below (HbW.out.trans (hbel9.mono HbW.out.size))).drewN _).setCell (.inl (by simp)) _
            · exact ((chg_of_below hbel9).drewN _).setCell (.inl (by simp)) _
            · exact (HB.out.on' hbel9).set_ 2 _
            · exact (HK.out.on' hbel9).far (by have := HLTF.out g (by rw [HFE.out]; simp); simp; omega) _
            rintro W2 ⟨hch, hchW, hB2, hK2⟩
            have hF2 := HND.out
            rw [HFE.out] at hF2
            have hO2 := HO.out.chg hchW (fun k hk hm => by simp at hm; subst hm; exact (List.nodup_cons.1 hF2).1 hk)
            obtain ⟨i0, hi, hz0, hz1, hz2⟩ := info_parts info_node
            have hown := (hO2.alloc (.cells #[.int .u32 ((rs.length : Int) + 2), .int .u8 f, .int .u8 t, .int .u8 b, .int .u8 lt, .int .u32 lp, .int .u8 ht, .int .u32 hp] 91)).drew
            unfold OwnS at hown
            have hnews := World.news_of_block (heap_alloc_new W2 (.cells #[.int .u32 ((rs.length : Int) + 2), .int .u8 f, .int .u8 t, .int .u8 b, .int .u8 lt, .int .u32 lp, .int .u8 ht, .int .u32 hp] 91))
            have HOWN := Lib.hid hown
            have HNEWS := Lib.hid hnews
            have k0 := hK2.cell 0
            have k1 := hK2.cell 1
            have k2 := hK2.cell 2
            have k3 := hK2.cell 3
            have k4 := hK2.cell 4
            have k5 := hK2.cell 5
            have k6 := hK2.cell 6
            have hkW := hK2.lt
            have hcg : W2.cell? ⟨g, 0, none⟩ = some (.slice A len c) := hB2.cell 0
            have hgW : g < W2.heap.size := hB2.lt
            have hgN : ¬ g = W2.heap.size := by omega
            have hkN : ¬ w.heap.size = W2.heap.size := by omega
            have HB2 := Lib.hid hB2
            have HCH := Lib.hid hch
            have H63 : Hid ((nodesOf rs).length + 1 ≤ maxLen) := Lib.hid (by rw [nodesOf_len]; unfold maxLen; omega)
            have HBY : Hid (((nodesOf rs).length + 1) * 24 ≤ 140737488355328) := Lib.hid (by rw [nodesOf_len]; omega)
            have hgne : Hid (some g ≠ (Value.slice A len c).ownBlock) := Lib.hid (fun e => (List.nodup_cons.1 hF2).1 (by simp [mem_blk, ← e]))
            have HNL : Hid ((nodesOf rs).length = len) := Lib.hid (by rw [nodesOf_len]; exact HL.out)
            clear hown hnews hB2 hK2 hch hchW hO2 a0 a1 a2 a4 z2 hd hF2
            go_region_law (refine step_append_lies _ rfl (.tmp 104) (.tmp 108) 55 rfl 0 91 i0 _ 8 24 Tryz.underlying55 hi hz0 hz1 hz2 rfl (by decide) (.slice A len c) (nodesOf rs).length ((nodesOf rs).flatMap nodeEnc) rfl HOWN.out ⟨W2.heap.size, 0, none⟩ 1 1 _ rfl rfl HNEWS.out (nodeEnc_one ((rs.length : Int) + 2, ⟨f, t, b, ⟨lt, lp⟩, ⟨ht, hp⟩⟩)) (by decide) H63.out HBY.out (Nat.zero_le _) _ rfl ?_; intro g1 cap w1 hown1 hgrow1 hat1 hlt1; have HO1 := Lib.hid hown1; have HG1 := Lib.hid hgrow1; have HA1 := Lib.hid hat1; clear hown1 hgrow1 hat1; have hcg1 := (HG1.out.cell_far ⟨g, 0, none⟩ (by simp; omega) hgne.out).trans ((World.cell?_alloc_lt _ _ ⟨g, 0, none⟩ hgW).trans hcg); have hfg1 := (HG1.out.frozen_far ⟨g, 0, none⟩ (by simp; omega) hgne.out).trans ((HB2.out.alloc (.cells #[.int .u32 ((rs.length : Int) + 2), .int .u8 f, .int .u8 t, .int .u8 b, .int .u8 lt, .int .u32 lp, .int .u8 ht, .int .u32 hp] 91)).frozen 0))
            all_goals
              have hO1 := HO1.out
              rw [HNL.out] at hO1
              have hend := ref_end (r := ⟨f, t, b, ⟨lt, lp⟩, ⟨ht, hp⟩⟩) HCH.out HFE.out HLTF.out HND.out HL.out HB2.out HG1.out hO1 HA1.out
              rw [HNL.out]
              have HE := Lib.hid hend
              clear hend hO1
              go_wp2_with fail
              go_ret2
              rw [HFP.out]
              exact ⟨ret_pair (by omega), HE.out⟩
          · have HFP : Hid (findR n room rs ⟨f, t, b, ⟨lt, lp⟩, ⟨ht, hp⟩⟩ = (0, 6, rs)) := Lib.hid (by unfold findR; rw [HX.out, hri, hlo, hhi]; simp only [Bool.and_self, if_true]; rw [if_neg hfull])
            have hd : decide (room ≤ len) = true := by simp; have := HL.out; omega
            clear hri hlo hhi hfull
            go_enter Tryz.func20, Tryz.ntmps20
            go_wp2_with fail
            rw [← HWW.out]
            clear hW
            refine (HHA.out _ (Below.refl _ _)).mono ?_
            rintro e w6 ⟨rfl, hbel6⟩
            rw [HX.out]
            simp only [Option.getD_none]
            have hk2 : w6.cell? ⟨w.heap.size, 2, none⟩ = some (.int .u8 b) := (HK.out.on' hbel6).cell 2
            go_wp2_with fail
            clear hk2
            have j9 : ∀ d os, (grow (redrawn w6 d) os).cell? ⟨g, 3, none⟩ = some (.int .i64 (n : Nat)) := fun d os => cell_regrown ((HB.out.on' hbel6).cell 3) d os
            have j0 : ∀ d os, (grow (redrawn w6 d) os).cell? ⟨w.heap.size, 0, none⟩ = some (.int .u8 f) := fun d os => cell_regrown ((HK.out.on' hbel6).cell 0) d os
            have j1 : ∀ d os, (grow (redrawn w6 d) os).cell? ⟨w.heap.size, 1, none⟩ = some (.int .u8 t) := fun d os => cell_regrown ((HK.out.on' hbel6).cell 1) d os
            have j2 : ∀ d os, (grow (redrawn w6 d) os).cell? ⟨w.heap.size, 2, none⟩ = some (.int .u8 b) := fun d os => cell_regrown ((HK.out.on' hbel6).cell 2) d os
            have j3 : ∀ d os, (grow (redrawn w6 d) os).cell? ⟨w.heap.size, 3, none⟩ = some (.int .u8 lt) := fun d os => cell_regrown ((HK.out.on' hbel6).cell 3) d os
            have j4 : ∀ d os, (grow (redrawn w6 d) os).cell? ⟨w.heap.size, 4, none⟩ = some (.int .u32 lp) := fun d os => cell_regrown ((HK.out.on' hbel6).cell 4) d os
            have j5 : ∀ d os, (grow (redrawn w6 d) os).cell? ⟨w.heap.size, 5, none⟩ = some (.int .u8 ht) := fun d os => cell_regrown ((HK.out.on' hbel6).cell 5) d os
            have j6 : ∀ d os, (grow (redrawn w6 d) os).cell? ⟨w.heap.size, 6, none⟩ = some (.int .u32 hp) := fun d os => cell_regrown ((HK.out.on' hbel6).cell 6) d os
            have cRI := CRI.out w6
            rw [HRT.out] at cRI
            have cLO := CLO.out w6 hbel6
            rw [HLT.out] at cLO
            have cHI := CHI.out w6 hbel6
            rw [HHT.out] at cHI
            refine wp_region_quiet_below (by kernel_rfl) (by kernel_rfl) ?_
            repeat (first | go_big_quiet_step ((first | with_reducible exact cRI _ _ | with_reducible exact cLO _ _ | with_reducible exact cHI _ _ | fail)) | quiet_step ((first | with_reducible exact cRI _ _ | with_reducible exact cLO _ _ | with_reducible exact cHI _ _ | fail)))
            refine wpQuiet_nil ?_
            intro w9 hw'
            have hbel69 : Below w6.heap.size w6 w9 := regrown_below hw'
            clear hw'
            have hbel9 := hbel6.trans (hbel69.mono hbel6.size)
            clear cRI cLO cHI j9 j0 j1 j2 j3 j4 j5 j6
            have a0 : w9.cell? ⟨g, 0, none⟩ = some (.slice A len c) := (HB.out.on' hbel9).cell 0
            have a1 : w9.cell? ⟨g, 1, none⟩ = some (.slice none 0 0) := (HB.out.on' hbel9).cell 1
            have a2 : w9.cell? ⟨g, 2, none⟩ = some (.int .u32 (rs.length : Nat)) := (HB.out.on' hbel9).cell 2
            have a4 : w9.cell? ⟨g, 4, none⟩ = some (.int .i64 (room : Nat)) := (HB.out.on' hbel9).cell 4
            have z2 : w9.frozen? ⟨g, 2, none⟩ = false := (HB.out.on' hbel9).frozen 2
            go_wp2_with fail
            go_quiet (fail)
            go_wp2_with fail
            go_ret2
            have hbf := HbW.out.trans ((below_drewN hbel9 nq).mono HbW.out.size)
            rw [HFP.out]
            exact ⟨rfl, turns_of_below (HST.out.on hbf) hbf⟩
end Go.Proofs.YtpjciaomhfeeeaaGreat
end
