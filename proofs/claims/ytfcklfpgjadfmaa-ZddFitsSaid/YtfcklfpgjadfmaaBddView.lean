/- Contracts: bdd.View, Right, and of all three without a store. -/
import Derived.Test.YtfcklfpgjadfmaaBdd
import Derived.Test.YtfcklfpgjadfmaaViewC
namespace Go.Proofs.Ytfcklfpgjadfmaa
open Go.RowKit Go.Sort
set_option linter.unusedSimpArgs false
set_option linter.unusedVariables false

theorem bright_any (F : List Nat) (g n room : Nat) (cs : List (Option Rec)) (e : Edg) (l : Int) (w : World) (h : StoreAt w F g n room cs []) (he : e.Wf) :
    Calls Try.prog 29 #[.pointer (some ⟨g, 0, none⟩), .agg e.cells.toArray, .int .i64 l] w fun r w' => r = .returned (.bool (leads cs n 1 e l)) ∧ Below w.heap.size w w' := by
  have HST := Lib.hid h
  have HE := Lib.hid he
  obtain ⟨t, q⟩ := e
  simp only [Edg.cells]
  clear h he
  go_enter Try.func29, Try.ntmps29
  go_wp2_with fail
  refine (leads_any F g n room cs [] 1 ⟨t, q⟩ l _ (HST.out.on ((Below.refl _ _).alloc (Nat.le_refl _) _)) (by omega) HE.out).mono ?_
  rintro e w1 ⟨rfl, hb1⟩
  go_wp2_with fail
  go_ret
  exact ⟨rfl, ((Below.refl _ _).alloc (Nat.le_refl _) _).trans (hb1.mono (by simp))⟩
theorem bright_nil (e : Edg) (l : Int) (w : World) (he : e.Wf) : Calls Try.prog 29 #[.pointer none, .agg e.cells.toArray, .int .i64 l] w fun r w' => r = .returned (.bool false) ∧ Below w.heap.size w w' := by
  have HE := Lib.hid he
  obtain ⟨t, q⟩ := e
  simp only [Edg.cells]
  clear he
  go_enter Try.func29, Try.ntmps29
  go_wp2_with fail
  refine (leads_nil 1 ⟨t, q⟩ l _).mono ?_
  rintro e w1 ⟨rfl, hb1⟩
  go_wp2_with fail
  go_ret
  exact ⟨rfl, ((Below.refl _ _).alloc (Nat.le_refl _) _).trans (hb1.mono (by simp))⟩
theorem bmake_nil (l : Int) (lo hi : Edg) (w : World) : Calls Try.prog 33 #[.pointer none, .int .i64 l, .agg lo.cells.toArray, .agg hi.cells.toArray] w fun e w' => e = .returned (.tuple #[.agg #[.int .u8 0, .int .u32 0], .int .u8 2]) ∧ Below w.heap.size w w' := by
  obtain ⟨lt, lp⟩ := lo
  obtain ⟨ht, hp⟩ := hi
  simp only [Edg.cells]
  go_enter Try.func33, Try.ntmps33
  go_wp2_with fail
  refine bodyPost_ret (v := .tuple #[.agg #[.int .u8 0, .int .u32 0], .int .u8 2]) ?_ rfl ⟨rfl, ?_⟩
  · simp [results, Try.results33, go_sem]
  · exact (((Below.refl _ _).alloc (Nat.le_refl _) _).alloc (by simp) _).alloc (by simp; omega) _
set_option maxHeartbeats 1000000 in
theorem bview_nil (e : Edg) (l : Int) (w : World) : Calls Try.prog 40 #[.pointer none, .agg e.cells.toArray, .int .i64 l] w fun e w' => e = .returned (.tuple #[.agg #[.int .u8 0, .int .u32 0], .agg #[.int .u8 0, .int .u32 0], .int .u8 2]) ∧ Below w.heap.size w w' := by
  obtain ⟨t, q⟩ := e
  simp only [Edg.cells]
  go_enter Try.func40, Try.ntmps40
  go_wp2_with fail
  go_region
  all_goals
    go_wp2_with fail
    refine bodyPost_ret (v := .tuple #[.agg #[.int .u8 0, .int .u32 0], .agg #[.int .u8 0, .int .u32 0], .int .u8 2]) ?_ rfl ⟨rfl, ?_⟩
    · simp [results, Try.results40, go_sem]
    · exact ((((Below.refl _ _).alloc (Nat.le_refl _) _).alloc (by simp) _).alloc (by simp; omega) _).drew
set_option maxRecDepth 100000 in
set_option maxHeartbeats 4000000 in
theorem bview_any (F : List Nat) (g n room : Nat) (cs : List (Option Rec)) (e : Edg) (l : Int) (w : World) (h : StoreAt w F g n room cs []) (he : e.Wf) :
    Calls Try.prog 40 #[.pointer (some ⟨g, 0, none⟩), .agg e.cells.toArray, .int .i64 l] w fun r w' => r = .returned (.tuple #[.agg (viewE false n cs e l).1.cells.toArray, .agg (viewE false n cs e l).2.1.cells.toArray, .int .u8 (viewE false n cs e l).2.2]) ∧ Below w.heap.size w w' := by
  have HST := Lib.hid h
  have HOK := Lib.hid h.ok
  have HEW := Lib.hid he
  obtain ⟨t, q⟩ := e
  obtain ⟨e1, e2, e3, e4⟩ := he
  simp only [Edg.cells] at e1 e2 e3 e4 ⊢
  have H3 : Hid (Below w.heap.size w (((w.alloc (.cells #[.int .u8 t, .int .u32 q] 35)).alloc (.cells #[.int .u8 0, .int .u32 0] 35)).alloc (.cells #[.int .u8 0, .int .u32 0] 35))) := Lib.hid ((((Below.refl _ _).alloc (Nat.le_refl _) _).alloc (by simp) _).alloc (by simp; omega) _)
  obtain ⟨W, hW⟩ : ∃ W, W = (((w.alloc (.cells #[.int .u8 t, .int .u32 q] 35)).alloc (.cells #[.int .u8 0, .int .u32 0] 35)).alloc (.cells #[.int .u8 0, .int .u32 0] 35)) := ⟨_, rfl⟩
  have hB0 : Blk W w.heap.size 35 #[.int .u8 t, .int .u32 q] := by rw [hW]; exact ((Blk.new w _ _).alloc _).alloc _
  have hB1 : Blk W (w.heap.size + 1) 35 #[.int .u8 0, .int .u32 0] := by rw [hW]; exact (Blk.new_at (by simp) _ _).alloc _
  have hB2 : Blk W (w.heap.size + 2) 35 #[.int .u8 0, .int .u32 0] := by rw [hW]; exact Blk.new_at (by simp) _ _
  rw [← hW] at H3
  have HSW := Lib.hid (HST.out.on H3.out)
  have HWS : Hid (W.heap.size = w.heap.size + 3) := Lib.hid (by rw [hW]; simp)
  have FB : Hid (∀ W', Below W.heap.size W W' → Blk W' w.heap.size 35 #[.int .u8 t, .int .u32 q] ∧ Blk W' (w.heap.size + 1) 35 #[.int .u8 0, .int .u32 0] ∧ Blk W' (w.heap.size + 2) 35 #[.int .u8 0, .int .u32 0]) := Lib.hid fun W' hW' => ⟨hB0.on' hW', hB1.on' hW', hB2.on' hW'⟩
  have HWW := Lib.hid hW
  have HLE := Lib.hid (fun (W' : World) (hW' : Below W.heap.size W W') => (leads_any F g n room cs [] 1 ⟨t, q⟩ l W' (HSW.out.on hW') (by omega) HEW.out).mono (R' := fun r w' => r = .returned (.bool (leads cs n 1 ⟨t, q⟩ l)) ∧ Below W.heap.size W w') fun _ _ ⟨q1, q2⟩ => ⟨q1, hW'.trans (q2.mono hW'.size)⟩)
  have HVA := Lib.hid (fun (W' : World) (hW' : Below W.heap.size W W') => storeVars_any F g n room cs [] W' (HSW.out.on hW'))
  have HGE := Lib.hid (fun (W' : World) (hW' : Below W.heap.size W W') => (storeGet_any F g n room cs [] q W' (HSW.out.on hW') e3 e4).mono (R' := fun r w' => r = .returned (getR (recAt cs q)) ∧ Below W.heap.size W w') fun _ _ ⟨q1, q2⟩ => ⟨q1, hW'.trans (q2.mono hW'.size)⟩)
  simp only [Edg.cells] at HLE
  clear h hB0 hB1 hB2
  by_cases h0 : l < 0
  · have HVW : Hid (viewE false n cs ⟨t, q⟩ l = (.nil, .nil, 3)) := Lib.hid (viewE_var (.inl h0))
    go_enter Try.func40, Try.ntmps40
    go_wp2_with fail
    rw [← HWW.out]
    clear hW
    obtain ⟨hb0, hb1, hb2⟩ := FB.out W (Below.refl _ _)
    have a0 : W.cell? ⟨w.heap.size, 0, none⟩ = some (.int .u8 t) := hb0.cell 0
    have a1 : W.cell? ⟨w.heap.size, 1, none⟩ = some (.int .u32 q) := hb0.cell 1
    have b0 : W.cell? ⟨w.heap.size + 1, 0, none⟩ = some (.int .u8 0) := hb1.cell 0
    have b1 : W.cell? ⟨w.heap.size + 1, 1, none⟩ = some (.int .u32 0) := hb1.cell 1
    have n0 : W.cell? ⟨w.heap.size + 2, 0, none⟩ = some (.int .u8 0) := hb2.cell 0
    have n1 : W.cell? ⟨w.heap.size + 2, 1, none⟩ = some (.int .u32 0) := hb2.cell 1
    have z0 := hb2.frozen 0
    have z1 := hb2.frozen 1
    have y0 := hb1.frozen 0
    have y1 := hb1.frozen 1
    clear hb0 hb1 hb2
    go_wp2_with fail
    go_region
    all_goals
      go_wp2_with fail
      rw [HVW.out]
      refine bodyPost_ret (v := .tuple #[.agg #[.int .u8 0, .int .u32 0], .agg #[.int .u8 0, .int .u32 0], .int .u8 (3 : Nat)]) ?_ rfl ⟨rfl, ?_⟩
      · simp [results, Try.results40, go_sem, *]
      · have hT := H3.out.trans (Below.mono (B' := w.heap.size) (Below.refl _ _) H3.out.size)
        have hg1 : w.heap.size ≤ w.heap.size + 1 := by omega
        have hg2 : w.heap.size ≤ w.heap.size + 2 := by omega
        first
          | (with_reducible exact below_sets0 hT)
          | (with_reducible exact below_sets2 hg1 hT)
          | (with_reducible exact below_sets2 hg2 hT)
          | (with_reducible exact below_sets4 hg1 hg2 hT)
          | exact below_sets4 hg2 hg1 hT
  · by_cases h1 : (n : Int) ≤ l
    · have HVW : Hid (viewE false n cs ⟨t, q⟩ l = (.nil, .nil, 3)) := Lib.hid (viewE_var (.inr h1))
      go_enter Try.func40, Try.ntmps40
      go_wp2_with fail
      rw [← HWW.out]
      clear hW
      obtain ⟨hb0, hb1, hb2⟩ := FB.out W (Below.refl _ _)
      have a0 : W.cell? ⟨w.heap.size, 0, none⟩ = some (.int .u8 t) := hb0.cell 0
      have a1 : W.cell? ⟨w.heap.size, 1, none⟩ = some (.int .u32 q) := hb0.cell 1
      have b0 : W.cell? ⟨w.heap.size + 1, 0, none⟩ = some (.int .u8 0) := hb1.cell 0
      have b1 : W.cell? ⟨w.heap.size + 1, 1, none⟩ = some (.int .u32 0) := hb1.cell 1
      have n0 : W.cell? ⟨w.heap.size + 2, 0, none⟩ = some (.int .u8 0) := hb2.cell 0
      have n1 : W.cell? ⟨w.heap.size + 2, 1, none⟩ = some (.int .u32 0) := hb2.cell 1
      have z0 := hb2.frozen 0
      have z1 := hb2.frozen 1
      have y0 := hb1.frozen 0
      have y1 := hb1.frozen 1
      clear hb0 hb1 hb2
      refine (HVA.out _ (Below.refl _ _)).mono ?_
      rintro e w' ⟨rfl, rfl⟩
      go_wp2_with fail
      go_region
      all_goals
        go_wp2_with fail
        rw [HVW.out]
        refine bodyPost_ret (v := .tuple #[.agg #[.int .u8 0, .int .u32 0], .agg #[.int .u8 0, .int .u32 0], .int .u8 (3 : Nat)]) ?_ rfl ⟨rfl, ?_⟩
        · simp [results, Try.results40, go_sem, *]
        · have hT := H3.out.trans (Below.mono (B' := w.heap.size) (Below.refl _ _) H3.out.size)
          have hg1 : w.heap.size ≤ w.heap.size + 1 := by omega
          have hg2 : w.heap.size ≤ w.heap.size + 2 := by omega
          first
            | (with_reducible exact below_sets0 hT)
            | (with_reducible exact below_sets2 hg1 hT)
            | (with_reducible exact below_sets2 hg2 hT)
            | (with_reducible exact below_sets4 hg1 hg2 hT)
            | exact below_sets4 hg2 hg1 hT
    · have HL : Hid (0 ≤ l ∧ l < n) := Lib.hid ⟨by omega, by omega⟩
      have hd : decide ((n : Int) ≤ l) = false := by simpa using h1
      cases hle : leads cs n 1 ⟨t, q⟩ l
      · have HLT := Lib.hid hle
        have HVW : Hid (viewE false n cs ⟨t, q⟩ l = (.nil, .nil, 1)) := Lib.hid (viewE_arg HL.out (by simpa [fmOf] using hle))
        clear hle
        go_enter Try.func40, Try.ntmps40
        go_wp2_with fail
        rw [← HWW.out]
        clear hW
        obtain ⟨hb0, hb1, hb2⟩ := FB.out W (Below.refl _ _)
        have a0 : W.cell? ⟨w.heap.size, 0, none⟩ = some (.int .u8 t) := hb0.cell 0
        have a1 : W.cell? ⟨w.heap.size, 1, none⟩ = some (.int .u32 q) := hb0.cell 1
        have b0 : W.cell? ⟨w.heap.size + 1, 0, none⟩ = some (.int .u8 0) := hb1.cell 0
        have b1 : W.cell? ⟨w.heap.size + 1, 1, none⟩ = some (.int .u32 0) := hb1.cell 1
        have n0 : W.cell? ⟨w.heap.size + 2, 0, none⟩ = some (.int .u8 0) := hb2.cell 0
        have n1 : W.cell? ⟨w.heap.size + 2, 1, none⟩ = some (.int .u32 0) := hb2.cell 1
        have z0 := hb2.frozen 0
        have z1 := hb2.frozen 1
        have y0 := hb1.frozen 0
        have y1 := hb1.frozen 1
        clear hb0 hb1 hb2
        refine (HVA.out _ (Below.refl _ _)).mono ?_
        rintro e w' ⟨rfl, rfl⟩
        go_wp2_with fail
        refine (HLE.out _ (Below.refl _ _)).mono ?_
        rintro e w1 ⟨rfl, hbel1⟩
        rw [HLT.out]
        clear a0 a1 b0 b1 n0 n1 z0 z1 y0 y1
        obtain ⟨hb0, hb1, hb2⟩ := FB.out w1 hbel1
        have a0 : w1.cell? ⟨w.heap.size, 0, none⟩ = some (.int .u8 t) := hb0.cell 0
        have a1 : w1.cell? ⟨w.heap.size, 1, none⟩ = some (.int .u32 q) := hb0.cell 1
        have b0 : w1.cell? ⟨w.heap.size + 1, 0, none⟩ = some (.int .u8 0) := hb1.cell 0
        have b1 : w1.cell? ⟨w.heap.size + 1, 1, none⟩ = some (.int .u32 0) := hb1.cell 1
        have n0 : w1.cell? ⟨w.heap.size + 2, 0, none⟩ = some (.int .u8 0) := hb2.cell 0
        have n1 : w1.cell? ⟨w.heap.size + 2, 1, none⟩ = some (.int .u32 0) := hb2.cell 1
        have z0 := hb2.frozen 0
        have z1 := hb2.frozen 1
        have y0 := hb1.frozen 0
        have y1 := hb1.frozen 1
        clear hb0 hb1 hb2
        go_wp2_with fail
        go_region
        all_goals
          go_wp2_with fail
          rw [HVW.out]
          refine bodyPost_ret (v := .tuple #[.agg #[.int .u8 0, .int .u32 0], .agg #[.int .u8 0, .int .u32 0], .int .u8 (1 : Nat)]) ?_ rfl ⟨rfl, ?_⟩
          · simp [results, Try.results40, go_sem, *]
          · have hT := H3.out.trans (Below.mono (B' := w.heap.size) hbel1 H3.out.size)
            have hg1 : w.heap.size ≤ w.heap.size + 1 := by omega
            have hg2 : w.heap.size ≤ w.heap.size + 2 := by omega
            first
              | (with_reducible exact below_sets0 hT)
              | (with_reducible exact below_sets2 hg1 hT)
              | (with_reducible exact below_sets2 hg2 hT)
              | (with_reducible exact below_sets4 hg1 hg2 hT)
              | exact below_sets4 hg2 hg1 hT
      · have HLT := Lib.hid hle
        cases hr : recAt cs q with
        | none =>
          have HRC := Lib.hid hr
          have HVW : Hid (viewE false n cs ⟨t, q⟩ l = (⟨t, q⟩, ⟨t, q⟩, 0)) := Lib.hid (viewE_none HL.out (by simpa [fmOf] using hle) hr)
          clear hle hr
          go_enter Try.func40, Try.ntmps40
          go_wp2_with fail
          rw [← HWW.out]
          clear hW
          obtain ⟨hb0, hb1, hb2⟩ := FB.out W (Below.refl _ _)
          have a0 : W.cell? ⟨w.heap.size, 0, none⟩ = some (.int .u8 t) := hb0.cell 0
          have a1 : W.cell? ⟨w.heap.size, 1, none⟩ = some (.int .u32 q) := hb0.cell 1
          have b0 : W.cell? ⟨w.heap.size + 1, 0, none⟩ = some (.int .u8 0) := hb1.cell 0
          have b1 : W.cell? ⟨w.heap.size + 1, 1, none⟩ = some (.int .u32 0) := hb1.cell 1
          have n0 : W.cell? ⟨w.heap.size + 2, 0, none⟩ = some (.int .u8 0) := hb2.cell 0
          have n1 : W.cell? ⟨w.heap.size + 2, 1, none⟩ = some (.int .u32 0) := hb2.cell 1
          have z0 := hb2.frozen 0
          have z1 := hb2.frozen 1
          have y0 := hb1.frozen 0
          have y1 := hb1.frozen 1
          clear hb0 hb1 hb2
          refine (HVA.out _ (Below.refl _ _)).mono ?_
          rintro e w' ⟨rfl, rfl⟩
          go_wp2_with fail
          refine (HLE.out _ (Below.refl _ _)).mono ?_
          rintro e w1 ⟨rfl, hbel1⟩
          rw [HLT.out]
          clear a0 a1 b0 b1 n0 n1 z0 z1 y0 y1
          have a1' : w1.cell? ⟨w.heap.size, 1, none⟩ = some (.int .u32 q) := (FB.out w1 hbel1).1.cell 1
          go_wp2_with fail
          refine (HGE.out _ hbel1).mono ?_
          rintro e w2 ⟨rfl, hbel2⟩
          rw [HRC.out]
          unfold getR
          simp only [Rec.nil, Rec.cells, Edg.nil]
          clear a1'
          obtain ⟨hb0, hb1, hb2⟩ := FB.out w2 hbel2
          have a0 : w2.cell? ⟨w.heap.size, 0, none⟩ = some (.int .u8 t) := hb0.cell 0
          have a1 : w2.cell? ⟨w.heap.size, 1, none⟩ = some (.int .u32 q) := hb0.cell 1
          have b0 : w2.cell? ⟨w.heap.size + 1, 0, none⟩ = some (.int .u8 0) := hb1.cell 0
          have b1 : w2.cell? ⟨w.heap.size + 1, 1, none⟩ = some (.int .u32 0) := hb1.cell 1
          have n0 : w2.cell? ⟨w.heap.size + 2, 0, none⟩ = some (.int .u8 0) := hb2.cell 0
          have n1 : w2.cell? ⟨w.heap.size + 2, 1, none⟩ = some (.int .u32 0) := hb2.cell 1
          have z0 := hb2.frozen 0
          have z1 := hb2.frozen 1
          have y0 := hb1.frozen 0
          have y1 := hb1.frozen 1
          clear hb0 hb1 hb2
          go_wp2_with fail
          clear a0 a1 b0 b1 n0 n1 z0 z1 y0 y1
          refine wp_gen (fun W3 => Below W.heap.size W W3 ∧ Blk W3 w2.heap.size 69 #[.int .u8 0, .int .u8 0, .int .u8 0, .int .u8 0, .int .u32 0, .int .u8 0, .int .u32 0]) ⟨keepC hbel2, Blk.new_at rfl _ _⟩ ?_
          rintro W3 ⟨hbel3, hB3⟩
          obtain ⟨hb0, hb1, hb2⟩ := FB.out W3 hbel3
          have a0 : W3.cell? ⟨w.heap.size, 0, none⟩ = some (.int .u8 t) := hb0.cell 0
          have a1 : W3.cell? ⟨w.heap.size, 1, none⟩ = some (.int .u32 q) := hb0.cell 1
          have b0 : W3.cell? ⟨w.heap.size + 1, 0, none⟩ = some (.int .u8 0) := hb1.cell 0
          have b1 : W3.cell? ⟨w.heap.size + 1, 1, none⟩ = some (.int .u32 0) := hb1.cell 1
          have n0 : W3.cell? ⟨w.heap.size + 2, 0, none⟩ = some (.int .u8 0) := hb2.cell 0
          have n1 : W3.cell? ⟨w.heap.size + 2, 1, none⟩ = some (.int .u32 0) := hb2.cell 1
          have z0 := hb2.frozen 0
          have z1 := hb2.frozen 1
          have y0 := hb1.frozen 0
          have y1 := hb1.frozen 1
          clear hb0 hb1 hb2
          clear hB3
          go_region
          all_goals
            go_wp2_with fail
            rw [HVW.out]
            refine bodyPost_ret (v := .tuple #[.agg #[.int .u8 t, .int .u32 q], .agg #[.int .u8 t, .int .u32 q], .int .u8 (0 : Nat)]) ?_ rfl ⟨rfl, ?_⟩
            · simp [results, Try.results40, go_sem, *]
            · have hT := H3.out.trans (Below.mono (B' := w.heap.size) hbel3 H3.out.size)
              have hg1 : w.heap.size ≤ w.heap.size + 1 := by omega
              have hg2 : w.heap.size ≤ w.heap.size + 2 := by omega
              first
                | (with_reducible exact below_sets0 hT)
                | (with_reducible exact below_sets2 hg1 hT)
                | (with_reducible exact below_sets2 hg2 hT)
                | (with_reducible exact below_sets4 hg1 hg2 hT)
                | exact below_sets4 hg2 hg1 hT
        | some r =>
          have HRC := Lib.hid hr
          have hwf := recAt_wf HOK.out hr
          by_cases htop : l < r.top
          · have HVW : Hid (viewE false n cs ⟨t, q⟩ l = (⟨t, q⟩, ⟨t, q⟩, 0)) := Lib.hid (viewE_high HL.out (by simpa [fmOf] using hle) hr htop)
            obtain ⟨rf, rt, rb, ⟨rlt, rlp⟩, ⟨rht, rhp⟩⟩ := r
            obtain ⟨⟨w1, w2⟩, ⟨w3, w4⟩, _, _, _⟩ := hwf
            simp only at w1 w2 w3 w4 htop
            clear hle hr
            go_enter Try.func40, Try.ntmps40
            go_wp2_with fail
            rw [← HWW.out]
            clear hW
            obtain ⟨hb0, hb1, hb2⟩ := FB.out W (Below.refl _ _)
            have a0 : W.cell? ⟨w.heap.size, 0, none⟩ = some (.int .u8 t) := hb0.cell 0
            have a1 : W.cell? ⟨w.heap.size, 1, none⟩ = some (.int .u32 q) := hb0.cell 1
            have b0 : W.cell? ⟨w.heap.size + 1, 0, none⟩ = some (.int .u8 0) := hb1.cell 0
            have b1 : W.cell? ⟨w.heap.size + 1, 1, none⟩ = some (.int .u32 0) := hb1.cell 1
            have n0 : W.cell? ⟨w.heap.size + 2, 0, none⟩ = some (.int .u8 0) := hb2.cell 0
            have n1 : W.cell? ⟨w.heap.size + 2, 1, none⟩ = some (.int .u32 0) := hb2.cell 1
            have z0 := hb2.frozen 0
            have z1 := hb2.frozen 1
            have y0 := hb1.frozen 0
            have y1 := hb1.frozen 1
            clear hb0 hb1 hb2
            refine (HVA.out _ (Below.refl _ _)).mono ?_
            rintro e w' ⟨rfl, rfl⟩
            go_wp2_with fail
            refine (HLE.out _ (Below.refl _ _)).mono ?_
            rintro e w1 ⟨rfl, hbel1⟩
            rw [HLT.out]
            clear a0 a1 b0 b1 n0 n1 z0 z1 y0 y1
            have a1' : w1.cell? ⟨w.heap.size, 1, none⟩ = some (.int .u32 q) := (FB.out w1 hbel1).1.cell 1
            go_wp2_with fail
            refine (HGE.out _ hbel1).mono ?_
            rintro e w2 ⟨rfl, hbel2⟩
            rw [HRC.out]
            unfold getR
            simp only [Rec.cells]
            clear a1'
            obtain ⟨hb0, hb1, hb2⟩ := FB.out w2 hbel2
            have a0 : w2.cell? ⟨w.heap.size, 0, none⟩ = some (.int .u8 t) := hb0.cell 0
            have a1 : w2.cell? ⟨w.heap.size, 1, none⟩ = some (.int .u32 q) := hb0.cell 1
            have b0 : w2.cell? ⟨w.heap.size + 1, 0, none⟩ = some (.int .u8 0) := hb1.cell 0
            have b1 : w2.cell? ⟨w.heap.size + 1, 1, none⟩ = some (.int .u32 0) := hb1.cell 1
            have n0 : w2.cell? ⟨w.heap.size + 2, 0, none⟩ = some (.int .u8 0) := hb2.cell 0
            have n1 : w2.cell? ⟨w.heap.size + 2, 1, none⟩ = some (.int .u32 0) := hb2.cell 1
            have z0 := hb2.frozen 0
            have z1 := hb2.frozen 1
            have y0 := hb1.frozen 0
            have y1 := hb1.frozen 1
            clear hb0 hb1 hb2
            go_wp2_with fail
            clear a0 a1 b0 b1 n0 n1 z0 z1 y0 y1
            refine wp_gen (fun W3 => Below W.heap.size W W3 ∧ Blk W3 w2.heap.size 69 #[.int .u8 rf, .int .u8 rt, .int .u8 rb, .int .u8 rlt, .int .u32 rlp, .int .u8 rht, .int .u32 rhp]) ⟨keepC hbel2, Blk.new_at rfl _ _⟩ ?_
            rintro W3 ⟨hbel3, hB3⟩
            obtain ⟨hb0, hb1, hb2⟩ := FB.out W3 hbel3
            have a0 : W3.cell? ⟨w.heap.size, 0, none⟩ = some (.int .u8 t) := hb0.cell 0
            have a1 : W3.cell? ⟨w.heap.size, 1, none⟩ = some (.int .u32 q) := hb0.cell 1
            have b0 : W3.cell? ⟨w.heap.size + 1, 0, none⟩ = some (.int .u8 0) := hb1.cell 0
            have b1 : W3.cell? ⟨w.heap.size + 1, 1, none⟩ = some (.int .u32 0) := hb1.cell 1
            have n0 : W3.cell? ⟨w.heap.size + 2, 0, none⟩ = some (.int .u8 0) := hb2.cell 0
            have n1 : W3.cell? ⟨w.heap.size + 2, 1, none⟩ = some (.int .u32 0) := hb2.cell 1
            have z0 := hb2.frozen 0
            have z1 := hb2.frozen 1
            have y0 := hb1.frozen 0
            have y1 := hb1.frozen 1
            clear hb0 hb1 hb2
            have r3 : W3.cell? ⟨w2.heap.size, 3, none⟩ = some (.int .u8 rlt) := hB3.cell 3
            have r4 : W3.cell? ⟨w2.heap.size, 4, none⟩ = some (.int .u32 rlp) := hB3.cell 4
            have r5 : W3.cell? ⟨w2.heap.size, 5, none⟩ = some (.int .u8 rht) := hB3.cell 5
            have r6 : W3.cell? ⟨w2.heap.size, 6, none⟩ = some (.int .u32 rhp) := hB3.cell 6
            clear hB3
            go_region
            all_goals
              go_wp2_with fail
              rw [HVW.out]
              refine bodyPost_ret (v := .tuple #[.agg #[.int .u8 t, .int .u32 q], .agg #[.int .u8 t, .int .u32 q], .int .u8 (0 : Nat)]) ?_ rfl ⟨rfl, ?_⟩
              · simp [results, Try.results40, go_sem, *]
              · have hT := H3.out.trans (Below.mono (B' := w.heap.size) hbel3 H3.out.size)
                have hg1 : w.heap.size ≤ w.heap.size + 1 := by omega
                have hg2 : w.heap.size ≤ w.heap.size + 2 := by omega
                first
                  | (with_reducible exact below_sets0 hT)
                  | (with_reducible exact below_sets2 hg1 hT)
                  | (with_reducible exact below_sets2 hg2 hT)
                  | (with_reducible exact below_sets4 hg1 hg2 hT)
                  | exact below_sets4 hg2 hg1 hT
          · have HVW : Hid (viewE false n cs ⟨t, q⟩ l = (r.lo, r.hi, 0)) := Lib.hid (viewE_at HL.out (by simpa [fmOf] using hle) hr htop)
            obtain ⟨rf, rt, rb, ⟨rlt, rlp⟩, ⟨rht, rhp⟩⟩ := r
            obtain ⟨⟨w1, w2⟩, ⟨w3, w4⟩, _, _, _⟩ := hwf
            simp only at w1 w2 w3 w4 htop
            clear hle hr
            go_enter Try.func40, Try.ntmps40
            go_wp2_with fail
            rw [← HWW.out]
            clear hW
            obtain ⟨hb0, hb1, hb2⟩ := FB.out W (Below.refl _ _)
            have a0 : W.cell? ⟨w.heap.size, 0, none⟩ = some (.int .u8 t) := hb0.cell 0
            have a1 : W.cell? ⟨w.heap.size, 1, none⟩ = some (.int .u32 q) := hb0.cell 1
            have b0 : W.cell? ⟨w.heap.size + 1, 0, none⟩ = some (.int .u8 0) := hb1.cell 0
            have b1 : W.cell? ⟨w.heap.size + 1, 1, none⟩ = some (.int .u32 0) := hb1.cell 1
            have n0 : W.cell? ⟨w.heap.size + 2, 0, none⟩ = some (.int .u8 0) := hb2.cell 0
            have n1 : W.cell? ⟨w.heap.size + 2, 1, none⟩ = some (.int .u32 0) := hb2.cell 1
            have z0 := hb2.frozen 0
            have z1 := hb2.frozen 1
            have y0 := hb1.frozen 0
            have y1 := hb1.frozen 1
            clear hb0 hb1 hb2
            refine (HVA.out _ (Below.refl _ _)).mono ?_
            rintro e w' ⟨rfl, rfl⟩
            go_wp2_with fail
            refine (HLE.out _ (Below.refl _ _)).mono ?_
            rintro e w1 ⟨rfl, hbel1⟩
            rw [HLT.out]
            clear a0 a1 b0 b1 n0 n1 z0 z1 y0 y1
            have a1' : w1.cell? ⟨w.heap.size, 1, none⟩ = some (.int .u32 q) := (FB.out w1 hbel1).1.cell 1
            go_wp2_with fail
            refine (HGE.out _ hbel1).mono ?_
            rintro e w2 ⟨rfl, hbel2⟩
            rw [HRC.out]
            unfold getR
            simp only [Rec.cells]
            clear a1'
            obtain ⟨hb0, hb1, hb2⟩ := FB.out w2 hbel2
            have a0 : w2.cell? ⟨w.heap.size, 0, none⟩ = some (.int .u8 t) := hb0.cell 0
            have a1 : w2.cell? ⟨w.heap.size, 1, none⟩ = some (.int .u32 q) := hb0.cell 1
            have b0 : w2.cell? ⟨w.heap.size + 1, 0, none⟩ = some (.int .u8 0) := hb1.cell 0
            have b1 : w2.cell? ⟨w.heap.size + 1, 1, none⟩ = some (.int .u32 0) := hb1.cell 1
            have n0 : w2.cell? ⟨w.heap.size + 2, 0, none⟩ = some (.int .u8 0) := hb2.cell 0
            have n1 : w2.cell? ⟨w.heap.size + 2, 1, none⟩ = some (.int .u32 0) := hb2.cell 1
            have z0 := hb2.frozen 0
            have z1 := hb2.frozen 1
            have y0 := hb1.frozen 0
            have y1 := hb1.frozen 1
            clear hb0 hb1 hb2
            go_wp2_with fail
            clear a0 a1 b0 b1 n0 n1 z0 z1 y0 y1
            refine wp_gen (fun W3 => Below W.heap.size W W3 ∧ Blk W3 w2.heap.size 69 #[.int .u8 rf, .int .u8 rt, .int .u8 rb, .int .u8 rlt, .int .u32 rlp, .int .u8 rht, .int .u32 rhp]) ⟨keepC hbel2, Blk.new_at rfl _ _⟩ ?_
            rintro W3 ⟨hbel3, hB3⟩
            obtain ⟨hb0, hb1, hb2⟩ := FB.out W3 hbel3
            have a0 : W3.cell? ⟨w.heap.size, 0, none⟩ = some (.int .u8 t) := hb0.cell 0
            have a1 : W3.cell? ⟨w.heap.size, 1, none⟩ = some (.int .u32 q) := hb0.cell 1
            have b0 : W3.cell? ⟨w.heap.size + 1, 0, none⟩ = some (.int .u8 0) := hb1.cell 0
            have b1 : W3.cell? ⟨w.heap.size + 1, 1, none⟩ = some (.int .u32 0) := hb1.cell 1
            have n0 : W3.cell? ⟨w.heap.size + 2, 0, none⟩ = some (.int .u8 0) := hb2.cell 0
            have n1 : W3.cell? ⟨w.heap.size + 2, 1, none⟩ = some (.int .u32 0) := hb2.cell 1
            have z0 := hb2.frozen 0
            have z1 := hb2.frozen 1
            have y0 := hb1.frozen 0
            have y1 := hb1.frozen 1
            clear hb0 hb1 hb2
            have r3 : W3.cell? ⟨w2.heap.size, 3, none⟩ = some (.int .u8 rlt) := hB3.cell 3
            have r4 : W3.cell? ⟨w2.heap.size, 4, none⟩ = some (.int .u32 rlp) := hB3.cell 4
            have r5 : W3.cell? ⟨w2.heap.size, 5, none⟩ = some (.int .u8 rht) := hB3.cell 5
            have r6 : W3.cell? ⟨w2.heap.size, 6, none⟩ = some (.int .u32 rhp) := hB3.cell 6
            clear hB3
            go_region
            all_goals
              go_wp2_with fail
              rw [HVW.out]
              refine bodyPost_ret (v := .tuple #[.agg #[.int .u8 rlt, .int .u32 rlp], .agg #[.int .u8 rht, .int .u32 rhp], .int .u8 (0 : Nat)]) ?_ rfl ⟨rfl, ?_⟩
              · simp [results, Try.results40, go_sem, *]
              · have hT := H3.out.trans (Below.mono (B' := w.heap.size) hbel3 H3.out.size)
                have hg1 : w.heap.size ≤ w.heap.size + 1 := by omega
                have hg2 : w.heap.size ≤ w.heap.size + 2 := by omega
                first
                  | (with_reducible exact below_sets0 hT)
                  | (with_reducible exact below_sets2 hg1 hT)
                  | (with_reducible exact below_sets2 hg2 hT)
                  | (with_reducible exact below_sets4 hg1 hg2 hT)
                  | exact below_sets4 hg2 hg1 hT

end Go.Proofs.Ytfcklfpgjadfmaa
