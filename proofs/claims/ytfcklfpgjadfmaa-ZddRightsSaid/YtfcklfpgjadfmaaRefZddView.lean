/- Contract: ramageref13.View. -/
import Derived.Test.YtfcklfpgjadfmaaRefZdd
import Derived.Test.YtfcklfpgjadfmaaViewC
namespace Go.Proofs.Ytfcklfpgjadfmaa
open Go.RowKit Go.Sort
set_option linter.unusedSimpArgs false
set_option linter.unusedVariables false

set_option maxRecDepth 100000 in
set_option maxHeartbeats 4000000 in
theorem rzview_any (F : List Nat) (g n room : Nat) (rs : List Rec) (e : Edg) (l : Int) (w : World) (h : RefAt w F g n room rs) (he : e.Wf) (hwfs : ∀ r ∈ rs, r.Wf) (hlen : rs.length ≤ 1048576) :
    Calls Try.prog 45 #[.pointer (some ⟨g, 0, none⟩), .agg e.cells.toArray, .int .i64 l] w fun r w' => r = .returned (.tuple #[.agg (viewE true n (rs.map some) e l).1.cells.toArray, .agg (viewE true n (rs.map some) e l).2.1.cells.toArray, .int .i64 (viewE true n (rs.map some) e l).2.2]) ∧ Below w.heap.size w w' := by
  have HST := Lib.hid h
  have HEW := Lib.hid he
  have HWF := Lib.hid hwfs
  obtain ⟨t, q⟩ := e
  obtain ⟨e1, e2, e3, e4⟩ := he
  simp only [Edg.cells] at e1 e2 e3 e4 ⊢
  have H3 : Hid (Below w.heap.size w (((w.alloc (.cells #[.int .u8 t, .int .u32 q] 35)).alloc (.cells #[.int .u8 0, .int .u32 0] 35)).alloc (.cells #[.int .u8 0, .int .u32 0] 35))) := Lib.hid ((((Below.refl _ _).alloc (Nat.le_refl _) _).alloc (by simp) _).alloc (by simp; omega) _)
  obtain ⟨W, hW⟩ : ∃ W, W = (((w.alloc (.cells #[.int .u8 t, .int .u32 q] 35)).alloc (.cells #[.int .u8 0, .int .u32 0] 35)).alloc (.cells #[.int .u8 0, .int .u32 0] 35)) := ⟨_, rfl⟩
  have hB0 : Blk W w.heap.size 35 #[.int .u8 t, .int .u32 q] := by rw [hW]; exact ((Blk.new w _ _).alloc _).alloc _
  have hB1 : Blk W (w.heap.size + 1) 35 #[.int .u8 0, .int .u32 0] := by rw [hW]; exact (Blk.new_at (by simp) _ _).alloc _
  have hB2 : Blk W (w.heap.size + 2) 35 #[.int .u8 0, .int .u32 0] := by rw [hW]; exact Blk.new_at (by simp) _ _
  rw [← hW] at H3
  have HSW := Lib.hid (HST.out.on H3.out)
  obtain ⟨A, len, c, hBS0, hO0, hl, hFe, hnd⟩ := HST.out
  obtain rfl : rs.length = len := hl
  have HGW : Hid (w.cell? ⟨g, 3, none⟩ = some (.int .i64 (n : Nat)) ∧ g < w.heap.size) := Lib.hid ⟨hBS0.cell 3, hBS0.lt⟩
  have hBS := hBS0.on' H3.out
  have hO := hO0.chg (F := []) (chg_of_below H3.out) (by simp)
  have HO0 := Lib.hid hO0
  have HBS := Lib.hid hBS
  have HO := Lib.hid hO
  have HWS : Hid (W.heap.size = w.heap.size + 3) := Lib.hid (by rw [hW]; simp)
  have FB : Hid (∀ W', Below W.heap.size W W' → Blk W' w.heap.size 35 #[.int .u8 t, .int .u32 q] ∧ Blk W' (w.heap.size + 1) 35 #[.int .u8 0, .int .u32 0] ∧ Blk W' (w.heap.size + 2) 35 #[.int .u8 0, .int .u32 0]) := Lib.hid fun W' hW' => ⟨hB0.on' hW', hB1.on' hW', hB2.on' hW'⟩
  have HWW := Lib.hid hW
  have HLE := Lib.hid (fun (W' : World) (hW' : Below W.heap.size W W') => (refLeads_any F g n room rs 2 ⟨t, q⟩ l W' (HSW.out.on hW') (by omega) HEW.out hlen HWF.out).mono (R' := fun r w' => r = .returned (.bool (leads (rs.map some) n 2 ⟨t, q⟩ l)) ∧ Below W.heap.size W w') fun _ _ ⟨q1, q2⟩ => ⟨q1, hW'.trans (q2.mono hW'.size)⟩)
  have HAT := Lib.hid (fun (W' : World) (hW' : Below W.heap.size W W') => refAt_any F g n room rs q W' (HSW.out.on hW') e3 e4 hlen)
  simp only [Edg.cells] at HLE
  clear h hB0 hB1 hB2 hBS0 hO0 hBS hO hFe hnd hwfs
  by_cases h0 : l < 0
  · have HVW : Hid (viewE true n (rs.map some) ⟨t, q⟩ l = (.nil, .nil, 3)) := Lib.hid (viewE_var (.inl h0))
    have gw : w.cell? ⟨g, 3, none⟩ = some (.int .i64 (n : Nat)) := HGW.out.1
    have hgl : g < w.heap.size := HGW.out.2
    have hgl1 : g < w.heap.size + 1 := by omega
    have hgl2 : g < w.heap.size + 1 + 1 := by omega
    go_enter Try.func45, Try.ntmps45
    go_wp2_with fail
    rw [← HWW.out]
    clear hW gw hgl hgl1 hgl2
    obtain ⟨hb0, hb1, hb2⟩ := FB.out W (Below.refl _ _)
    have a0 : W.cell? ⟨w.heap.size, 0, none⟩ = some (.int .u8 t) := hb0.cell 0
    have a1 : W.cell? ⟨w.heap.size, 1, none⟩ = some (.int .u32 q) := hb0.cell 1
    have b0 : W.cell? ⟨w.heap.size + 1, 0, none⟩ = some (.int .u8 0) := hb1.cell 0
    have b1 : W.cell? ⟨w.heap.size + 1, 1, none⟩ = some (.int .u32 0) := hb1.cell 1
    have n0 : W.cell? ⟨w.heap.size + 2, 0, none⟩ = some (.int .u8 0) := hb2.cell 0
    have n1 : W.cell? ⟨w.heap.size + 2, 1, none⟩ = some (.int .u32 0) := hb2.cell 1
    have z0 := hb2.frozen 0
    have z1 := hb2.frozen 1
    have y0 := hb1.frozen 0
    have y1 := hb1.frozen 1
    clear hb0 hb1 hb2
    go_wp2_with fail
    rw [HVW.out]
    refine bodyPost_ret (v := .tuple #[.agg #[.int .u8 0, .int .u32 0], .agg #[.int .u8 0, .int .u32 0], .int .i64 (3 : Nat)]) ?_ rfl ⟨rfl, ?_⟩
    · simp [results, Try.results45, go_sem, *]
    · have hT := H3.out.trans (Below.mono (B' := w.heap.size) (Below.refl _ _) H3.out.size)
      have hg1 : w.heap.size ≤ w.heap.size + 1 := by omega
      have hg2 : w.heap.size ≤ w.heap.size + 2 := by omega
      first
        | (with_reducible exact hT)
        | (with_reducible exact below_sets0 hT)
        | (with_reducible exact below_set2 hg1 hT)
        | (with_reducible exact below_set2 hg2 hT)
        | (with_reducible exact below_set4 hg1 hg2 hT)
        | (with_reducible exact below_sets2 hg1 hT)
        | (with_reducible exact below_sets2 hg2 hT)
        | (with_reducible exact below_sets4 hg1 hg2 hT)
        | exact below_sets4 hg2 hg1 hT
  · by_cases h1 : (n : Int) ≤ l
    · have HVW : Hid (viewE true n (rs.map some) ⟨t, q⟩ l = (.nil, .nil, 3)) := Lib.hid (viewE_var (.inr h1))
      have gw : w.cell? ⟨g, 3, none⟩ = some (.int .i64 (n : Nat)) := HGW.out.1
      have hgl : g < w.heap.size := HGW.out.2
      have hgl1 : g < w.heap.size + 1 := by omega
      have hgl2 : g < w.heap.size + 1 + 1 := by omega
      go_enter Try.func45, Try.ntmps45
      go_wp2_with fail
      rw [← HWW.out]
      clear hW gw hgl hgl1 hgl2
      obtain ⟨hb0, hb1, hb2⟩ := FB.out W (Below.refl _ _)
      have a0 : W.cell? ⟨w.heap.size, 0, none⟩ = some (.int .u8 t) := hb0.cell 0
      have a1 : W.cell? ⟨w.heap.size, 1, none⟩ = some (.int .u32 q) := hb0.cell 1
      have b0 : W.cell? ⟨w.heap.size + 1, 0, none⟩ = some (.int .u8 0) := hb1.cell 0
      have b1 : W.cell? ⟨w.heap.size + 1, 1, none⟩ = some (.int .u32 0) := hb1.cell 1
      have n0 : W.cell? ⟨w.heap.size + 2, 0, none⟩ = some (.int .u8 0) := hb2.cell 0
      have n1 : W.cell? ⟨w.heap.size + 2, 1, none⟩ = some (.int .u32 0) := hb2.cell 1
      have z0 := hb2.frozen 0
      have z1 := hb2.frozen 1
      have y0 := hb1.frozen 0
      have y1 := hb1.frozen 1
      clear hb0 hb1 hb2
      go_wp2_with fail
      rw [HVW.out]
      refine bodyPost_ret (v := .tuple #[.agg #[.int .u8 0, .int .u32 0], .agg #[.int .u8 0, .int .u32 0], .int .i64 (3 : Nat)]) ?_ rfl ⟨rfl, ?_⟩
      · simp [results, Try.results45, go_sem, *]
      · have hT := H3.out.trans (Below.mono (B' := w.heap.size) (Below.refl _ _) H3.out.size)
        have hg1 : w.heap.size ≤ w.heap.size + 1 := by omega
        have hg2 : w.heap.size ≤ w.heap.size + 2 := by omega
        first
          | (with_reducible exact hT)
          | (with_reducible exact below_sets0 hT)
          | (with_reducible exact below_set2 hg1 hT)
          | (with_reducible exact below_set2 hg2 hT)
          | (with_reducible exact below_set4 hg1 hg2 hT)
          | (with_reducible exact below_sets2 hg1 hT)
          | (with_reducible exact below_sets2 hg2 hT)
          | (with_reducible exact below_sets4 hg1 hg2 hT)
          | exact below_sets4 hg2 hg1 hT
    · have HL : Hid (0 ≤ l ∧ l < n) := Lib.hid ⟨by omega, by omega⟩
      have hd : decide ((n : Int) ≤ l) = false := by simpa using h1
      cases hle : leads (rs.map some) n 2 ⟨t, q⟩ l
      · have HLT := Lib.hid hle
        have HVW : Hid (viewE true n (rs.map some) ⟨t, q⟩ l = (.nil, .nil, 1)) := Lib.hid (viewE_arg HL.out (by simpa [fmOf] using hle))
        clear hle
        have gw : w.cell? ⟨g, 3, none⟩ = some (.int .i64 (n : Nat)) := HGW.out.1
        have hgl : g < w.heap.size := HGW.out.2
        have hgl1 : g < w.heap.size + 1 := by omega
        have hgl2 : g < w.heap.size + 1 + 1 := by omega
        go_enter Try.func45, Try.ntmps45
        go_wp2_with fail
        rw [← HWW.out]
        clear hW gw hgl hgl1 hgl2
        obtain ⟨hb0, hb1, hb2⟩ := FB.out W (Below.refl _ _)
        have a0 : W.cell? ⟨w.heap.size, 0, none⟩ = some (.int .u8 t) := hb0.cell 0
        have a1 : W.cell? ⟨w.heap.size, 1, none⟩ = some (.int .u32 q) := hb0.cell 1
        have b0 : W.cell? ⟨w.heap.size + 1, 0, none⟩ = some (.int .u8 0) := hb1.cell 0
        have b1 : W.cell? ⟨w.heap.size + 1, 1, none⟩ = some (.int .u32 0) := hb1.cell 1
        have n0 : W.cell? ⟨w.heap.size + 2, 0, none⟩ = some (.int .u8 0) := hb2.cell 0
        have n1 : W.cell? ⟨w.heap.size + 2, 1, none⟩ = some (.int .u32 0) := hb2.cell 1
        have z0 := hb2.frozen 0
        have z1 := hb2.frozen 1
        have y0 := hb1.frozen 0
        have y1 := hb1.frozen 1
        clear hb0 hb1 hb2
        go_wp2_with fail
        refine (HLE.out _ (Below.refl _ _)).mono ?_
        rintro e w1 ⟨rfl, hbel1⟩
        rw [HLT.out]
        clear a0 a1 b0 b1 n0 n1 z0 z1 y0 y1
        obtain ⟨hb0, hb1, hb2⟩ := FB.out w1 hbel1
        have a0 : w1.cell? ⟨w.heap.size, 0, none⟩ = some (.int .u8 t) := hb0.cell 0
        have a1 : w1.cell? ⟨w.heap.size, 1, none⟩ = some (.int .u32 q) := hb0.cell 1
        have b0 : w1.cell? ⟨w.heap.size + 1, 0, none⟩ = some (.int .u8 0) := hb1.cell 0
        have b1 : w1.cell? ⟨w.heap.size + 1, 1, none⟩ = some (.int .u32 0) := hb1.cell 1
        have n0 : w1.cell? ⟨w.heap.size + 2, 0, none⟩ = some (.int .u8 0) := hb2.cell 0
        have n1 : w1.cell? ⟨w.heap.size + 2, 1, none⟩ = some (.int .u32 0) := hb2.cell 1
        have z0 := hb2.frozen 0
        have z1 := hb2.frozen 1
        have y0 := hb1.frozen 0
        have y1 := hb1.frozen 1
        clear hb0 hb1 hb2
        go_wp2_with fail
        rw [HVW.out]
        refine bodyPost_ret (v := .tuple #[.agg #[.int .u8 0, .int .u32 0], .agg #[.int .u8 0, .int .u32 0], .int .i64 (1 : Nat)]) ?_ rfl ⟨rfl, ?_⟩
        · simp [results, Try.results45, go_sem, *]
        · have hT := H3.out.trans (Below.mono (B' := w.heap.size) hbel1 H3.out.size)
          have hg1 : w.heap.size ≤ w.heap.size + 1 := by omega
          have hg2 : w.heap.size ≤ w.heap.size + 2 := by omega
          first
            | (with_reducible exact hT)
            | (with_reducible exact below_sets0 hT)
            | (with_reducible exact below_set2 hg1 hT)
            | (with_reducible exact below_set2 hg2 hT)
            | (with_reducible exact below_set4 hg1 hg2 hT)
            | (with_reducible exact below_sets2 hg1 hT)
            | (with_reducible exact below_sets2 hg2 hT)
            | (with_reducible exact below_sets4 hg1 hg2 hT)
            | exact below_sets4 hg2 hg1 hT
      · have HLT := Lib.hid hle
        cases hr : recAt (rs.map some) q with
        | none =>
          have HVW : Hid (viewE true n (rs.map some) ⟨t, q⟩ l = (⟨t, q⟩, .nil, 0)) := Lib.hid (viewE_none HL.out (by simpa [fmOf] using hle) hr)
          have HPL : Hid (plcOf rs.length q = -1) := Lib.hid (plcOf_none hr)
          clear hle hr
          have gw : w.cell? ⟨g, 3, none⟩ = some (.int .i64 (n : Nat)) := HGW.out.1
          have hgl : g < w.heap.size := HGW.out.2
          have hgl1 : g < w.heap.size + 1 := by omega
          have hgl2 : g < w.heap.size + 1 + 1 := by omega
          go_enter Try.func45, Try.ntmps45
          go_wp2_with fail
          rw [← HWW.out]
          clear hW gw hgl hgl1 hgl2
          obtain ⟨hb0, hb1, hb2⟩ := FB.out W (Below.refl _ _)
          have a0 : W.cell? ⟨w.heap.size, 0, none⟩ = some (.int .u8 t) := hb0.cell 0
          have a1 : W.cell? ⟨w.heap.size, 1, none⟩ = some (.int .u32 q) := hb0.cell 1
          have b0 : W.cell? ⟨w.heap.size + 1, 0, none⟩ = some (.int .u8 0) := hb1.cell 0
          have b1 : W.cell? ⟨w.heap.size + 1, 1, none⟩ = some (.int .u32 0) := hb1.cell 1
          have n0 : W.cell? ⟨w.heap.size + 2, 0, none⟩ = some (.int .u8 0) := hb2.cell 0
          have n1 : W.cell? ⟨w.heap.size + 2, 1, none⟩ = some (.int .u32 0) := hb2.cell 1
          have z0 := hb2.frozen 0
          have z1 := hb2.frozen 1
          have y0 := hb1.frozen 0
          have y1 := hb1.frozen 1
          clear hb0 hb1 hb2
          go_wp2_with fail
          refine (HLE.out _ (Below.refl _ _)).mono ?_
          rintro e w1 ⟨rfl, hbel1⟩
          rw [HLT.out]
          clear a0 a1 b0 b1 n0 n1 z0 z1 y0 y1
          obtain ⟨hb0, hb1, hb2⟩ := FB.out w1 hbel1
          have a0 : w1.cell? ⟨w.heap.size, 0, none⟩ = some (.int .u8 t) := hb0.cell 0
          have a1 : w1.cell? ⟨w.heap.size, 1, none⟩ = some (.int .u32 q) := hb0.cell 1
          have b0 : w1.cell? ⟨w.heap.size + 1, 0, none⟩ = some (.int .u8 0) := hb1.cell 0
          have b1 : w1.cell? ⟨w.heap.size + 1, 1, none⟩ = some (.int .u32 0) := hb1.cell 1
          have n0 : w1.cell? ⟨w.heap.size + 2, 0, none⟩ = some (.int .u8 0) := hb2.cell 0
          have n1 : w1.cell? ⟨w.heap.size + 2, 1, none⟩ = some (.int .u32 0) := hb2.cell 1
          have z0 := hb2.frozen 0
          have z1 := hb2.frozen 1
          have y0 := hb1.frozen 0
          have y1 := hb1.frozen 1
          clear hb0 hb1 hb2
          have c0 : w1.cell? ⟨g, 0, none⟩ = some (.slice A rs.length c) := (HBS.out.on' hbel1).cell 0
          go_wp2_with fail
          refine (HAT.out _ hbel1).mono ?_
          rintro e w2 ⟨rfl, rfl⟩
          rw [HPL.out]
          go_wp2_with fail
          go_wp2_with fail
          rw [HVW.out]
          refine bodyPost_ret (v := .tuple #[.agg #[.int .u8 t, .int .u32 q], .agg #[.int .u8 0, .int .u32 0], .int .i64 (0 : Nat)]) ?_ rfl ⟨rfl, ?_⟩
          · simp [results, Try.results45, go_sem, *]
          · have hT := H3.out.trans (Below.mono (B' := w.heap.size) hbel1 H3.out.size)
            have hg1 : w.heap.size ≤ w.heap.size + 1 := by omega
            have hg2 : w.heap.size ≤ w.heap.size + 2 := by omega
            first
              | (with_reducible exact hT)
              | (with_reducible exact below_sets0 hT)
              | (with_reducible exact below_set2 hg1 hT)
              | (with_reducible exact below_set2 hg2 hT)
              | (with_reducible exact below_set4 hg1 hg2 hT)
              | (with_reducible exact below_sets2 hg1 hT)
              | (with_reducible exact below_sets2 hg2 hT)
              | (with_reducible exact below_sets4 hg1 hg2 hT)
              | exact below_sets4 hg2 hg1 hT
        | some r =>
          obtain ⟨k, hk, hkr, hpl⟩ := plcOf_some hr
          have HPL : Hid (plcOf rs.length q = (k : Int)) := Lib.hid hpl
          have HKR := Lib.hid hkr
          have HTP : Hid (l ≤ r.top) := Lib.hid (leads_top (by simpa [fmOf] using hle) hr)
          have hwf := HWF.out r (List.mem_of_getElem? hkr)
          by_cases htop : l < r.top
          · have HVW : Hid (viewE true n (rs.map some) ⟨t, q⟩ l = (⟨t, q⟩, .nil, 0)) := Lib.hid (viewE_high HL.out (by simpa [fmOf] using hle) hr htop)
            obtain ⟨rf, rt, rb, ⟨rlt, rlp⟩, ⟨rht, rhp⟩⟩ := r
            obtain ⟨_, ⟨w3, w4⟩, _, _, _⟩ := hwf
            simp only at w3 w4 htop
            clear hle hr hkr hpl
            have gw : w.cell? ⟨g, 3, none⟩ = some (.int .i64 (n : Nat)) := HGW.out.1
            have hgl : g < w.heap.size := HGW.out.2
            have hgl1 : g < w.heap.size + 1 := by omega
            have hgl2 : g < w.heap.size + 1 + 1 := by omega
            go_enter Try.func45, Try.ntmps45
            go_wp2_with fail
            rw [← HWW.out]
            clear hW gw hgl hgl1 hgl2
            obtain ⟨hb0, hb1, hb2⟩ := FB.out W (Below.refl _ _)
            have a0 : W.cell? ⟨w.heap.size, 0, none⟩ = some (.int .u8 t) := hb0.cell 0
            have a1 : W.cell? ⟨w.heap.size, 1, none⟩ = some (.int .u32 q) := hb0.cell 1
            have b0 : W.cell? ⟨w.heap.size + 1, 0, none⟩ = some (.int .u8 0) := hb1.cell 0
            have b1 : W.cell? ⟨w.heap.size + 1, 1, none⟩ = some (.int .u32 0) := hb1.cell 1
            have n0 : W.cell? ⟨w.heap.size + 2, 0, none⟩ = some (.int .u8 0) := hb2.cell 0
            have n1 : W.cell? ⟨w.heap.size + 2, 1, none⟩ = some (.int .u32 0) := hb2.cell 1
            have z0 := hb2.frozen 0
            have z1 := hb2.frozen 1
            have y0 := hb1.frozen 0
            have y1 := hb1.frozen 1
            clear hb0 hb1 hb2
            go_wp2_with fail
            refine (HLE.out _ (Below.refl _ _)).mono ?_
            rintro e w1 ⟨rfl, hbel1⟩
            rw [HLT.out]
            clear a0 a1 b0 b1 n0 n1 z0 z1 y0 y1
            obtain ⟨hb0, hb1, hb2⟩ := FB.out w1 hbel1
            have a0 : w1.cell? ⟨w.heap.size, 0, none⟩ = some (.int .u8 t) := hb0.cell 0
            have a1 : w1.cell? ⟨w.heap.size, 1, none⟩ = some (.int .u32 q) := hb0.cell 1
            have b0 : w1.cell? ⟨w.heap.size + 1, 0, none⟩ = some (.int .u8 0) := hb1.cell 0
            have b1 : w1.cell? ⟨w.heap.size + 1, 1, none⟩ = some (.int .u32 0) := hb1.cell 1
            have n0 : w1.cell? ⟨w.heap.size + 2, 0, none⟩ = some (.int .u8 0) := hb2.cell 0
            have n1 : w1.cell? ⟨w.heap.size + 2, 1, none⟩ = some (.int .u32 0) := hb2.cell 1
            have z0 := hb2.frozen 0
            have z1 := hb2.frozen 1
            have y0 := hb1.frozen 0
            have y1 := hb1.frozen 1
            clear hb0 hb1 hb2
            have c0 : w1.cell? ⟨g, 0, none⟩ = some (.slice A rs.length c) := (HBS.out.on' hbel1).cell 0
            go_wp2_with fail
            refine (HAT.out _ hbel1).mono ?_
            rintro e w2 ⟨rfl, rfl⟩
            rw [HPL.out]
            have hOr := HO.out.chg (F := []) (chg_of_below hbel1) (by simp)
            obtain ⟨b9, c0', hv, _, hbl, hcl⟩ := OwnS.head HO0.out (by rw [nodesOf_len]; omega)
            injection hv with e1' e2' e3'
            subst e1'
            subst e3'
            have hat := (OwnS.at_ nodeEnc_len hOr k _ (nodesOf_get HKR.out)).1
            have k1 : w1.cell? ⟨b9, k * 8 + 1 + 1, none⟩ = some (.int .u8 rt) := hat 2 _ rfl
            have k3 : w1.cell? ⟨b9, k * 8 + 1 + 3, none⟩ = some (.int .u8 rlt) := hat 4 _ rfl
            have k4 : w1.cell? ⟨b9, k * 8 + 1 + 3 + 1, none⟩ = some (.int .u32 rlp) := hat 5 _ rfl
            have k5 : w1.cell? ⟨b9, k * 8 + 1 + 5, none⟩ = some (.int .u8 rht) := hat 6 _ rfl
            have k6 : w1.cell? ⟨b9, k * 8 + 1 + 5 + 1, none⟩ = some (.int .u32 rhp) := hat 7 _ rfl
            have q1 : ¬ g = w.heap.size + 1 := by have := HGW.out.2; omega
            have q2 : ¬ g = w.heap.size + 2 := by have := HGW.out.2; omega
            have q3 : ¬ b9 = w.heap.size + 1 := by omega
            have q4 : ¬ b9 = w.heap.size + 2 := by omega
            clear e2' hOr hat hcl hbl
            have htq : (rt == l) = false := by simp; omega
            go_wp2_with fail
            go_wp2_with fail
            rw [HVW.out]
            refine bodyPost_ret (v := .tuple #[.agg #[.int .u8 t, .int .u32 q], .agg #[.int .u8 0, .int .u32 0], .int .i64 (0 : Nat)]) ?_ rfl ⟨rfl, ?_⟩
            · simp [results, Try.results45, go_sem, *]
            · have hT := H3.out.trans (Below.mono (B' := w.heap.size) hbel1 H3.out.size)
              have hg1 : w.heap.size ≤ w.heap.size + 1 := by omega
              have hg2 : w.heap.size ≤ w.heap.size + 2 := by omega
              first
                | (with_reducible exact hT)
                | (with_reducible exact below_sets0 hT)
                | (with_reducible exact below_set2 hg1 hT)
                | (with_reducible exact below_set2 hg2 hT)
                | (with_reducible exact below_set4 hg1 hg2 hT)
                | (with_reducible exact below_sets2 hg1 hT)
                | (with_reducible exact below_sets2 hg2 hT)
                | (with_reducible exact below_sets4 hg1 hg2 hT)
                | exact below_sets4 hg2 hg1 hT
          · have HVW : Hid (viewE true n (rs.map some) ⟨t, q⟩ l = (r.lo, r.hi, 0)) := Lib.hid (viewE_at HL.out (by simpa [fmOf] using hle) hr htop)
            obtain rfl : r.top = l := by have := HTP.out; omega
            obtain ⟨rf, rt, rb, ⟨rlt, rlp⟩, ⟨rht, rhp⟩⟩ := r
            obtain ⟨_, ⟨w3, w4⟩, _, _, _⟩ := hwf
            simp only at w3 w4 htop
            clear hle hr hkr hpl
            have gw : w.cell? ⟨g, 3, none⟩ = some (.int .i64 (n : Nat)) := HGW.out.1
            have hgl : g < w.heap.size := HGW.out.2
            have hgl1 : g < w.heap.size + 1 := by omega
            have hgl2 : g < w.heap.size + 1 + 1 := by omega
            go_enter Try.func45, Try.ntmps45
            go_wp2_with fail
            rw [← HWW.out]
            clear hW gw hgl hgl1 hgl2
            obtain ⟨hb0, hb1, hb2⟩ := FB.out W (Below.refl _ _)
            have a0 : W.cell? ⟨w.heap.size, 0, none⟩ = some (.int .u8 t) := hb0.cell 0
            have a1 : W.cell? ⟨w.heap.size, 1, none⟩ = some (.int .u32 q) := hb0.cell 1
            have b0 : W.cell? ⟨w.heap.size + 1, 0, none⟩ = some (.int .u8 0) := hb1.cell 0
            have b1 : W.cell? ⟨w.heap.size + 1, 1, none⟩ = some (.int .u32 0) := hb1.cell 1
            have n0 : W.cell? ⟨w.heap.size + 2, 0, none⟩ = some (.int .u8 0) := hb2.cell 0
            have n1 : W.cell? ⟨w.heap.size + 2, 1, none⟩ = some (.int .u32 0) := hb2.cell 1
            have z0 := hb2.frozen 0
            have z1 := hb2.frozen 1
            have y0 := hb1.frozen 0
            have y1 := hb1.frozen 1
            clear hb0 hb1 hb2
            go_wp2_with fail
            refine (HLE.out _ (Below.refl _ _)).mono ?_
            rintro e w1 ⟨rfl, hbel1⟩
            rw [HLT.out]
            clear a0 a1 b0 b1 n0 n1 z0 z1 y0 y1
            obtain ⟨hb0, hb1, hb2⟩ := FB.out w1 hbel1
            have a0 : w1.cell? ⟨w.heap.size, 0, none⟩ = some (.int .u8 t) := hb0.cell 0
            have a1 : w1.cell? ⟨w.heap.size, 1, none⟩ = some (.int .u32 q) := hb0.cell 1
            have b0 : w1.cell? ⟨w.heap.size + 1, 0, none⟩ = some (.int .u8 0) := hb1.cell 0
            have b1 : w1.cell? ⟨w.heap.size + 1, 1, none⟩ = some (.int .u32 0) := hb1.cell 1
            have n0 : w1.cell? ⟨w.heap.size + 2, 0, none⟩ = some (.int .u8 0) := hb2.cell 0
            have n1 : w1.cell? ⟨w.heap.size + 2, 1, none⟩ = some (.int .u32 0) := hb2.cell 1
            have z0 := hb2.frozen 0
            have z1 := hb2.frozen 1
            have y0 := hb1.frozen 0
            have y1 := hb1.frozen 1
            clear hb0 hb1 hb2
            have c0 : w1.cell? ⟨g, 0, none⟩ = some (.slice A rs.length c) := (HBS.out.on' hbel1).cell 0
            go_wp2_with fail
            refine (HAT.out _ hbel1).mono ?_
            rintro e w2 ⟨rfl, rfl⟩
            rw [HPL.out]
            have hOr := HO.out.chg (F := []) (chg_of_below hbel1) (by simp)
            obtain ⟨b9, c0', hv, _, hbl, hcl⟩ := OwnS.head HO0.out (by rw [nodesOf_len]; omega)
            injection hv with e1' e2' e3'
            subst e1'
            subst e3'
            have hat := (OwnS.at_ nodeEnc_len hOr k _ (nodesOf_get HKR.out)).1
            have k1 : w1.cell? ⟨b9, k * 8 + 1 + 1, none⟩ = some (.int .u8 rt) := hat 2 _ rfl
            have k3 : w1.cell? ⟨b9, k * 8 + 1 + 3, none⟩ = some (.int .u8 rlt) := hat 4 _ rfl
            have k4 : w1.cell? ⟨b9, k * 8 + 1 + 3 + 1, none⟩ = some (.int .u32 rlp) := hat 5 _ rfl
            have k5 : w1.cell? ⟨b9, k * 8 + 1 + 5, none⟩ = some (.int .u8 rht) := hat 6 _ rfl
            have k6 : w1.cell? ⟨b9, k * 8 + 1 + 5 + 1, none⟩ = some (.int .u32 rhp) := hat 7 _ rfl
            have q1 : ¬ g = w.heap.size + 1 := by have := HGW.out.2; omega
            have q2 : ¬ g = w.heap.size + 2 := by have := HGW.out.2; omega
            have q3 : ¬ b9 = w.heap.size + 1 := by omega
            have q4 : ¬ b9 = w.heap.size + 2 := by omega
            clear e2' hOr hat hcl hbl
            go_wp2_with fail
            go_region
            all_goals
              go_wp2_with fail
              rw [HVW.out]
              refine bodyPost_ret (v := .tuple #[.agg #[.int .u8 rlt, .int .u32 rlp], .agg #[.int .u8 rht, .int .u32 rhp], .int .i64 (0 : Nat)]) ?_ rfl ⟨rfl, ?_⟩
              · simp [results, Try.results45, go_sem, *]
              · have hT := H3.out.trans (Below.mono (B' := w.heap.size) hbel1 H3.out.size)
                have hg1 : w.heap.size ≤ w.heap.size + 1 := by omega
                have hg2 : w.heap.size ≤ w.heap.size + 2 := by omega
                first
                  | (with_reducible exact hT)
                  | (with_reducible exact below_sets0 hT)
                  | (with_reducible exact below_set2 hg1 hT)
                  | (with_reducible exact below_set2 hg2 hT)
                  | (with_reducible exact below_set4 hg1 hg2 hT)
                  | (with_reducible exact below_sets2 hg1 hT)
                  | (with_reducible exact below_sets2 hg2 hT)
                  | (with_reducible exact below_sets4 hg1 hg2 hT)
                  | exact below_sets4 hg2 hg1 hT

end Go.Proofs.Ytfcklfpgjadfmaa
