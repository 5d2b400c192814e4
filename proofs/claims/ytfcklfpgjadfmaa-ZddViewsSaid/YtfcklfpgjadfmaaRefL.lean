/- Contract: the document's store's Leads. -/
import Derived.Test.YtfcklfpgjadfmaaRefS
namespace Go.Proofs.Ytfcklfpgjadfmaa
open Go.RowKit Go.Sort
set_option linter.unusedSimpArgs false
set_option linter.unusedVariables false

set_option maxRecDepth 100000 in
set_option maxHeartbeats 4000000 in
theorem refLeads_any (F : List Nat) (g n room : Nat) (rs : List Rec) (f : Int) (e : Edg) (l : Int) (w : World) (h : RefAt w F g n room rs) (hf : 0 ≤ f ∧ f ≤ 255) (he : e.Wf) (hlen : rs.length ≤ 1048576) (hwf : ∀ r ∈ rs, r.Wf) :
    Calls Try.prog 64 #[.pointer (some ⟨g, 0, none⟩), .int .u8 f, .agg e.cells.toArray, .int .i64 l] w fun r w' => r = .returned (.bool (leads (rs.map some) n f e l)) ∧ Below w.heap.size w w' := by
  have HST := Lib.hid h
  have HE := Lib.hid he
  have HWF := Lib.hid hwf
  obtain ⟨t, p⟩ := e
  obtain ⟨e1, e2, e3, e4⟩ := he
  obtain ⟨f1, f2⟩ := hf
  simp only [Edg.cells] at e1 e2 e3 e4 ⊢
  obtain ⟨W, hW⟩ : ∃ W, W = w.alloc (.cells #[.int .u8 t, .int .u32 p] 35) := ⟨_, rfl⟩
  have hbW : Below w.heap.size w W := by rw [hW]; exact (Below.refl _ _).alloc (Nat.le_refl _) _
  have hK : Blk W w.heap.size 35 #[.int .u8 t, .int .u32 p] := by rw [hW]; exact Blk.new w _ _
  have HSW := Lib.hid (HST.out.on hbW)
  obtain ⟨A, len, c, hB, hO, hl, hFe, hnd⟩ := HSW.out
  have j0 : ∀ d os, (grow (redrawn W d) os).cell? ⟨g, 3, none⟩ = some (.int .i64 (n : Nat)) := fun d os => cell_regrown (hB.cell 3) d os
  have j1 : ∀ d os, (grow (redrawn W d) os).cell? ⟨w.heap.size, 0, none⟩ = some (.int .u8 t) := fun d os => cell_regrown (hK.cell 0) d os
  have j2 : ∀ d os, (grow (redrawn W d) os).cell? ⟨w.heap.size, 1, none⟩ = some (.int .u32 p) := fun d os => cell_regrown (hK.cell 1) d os
  have cPL := regrown_calls (W := W) (fun W' hW' => (refPlain_any f ⟨t, p⟩ l n W' ⟨f1, f2⟩ HE.out).mono fun _ _ ⟨q1, q2⟩ => ⟨q1, hW'.trans (q2.mono hW'.size)⟩)
  simp only [Edg.cells] at cPL
  have HWW := Lib.hid hW
  have HbW := Lib.hid hbW
  have HK := Lib.hid hK
  have HB := Lib.hid hB
  have HO := Lib.hid hO
  have HL := Lib.hid hl
  clear h hbW hK hB hO hl hFe hnd hwf
  cases hp : plain f ⟨t, p⟩ l n  
  · have HR : Hid (leads (rs.map some) n f ⟨t, p⟩ l = false) := Lib.hid (leads_no hp)
    rw [hp] at cPL
    clear hp
    go_enter Try.func64, Try.ntmps64
    go_wp2_with fail
    rw [← HWW.out]
    clear hW
    refine wp_region_quiet_below (by kernel_rfl) (by kernel_rfl) ?_
    repeat (first | go_big_quiet_step ((first | with_reducible exact cPL _ _ | fail)) | quiet_step ((first | with_reducible exact cPL _ _ | fail)))
    refine wpQuiet_nil ?_
    intro w6 hw'
    have hbel6 : Below W.heap.size W w6 := regrown_below hw'
    clear hw'
    clear cPL j0 j1 j2
    go_wp2_with fail
    go_ret
    exact ⟨by rw [HR.out]; rfl, HbW.out.trans (hbel6.mono HbW.out.size)⟩
  · have HP := Lib.hid hp
    rw [hp] at cPL
    clear hp
    go_enter Try.func64, Try.ntmps64
    go_wp2_with fail
    rw [← HWW.out]
    clear hW
    refine wp_region_quiet_below (by kernel_rfl) (by kernel_rfl) ?_
    repeat (first | go_big_quiet_step ((first | with_reducible exact cPL _ _ | fail)) | quiet_step ((first | with_reducible exact cPL _ _ | fail)))
    refine wpQuiet_nil ?_
    intro w6 hw'
    have hbel6 : Below W.heap.size W w6 := regrown_below hw'
    clear hw'
    clear cPL j0 j1 j2
    have a0 : w6.cell? ⟨w.heap.size, 0, none⟩ = some (.int .u8 t) := (HK.out.on' hbel6).cell 0
    have a1 : w6.cell? ⟨w.heap.size, 1, none⟩ = some (.int .u32 p) := (HK.out.on' hbel6).cell 1
    have hb6 := HB.out.on' hbel6
    have a2 : w6.cell? ⟨g, 0, none⟩ = some (.slice A len c) := hb6.cell 0
    have hO6 := HO.out.chg (F := []) (chg_of_below hbel6) (by simp)
    have hbx : w.heap.size < w6.heap.size := (HK.out.on' hbel6).lt
    have HO6 := Lib.hid hO6
    have HREF := Lib.hid (HSW.out.on hbel6)
    clear hb6 hO6
    go_wp2_with fail
    refine (refAt_any F g n room rs p _ HREF.out e3 e4 hlen).mono ?_
    rintro e w' ⟨rfl, rfl⟩
    by_cases h2 : p < 2
    · have HR : Hid (leads (rs.map some) n f ⟨t, p⟩ l = true) := Lib.hid (leads_low HP.out h2)
      generalize plcOf rs.length p = q
      go_wp2_with fail
      go_ret
      exact ⟨by rw [HR.out]; simp [h2], HbW.out.trans (hbel6.mono HbW.out.size)⟩
    · by_cases h3 : p < (len : Int) + 2
      · have hq : plcOf rs.length p = p - 2 := by unfold plcOf; rw [if_pos (by have := HL.out; omega)]
        rw [hq]
        obtain ⟨k, hk⟩ := Int.eq_ofNat_of_zero_le (show 0 ≤ p - 2 by omega)
        obtain ⟨r, hr⟩ : ∃ r, rs[k]? = some r := ⟨_, List.getElem?_eq_getElem (by have := HL.out; omega)⟩
        have hrc : recAt (rs.map some) p = some r := by rw [recAt_map, if_pos (by have := HL.out; omega), hk, Int.toNat_natCast, hr]
        have HR := Lib.hid (leads_some HP.out h2 hrc)
        have hrw := HWF.out r (List.mem_of_getElem? hr)
        obtain ⟨b, c0, hv, _, hbl, hcl⟩ := OwnS.head HO6.out (by rw [nodesOf_len]; have := (List.getElem?_eq_some_iff.1 hr).1; omega)
        injection hv with v1 v2 v3
        subst v1
        subst v3
        have hat := (OwnS.at_ nodeEnc_len HO6.out k _ (nodesOf_get hr)).1
        obtain ⟨rf, rt, rb, ⟨rlt, rlp⟩, ⟨rht, rhp⟩⟩ := r
        obtain ⟨⟨w1, w2⟩, ⟨w3, w4⟩, _, _, _⟩ := hrw
        simp only at w1 w2 w3 w4
        have k0 : w6.cell? ⟨b, k * 8 + 1, none⟩ = some (.int .u8 rf) := hat 1 _ rfl
        have k1 : w6.cell? ⟨b, k * 8 + 2, none⟩ = some (.int .u8 rt) := hat 2 _ rfl
        have k2 : w6.cell? ⟨b, k * 8 + 3, none⟩ = some (.int .u8 rb) := hat 3 _ rfl
        have k3 : w6.cell? ⟨b, k * 8 + 4, none⟩ = some (.int .u8 rlt) := hat 4 _ rfl
        have k4 : w6.cell? ⟨b, k * 8 + 5, none⟩ = some (.int .u32 rlp) := hat 5 _ rfl
        have k5 : w6.cell? ⟨b, k * 8 + 6, none⟩ = some (.int .u8 rht) := hat 6 _ rfl
        have k6 : w6.cell? ⟨b, k * 8 + 7, none⟩ = some (.int .u32 rhp) := hat 7 _ rfl
        rw [hk]
        have hkl : k < len := by omega
        have HKE := Lib.hid hk
        clear hq hk hat hr hrc v2 hcl
        by_cases g1 : rf = f
        · have hx1 : (rf == f) = true := by simpa using g1
          by_cases g2 : l ≤ rt
          · have hx2 : decide (l ≤ rt) = true := by simpa using g2
            by_cases g3 : t ≤ rt
            · have hx3 : decide (t ≤ rt) = true := by simpa using g3
              clear g1 g2 g3
              go_wp2_with fail
              go_ret
              exact ⟨by rw [HR.out, hx1, hx2, hx3]; rfl, HbW.out.trans (Below.mono (B' := w.heap.size) (keepC hbel6) HbW.out.size)⟩
            · have hx3 : decide (t ≤ rt) = false := by simpa using g3
              clear g1 g2 g3
              go_wp2_with fail
              go_ret
              exact ⟨by rw [HR.out, hx1, hx2, hx3]; rfl, HbW.out.trans (Below.mono (B' := w.heap.size) (keepC hbel6) HbW.out.size)⟩
          · have hx2 : decide (l ≤ rt) = false := by simpa using g2
            clear g1 g2
            go_wp2_with fail
            go_ret
            exact ⟨by rw [HR.out, hx1, hx2]; rfl, HbW.out.trans (Below.mono (B' := w.heap.size) (keepC hbel6) HbW.out.size)⟩
        · have hx1 : (rf == f) = false := by simpa using g1
          clear g1
          go_wp2_with fail
          go_ret
          exact ⟨by rw [HR.out, hx1]; rfl, HbW.out.trans (Below.mono (B' := w.heap.size) (keepC hbel6) HbW.out.size)⟩
      · have hq : plcOf rs.length p = -1 := by unfold plcOf; rw [if_neg (by have := HL.out; omega)]
        have HR : Hid (leads (rs.map some) n f ⟨t, p⟩ l = false) := Lib.hid (leads_none HP.out h2 (by show recAt (rs.map some) p = none; rw [recAt_map, if_neg (by have := HL.out; omega)]))
        rw [hq]
        clear hq
        go_wp2_with fail
        go_ret
        exact ⟨by rw [HR.out]; simp [h2], HbW.out.trans (hbel6.mono HbW.out.size)⟩
end Go.Proofs.Ytfcklfpgjadfmaa
