/- ScriptDecodes: the walk. -/
import Derived.Test.YtnlhibhamechcaaDoorScAlive
import Derived.Test.YtnlhibhamechcaaDoorScRDec
namespace Go.Proofs.YtnlhibhamechcaaDoor
open Go.RowKit Go.Sort
set_option linter.unusedSimpArgs false
set_option linter.unusedVariables false

theorem BytesArg.on {w w' : World} {A : Option Addr} {n c : Nat} {bs : List Nat} (h : BytesArg w A n c bs) (hb : Below w.heap.size w w') : BytesArg w' A n c bs := by
  obtain ⟨h1, h2, h3, h4, h5⟩ := h
  exact ⟨h1, h2, h3, h4.on hb, h5⟩
set_option maxRecDepth 100000 in
set_option maxHeartbeats 16000000 in
theorem scdecodes_walk (A : Option Addr) (n c : Nat) (bs : List Nat) (w : World) (h : BytesArg w A n c bs) (hP : Pow w) (hA : Asc w) :
    Calls Tryd.prog 3 #[.slice A n c] w fun e w' => e = .returned (.bool true) ∧ Below w.heap.size w w' := by
  have HAL := Lib.hid (scalive_any w hP hA)
  have HH := Lib.hid h
  have HP := Lib.hid hP
  have HA := Lib.hid hA
  have HDL := Lib.hid (decode_len bs.length bs (Nat.le_refl _))
  obtain ⟨h1, h2, h3, h4, h5⟩ := h
  have HWF := Lib.hid (decode_wf bs.length bs (Nat.le_refl _) h5)
  rw [h1] at HDL
  clear h4 h5 hP hA
  by_cases hn : 1000 < n
  · go_enter Tryd.func3, Tryd.ntmps3
    go_wp2_with fail
    refine HAL.out.mono ?_
    rintro e w1 ⟨rfl, hb1⟩
    go_wp2_with fail
    go_ret
    exact ⟨rfl, hb1⟩
  · have HD1 := Lib.hid (fun W (h : BytesArg W A n c bs) => sdecode_any A n c bs W h (by omega))
    have HD2 := Lib.hid (fun W (h : BytesArg W A n c bs) => rdecode_any A n c bs W h (by omega))
    obtain ⟨L, hL⟩ : ∃ L, L = decode bs := ⟨_, rfl⟩
    rw [← hL] at HDL HWF HD1 HD2
    clear hL
    go_enter Tryd.func3, Tryd.ntmps3
    go_wp2_with fail
    refine HAL.out.mono ?_
    rintro e w1 ⟨rfl, hb1⟩
    have HB1 := Lib.hid hb1
    clear hb1
    go_wp2_with fail
    refine (HD1.out _ (HH.out.on HB1.out)).mono ?_
    rintro e w2 ⟨v1, rfl, hown1, hb2⟩
    have HB2 := Lib.hid (HB1.out.trans (hb2.mono HB1.out.size))
    have hs1 := HB1.out.size
    obtain ⟨A1, n1, c1, rfl, hl1, hc1⟩ := hown1.form
    have HO1 := Lib.hid hown1
    clear hown1 hb2
    go_wp2_with fail
    refine (HD2.out _ (HH.out.on HB2.out)).mono ?_
    rintro e w3 ⟨v2, rfl, hown2, hb3⟩
    have HB3 := Lib.hid (HB2.out.trans (hb3.mono HB2.out.size))
    have HO1' : Hid (OwnS 8 Stp.cells 30 w3 w1.heap.size (.slice A1 n1 c1) L) := Lib.hid (HO1.out.chg (F := []) (chg_of_below hb3) (by simp))
    obtain ⟨A2, n2, c2, rfl, hl2, hc2⟩ := hown2.form
    have HO2 := Lib.hid hown2
    have hnn : n1 = n2 := by omega
    subst hnn
    have HR1 : Hid (RowS 8 Stp.cells w3 w3.heap.size A1 L) := Lib.hid (OwnS.rows Stp.cells_len HO1'.out)
    have HR2 : Hid (RowS 8 Stp.cells w3 w3.heap.size A2 L) := Lib.hid (OwnS.rows Stp.cells_len HO2.out)
    have hnl := HDL.out
    clear hown2 hb3 HO1 HO2 HO1'
    go_wp2_with fail
    go_loopw [5] (fun v wr => ∃ k : Nat, k ≤ n1 ∧ v = .int .i64 (k : Int) ∧ Below w3.heap.size w3 wr) (fun v _ => n1 - (intOf v).toNat)
    case atStart => exact ⟨0, by omega, rfl, Below.refl _ _⟩
    case round =>
      obtain ⟨k, hk, rfl, hbr⟩ := hrel
      have HBR := Lib.hid hbr
      rcases Nat.lt_or_ge k n1 with hlt | hge
      · obtain ⟨s, hs⟩ : ∃ s, L[k]? = some s := ⟨_, List.getElem?_eq_getElem (by omega)⟩
        have hwf := HWF.out s (List.mem_of_getElem? hs)
        obtain ⟨b1, o1, hA1, hb1, hc1'⟩ := HR1.out (by omega)
        obtain ⟨b2, o2, hA2, hb2, hc2'⟩ := HR2.out (by omega)
        have q1 : wr.rangeAt b1 (o1 + k * 8) s.cells := rangeAt_keep (hc1' k s hs) (hbr.block b1 hb1)
        have q2 : wr.rangeAt b2 (o2 + k * 8) s.cells := rangeAt_keep (hc2' k s hs) (hbr.block b2 hb2)
        clear hc1' hc2' hb1 hb2
        subst hA1 hA2
        have hPr := (HP.out.on HB3.out).on hbr
        have hAr := (HA.out.on HB3.out).on hbr
        have d1 := regrown_calls (W := wr) (fun W' hW' => (plain_any s W').mono fun _ _ ⟨he, hb⟩ => ⟨he, hW'.trans (hb.mono hW'.size)⟩)
        have d2 := regrown_calls (W := wr) (fun W' hW' => (stext_any s hwf W' (hPr.on hW') (hAr.on hW')).mono fun _ _ ⟨he, hb⟩ => ⟨he, hW'.trans (hb.mono hW'.size)⟩)
        have d3 := regrown_calls (W := wr) (fun W' hW' => (rtext_any s hwf W').mono fun _ _ ⟨he, hb⟩ => ⟨he, hW'.trans (hb.mono hW'.size)⟩)
        generalize s.text = x at *
        obtain ⟨sk, sf, sa, sb, sc, sv, skk, so⟩ := s
        simp only [Stp.cells] at q1 q2 d1 d2 d3
        unfold txt at d2 d3
        clear hPr hAr hwf hs
        have D := Lib.hid (And.intro d1 (And.intro d2 d3))
        have HQ1 := Lib.hid q1
        have HQ2 := Lib.hid q2
        clear d1 d2 d3 q1 q2 hbr
        go_wp2_with fail
        obtain ⟨d1, d2, d3⟩ := D.out
        have q1 := HQ1.out
        have q2 := HQ2.out
        have i0 : ∀ d os, (grow (redrawn wr d) os).cell? ⟨b1, o1 + k * 8, none⟩ = some (.int .u8 sk) := fun d os => cell_regrown (q1 0 _ rfl) d os
        have i1 : ∀ d os, (grow (redrawn wr d) os).cell? ⟨b1, o1 + k * 8 + 1, none⟩ = some (.int .u8 sf) := fun d os => cell_regrown (q1 1 _ rfl) d os
        have i2 : ∀ d os, (grow (redrawn wr d) os).cell? ⟨b1, o1 + k * 8 + 2, none⟩ = some (.int .i64 sa) := fun d os => cell_regrown (q1 2 _ rfl) d os
        have i3 : ∀ d os, (grow (redrawn wr d) os).cell? ⟨b1, o1 + k * 8 + 3, none⟩ = some (.int .i64 sb) := fun d os => cell_regrown (q1 3 _ rfl) d os
        have i4 : ∀ d os, (grow (redrawn wr d) os).cell? ⟨b1, o1 + k * 8 + 4, none⟩ = some (.int .i64 sc) := fun d os => cell_regrown (q1 4 _ rfl) d os
        have i5 : ∀ d os, (grow (redrawn wr d) os).cell? ⟨b1, o1 + k * 8 + 5, none⟩ = some (.int .i64 sv) := fun d os => cell_regrown (q1 5 _ rfl) d os
        have i6 : ∀ d os, (grow (redrawn wr d) os).cell? ⟨b1, o1 + k * 8 + 6, none⟩ = some (.int .u16 skk) := fun d os => cell_regrown (q1 6 _ rfl) d os
        have i7 : ∀ d os, (grow (redrawn wr d) os).cell? ⟨b1, o1 + k * 8 + 7, none⟩ = some (.bool so) := fun d os => cell_regrown (q1 7 _ rfl) d os
        have j0 : ∀ d os, (grow (redrawn wr d) os).cell? ⟨b2, o2 + k * 8, none⟩ = some (.int .u8 sk) := fun d os => cell_regrown (q2 0 _ rfl) d os
        have j1 : ∀ d os, (grow (redrawn wr d) os).cell? ⟨b2, o2 + k * 8 + 1, none⟩ = some (.int .u8 sf) := fun d os => cell_regrown (q2 1 _ rfl) d os
        have j2 : ∀ d os, (grow (redrawn wr d) os).cell? ⟨b2, o2 + k * 8 + 2, none⟩ = some (.int .i64 sa) := fun d os => cell_regrown (q2 2 _ rfl) d os
        have j3 : ∀ d os, (grow (redrawn wr d) os).cell? ⟨b2, o2 + k * 8 + 3, none⟩ = some (.int .i64 sb) := fun d os => cell_regrown (q2 3 _ rfl) d os
        have j4 : ∀ d os, (grow (redrawn wr d) os).cell? ⟨b2, o2 + k * 8 + 4, none⟩ = some (.int .i64 sc) := fun d os => cell_regrown (q2 4 _ rfl) d os
        have j5 : ∀ d os, (grow (redrawn wr d) os).cell? ⟨b2, o2 + k * 8 + 5, none⟩ = some (.int .i64 sv) := fun d os => cell_regrown (q2 5 _ rfl) d os
        have j6 : ∀ d os, (grow (redrawn wr d) os).cell? ⟨b2, o2 + k * 8 + 6, none⟩ = some (.int .u16 skk) := fun d os => cell_regrown (q2 6 _ rfl) d os
        have j7 : ∀ d os, (grow (redrawn wr d) os).cell? ⟨b2, o2 + k * 8 + 7, none⟩ = some (.bool so) := fun d os => cell_regrown (q2 7 _ rfl) d os
        clear q1 q2
        refine wp_region_quiet_below (by kernel_rfl) (by kernel_rfl) ?_
        repeat (first | go_big_quiet_step (first | with_reducible exact d1 _ _ | with_reducible exact d2 _ _ | with_reducible exact d3 _ _ | fail) | quiet_step (first | with_reducible exact d1 _ _ | with_reducible exact d2 _ _ | with_reducible exact d3 _ _ | fail))
        refine wpQuiet_nil ?_
        intro w5 hw'
        have hbel : Below wr.heap.size wr w5 := regrown_below hw'
        clear hw' i0 i1 i2 i3 i4 i5 i6 i7 j0 j1 j2 j3 j4 j5 j6 j7 d1 d2 d3
        go_wp2_with fail
        go_roundw
        case rel => exact ⟨k + 1, by omega, by go_num, HBR.out.trans (hbel.mono HBR.out.size)⟩
        case measure => simp [intOf]; omega
      · obtain rfl : k = n1 := by omega
        clear hbr
        go_wp2_with fail
        go_ret
        exact ⟨rfl, HB3.out.trans (HBR.out.mono HB3.out.size)⟩
end Go.Proofs.YtnlhibhamechcaaDoor
