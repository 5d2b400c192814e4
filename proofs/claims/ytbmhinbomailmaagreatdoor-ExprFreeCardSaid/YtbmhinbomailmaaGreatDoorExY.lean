/- Law 29: ExprAgain. -/
import Derived.Test.YtbmhinbomailmaaGreatDoorExX
import Derived.Test.YtbmhinbomailmaaGreatDoorExO
import Derived.Test.YtbmhinbomailmaaGreatDoorExW
namespace Go.Proofs.YtbmhinbomailmaaGreatDoor
open Go.RowKit Go.Sort
set_option linter.unusedSimpArgs false
set_option linter.unusedVariables false

set_option maxRecDepth 100000 in
set_option maxHeartbeats 4000000 in
theorem exprText_nil (w : World) : Calls Tryz.prog 10 #[.pointer none] w fun e w' => e = .returned (.string ⟨#[]⟩) ∧ w = w' := by
  go_enter Tryz.func10, Tryz.ntmps10
  go_wp2_with fail
  go_ret
  exact ⟨rfl, rfl⟩
theorem size_list (s : ByteArray) : ∃ l : List UInt8, s = ⟨l.toArray⟩ ∧ l.length = s.size := ⟨s.data.toList, bytes_eq rfl, by rw [Array.length_toList]; rfl⟩
/-- what stands behind a Parse of the text of an expression, blanks around it -/
theorem parse_again {x : Ex} (hs : x.Small) (hf : x.Full) (hlen : x.textE.length ≤ 4000) (hd : x.depthE ≤ 400) (w : World) (hV : PV w) :
    Calls Tryz.prog 8 #[.string ⟨(32 :: (x.textE ++ [32, 32])).toArray⟩] w fun e w' => Below w.heap.size w w' ∧
      ((∃ p : Nat, 200 < x.depthE ∧ e = .returned (.tuple #[.pointer none, .int .i64 p, .int .u8 12])) ∨ (∃ g, e = .returned (.tuple #[.pointer (some ⟨g, 0, none⟩), .int .i64 0, .int .u8 0]) ∧ ExprIs w' g x)) := by
  refine (parse_any _ w (by simp; omega) hV).mono ?_
  obtain ⟨⟨L0, z0, hLz, hz0, hL0⟩, _⟩ := lex_ended (32 :: (x.textE ++ [32, 32])) 0 _ (Nat.le_refl _)
  have hag := again_ok hs hf hLz hz0 hL0
  rw [← hLz] at hag
  rintro e w' ⟨hb, ⟨h, _⟩ | ⟨_, c, p, hw, hc, he⟩ | ⟨_, hw, L, z, x2, g, h1, h2, h3, h4, h5, h6, h7, h8, h9, h10, h11⟩⟩
  · exfalso; simp at h; omega
  · refine ⟨hb, .inl ?_⟩
    rcases hag with ⟨_, k⟩ | ⟨k1, p', k2⟩
    · rw [hw] at k
      injection k with k1 k2
      omega
    · rw [hw] at k2
      injection k2 with k2 k3
      subst k3
      exact ⟨p, k1, he⟩
  · refine ⟨hb, .inr ⟨g, h9, ?_⟩⟩
    rcases hag with ⟨k, _⟩ | ⟨_, p', k2⟩
    · have e1 : L = L0 := by
        have := h1.symm.trans hLz
        exact (List.append_inj' this rfl).1
      subst e1
      rw [rt_det k _ h5]
      exact h11
    · rw [hw] at k2
      injection k2 with _ k3
      omega
/-- what Parse leaves of any text of at most 400 bytes -/
theorem parse_400 (l : List UInt8) (w : World) (h : l.length ≤ 400) (hV : PV w) : Calls Tryz.prog 8 #[.string ⟨l.toArray⟩] w fun e w' => Below w.heap.size w w' ∧
      ((∃ c p : Nat, (c = 10 ∨ c = 12) ∧ e = .returned (.tuple #[.pointer none, .int .i64 p, .int .u8 c])) ∨ (∃ g x, e = .returned (.tuple #[.pointer (some ⟨g, 0, none⟩), .int .i64 0, .int .u8 0]) ∧ ExprIs w' g x ∧ x.Small ∧ x.Full ∧ x.textE.length ≤ 4 * l.length ∧ x.depthE < l.length)) := by
  refine (parse_any l w (by omega) hV).mono ?_
  rintro e w' ⟨hb, ⟨h, _⟩ | ⟨_, c, p, hw, hc, he⟩ | ⟨_, hw, L, z, x, g, h1, h2, h3, h4, h5, h6, h7, h8, h9, h10, h11⟩⟩
  · exfalso; omega
  · exact ⟨hb, .inl ⟨c, p, hc, he⟩⟩
  · have hl := lex_len l 0
    rw [h1] at hl
    simp at hl
    have h12 := rt_len h5 (fun t ht => (h4 t ht).1)
    have h13 := rt_depth h5
    exact ⟨hb, .inr ⟨g, x, h9, h11, h6, h7, by omega, by omega⟩⟩
set_option maxRecDepth 100000 in
set_option maxHeartbeats 16000000 in
theorem eagain_walk (s : ByteArray) (y : Int) (w : World) (hsm : s.size ≤ maxLen) (hyw : (Lit.int .i64 y).wf = true) (hV : PV w) :
    Calls Tryz.prog 5 #[.string s, .int .i64 y] w fun e w' => e = .returned (.bool true) ∧ Below w.heap.size w w' := by
  obtain ⟨l, rfl, hl⟩ := size_list s
  have hy := i64_of_wf hyw
  have hlm : l.length ≤ 9223372036854775807 := by unfold maxLen at hsm; omega
  have hsz := bytes_size l
  have HA := Lib.hid (alive29_any w hV)
  have HV := Lib.hid hV
  have HY := Lib.hid hy
  clear hV hsm hl hyw hy
  go_enter Tryz.func5, Tryz.ntmps5
  go_wp2_with fail
  refine HA.out.mono ?_
  rintro e w1 ⟨rfl, h1⟩
  have H1 := Lib.hid h1
  clear h1
  by_cases h400 : 400 < l.length
  · have hi : (400 : Int) < (l.length : Int) := by omega
    go_wp2_with fail
    go_ret
    exact ⟨rfl, H1.out⟩
  · have hi : ¬ (400 : Int) < (l.length : Int) := by omega
    have HP := Lib.hid (parse_400 l w1 (by omega) (HV.out.on H1.out))
    go_wp2_with fail
    refine HP.out.mono ?_
    rintro e w2 ⟨hb, ⟨c, p, hc, rfl⟩ | ⟨g, x, rfl, hx, hs, hf, htl, hdl⟩⟩
    · have hb2 := H1.out.trans (hb.mono H1.out.size)
      have HB2 := Lib.hid hb2
      have hc0 : ((c : Int) != 0) = true := by simp; omega
      have hcr : IntKind.i64.wrap (c : Int) = (c : Int) := by rcases hc with rfl | rfl <;> rfl
      have HN := Lib.hid (fun W => exprText_nil W)
      clear hb hb2 hc
      go_wp2_with fail
      refine (HN.out _).mono ?_
      rintro e w3 ⟨rfl, rfl⟩
      go_wp2_with fail
      go_ret
      exact ⟨rfl, HB2.out⟩
    · have hb2 := H1.out.trans (hb.mono H1.out.size)
      have HB2 := Lib.hid hb2
      have HT := Lib.hid (fun W (hW : Below w2.heap.size w2 W) => exprText_any g x W (hx.on hW) hs (by omega))
      have HVs := Lib.hid (fun W (hW : Below w2.heap.size w2 W) => exprVars_any g x W (hx.on hW) hs)
      have HFr := Lib.hid (fun W (hW : Below w2.heap.size w2 W) => exprFree_any g x W (hx.on hW) hs)
      have HHo := Lib.hid (fun W (hW : Below w2.heap.size w2 W) => exprHolds_any g x y W (hx.on hW) hs HY.out)
      have HAG := Lib.hid (fun W (hW : Below w2.heap.size w2 W) => parse_again hs hf (by omega) (by omega) W (HV.out.on (hb2.trans (hW.mono hb2.size))))
      have HS := Lib.hid (And.intro hs hdl)
      obtain ⟨t, ht⟩ : ∃ t, t = x.textE := ⟨_, rfl⟩
      rw [← ht] at HT HAG htl
      have HTX := Lib.hid ht
      have hc1 : (⟨#[32]⟩ : ByteArray) ++ ⟨t.toArray⟩ = ⟨(32 :: t).toArray⟩ := txt_append [32] _
      have hc2 : (⟨(32 :: t).toArray⟩ : ByteArray) ++ ⟨#[32, 32]⟩ = ⟨(32 :: (t ++ [32, 32])).toArray⟩ := txt_append (32 :: t) [32, 32]
      have hlen1 : ¬ 9223372036854775807 < 1 + t.length := by omega
      have hlen2 : ¬ 9223372036854775807 < 1 + t.length + 2 := by omega
      have hlen3 : ¬ 9223372036854775807 < t.length + 1 + 2 := by omega
      clear hb hb2 hx hs hf hdl ht
      go_wp2_with fail
      refine (HT.out _ (Below.refl _ _)).mono ?_
      rintro e w3 ⟨rfl, h3⟩
      have H3 := Lib.hid h3
      clear h3
      go_wp2_with fail
      refine (HAG.out _ H3.out).mono ?_
      rintro e w4 ⟨hb4, ⟨p, hdp, rfl⟩ | ⟨g2, rfl, hx2⟩⟩
      · have HB4 := Lib.hid (HB2.out.trans ((H3.out.trans (hb4.mono H3.out.size)).mono HB2.out.size))
        have hd2 : (200 : Int) < (l.length : Int) := by have := HS.out.2; omega
        clear hb4 hdp
        go_wp2_with fail
        go_ret
        exact ⟨by simp <;> omega, HB4.out⟩
      · have hs := HS.out.1
        have HT2 := Lib.hid (fun W (hW : Below w4.heap.size w4 W) => exprText_any g2 x W (hx2.on hW) hs (by rw [← HTX.out]; omega))
        have HV2 := Lib.hid (fun W (hW : Below w4.heap.size w4 W) => exprVars_any g2 x W (hx2.on hW) hs)
        have HF2 := Lib.hid (fun W (hW : Below w4.heap.size w4 W) => exprFree_any g2 x W (hx2.on hW) hs)
        have HH2 := Lib.hid (fun W (hW : Below w4.heap.size w4 W) => exprHolds_any g2 x y W (hx2.on hW) hs HY.out)
        rw [← HTX.out] at HT2
        have B4_4 := Lib.hid (Below.refl w4.heap.size w4)
        have B2_4 := Lib.hid (H3.out.trans (hb4.mono H3.out.size))
        clear hb4 hx2 hs
        go_wp2_with fail
        refine (HT2.out _ B4_4.out).mono ?_
        rintro e w5 ⟨rfl, h5⟩
        have B4_5 := Lib.hid (B4_4.out.trans (h5.mono B4_4.out.size))
        have B2_5 := Lib.hid (B2_4.out.trans (h5.mono B2_4.out.size))
        clear h5
        go_wp2_with fail
        refine (HT.out _ B2_5.out).mono ?_
        rintro e w6 ⟨rfl, h6⟩
        have B4_6 := Lib.hid (B4_5.out.trans (h6.mono B4_5.out.size))
        have B2_6 := Lib.hid (B2_5.out.trans (h6.mono B2_5.out.size))
        clear h6
        go_wp2_with fail
        refine (HV2.out _ B4_6.out).mono ?_
        rintro e w7 ⟨rfl, h7⟩
        have B4_7 := Lib.hid (B4_6.out.trans (h7.mono B4_6.out.size))
        have B2_7 := Lib.hid (B2_6.out.trans (h7.mono B2_6.out.size))
        clear h7
        go_wp2_with fail
        refine (HVs.out _ B2_7.out).mono ?_
        rintro e w8 ⟨rfl, h8⟩
        have B4_8 := Lib.hid (B4_7.out.trans (h8.mono B4_7.out.size))
        have B2_8 := Lib.hid (B2_7.out.trans (h8.mono B2_7.out.size))
        clear h8
        go_wp2_with fail
        refine (HF2.out _ B4_8.out).mono ?_
        rintro e w9 ⟨rfl, h9⟩
        have B4_9 := Lib.hid (B4_8.out.trans (h9.mono B4_8.out.size))
        have B2_9 := Lib.hid (B2_8.out.trans (h9.mono B2_8.out.size))
        clear h9
        go_wp2_with fail
        refine (HFr.out _ B2_9.out).mono ?_
        rintro e w10 ⟨rfl, h10⟩
        have B4_10 := Lib.hid (B4_9.out.trans (h10.mono B4_9.out.size))
        have B2_10 := Lib.hid (B2_9.out.trans (h10.mono B2_9.out.size))
        clear h10
        go_wp2_with fail
        refine (HH2.out _ B4_10.out).mono ?_
        rintro e w11 ⟨rfl, h11⟩
        have B4_11 := Lib.hid (B4_10.out.trans (h11.mono B4_10.out.size))
        have B2_11 := Lib.hid (B2_10.out.trans (h11.mono B2_10.out.size))
        clear h11
        go_wp2_with fail
        refine (HHo.out _ B2_11.out).mono ?_
        rintro e w12 ⟨rfl, h12⟩
        have B4_12 := Lib.hid (B4_11.out.trans (h12.mono B4_11.out.size))
        have B2_12 := Lib.hid (B2_11.out.trans (h12.mono B2_11.out.size))
        clear h12
        go_wp2_with fail
        go_ret
        exact ⟨by simp, HB2.out.trans (B2_12.out.mono HB2.out.size)⟩
end Go.Proofs.YtbmhinbomailmaaGreatDoor
