/- The walk of OrderSwaps. -/
import Derived.Test.YtomibgonhdkhdaaOrderGoes
import Derived.Test.YtomibgonhdkhdaaOrderF
namespace Go.Proofs.Ytomibgonhdkhdaa
open Go.RowKit
set_option linter.unusedSimpArgs false
set_option linter.unusedVariables false

theorem RowF.chg {α : Type} {f : α → Value} {d : α} {w w' : World} {A : Option Addr} {zs : List α} {F : List Nat} (h : RowF f d w w.heap.size A zs) (hg : Chg F w w') (hne : ∀ a, A = some a → ¬ a.block ∈ F) : RowF f d w' w'.heap.size A zs := fun hn => by
  obtain ⟨b, off, rfl, hb, hc⟩ := h hn
  have := hg.size
  exact ⟨b, off, rfl, by omega, fun j hj => (hg.cell (p := ⟨b, off + j, none⟩) hb (hne ⟨b, off, none⟩ rfl)).trans (hc j hj)⟩

set_option maxRecDepth 100000 in
set_option maxHeartbeats 8000000 in
theorem orderSwaps_yes (A B : Option Addr) (n m c d : Nat) (ps qs : List Int) (w : World) (hp : ps.length = n) (hq : qs.length = m) (hm : m ≤ 60) (hP : IsPerm ps) (hqw : ∀ z ∈ qs, (Lit.int .i64 z).wf = true) (ha : Ints w w.heap.size A ps) (hb : Ints w w.heap.size B qs) :
    Calls Try.prog 5 #[.slice A n c, .slice B m d] w fun e w' => e = .returned (.bool true) ∧ Below w.heap.size w w' := by
  obtain ⟨i0, hi, hz0, hz1, hz2⟩ := info_parts info_int
  have hn16 : n ≤ 16 := by rw [← hp]; exact hP.1
  have Hp := Lib.hid hp
  have Hq := Lib.hid hq
  have HP := Lib.hid hP
  have HQ := Lib.hid hqw
  clear hp hq hP hqw
  go_enter Try.func5, Try.ntmps5
  go_wp2_with fail
  refine (aliveO_any _).mono ?_
  rintro e w1 ⟨rfl, hb1⟩
  have ha1 := ha.on hb1
  have hq1 := hb.on hb1
  go_wp2_with fail
  refine (refRight_any A n c ps _ Hp.out (by omega) ha1).mono ?_
  rintro e w' ⟨rfl, rfl⟩
  rw [decide_eq_true HP.out]
  go_wp2_with fail
  refine (orderOf_yes A n c ps _ Hp.out HP.out ha1).mono ?_
  rintro e w2 ⟨g, F, ls, rfl, hO, hI, hF, hb2⟩
  have HI := Lib.hid hI
  have HO := Lib.hid hO
  have ha2 := ha1.on hb2
  have hq2 := hq1.on hb2
  have hbel2 := hb1.trans (hb2.mono hb1.size)
  have HFb : Hid (∀ k ∈ F, w.heap.size ≤ k) := Lib.hid (fun k hk => Nat.le_trans hb1.size (hF k hk))
  clear hO hI hF ha1 hq1 hb1 hb2
  go_wp2_with fail
  refine (orderCopy_any F g ps ls _ (by rw [Hp.out]; omega) HO.out).mono ?_
  rintro e w3 ⟨g7, F7, rfl, hO7, hF7, hb3⟩
  have HO7 := Lib.hid hO7
  have HO3 := Lib.hid (HO.out.on hb3)
  have ha3 := ha2.on hb3
  have hq3 := hq2.on hb3
  have hbel3 := hbel2.trans (hb3.mono hbel2.size)
  have HDj : Hid (∀ k ∈ F7, ¬ k ∈ F) := Lib.hid (fun k h1 h2 => by have := hF7 k h1; have := HO.out.lt k h2; omega)
  have HFlt : Hid (∀ k ∈ F, k < w3.heap.size) := Lib.hid HO3.out.lt
  have hown0 : OwnI (w3.alloc (.cells #[] 3)) w3.heap.size (.slice (some ⟨w3.heap.size, 0, none⟩) 0 0) [] := World.ownsRow_lit w3 #[] 0 (Nat.le_refl _) (by unfold maxLen; omega) rfl
  have Hown0 := Lib.hid hown0
  have Hsrc := Lib.hid ((ha3.src Hp.out).alloc (.cells #[] 3))
  clear hO7 hF7 ha2 hq2 hbel2 hb3 hown0
  go_wp2_with (at_builtin; go_loud (refine wp_appN (f := Value.int .i64) Try.underlying22 hi hz0 hz1 hz2 rfl (by omega) _ rfl _ _ rfl w3.heap.size _ [] ps A n c (fun _ => rfl) Hown0.out Hsrc.out (by simp) (by simp; omega) rfl rfl ?_); intro v4 w4 hown4 hb4 hs4 hg4 hv4)
  have hb34 : Below w3.heap.size w3 w4 := ((Below.refl _ _).alloc (Nat.le_refl _) _).trans hb4
  simp only [List.nil_append] at hown4
  have HO4 := Lib.hid (HO3.out.on hb34)
  have HO74 := Lib.hid (HO7.out.on hb34)
  have ha4 := ha3.on hb34
  have hq4 := hq3.on hb34
  have hbel4 := hbel3.trans (hb34.mono hbel3.size)
  obtain ⟨A8, n8, c8, rfl, h8, _⟩ := OwnF.form hown4
  obtain rfl : n = n8 := by rw [← h8, Hp.out]
  have hI8 := OwnI.ints hown4
  have hA8 : ∀ a, A8 = some a → ¬ a.block ∈ F := fun a e hm => by
    subst e
    have h1 := (hown4.lt a.block rfl).1
    have h2 := HFlt.out a.block hm
    omega
  have HAp : Hid (∀ a, A = some a → 0 < n → ¬ a.block ∈ F) := Lib.hid (fun a e hn hm => by
    obtain ⟨b', o', h1, h2, _⟩ := ha (by rw [Hp.out]; exact hn)
    rw [e] at h1; injection h1 with h1; subst h1
    have := HFb.out _ hm
    have h3 : b' < w.heap.size := h2
    have h4 : w.heap.size ≤ b' := this
    omega)
  clear ha3 hq3 hbel3 hb4 hs4 hg4 hv4 hown4 h8 hb34 HO HO3 HO7 Hown0 Hsrc
  go_loopw [8, 9, 10] (fun nv iv _ wr => ∃ (k cc : Nat) (An : Option Addr) (cur ms : List Int), k ≤ m ∧ iv = .int .i64 k ∧ nv = .slice An n cc ∧ cur.length = n ∧ IsPerm cur ∧ InvOf cur ms ∧ OrdAt wr F g cur ms ∧ Ints wr wr.heap.size An cur ∧ (∀ a, An = some a → ¬ a.block ∈ F) ∧ OrdAt wr F7 g7 ps ls ∧ Below w.heap.size w wr) (fun _ iv _ _ => m - (intOf iv).toNat)
  case atStart => exact ⟨0, c8, A8, ps, ls, Nat.zero_le _, rfl, rfl, Hp.out, HP.out, HI.out, HO4.out, hI8, hA8, HO74.out, hbel4⟩
  case round =>
    obtain ⟨k, cc, An, cur, ms, hk, rfl, rfl, hcl, hcp, hci, hOc, hIc, hAn, hOw, hbw⟩ := hrel
    have HCL := Lib.hid hcl
    have HCP := Lib.hid hcp
    have HCI := Lib.hid hci
    have HOC := Lib.hid hOc
    have HAN := Lib.hid hAn
    have HOW := Lib.hid hOw
    have HFlt2 := Lib.hid hOc.lt
    clear hcl hcp hci hOc hAn hOw hI8 hA8
    by_cases hlt : k < m
    · obtain ⟨bq, oq, rfl, hbq, hcq⟩ := hb (by rw [Hq.out]; omega)
      have hck := (hbw.cell (p := ⟨bq, oq + k, none⟩) hbq).trans (hcq k (by rw [Hq.out]; exact hlt))
      have hqk := i64_of_wf (HQ.out _ (getD_mem qs k (by rw [Hq.out]; exact hlt)))
      have HCQ : Hid (∀ W, Below w.heap.size w W → W.cell? ⟨bq, oq + k, none⟩ = some (.int .i64 (qs[k]?.getD 0))) := Lib.hid (fun W hW => (hW.cell (p := ⟨bq, oq + k, none⟩) hbq).trans (hcq k (by rw [Hq.out]; exact hlt)))
      clear hcq
      generalize hx : qs[k]?.getD 0 = x at *
      clear hx
      by_cases hin : 0 ≤ x ∧ x + 1 < (n : Int)
      · obtain ⟨hx0, hx1⟩ := hin
        go_wp2_with fail
        refine (orderSwap_yes F g cur ms x _ HOC.out HCP.out HCI.out hx0 (by rw [HCL.out]; exact hx1)).mono ?_
        rintro e w5 ⟨ms5, rfl, hO5, hI5, hch5⟩
        have HO5 := Lib.hid hO5
        have HI5 := Lib.hid hI5
        have hIc5 := RowF.chg hIc hch5 HAN.out
        have HOW5 := Lib.hid (HOW.out.chg hch5 HDj.out)
        have hbw5 := hbw.trans (hch5.below hbw.size HFb.out)
        have hck5 := HCQ.out _ hbw5
        have hs5 := hch5.size
        clear hO5 hI5 hch5 hck hIc
        go_wp2_with fail
        refine (refStep_any An n cc cur x _ HCL.out (by omega) hIc5 hx0 hx1).mono ?_
        rintro e w6 ⟨v6, rfl, hown6, hb6⟩
        have HO6 := Lib.hid (HO5.out.on hb6)
        have HOW6 := Lib.hid (HOW5.out.on hb6)
        have hbw6 := hbw5.trans (hb6.mono hbw5.size)
        have hck6 := HCQ.out _ hbw6
        obtain ⟨A6, n6, c6, rfl, h6, _⟩ := OwnF.form hown6
        obtain rfl : n = n6 := by rw [← h6, swapL_length, HCL.out]
        have H6 := Lib.hid h6
        have hI6 := OwnI.ints hown6
        have HA6 : Hid (∀ a, A6 = some a → ¬ a.block ∈ F) := Lib.hid (fun a e hm => by
          subst e
          have h1 := (hown6.lt a.block rfl).1
          have h2 := HFlt2.out a.block hm
          omega)
        obtain ⟨y, rfl⟩ := Int.eq_ofNat_of_zero_le hx0
        rw [Int.toNat_natCast] at *
        have hyn : y + 1 < n := by omega
        have HPs : Hid (IsPerm (swapL cur y)) := Lib.hid (HCP.out.swap (by rw [HCL.out]; exact hyn))
        have hcy := (by
          obtain ⟨b6, o6, h1, h2, h3⟩ := hI6 (by rw [H6.out]; omega)
          exact ⟨b6, o6, h1, h3 y (by rw [H6.out]; omega)⟩ : ∃ b6 o6, A6 = some ⟨b6, o6, none⟩ ∧ w6.cell? ⟨b6, o6 + y, none⟩ = some (.int .i64 ((swapL cur y)[y]?.getD 0)))
        obtain ⟨b6, o6, rfl, hcy⟩ := hcy
        have HLv : Hid (atI ms5 ((swapL cur y)[y]?.getD 0) = (y : Int)) := Lib.hid (by
          have h1 := HPs.out.get (k := y) (by rw [swapL_length, HCL.out]; omega)
          have h2 := HI5.out.2 y (by rw [swapL_length, HCL.out]; omega)
          unfold atI
          rw [if_pos ⟨h1.1, by rw [HI5.out.1]; exact h1.2⟩]
          exact h2)
        generalize hz : (swapL cur y)[y]?.getD 0 = z at *
        have hyI : (y : Int) < (n : Int) := by omega
        clear hown6 h6 hck5 hIc5 hb6 hz
        go_wp2_with fail
        have HLev : Hid (∀ t, Calls Try.prog 24 #[.pointer (some ⟨g, 0, none⟩), .int .i64 z] (w6.drewN t) fun e w' => e = .returned (.int .i64 (y : Int)) ∧ w6.drewN t = w') := Lib.hid (fun t => by
          have := orderLevel_any F g (swapL cur y) ms5 z (w6.drewN t) (HO6.out.chg (G := []) ((Chg.refl _ _).drewN t) (fun _ _ h => by cases h))
          rw [HLv.out] at this
          exact this)
        go_quiet ((exact q_same (HLev.out _)))
        go_wp2_with fail
        go_roundw
        case rel => exact ⟨k + 1, c6, _, swapL cur y, ms5, by omega, by go_num, rfl, H6.out, HPs.out, HI5.out, HO6.out.chg (G := []) ((Chg.refl _ _).drewN _) (fun _ _ h => by cases h), hI6.drewN' _, HA6.out, HOW6.out.chg (G := []) ((Chg.refl _ _).drewN _) (fun _ _ h => by cases h), below_drewN hbw6 _⟩
        case measure => simp [intOf]; omega
      · have hno : x < 0 ∨ (n : Int) - 1 ≤ x := by omega
        clear hin
        rcases hno with hx0 | hx1
        · go_wp2_with fail
          refine (orderSwap_no F g cur ms x _ HOC.out (.inl hx0)).mono ?_
          rintro e w' ⟨rfl, rfl⟩
          go_wp2_with fail
          go_roundw
          case rel => exact ⟨k + 1, cc, An, cur, ms, by omega, by go_num, rfl, HCL.out, HCP.out, HCI.out, HOC.out, hIc, HAN.out, HOW.out, hbw⟩
          case measure => simp [intOf]; omega
        · go_wp2_with fail
          refine (orderSwap_no F g cur ms x _ HOC.out (.inr (by rw [HCL.out]; exact hx1))).mono ?_
          rintro e w' ⟨rfl, rfl⟩
          by_cases hx0 : x < 0
          all_goals
            go_wp2_with fail
            go_roundw
            case rel => exact ⟨k + 1, cc, An, cur, ms, by omega, by go_num, rfl, HCL.out, HCP.out, HCI.out, HOC.out, hIc, HAN.out, HOW.out, hbw⟩
            case measure => simp [intOf]; omega
    · have haw := ha.on hbw
      go_wp2_with fail
      refine (orderPerm_any F g cur ms _ (by rw [HCL.out]; omega) HOC.out).mono ?_
      rintro e w5 ⟨v5, rfl, hown5, hb5⟩
      obtain ⟨A5, n5, c5, rfl, h5, _⟩ := OwnF.form hown5
      obtain rfl : n = n5 := by rw [← h5, HCL.out]
      have hI5 := OwnI.ints hown5
      have hIc5 := hIc.on hb5
      have ha5 := haw.on hb5
      have hbw5 := hbw.trans (hb5.mono hbw.size)
      have HO5 := Lib.hid (HOC.out.on hb5)
      have HOW5 := Lib.hid (HOW.out.on hb5)
      clear hown5 h5 haw hIc hb5
      go_wp2_with fail
      refine (same_any A5 An n n c5 cc cur cur _ HCL.out HCL.out (by omega) (by omega) hI5 hIc5).mono ?_
      rintro e w6 ⟨rfl, k6, rfl⟩
      rw [decide_eq_true rfl]
      have HOW6 := Lib.hid (HOW5.out.chg (G := []) ((Chg.refl _ _).drewN k6) (fun _ _ h => by cases h))
      have HO6 := Lib.hid (HO5.out.chg (G := []) ((Chg.refl _ _).drewN k6) (fun _ _ h => by cases h))
      go_wp2_with fail
      refine (orderPerm_any F7 g7 ps ls _ (by rw [Hp.out]; omega) HOW6.out).mono ?_
      rintro e w7 ⟨v7, rfl, hown7, hb7⟩
      obtain ⟨A7, n7, c7, rfl, h7, _⟩ := OwnF.form hown7
      obtain rfl : n = n7 := by rw [← h7, Hp.out]
      have hI7 := OwnI.ints hown7
      have hIc7 := (hIc5.drewN' k6).on hb7
      have ha7 := (ha5.drewN' k6).on hb7
      have hbw7 := (below_drewN hbw5 k6).trans (hb7.mono hbw5.size)
      have HO7 := Lib.hid (HO6.out.on hb7)
      have HOW7 := Lib.hid (HOW6.out.on hb7)
      clear hown7 h7 hb7
      go_wp2_with fail
      refine (same_any A7 A n n c7 c ps ps _ Hp.out Hp.out (by omega) (by omega) hI7 ha7).mono ?_
      rintro e w8 ⟨rfl, k8, rfl⟩
      rw [decide_eq_true rfl]
      have HOW8 := Lib.hid (HOW7.out.chg (G := []) ((Chg.refl _ _).drewN k8) (fun _ _ h => by cases h))
      have HO8 := Lib.hid (HO7.out.chg (G := []) ((Chg.refl _ _).drewN k8) (fun _ _ h => by cases h))
      go_wp2_with fail
      refine (orderSame_any F F7 g g7 cur ms ps ls _ HO8.out HOW8.out).mono ?_
      rintro e w9 ⟨rfl, k9, rfl⟩
      generalize hdc : decide (cur = ps) = dc at *
      have HDC := Lib.hid hdc
      clear hdc
      go_wp2_with fail
      refine (same_any An A n n cc c cur ps _ HCL.out Hp.out (by omega) (by omega) (hIc7.drewN' (k8 + k9)) (ha7.drewN' (k8 + k9))).mono ?_
      rintro e w10 ⟨rfl, k10, rfl⟩
      rw [HDC.out]
      go_wp2_with fail
      refine (orderSame_nil1 _ _).mono ?_
      rintro e w' ⟨rfl, rfl⟩
      go_wp2_with fail
      go_ret
      exact ⟨by simp, below_drewN hbw7 _⟩

theorem orderSwaps_walk (A B : Option Addr) (n m c d : Nat) (ps qs : List Int) (w : World) (hp : ps.length = n) (hq : qs.length = m) (hn : n ≤ maxLen) (hm : m ≤ maxLen) (hqw : ∀ z ∈ qs, (Lit.int .i64 z).wf = true) (ha : Ints w w.heap.size A ps) (hb : Ints w w.heap.size B qs) :
    Calls Try.prog 5 #[.slice A n c, .slice B m d] w fun e w' => e = .returned (.bool true) ∧ Below w.heap.size w w' := by
  unfold maxLen at hn hm
  by_cases hP : IsPerm ps
  · by_cases h60 : m ≤ 60
    · exact orderSwaps_yes A B n m c d ps qs w hp hq h60 hP hqw ha hb
    · have Hp := Lib.hid hp
      have HP := Lib.hid hP
      clear hp hP hq hqw
      go_enter Try.func5, Try.ntmps5
      go_wp2_with fail
      refine (aliveO_any _).mono ?_
      rintro e w1 ⟨rfl, hb1⟩
      go_wp2_with fail
      refine (refRight_any A n c ps _ Hp.out hn (ha.on hb1)).mono ?_
      rintro e w' ⟨rfl, rfl⟩
      rw [decide_eq_true HP.out]
      go_wp2_with fail
      go_ret
      exact ⟨rfl, hb1⟩
  · have Hp := Lib.hid hp
    have HP := Lib.hid hP
    clear hp hP hq hqw
    go_enter Try.func5, Try.ntmps5
    go_wp2_with fail
    refine (aliveO_any _).mono ?_
    rintro e w1 ⟨rfl, hb1⟩
    go_wp2_with fail
    refine (refRight_any A n c ps _ Hp.out hn (ha.on hb1)).mono ?_
    rintro e w' ⟨rfl, rfl⟩
    rw [decide_eq_false HP.out]
    go_wp2_with fail
    go_ret
    exact ⟨rfl, hb1⟩
end Go.Proofs.Ytomibgonhdkhdaa
