/- ScriptNil: the walk. -/
import Derived.Test.YtkbanaaljebhiaaGreatDoorScAlive
namespace Go.Proofs.YtkbanaaljebhiaaGreatDoor
open Go.RowKit Go.Sort
set_option linter.unusedSimpArgs false
set_option linter.unusedVariables false

/-- what a step tells without a manager -/
def nilT (_ : Unit) : List Value := [.int .u8 2, .int .i64 0, .int .i64 0, .int .u16 0, .bool false]
theorem nilT_len (u : Unit) : (nilT u).length = 5 := rfl
theorem nilT_one (u : Unit) : ∀ v ∈ nilT u, v.oneCell' = true := by
  intro v hv
  simp only [nilT, List.mem_cons, List.not_mem_nil, or_false] at hv
  rcases hv with rfl | rfl | rfl | rfl | rfl <;> rfl
theorem info_told : (Tryz.prog.info? 29).map (fun i => (i.zero, i.size, i.bytes)) = some (some (.agg #[.int .u8 0, .int .i64 0, .int .i64 0, .int .u16 0, .bool false]), 5, 32) := by kernel_rfl
set_option maxRecDepth 100000 in
set_option maxHeartbeats 4000000 in
theorem do_nil (s : Stp) (w : World) : Calls Tryz.prog 13 #[.pointer none, .agg s.cells.toArray] w fun e w' => e = .returned (.agg (nilT ()).toArray) ∧ Below w.heap.size w w' := by
  obtain ⟨k, f, a, b, c, v, kk, one⟩ := s
  simp only [Stp.cells, nilT]
  go_enter Tryz.func13, Tryz.ntmps13
  go_wp2_with fail
  refine bodyPost_ret (v := .agg #[.int .u8 2, .int .i64 0, .int .i64 0, .int .u16 0, .bool false]) ?_ rfl ⟨rfl, ?_⟩
  · simp [results, Tryz.results13, go_sem, *]
  · repeat (first | exact Below.refl _ _ | refine Below.setCell ?_ (by simp) _ | refine Below.alloc ?_ (by simp <;> omega) _)
set_option maxRecDepth 100000 in
set_option maxHeartbeats 8000000 in
theorem run_nil (A : Option Addr) (n c : Nat) (bs : List Nat) (w : World) (h : BytesArg w A n c bs) (hn : n ≤ 1000) :
    Calls Tryz.prog 6 #[.pointer none, .slice A n c] w fun e w' => ∃ v, e = .returned v ∧ OwnS 5 nilT 29 w' w.heap.size v (List.replicate (decode bs).length ()) ∧ Below w.heap.size w w' := by
  obtain ⟨i0, hi, hz0, hz1, hz2⟩ := info_parts info_told
  have HD := Lib.hid (sdecode_any A n c bs w h hn)
  have HDL := Lib.hid (decode_len bs.length bs (Nat.le_refl _))
  have hbl := h.1
  rw [hbl] at HDL
  obtain ⟨L, hL⟩ : ∃ L, L = decode bs := ⟨_, rfl⟩
  rw [← hL] at HD HDL ⊢
  clear hL h hbl
  go_enter Tryz.func6, Tryz.ntmps6
  go_wp2_with fail
  refine HD.out.mono ?_
  rintro e w1 ⟨v, rfl, hown, hb1⟩
  obtain ⟨A1, n1, c1, rfl, hl1, hc1⟩ := hown.form
  have HR1 : Hid (RowS 8 Stp.cells w1 w1.heap.size A1 L) := Lib.hid (OwnS.rows Stp.cells_len hown)
  have HB1 := Lib.hid hb1
  have HDL2 := HDL.out
  clear hown hb1
  go_wp2_with fail
  go_loopw [5, 11] (fun o i wr => ∃ k : Nat, k ≤ n1 ∧ i = .int .i64 (k : Int) ∧ OwnS 5 nilT 29 wr w1.heap.size o (List.replicate k ()) ∧ Below w1.heap.size w1 wr) (fun _ i _ => n1 - (intOf i).toNat)
  case atStart => exact ⟨0, by omega, rfl, OwnS.nil_, Below.refl _ _⟩
  case round =>
    obtain ⟨k, hk, rfl, hok, hbr⟩ := hrel
    have HO := Lib.hid hok
    have HBR := Lib.hid hbr
    rcases Nat.lt_or_ge k n1 with hlt | hge
    · obtain ⟨s, hs⟩ : ∃ s, L[k]? = some s := ⟨_, List.getElem?_eq_getElem (by omega)⟩
      obtain ⟨b1, o1, hA1, hb1, hc1'⟩ := HR1.out (by omega)
      have q1 : wr.rangeAt b1 (o1 + k * 8) s.cells := rangeAt_keep (hc1' k s hs) (hbr.block b1 hb1)
      subst hA1
      have HDO := Lib.hid (fun W => do_nil s W)
      have hsz := HBR.out.size
      obtain ⟨sk, sf, sa, sb, sc, sv, skk, so⟩ := s
      simp only [Stp.cells] at q1 HDO
      have e0 := q1 0 _ rfl
      have e1 := q1 1 _ rfl
      have e2 := q1 2 _ rfl
      have e3 := q1 3 _ rfl
      have e4 := q1 4 _ rfl
      have e5 := q1 5 _ rfl
      have e6 := q1 6 _ rfl
      have e7 := q1 7 _ rfl
      simp only [Nat.add_zero] at e0 e1 e2 e3 e4 e5 e6 e7
      clear q1 hok hbr hc1' hs HR1 hb1
      have HC := Lib.hid hc1
      go_wp2_with fail
      refine (HDO.out _).mono ?_
      rintro e w5 ⟨rfl, hb5⟩
      have HB5 : Hid (Below wr.heap.size wr w5) := Lib.hid (((Below.refl _ _).alloc (Nat.le_refl _) _).trans (hb5.mono (by simp)))
      have HO5 : Hid (OwnS 5 nilT 29 w5 w1.heap.size u5 (List.replicate k ())) := Lib.hid (HO.out.chg (F := []) (chg_of_below HB5.out) (by simp))
      have HS5 : Hid (w1.heap.size ≤ w5.heap.size) := Lib.hid (Nat.le_trans hsz HB5.out.size)
      have HLN : Hid ((List.replicate k ()).length ≤ 34359738366) := Lib.hid (by simp; omega)
      simp only [nilT]
      clear hb5 e0 e1 e2 e3 e4 e5 e6 e7
      go_wp2_with (at_builtin; (refine wp_appS nilT_len (by decide) Tryz.underlying24 hi hz0 hz1 hz2 rfl (by decide) w5 rfl _ _ rfl w1.heap.size _ (List.replicate k ()) () _ rfl 1 (nilT_one ()) HO5.out HS5.out HLN.out rfl rfl rfl ?_); intro v1 w6 hown1 hb6 hs6 hg6 hv6)
      have HB6 := Lib.hid (HBR.out.trans (HB5.out.mono hsz) |>.trans hb6)
      rw [← List.replicate_succ'] at hown1
      go_roundw
      case rel => exact ⟨k + 1, by omega, by go_num, hown1, HB6.out⟩
      case measure => simp [intOf]; omega
    · obtain rfl : k = n1 := by omega
      clear hok hbr
      go_wp2_with fail
      go_ret
      refine ⟨_, rfl, ?_, HB1.out.trans (HBR.out.mono HB1.out.size)⟩
      rw [hl1]
      exact HO.out.mono HB1.out.size
theorem decode_count : ∀ (n : Nat) (b : List Nat), b.length ≤ n → (decode b).length = (b.length + 7) / 8
  | 0, b, h => by
    have : b = [] := List.eq_nil_of_length_eq_zero (by omega)
    subst this
    rw [decode_nil]
    rfl
  | n + 1, b, h => by
    by_cases hb : b = []
    · subst hb
      rw [decode_nil]
      rfl
    · have : 0 < b.length := List.length_pos_iff.2 hb
      rw [decode_cons hb, List.length_cons, decode_count n (b.drop 8) (by rw [List.length_drop]; omega), List.length_drop]
      omega
set_option maxRecDepth 100000 in
set_option maxHeartbeats 8000000 in
theorem scnil_walk (A : Option Addr) (n c : Nat) (bs : List Nat) (w : World) (h : BytesArg w A n c bs) (hP : Pow w) (hA : Asc w) :
    Calls Tryz.prog 3 #[.slice A n c] w fun e w' => e = .returned (.bool true) ∧ Below w.heap.size w w' := by
  have HAL := Lib.hid (scalive_any w hP hA)
  have HH := Lib.hid (fun W (hb : Below w.heap.size w W) => (⟨h.1, h.2.1, h.2.2.1, h.2.2.2.1.on hb, h.2.2.2.2⟩ : BytesArg W A n c bs))
  have HCN := Lib.hid (decode_count bs.length bs (Nat.le_refl _))
  have hm := h.2.2.1
  have hnc := h.2.1
  have hbl := h.1
  rw [hbl] at HCN
  unfold maxLen at hm
  clear h hP hA hbl
  by_cases hn : 1000 < n
  · go_enter Tryz.func3, Tryz.ntmps3
    go_wp2_with fail
    refine HAL.out.mono ?_
    rintro e w1 ⟨rfl, hb1⟩
    go_wp2_with fail
    go_ret
    exact ⟨rfl, hb1⟩
  · have HD1 := Lib.hid (fun W (h : BytesArg W A n c bs) => run_nil A n c bs W h (by omega))
    obtain ⟨L, hL⟩ : ∃ L, L = (decode bs).length := ⟨_, rfl⟩
    rw [← hL] at HCN HD1
    clear hL
    go_enter Tryz.func3, Tryz.ntmps3
    go_wp2_with fail
    refine HAL.out.mono ?_
    rintro e w1 ⟨rfl, hb1⟩
    have HB1 := Lib.hid hb1
    clear hb1
    go_wp2_with fail
    refine (HD1.out _ (HH.out _ HB1.out)).mono ?_
    rintro e w2 ⟨v1, rfl, hown1, hb2⟩
    have HB2 := Lib.hid (HB1.out.trans (hb2.mono HB1.out.size))
    obtain ⟨A1, n1, c1, rfl, hl1, hc1⟩ := hown1.form
    have HR1 : Hid (RowS 5 nilT w2 w2.heap.size A1 (List.replicate L ())) := Lib.hid (OwnS.rows nilT_len hown1)
    rw [List.length_replicate] at hl1
    have HC1 := Lib.hid hc1
    have hL := HCN.out
    have hl1' : n1 = L := hl1.symm
    have hq : ((n : Int) + 7) / 8 = (L : Int) := by omega
    have hn1 : L ≤ 1000 := by omega
    have HQ := Lib.hid hq
    clear hown1 hb2 hl1 hc1 hL hq
    obtain rfl : n1 = L := hl1'
    clear HCN
    go_wp2_with fail
    go_loopw [4] (fun v wr => ∃ k : Nat, k ≤ n1 ∧ v = .int .i64 (k : Int) ∧ Below w2.heap.size w2 wr) (fun v _ => n1 - (intOf v).toNat)
    case atStart => exact ⟨0, by omega, rfl, Below.refl _ _⟩
    case round =>
      obtain ⟨k, hk, rfl, hbr⟩ := hrel
      have HBR := Lib.hid hbr
      rcases Nat.lt_or_ge k n1 with hlt | hge
      · obtain ⟨b1, o1, hA1, hb1, hc1'⟩ := HR1.out (by simp; omega)
        have q1 : wr.rangeAt b1 (o1 + k * 5) (nilT ()) := rangeAt_keep (hc1' k () (by simp [hlt])) (hbr.block b1 hb1)
        subst hA1
        simp only [nilT] at q1
        have e0 := q1 0 _ rfl
        have e1 := q1 1 _ rfl
        have e2 := q1 2 _ rfl
        have e3 := q1 3 _ rfl
        have e4 := q1 4 _ rfl
        simp only [Nat.add_zero] at e0 e1 e2 e3 e4
        clear q1 hbr hc1' HR1 hb1
        go_wp2_with fail
        go_roundw
        case rel => exact ⟨k + 1, by omega, by go_num, HBR.out⟩
        case measure => simp [intOf]; omega
      · obtain rfl : k = n1 := by omega
        have hq := HQ.out
        clear hbr
        go_wp2_with fail
        go_ret
        exact ⟨by simp, HB2.out.trans (HBR.out.mono HB2.out.size)⟩
end Go.Proofs.YtkbanaaljebhiaaGreatDoor
