/- Contracts: slices.Equal of words, set.Same. -/
import Derived.Test.YtpbpjihdaghiaaaDoorMh
import Derived.BigQuiet
import Derived.Deep.QuietTactic
namespace Go.Proofs.YtpbpjihdaghiaaaDoor
open Go.RowKit Go.Sort
set_option linter.unusedSimpArgs false
set_option linter.unusedVariables false

set_option maxRecDepth 100000 in
set_option maxHeartbeats 8000000 in
theorem wequal_any (A A2 : Option Addr) (len len2 c c2 : Nat) (ws ws2 : List Nat) (w : World) (hl : ws.length = len) (hl2 : ws2.length = len2) (hm : len ≤ 9223372036854775807) (hm2 : len2 ≤ 9223372036854775807) (hr : RowF U 0 w w.heap.size A ws) (hr2 : RowF U 0 w w.heap.size A2 ws2) :
    Calls Tryd.prog 46 #[.slice A len c, .slice A2 len2 c2] w fun e w' => e = .returned (.bool (decide (ws = ws2))) ∧ Below w.heap.size w w' := by
  obtain ⟨q, hqd⟩ : ∃ q, decide (ws = ws2) = q := ⟨_, rfl⟩
  rw [hqd]
  have HQ := Lib.hid hqd
  clear hqd
  by_cases hne : len = len2
  · subst hne
    have HR := Lib.hid hr
    have HR2 := Lib.hid hr2
    have HL := Lib.hid hl
    have HL2 := Lib.hid hl2
    clear hr hr2 hl hl2
    go_enter Tryd.func46, Tryd.ntmps46
    go_wp2_with fail
    go_loopw [13] (fun i wr => ∃ k : Nat, k ≤ len ∧ i = .int .i64 k ∧ (∀ j, j < k → wat ws j = wat ws2 j) ∧ Below w.heap.size w wr) (fun i _ => len - (intOf i).toNat)
    case atStart => exact ⟨0, Nat.zero_le _, rfl, fun j hj => by omega, Below.refl _ _⟩
    case round =>
      obtain ⟨k, hk, rfl, heq, hb⟩ := hrel
      have HE := Lib.hid heq
      have HB := Lib.hid hb
      clear heq hb
      by_cases hlt : k < len
      · obtain ⟨b, off, rfl, hb1, hc1⟩ := HR.out (by rw [HL.out]; omega)
        obtain ⟨b2, off2, rfl, hb2, hc2⟩ := HR2.out (by rw [HL2.out]; omega)
        have k1 : wr.cell? ⟨b, off + k, none⟩ = some (.int .u64 (wat ws k : Nat)) := (HB.out.cell (p := ⟨b, off + k, none⟩) hb1).trans (hc1 k (by rw [HL.out]; exact hlt))
        have k2 : wr.cell? ⟨b2, off2 + k, none⟩ = some (.int .u64 (wat ws2 k : Nat)) := (HB.out.cell (p := ⟨b2, off2 + k, none⟩) hb2).trans (hc2 k (by rw [HL2.out]; exact hlt))
        have hk0 : (0 : Int) ≤ (k : Int) := by omega
        have hk1 : (k : Int) < (len : Int) := by omega
        clear hc1 hc2
        by_cases hv : wat ws k = wat ws2 k
        · rw [← hv] at k2
          have HV' := Lib.hid hv
          clear hv
          generalize hxx : wat ws k = x at *
          have HX := Lib.hid hxx
          clear hxx
          have hq : ((x : Int) != (x : Int)) = false := by simp
          go_wp2_with fail
          go_quiet (fail)
          go_wp2_with fail
          go_roundw
          case rel => exact ⟨k + 1, by omega, by go_num, fun j hj => by
            by_cases hjk : j = k
            · rw [hjk, HX.out]; exact HV'.out
            · exact HE.out j (by omega), below_drewN HB.out _⟩
          case measure => simp [intOf]; omega
        · have hq : ((wat ws k : Int) != (wat ws2 k : Int)) = true := by rw [bne_iff_ne]; omega
          have hd : decide (ws = ws2) = false := decide_eq_false (fun e => hv (by rw [e]))
          have HD := Lib.hid hd
          generalize wat ws k = x at *
          generalize wat ws2 k = y at *
          clear hv hd
          go_wp2_with fail
          go_quiet (fail)
          go_wp2_with fail
          go_ret
          exact ⟨ret_bool (HD.out.symm.trans HQ.out), below_drewN HB.out _⟩
      · obtain rfl : k = len := by omega
        have hd : decide (ws = ws2) = true := decide_eq_true (by rw [← range_wat HL.out, ← range_wat HL2.out]; exact List.map_congr_left fun j hj => HE.out j (by simpa using hj))
        have HD := Lib.hid hd
        clear hd
        go_wp2_with fail
        go_ret
        exact ⟨ret_bool (HD.out.symm.trans HQ.out), HB.out⟩
  · have hd : decide (ws = ws2) = false := decide_eq_false (fun e => hne (by rw [← hl, ← hl2, e]))
    have hb : ((len : Int) != (len2 : Int)) = true := by rw [bne_iff_ne]; omega
    have HD := Lib.hid hd
    clear hd hr hr2 hl hl2
    go_enter Tryd.func46, Tryd.ntmps46
    go_wp2_with fail
    go_ret
    exact ⟨ret_bool (HD.out.symm.trans HQ.out), Below.refl _ _⟩
set_option maxRecDepth 100000 in
set_option maxHeartbeats 8000000 in
theorem ssame_any (m m' : Int) (A A' : Option Addr) (len len' c c' : Nat) (ws ws' : List Nat) (w : World) (h : SetArg w m A len c ws) (h' : SetArg w m' A' len' c' ws') :
    Calls Tryd.prog 16 #[setA m A len c, setA m' A' len' c'] w fun e w' => e = .returned (.bool (decide (m = m' ∧ ws = ws'))) ∧ Below w.heap.size w w' := by
  have hx : len ≤ 9223372036854775807 := by have := Nat.le_trans h.hcap h.hmax; unfold maxLen at this; omega
  have hx' : len' ≤ 9223372036854775807 := by have := Nat.le_trans h'.hcap h'.hmax; unfold maxLen at this; omega
  have HEQ := Lib.hid (fun W (h : SetArg W m A len c ws) (h' : SetArg W m' A' len' c' ws') => wequal_any A A' len len' c c' ws ws' W h.hlen h'.hlen hx hx' h.row h'.row)
  unfold setA
  generalize hd : decide (ws = ws') = q at *
  have hdd : decide (m = m' ∧ ws = ws') = (decide (m = m') && q) := by rw [← hd]; exact Bool.decide_and _ _
  rw [hdd]
  clear hd hdd
  obtain ⟨W0, hW0⟩ : ∃ W0, W0 = ((w.alloc (.cells #[.int .i64 m, .slice A len c] 24)).alloc (.cells #[.int .i64 m', .slice A' len' c'] 24)) := ⟨_, rfl⟩
  have hb0 : Below w.heap.size w W0 := by rw [hW0]; exact (((Below.refl _ _).alloc (by simp) (.cells #[.int .i64 m, .slice A len c] 24)).alloc (by simp) (.cells #[.int .i64 m', .slice A' len' c'] 24))
  have hv0 : SetVar W0 (w.heap.size) m A len c ws := by
    have := SetVar.new h
    rw [hW0]; exact (this.alloc _)
  have hv1 : SetVar W0 (w.heap.size + 1) m' A' len' c' ws' := by
    have := SetVar.new (h'.alloc (.cells #[.int .i64 m, .slice A len c] 24))
    simp only [World.size_alloc] at this
    rw [hW0]; exact this
  have HWW := Lib.hid hW0
  have HB := Lib.hid hb0
  have Va := Lib.hid hv0
  have Vb := Lib.hid hv1
  clear hb0 hv0 hv1 h h' hx hx'
  by_cases hm : m = m'
  · subst hm
    rw [decide_eq_true rfl, Bool.true_and]
    have hb : (m == m) = true := by simp
    go_enter Tryd.func16, Tryd.ntmps16
    go_wp2_with fail
    rw [← HWW.out]
    clear hW0
    have kVa0 := Va.out.c0
    have kVa1 := Va.out.c1
    have kVb0 := Vb.out.c0
    have kVb1 := Vb.out.c1
    go_wp2_with fail
    refine (HEQ.out _ Va.out.arg Vb.out.arg).mono ?_
    rintro e x1 ⟨rfl, hb1⟩
    clear kVa0 kVa1 kVb0 kVb1
    have Va' := Lib.hid (Va.out.on hb1)
    clear Va
    have Va := Va'
    clear Va'
    have Vb' := Lib.hid (Vb.out.on hb1)
    clear Vb
    have Vb := Vb'
    clear Vb'
    have HB' := Lib.hid (HB.out.trans (hb1.mono HB.out.size))
    clear HB
    have HB := HB'
    clear HB'
    clear hb1
    go_wp2_with fail
    go_ret
    exact ⟨rfl, HB.out⟩
  · have hb : (m == m') = false := by rw [beq_eq_false_iff_ne]; exact hm
    rw [decide_eq_false hm, Bool.false_and]
    go_enter Tryd.func16, Tryd.ntmps16
    go_wp2_with fail
    rw [← HWW.out]
    clear hW0
    have kVa0 := Va.out.c0
    have kVa1 := Va.out.c1
    have kVb0 := Vb.out.c0
    have kVb1 := Vb.out.c1
    go_wp2_with fail
    go_ret
    exact ⟨rfl, HB.out⟩
end Go.Proofs.YtpbpjihdaghiaaaDoor
