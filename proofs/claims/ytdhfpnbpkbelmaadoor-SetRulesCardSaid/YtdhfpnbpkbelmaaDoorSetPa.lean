/- Contracts: set.pair, op (of words). -/
import Derived.Test.YtdhfpnbpkbelmaaDoorSetZ
namespace Go.Proofs.YtdhfpnbpkbelmaaDoor
open Go.RowKit Go.Sort
set_option linter.unusedSimpArgs false
set_option linter.unusedVariables false

theorem SetVar.box {w : World} {m : Int} {A : Option Addr} {len c : Nat} {ws : List Nat} (h : SetArg w m A len c ws) : SetVar (w.alloc (.cells #[.int .i64 m, .slice A len c] 24)) w.heap.size m A len c ws := SetVar.new h
def pairB (m m' : Int) (ws ws' : List Nat) : Bool := srightB m ws && srightB m' ws' && decide (m = m')
set_option maxRecDepth 100000 in
set_option maxHeartbeats 2000000 in
theorem spair_any (m m' : Int) (A A' : Option Addr) (len len' c c' : Nat) (ws ws' : List Nat) (w : World) (h : SetArg w m A len c ws) (h' : SetArg w m' A' len' c' ws') :
    Calls Tryd.prog 56 #[setA m A len c, setA m' A' len' c'] w fun e w' => e = .returned (.bool (pairB m m' ws ws')) ∧ Below w.heap.size w w' := by
  unfold setA
  obtain ⟨W, hW⟩ : ∃ W, W = (w.alloc (.cells #[.int .i64 m, .slice A len c] 24)).alloc (.cells #[.int .i64 m', .slice A' len' c'] 24) := ⟨_, rfl⟩
  have hbW : Below w.heap.size w W := by rw [hW]; exact ((Below.refl _ _).alloc (Nat.le_refl _) _).alloc (by simp) _
  have v1 : SetVar W w.heap.size m A len c ws := by rw [hW]; exact (SetVar.new h).alloc _
  have v2 : SetVar W (w.heap.size + 1) m' A' len' c' ws' := by
    rw [hW]
    have := SetVar.new (h'.alloc (.cells #[.int .i64 m, .slice A len c] 24))
    rwa [World.size_alloc] at this
  have HWW := Lib.hid hW
  have HbW := Lib.hid hbW
  have V1 := Lib.hid v1
  have V2 := Lib.hid v2
  have HR1 := Lib.hid (fun W' (h : SetArg W' m A len c ws) => sright_any m A len c ws W' h)
  have HR2 := Lib.hid (fun W' (h : SetArg W' m' A' len' c' ws') => sright_any m' A' len' c' ws' W' h)
  have hpb : pairB m m' ws ws' = (srightB m ws && srightB m' ws' && decide (m = m')) := rfl
  generalize pairB m m' ws ws' = r at *
  generalize srightB m ws = r1 at *
  generalize srightB m' ws' = r2 at *
  unfold setA at *
  have k0 := v1.c0
  have k1 := v1.c1
  have k2 := v2.c0
  have k3 := v2.c1
  clear h h' hbW v1 v2
  cases r1
  · have HP := Lib.hid hpb
    clear hpb
    go_enter Tryd.func56, Tryd.ntmps56
    go_wp2_with fail
    rw [← HWW.out]
    clear hW
    go_wp2_with fail
    refine (HR1.out _ V1.out.arg).mono ?_
    rintro e w1 ⟨rfl, hb1⟩
    go_wp2_with fail
    go_ret
    exact ⟨ret_bool (by rw [HP.out]; rfl), HbW.out.trans (hb1.mono HbW.out.size)⟩
  · cases r2
    · have HP := Lib.hid hpb
      clear hpb
      go_enter Tryd.func56, Tryd.ntmps56
      go_wp2_with fail
      rw [← HWW.out]
      clear hW
      go_wp2_with fail
      refine (HR1.out _ V1.out.arg).mono ?_
      rintro e w1 ⟨rfl, hb1⟩
      have V2' := Lib.hid (V2.out.on hb1)
      have j2 := V2'.out.c0
      have j3 := V2'.out.c1
      go_wp2_with fail
      refine (HR2.out _ V2'.out.arg).mono ?_
      rintro e w2 ⟨rfl, hb2⟩
      go_wp2_with fail
      go_ret
      exact ⟨ret_bool (by rw [HP.out]; rfl), HbW.out.trans ((hb1.trans (hb2.mono hb1.size)).mono HbW.out.size)⟩
    · have hd : (m == m') = r := by
        rw [hpb, Bool.true_and, Bool.true_and, Bool.eq_iff_iff, beq_iff_eq, decide_eq_true_eq]
      clear hpb
      go_enter Tryd.func56, Tryd.ntmps56
      go_wp2_with fail
      rw [← HWW.out]
      clear hW
      go_wp2_with fail
      refine (HR1.out _ V1.out.arg).mono ?_
      rintro e w1 ⟨rfl, hb1⟩
      have V1' := Lib.hid (V1.out.on hb1)
      have V2' := Lib.hid (V2.out.on hb1)
      have j2 := V2'.out.c0
      have j3 := V2'.out.c1
      clear k0 k1 k2 k3
      go_wp2_with fail
      refine (HR2.out _ V2'.out.arg).mono ?_
      rintro e w2 ⟨rfl, hb2⟩
      have k0 := (V1'.out.on hb2).c0
      have k2 := (V2'.out.on hb2).c0
      have HE := Lib.hid (HbW.out.trans ((hb1.trans (hb2.mono hb1.size)).mono HbW.out.size))
      clear j2 j3 hb1 hb2
      go_wp2_with fail
      go_ret
      exact ⟨ret_bool (by first | exact hd | rfl | simp [*]), HE.out⟩
/-- one of the four words -/
def opX (a b : Nat) : Nat → Nat
  | 0 => (18446744073709551615 - a) &&& (18446744073709551615 - b)
  | 1 => (18446744073709551615 - a) &&& b
  | 2 => a &&& (18446744073709551615 - b)
  | _ => a &&& b
def opAcc (o a b : Nat) : Nat → Nat
  | 0 => 0
  | k + 1 => if o.testBit k then opAcc o a b k ||| opX a b k else opAcc o a b k
def opW (o a b : Nat) : Nat := opAcc o a b 4
theorem opX_lt {a b : Nat} (ha : a < 18446744073709551616) (hb : b < 18446744073709551616) : ∀ k, opX a b k < 18446744073709551616
  | 0 => Nat.lt_of_le_of_lt Nat.and_le_left (by omega)
  | 1 => Nat.lt_of_le_of_lt Nat.and_le_right hb
  | 2 => Nat.lt_of_le_of_lt Nat.and_le_left ha
  | k + 3 => Nat.lt_of_le_of_lt Nat.and_le_left ha
theorem opAcc_lt {o a b : Nat} (ha : a < 18446744073709551616) (hb : b < 18446744073709551616) : ∀ k, opAcc o a b k < 18446744073709551616
  | 0 => by simp [opAcc]
  | k + 1 => by
    rw [opAcc]
    split
    · exact Nat.or_lt_two_pow (n := 64) (opAcc_lt ha hb k) (opX_lt ha hb k)
    · exact opAcc_lt ha hb k
theorem not_bit {a j : Nat} (ha : a < 18446744073709551616) (hj : j < 64) : (18446744073709551615 - a).testBit j = !a.testBit j := by
  have h := Nat.testBit_two_pow_sub_succ (x := a) (n := 64) ha j
  rw [show 2 ^ 64 - (a + 1) = 18446744073709551615 - a by omega] at h
  rw [h, decide_eq_true hj, Bool.true_and]
theorem opW_bit {o a b j : Nat} (ha : a < 18446744073709551616) (hb : b < 18446744073709551616) (hj : j < 64) : (opW o a b).testBit j = o.testBit (2 * (a.testBit j).toNat + (b.testBit j).toNat) := by
  unfold opW
  simp only [opAcc]
  have e0 : (opX a b 0).testBit j = (!a.testBit j && !b.testBit j) := by rw [opX, Nat.testBit_and, not_bit ha hj, not_bit hb hj]
  have e1 : (opX a b 1).testBit j = (!a.testBit j && b.testBit j) := by rw [opX, Nat.testBit_and, not_bit ha hj]
  have e2 : (opX a b 2).testBit j = (a.testBit j && !b.testBit j) := by rw [opX, Nat.testBit_and, not_bit hb hj]
  have e3 : (opX a b 3).testBit j = (a.testBit j && b.testBit j) := by show (a &&& b).testBit j = _; rw [Nat.testBit_and]
  generalize opX a b 0 = x0 at *
  generalize opX a b 1 = x1 at *
  generalize opX a b 2 = x2 at *
  generalize opX a b 3 = x3 at *
  generalize a.testBit j = p at *
  generalize b.testBit j = q at *
  cases h0 : o.testBit 0 <;> cases h1 : o.testBit 1 <;> cases h2 : o.testBit 2 <;> cases h3 : o.testBit 3 <;> cases p <;> cases q <;> simp [e0, e1, e2, e3, h0, h1, h2, h3]
theorem run_index_arr {P : Program} (w : World) (t e : TypeId) (n : Nat) (cs : Array Value) (k : IntKind) (i : Nat) (h : P.underlying t = some (.array n e)) (hi : i < n) (hs : ∀ w, (Go.sizeOf e).run P w = .ok 1 w) (ha : ∀ w, (isAgg e).run P w = .ok false w) (v : Value) (hv : cs[i]? = some v) :
    (Instr.index t (.agg cs) (.int k (i : Int))).run P w = .ok v w := by
  simp [Instr.index, run_underlying h, asIntOf, hi, hs, ha, hv, go_sem, Result.andThen]
theorem size_u64 (w : World) : (Go.sizeOf 86).run Tryd.prog w = .ok 1 w := by kernel_rfl
theorem agg_u64 (w : World) : (isAgg 86).run Tryd.prog w = .ok false w := by kernel_rfl
theorem opX_at (X : Nat → Nat) (k : Nat) (hk : k < 4) (w : World) : (Instr.index 121 (.agg #[.int .u64 (X 0 : Nat), .int .u64 (X 1 : Nat), .int .u64 (X 2 : Nat), .int .u64 (X 3 : Nat)]) (.int .i64 (k : Int))).run Tryd.prog w = .ok (.int .u64 (X k : Nat)) w := by
  refine run_index_arr w _ _ 4 _ .i64 k Tryd.underlying121 hk size_u64 agg_u64 _ ?_
  have h : k = 0 ∨ k = 1 ∨ k = 2 ∨ k = 3 := by omega
  rcases h with rfl | rfl | rfl | rfl <;> rfl
set_option maxRecDepth 100000 in
set_option maxHeartbeats 4000000 in
theorem sop_any (o a b : Nat) (ho : o ≤ 15) (ha : a < 18446744073709551616) (hb : b < 18446744073709551616) (w : World) : Calls Tryd.prog 68 #[.int .i64 (o : Nat), .int .u64 (a : Nat), .int .u64 (b : Nat)] w fun e w' => e = .returned (.int .u64 (opW o a b : Nat)) ∧ w = w' := by
  have hna := not_u64 a ha
  have hnb := not_u64 b hb
  have x0 := u64_and_nat (18446744073709551615 - a) (18446744073709551615 - b) (by omega) (by omega)
  have x1 := u64_and_nat (18446744073709551615 - a) b (by omega) hb
  have x2 := u64_and_nat a (18446744073709551615 - b) ha (by omega)
  have x3 := u64_and_nat a b ha hb
  have e0 : opX a b 0 = (18446744073709551615 - a) &&& (18446744073709551615 - b) := rfl
  have e1 : opX a b 1 = (18446744073709551615 - a) &&& b := rfl
  have e2 : opX a b 2 = a &&& (18446744073709551615 - b) := rfl
  have e3 : opX a b 3 = a &&& b := rfl
  rw [← e0] at x0
  rw [← e1] at x1
  rw [← e2] at x2
  rw [← e3] at x3
  have HXL := Lib.hid (fun k => opX_lt ha hb k)
  have HAL := Lib.hid (fun k => opAcc_lt (o := o) ha hb k)
  have HST := Lib.hid (fun k => (show opAcc o a b (k + 1) = if o.testBit k then opAcc o a b k ||| opX a b k else opAcc o a b k from rfl))
  have HE := Lib.hid (show opW o a b = opAcc o a b 4 from rfl)
  have HA0 := Lib.hid (show opAcc o a b 0 = 0 from rfl)
  generalize opW o a b = r at *
  generalize opAcc o a b = acc at *
  generalize opX a b = X at *
  generalize 18446744073709551615 - a = na at *
  generalize 18446744073709551615 - b = nb at *
  clear e0 e1 e2 e3
  go_enter Tryd.func68, Tryd.ntmps68
  go_wp2_with fail
  go_loop [7, 27] (fun q i => ∃ k : Nat, k ≤ 4 ∧ i = .int .i64 k ∧ q = .int .u64 (acc k : Nat)) (fun _ i => 4 - (intOf i).toNat)
  case atStart => exact ⟨0, Nat.zero_le _, rfl, by rw [HA0.out]; rfl⟩
  case round =>
    obtain ⟨k, hk, rfl, rfl⟩ := hrel
    have hst := HST.out k
    have hl := HAL.out k
    have hor := u64_or_nat (acc k) (X k) hl (HXL.out k)
    have hbt := bit_testV o k (by omega)
    obtain ⟨z, hz⟩ : ∃ z, z = acc (k + 1) := ⟨_, rfl⟩
    rw [← hz] at hst
    have HZ := Lib.hid hz
    clear hz
    by_cases hlt : k < 4
    · have hix := fun W => opX_at X k hlt W
      have hxl := HXL.out k
      cases hb : o.testBit k
      · rw [hb] at hst hbt
        simp only [Bool.false_eq_true, if_false] at hst hbt
        have HS := Lib.hid hst
        clear hb hst hor
        go_wp2_with fail
        go_round
        case rel => exact ⟨k + 1, by omega, by go_num, by rw [← HZ.out, HS.out]⟩
        case measure => simp [intOf]; omega
      · rw [hb] at hst hbt
        simp only [if_true] at hst hbt
        rw [← hst] at hor
        clear hb hst
        go_wp2_with fail
        go_round
        case rel => exact ⟨k + 1, by omega, by go_num, by rw [← HZ.out]⟩
        case measure => simp [intOf]; omega
    · obtain rfl : k = 4 := by omega
      clear hst hor hbt
      rw [← HE.out]
      go_wp2_with fail
      go_ret
      exact ⟨rfl, rfl⟩
end Go.Proofs.YtdhfpnbpkbelmaaDoor
