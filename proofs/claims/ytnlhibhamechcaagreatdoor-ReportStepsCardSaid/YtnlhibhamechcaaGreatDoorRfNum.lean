/- Contracts: the document's num (32) of any whole number. -/
import Derived.Test.YtnlhibhamechcaaGreatDoorScNum
namespace Go.Proofs.YtnlhibhamechcaaGreatDoor
open Go.RowKit Go.Sort
set_option linter.unusedSimpArgs false
set_option linter.unusedVariables false

set_option maxRecDepth 100000 in
set_option maxHeartbeats 2000000 in
theorem rfar_neg : ∀ (m : Nat) (w : World), 0 < m → m ≤ 9223372036854775808 → Calls Tryz.prog 25 #[.int .i64 (-(m : Int))] w fun e w' => e = .returned (txt (Lib.decDigits m)) ∧ Below w.heap.size w w' := by
  intro m
  induction m using Nat.strongRecOn with
  | _ m ih =>
    intro w h0 hm
    by_cases h10 : m < 10
    · have H1 := Lib.hid (fun W => num_any m W (by omega) (by omega))
      have hg : (-10 : Int) < -(m : Int) := by omega
      have l1 := digs_len m (by omega)
      generalize Lib.decDigits m = x at *
      clear ih
      go_enter Tryz.func25, Tryz.ntmps25
      go_wp2_with fail
      refine (H1.out _).mono ?_
      rintro e w1 ⟨rfl, hb1⟩
      unfold txt
      go_wp2_with fail
      go_ret
      refine ⟨?_, hb1⟩
      first
        | rfl
        | (congr 2; apply ByteArray.ext; simp [ByteArray.data_append]; done)
    · have hg : ¬ (-10 : Int) < -(m : Int) := by omega
      have hq : Int.tdiv (-(m : Int)) 10 = -((m / 10 : Nat) : Int) := by rw [Int.neg_tdiv, Int.tdiv_eq_ediv_of_nonneg (by omega)]; omega
      have hr : Int.tmod (-(m : Int)) 10 = -((m % 10 : Nat) : Int) := by rw [Int.neg_tmod, Int.tmod_eq_emod_of_nonneg (by omega)]; omega
      have H1 := Lib.hid (fun W => ih (m / 10) (by omega) W (by omega) (by omega))
      have H2 := Lib.hid (fun W => num_any (m % 10) W (by omega) (by omega))
      rw [dec_split (by omega)]
      have l1 := digs_len (m / 10) (by omega)
      have l2 := digs_len (m % 10) (by omega)
      have hi : -((m / 10 : Nat) : Int) = -((m / 10 : Nat) : Int) := rfl
      generalize Lib.decDigits (m / 10) = x at *
      generalize Lib.decDigits (m % 10) = y at *
      clear ih
      go_enter Tryz.func25, Tryz.ntmps25
      go_wp2_with fail
      refine (H1.out _).mono ?_
      rintro e w1 ⟨rfl, hb1⟩
      unfold txt
      go_wp2_with fail
      refine (H2.out _).mono ?_
      rintro e w2 ⟨rfl, hb2⟩
      unfold txt
      go_wp2_with fail
      go_ret
      refine ⟨?_, hb1.trans (hb2.mono hb1.size)⟩
      first
        | rfl
        | (congr 2; apply ByteArray.ext; simp [ByteArray.data_append]; done)
set_option maxRecDepth 100000 in
theorem rnum_any (n : Int) (hn : (Lit.int .i64 n).wf = true) (w : World) : Calls Tryz.prog 12 #[.int .i64 n] w fun e w' => e = .returned (txt (32 :: Lib.itoa n)) ∧ Below w.heap.size w w' := by
  have hb := i64_of_wf hn
  have hl := itoa_len n hn
  by_cases h0 : n < 0
  · have H1 := Lib.hid (fun W => rfar_neg n.natAbs W (by omega) (by omega))
    have e0 : -(n.natAbs : Int) = n := by omega
    have e : Lib.itoa n = 45 :: Lib.decDigits n.natAbs := by
      have := itoa_negN n.natAbs (by omega)
      rwa [e0] at this
    rw [e0] at H1
    rw [e] at hl ⊢
    generalize Lib.decDigits n.natAbs = x at *
    rw [List.length_cons] at hl
    clear e e0
    go_enter Tryz.func12, Tryz.ntmps12
    go_wp2_with fail
    refine (H1.out _).mono ?_
    rintro e w1 ⟨rfl, hb1⟩
    unfold txt
    go_wp2_with fail
    go_ret
    refine ⟨?_, hb1⟩
    first
      | rfl
      | (congr 2; apply ByteArray.ext; simp [ByteArray.data_append]; done)
  · obtain ⟨m, rfl⟩ := Int.eq_ofNat_of_zero_le (a := n) (by omega)
    have H1 := Lib.hid (fun W => num_any m W (by omega) (by omega))
    have e : Lib.itoa (m : Int) = Lib.decDigits m := by unfold Lib.itoa; rw [if_neg (by omega), Int.toNat_natCast]
    rw [e] at hl ⊢
    have hg : (0 : Int) ≤ (m : Int) := by omega
    generalize Lib.decDigits m = x at *
    clear e
    go_enter Tryz.func12, Tryz.ntmps12
    go_wp2_with fail
    refine (H1.out _).mono ?_
    rintro e w1 ⟨rfl, hb1⟩
    unfold txt
    go_wp2_with fail
    go_ret
    refine ⟨?_, hb1⟩
    first
      | rfl
      | (congr 2; apply ByteArray.ext; simp [ByteArray.data_append]; done)
end Go.Proofs.YtnlhibhamechcaaGreatDoor
