/- Contract: the document's num of any whole number. -/
import Derived.Test.YtnlhibhamechcaaGreatDoorNum
import Derived.Laws.Concat
namespace Go.Proofs.YtnlhibhamechcaaGreatDoor
open Go.RowKit Go.Sort
set_option linter.unusedSimpArgs false
set_option linter.unusedVariables false

theorem itoa_len (n : Int) (h : (Lit.int .i64 n).wf = true) : (Lib.itoa n).length ≤ 21 := by
  have hb := i64_of_wf h
  unfold Lib.itoa
  split
  · rw [List.length_cons]
    have := digs_len n.natAbs (by omega)
    omega
  · have := digs_len n.toNat (by omega)
    omega
theorem itoa_any (n : Int) (hn : (Lit.int .i64 n).wf = true) (w : World) (ht : Pow w) : Calls Tryz.prog 44 #[.int .i64 n] w fun e w' => e = .returned (txt (Lib.itoa n)) ∧ Below w.heap.size w w' := by
  have hb := i64_of_wf hn
  exact (Tryz.strconv_Itoa n (by omega) (by omega) w ht).mono fun e w' ⟨he, k, os, hw⟩ => ⟨by rw [he]; rfl, by rw [hw]; exact below_growN w k os⟩
theorem itoa_negN (m : Nat) (h : 0 < m) : Lib.itoa (-(m : Int)) = 45 :: Lib.decDigits m := by
  unfold Lib.itoa
  rw [if_pos (by omega)]
  congr 2
  omega
theorem dec_split {m : Nat} (h : 10 ≤ m) : Lib.decDigits m = Lib.decDigits (m / 10) ++ Lib.decDigits (m % 10) := by
  rw [Lib.decDigits, dif_neg (by omega), Lib.decDigits_one (i := m % 10) (by omega)]
set_option maxRecDepth 100000 in
set_option maxHeartbeats 2000000 in
theorem snum_neg : ∀ (m : Nat) (w : World), 0 < m → m ≤ 9223372036854775808 → Calls Tryz.prog 24 #[.int .i64 (-(m : Int))] w fun e w' => e = .returned (txt (Lib.itoa (-(m : Int)))) ∧ Below w.heap.size w w' := by
  intro m
  induction m using Nat.strongRecOn with
  | _ m ih =>
    intro w h0 hm
    rw [itoa_negN m h0]
    have hn0 : ¬ (0 : Int) ≤ -(m : Int) := by omega
    by_cases h10 : m < 10
    · have H1 := Lib.hid (fun W => num_any m W (by omega) (by omega))
      have hg : (-10 : Int) < -(m : Int) := by omega
      have l1 := digs_len m (by omega)
      generalize Lib.decDigits m = x at *
      clear ih
      go_enter Tryz.func24, Tryz.ntmps24
      go_wp2_with fail
      refine (H1.out _).mono ?_
      rintro e w1 ⟨rfl, hb1⟩
      unfold txt
      go_wp2_with fail
      go_ret
      refine ⟨?_, hb1⟩
      first
        | rfl
        | (congr 2; apply ByteArray.ext; simp [ByteArray.data_append]; done)
    · have hg : ¬ (-10 : Int) < -(m : Int) := by omega
      have hq : Int.tdiv (-(m : Int)) 10 = -((m / 10 : Nat) : Int) := by rw [Int.neg_tdiv, Int.tdiv_eq_ediv_of_nonneg (by omega)]; omega
      have hr : Int.tmod (-(m : Int)) 10 = -((m % 10 : Nat) : Int) := by rw [Int.neg_tmod, Int.tmod_eq_emod_of_nonneg (by omega)]; omega
      have H1 := Lib.hid (fun W => ih (m / 10) (by omega) W (by omega) (by omega))
      have H2 := Lib.hid (fun W => num_any (m % 10) W (by omega) (by omega))
      rw [dec_split (by omega)]
      have l1 := digs_len (m / 10) (by omega)
      have l2 := digs_len (m % 10) (by omega)
      rw [itoa_negN (m / 10) (by omega)] at H1
      have hi : -((m / 10 : Nat) : Int) = -((m / 10 : Nat) : Int) := rfl
      generalize Lib.decDigits (m / 10) = x at *
      generalize Lib.decDigits (m % 10) = y at *
      clear ih
      go_enter Tryz.func24, Tryz.ntmps24
      go_wp2_with fail
      refine (H1.out _).mono ?_
      rintro e w1 ⟨rfl, hb1⟩
      unfold txt
      go_wp2_with fail
      refine (H2.out _).mono ?_
      rintro e w2 ⟨rfl, hb2⟩
      unfold txt
      go_wp2_with fail
      go_ret
      refine ⟨?_, hb1.trans (hb2.mono hb1.size)⟩
      first
        | rfl
        | (congr 2; apply ByteArray.ext; simp [ByteArray.data_append]; done)
theorem snum_any (n : Int) (hn : (Lit.int .i64 n).wf = true) (w : World) : Calls Tryz.prog 24 #[.int .i64 n] w fun e w' => e = .returned (txt (Lib.itoa n)) ∧ Below w.heap.size w w' := by
  have hb := i64_of_wf hn
  by_cases h0 : n < 0
  · have h := snum_neg n.natAbs w (by omega) (by omega)
    rwa [show -(n.natAbs : Int) = n by omega] at h
  · obtain ⟨m, rfl⟩ := Int.eq_ofNat_of_zero_le (a := n) (by omega)
    have H1 := Lib.hid (fun W => num_any m W (by omega) (by omega))
    have e : Lib.itoa (m : Int) = Lib.decDigits m := by unfold Lib.itoa; rw [if_neg (by omega), Int.toNat_natCast]
    rw [e]
    have hg : (0 : Int) ≤ (m : Int) := by omega
    generalize Lib.decDigits m = x at *
    clear e
    go_enter Tryz.func24, Tryz.ntmps24
    go_wp2_with fail
    refine (H1.out _).mono ?_
    rintro e w1 ⟨rfl, hb1⟩
    unfold txt
    go_wp2_with fail
    go_ret
    exact ⟨rfl, hb1⟩
end Go.Proofs.YtnlhibhamechcaaGreatDoor
