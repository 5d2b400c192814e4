/- The walk of PermRanks. -/
import Derived.Test.YtfnhknbofllhcaaPermNext
import Derived.Test.YtfnhknbofllhcaaPermSteps
namespace Go.Proofs.Ytfnhknbofllhcaa
open Go.RowKit
set_option linter.unusedSimpArgs false
set_option linter.unusedVariables false

set_option maxHeartbeats 1000000 in
theorem of_no (n rank : Int) (w : World) (hno : n < 0 ∨ 16 < n ∨ (0 ≤ n ∧ n ≤ 16 ∧ (rank < 0 ∨ ((fact n.toNat : Nat) : Int) ≤ rank))) :
    Calls Try.prog 17 #[.int .i64 n, .int .i64 rank] w fun e w' => e = .returned (.tuple #[.slice none 0 0, .bool false]) ∧ Below w.heap.size w w' := by
  rcases hno with h | h | ⟨h0, h1, h2⟩
  · go_enter Try.func17, Try.ntmps17
    go_wp2_with fail
    refine (permSame_no n _ (.inl h)).mono ?_
    rintro e w' ⟨rfl, rfl⟩
    go_wp2_with fail
    go_ret2
    exact ⟨rfl, Below.refl _ _⟩
  · go_enter Try.func17, Try.ntmps17
    go_wp2_with fail
    refine (permSame_no n _ (.inr h)).mono ?_
    rintro e w' ⟨rfl, rfl⟩
    go_wp2_with fail
    go_ret2
    exact ⟨rfl, Below.refl _ _⟩
  · by_cases hr : rank < 0
    · clear h2
      go_enter Try.func17, Try.ntmps17
      go_wp2_with fail
      refine (permSame_any n _ h0 h1).mono ?_
      rintro e w1 ⟨rfl, hown, hb1, _⟩
      go_wp2_with fail
      go_ret2
      exact ⟨rfl, hb1⟩
    · have h3 : ((fact n.toNat : Nat) : Int) ≤ rank := by omega
      clear h2
      go_enter Try.func17, Try.ntmps17
      go_wp2_with fail
      refine (permSame_any n _ h0 h1).mono ?_
      rintro e w1 ⟨rfl, hown, hb1, _⟩
      go_wp2_with fail
      refine (factorial_any n _ h0 h1).mono ?_
      rintro e w' ⟨rfl, rfl⟩
      go_wp2_with fail
      go_ret2
      exact ⟨rfl, hb1⟩

set_option maxRecDepth 100000 in
set_option maxHeartbeats 16000000 in
theorem permRanks_no (A : Option Addr) (n c : Nat) (ps : List Int) (q rank : Int) (w : World) (hp : ps.length = n) (hn : n ≤ 9223372036854775807) (hnc : n ≤ c) (hc63 : c ≤ 9223372036854775807) (hn40 : n ≤ 40) (hq0b : -9223372036854775808 ≤ q) (hqb : q ≤ 9223372036854775807) (hr0b : -9223372036854775808 ≤ rank) (hrb : rank ≤ 9223372036854775807) (ha : Ints w w.heap.size A ps) (hP : ¬ IsPerm ps) :
    Calls Try.prog 5 #[.slice A n c, .int .i64 q, .int .i64 rank] w fun e w' => e = .returned (.bool true) ∧ Below w.heap.size w w' := by
  have Hp := Lib.hid hp
  have HP := Lib.hid hP
  clear hp hP
  by_cases hq : q < 0
  · go_enter Try.func5, Try.ntmps5
    go_wp2_with fail
    refine (alive_any _).mono ?_
    rintro e w1 ⟨rfl, hb1⟩
    have ha1 := ha.on hb1
    go_wp2_with fail
    refine (rank_no A n c ps _ Hp.out hn HP.out ha1).mono ?_
    rintro e w' ⟨rfl, rfl⟩
    go_wp2_with fail
    refine (refRight_any A n c ps _ Hp.out hn ha1).mono ?_
    rintro e w' ⟨rfl, rfl⟩
    rw [decide_eq_false HP.out]
    have hbel := hb1
    go_wp2_with fail
    refine (of_no q rank _ (.inl hq)).mono ?_
    rintro e w8 ⟨rfl, hb8⟩
    go_wp2_with fail
    go_ret
    exact ⟨rfl, hbel.trans (hb8.mono hbel.size)⟩
  · have hq0 : 0 ≤ q := by omega
    clear hq
    by_cases hq2 : 16 < q
    · go_enter Try.func5, Try.ntmps5
      go_wp2_with fail
      refine (alive_any _).mono ?_
      rintro e w1 ⟨rfl, hb1⟩
      have ha1 := ha.on hb1
      go_wp2_with fail
      refine (rank_no A n c ps _ Hp.out hn HP.out ha1).mono ?_
      rintro e w' ⟨rfl, rfl⟩
      go_wp2_with fail
      refine (refRight_any A n c ps _ Hp.out hn ha1).mono ?_
      rintro e w' ⟨rfl, rfl⟩
      rw [decide_eq_false HP.out]
      have hbel := hb1
      go_wp2_with fail
      refine (of_no q rank _ (.inr (.inl hq2))).mono ?_
      rintro e w8 ⟨rfl, hb8⟩
      go_wp2_with fail
      go_ret
      exact ⟨rfl, hbel.trans (hb8.mono hbel.size)⟩
    · have hq16 : q ≤ 16 := by omega
      clear hq2
      by_cases hr : rank < 0
      · go_enter Try.func5, Try.ntmps5
        go_wp2_with fail
        refine (alive_any _).mono ?_
        rintro e w1 ⟨rfl, hb1⟩
        have ha1 := ha.on hb1
        go_wp2_with fail
        refine (rank_no A n c ps _ Hp.out hn HP.out ha1).mono ?_
        rintro e w' ⟨rfl, rfl⟩
        go_wp2_with fail
        refine (refRight_any A n c ps _ Hp.out hn ha1).mono ?_
        rintro e w' ⟨rfl, rfl⟩
        rw [decide_eq_false HP.out]
        have hbel := hb1
        go_wp2_with fail
        refine (of_no q rank _ (.inr (.inr ⟨hq0, hq16, .inl hr⟩))).mono ?_
        rintro e w8 ⟨rfl, hb8⟩
        go_wp2_with fail
        go_ret
        exact ⟨rfl, hbel.trans (hb8.mono hbel.size)⟩
      · have hr0 : 0 ≤ rank := by omega
        clear hr
        by_cases hk : ((fact q.toNat : Nat) : Int) ≤ rank
        · have HRk := Lib.hid hk
          clear hk
          go_enter Try.func5, Try.ntmps5
          go_wp2_with fail
          refine (alive_any _).mono ?_
          rintro e w1 ⟨rfl, hb1⟩
          have ha1 := ha.on hb1
          go_wp2_with fail
          refine (rank_no A n c ps _ Hp.out hn HP.out ha1).mono ?_
          rintro e w' ⟨rfl, rfl⟩
          go_wp2_with fail
          refine (refRight_any A n c ps _ Hp.out hn ha1).mono ?_
          rintro e w' ⟨rfl, rfl⟩
          rw [decide_eq_false HP.out]
          have hbel := hb1
          go_wp2_with fail
          refine (of_no q rank _ (.inr (.inr ⟨hq0, hq16, .inr HRk.out⟩))).mono ?_
          rintro e w8 ⟨rfl, hb8⟩
          go_wp2_with fail
          refine (all_any q _ hq0 hq16).mono ?_
          rintro e w' ⟨rfl, rfl⟩
          have hrk := HRk.out
          go_wp2_with fail
          go_ret
          exact ⟨rfl, hbel.trans (hb8.mono hbel.size)⟩
        · have HRk : Hid (rank < ((fact q.toNat : Nat) : Int)) := Lib.hid (by omega)
          have HOP : Hid (IsPerm (unrank q.toNat (iota q.toNat) rank.toNat) ∧ rankL (unrank q.toNat (iota q.toNat) rank.toNat) = rank.toNat) := Lib.hid (by
            have h := rank_unrank q.toNat (iota q.toNat) rank.toNat (iota_length _) (iota_sorted _) (by have := HRk.out; omega)
            exact ⟨(iota_perm (by omega)).of_perm h.1, h.2⟩)
          clear hk
          go_enter Try.func5, Try.ntmps5
          go_wp2_with fail
          refine (alive_any _).mono ?_
          rintro e w1 ⟨rfl, hb1⟩
          have ha1 := ha.on hb1
          go_wp2_with fail
          refine (rank_no A n c ps _ Hp.out hn HP.out ha1).mono ?_
          rintro e w' ⟨rfl, rfl⟩
          go_wp2_with fail
          refine (refRight_any A n c ps _ Hp.out hn ha1).mono ?_
          rintro e w' ⟨rfl, rfl⟩
          rw [decide_eq_false HP.out]
          have hbel := hb1
          go_wp2_with fail
          refine (of_any q rank _ hq0 hq16 hr0 HRk.out).mono ?_
          rintro e w8 ⟨v8, rfl, hown8, hb8⟩
          obtain ⟨A8, n8, c8, rfl, h8, hc8⟩ := OwnF.form hown8
          obtain rfl : q.toNat = n8 := by rw [← h8, unrank_length]
          have H8 := Lib.hid h8
          have hI8 := OwnI.ints hown8
          have hc8m := OwnF.cap_le hown8
          have hbel8 := hbel.trans (hb8.mono hbel.size)
          clear hown8 h8
          go_wp2_with fail
          refine (all_any q _ hq0 hq16).mono ?_
          rintro e w' ⟨rfl, rfl⟩
          have hrk := HRk.out
          go_wp2_with fail
          refine (rank_yes A8 q.toNat c8 _ _ H8.out hc8 hc8m HOP.out.1 hI8).mono ?_
          rintro e w' ⟨rfl, rfl⟩
          rw [HOP.out.2]
          have hrt : ((rank.toNat : Nat) : Int) = rank := by omega
          have hqt : ((q.toNat : Nat) : Int) = q := by omega
          rw [hrt]
          go_wp2_with fail
          go_ret
          exact ⟨by simp [hqt], hbel8⟩

set_option maxRecDepth 100000 in
set_option maxHeartbeats 16000000 in
theorem permRanks_yes (A : Option Addr) (n c : Nat) (ps : List Int) (q rank : Int) (w : World) (hp : ps.length = n) (hn : n ≤ 9223372036854775807) (hnc : n ≤ c) (hc63 : c ≤ 9223372036854775807) (hn40 : n ≤ 40) (hq0b : -9223372036854775808 ≤ q) (hqb : q ≤ 9223372036854775807) (hr0b : -9223372036854775808 ≤ rank) (hrb : rank ≤ 9223372036854775807) (ha : Ints w w.heap.size A ps) (hP : IsPerm ps) :
    Calls Try.prog 5 #[.slice A n c, .int .i64 q, .int .i64 rank] w fun e w' => e = .returned (.bool true) ∧ Below w.heap.size w w' := by
  have Hp := Lib.hid hp
  have HP := Lib.hid hP
  have HN16 : Hid (n ≤ 16) := Lib.hid (by rw [← hp]; exact hP.1)
  clear hp hP
  by_cases hq : q < 0
  · go_enter Try.func5, Try.ntmps5
    go_wp2_with fail
    refine (alive_any _).mono ?_
    rintro e w1 ⟨rfl, hb1⟩
    have ha1 := ha.on hb1
    go_wp2_with fail
    refine (rank_yes A n c ps _ Hp.out hnc hc63 HP.out ha1).mono ?_
    rintro e w' ⟨rfl, rfl⟩
    go_wp2_with fail
    refine (refRight_any A n c ps _ Hp.out hn ha1).mono ?_
    rintro e w' ⟨rfl, rfl⟩
    rw [decide_eq_true HP.out]
    have hn16 := HN16.out
    have hr16 : rankL ps < 20922789888000 := by
      have h1 := rankL_lt ps
      have h2 := fact_le16 HP.out.1
      omega
    have hrlt : Hid (((rankL ps : Nat) : Int) < ((fact ((n : Int)).toNat : Nat) : Int)) := Lib.hid (by
      rw [Int.toNat_natCast, ← Hp.out]
      exact Int.ofNat_lt.2 (rankL_lt ps))
    go_wp2_with fail
    refine (of_any (n : Int) ((rankL ps : Nat) : Int) _ (by omega) (by omega) (by omega) hrlt.out).mono ?_
    rintro e w2 ⟨v2, rfl, hown2, hb2⟩
    rw [Int.toNat_natCast, Int.toNat_natCast, show unrank n (iota n) (rankL ps) = ps by (rw [← Hp.out]; exact unrank_rank ps _ HP.out.perm_iota (iota_sorted _))] at hown2
    clear hrlt
    obtain ⟨A2, n2, c2, rfl, h2, _⟩ := OwnF.form hown2
    obtain rfl : n = n2 := by rw [← h2, Hp.out]
    have hI2 := OwnI.ints hown2
    have ha2 := ha1.on hb2
    have hbel2 := hb1.trans (hb2.mono hb1.size)
    clear hown2 h2 ha1 hb2
    go_wp2_with fail
    refine (next_any A n c ps _ Hp.out hnc hc63 HP.out ha2).mono ?_
    rintro e w3 (⟨v3, i, m, rfl, hN, hown3, hb3⟩ | ⟨rfl, hD, hb3⟩)
    · have hRn := Lib.hid (next_rank HP.out hN)
      have hPn := Lib.hid (next_perm HP.out hN)
      clear hN
      obtain ⟨A3, n3, c3, rfl, h3, hc3⟩ := OwnF.form hown3
      obtain rfl : n = n3 := by rw [← h3, hPn.out.2, Hp.out]
      have H3 := Lib.hid h3
      have hI3 := OwnI.ints hown3
      have hc3m := OwnF.cap_le hown3
      have hI23 := hI2.on hb3
      have ha3 := ha2.on hb3
      have hbel3 := hbel2.trans (hb3.mono hbel2.size)
      clear hI2 ha2 hbel2 hb3 hown3 h3
      go_wp2_with fail
      refine (same_any A2 A n n c2 c ps ps _ Hp.out Hp.out (by omega) (by omega) hI23 ha3).mono ?_
      rintro e w4 ⟨rfl, k4, rfl⟩
      rw [decide_eq_true rfl]
      have hrp : (0 : Int) ≤ ((rankL ps : Nat) : Int) := by omega
      go_wp2_with fail
      refine (rank_yes A3 n c3 (nextL ps i m) _ H3.out hc3 hc3m hPn.out.1 (hI3.drewN' k4)).mono ?_
      rintro e w' ⟨rfl, rfl⟩
      have hb1' : (((rankL (nextL ps i m) : Nat) : Int) != ((rankL ps : Nat) : Int) + 1) = false := by rw [bne_eq_false_iff_eq, hRn.out]; omega
      have hbel := below_drewN hbel3 k4
      go_wp2_with fail
      refine (self_any (n : Int) _ (by omega)).mono ?_
      rintro e w5 ⟨v5, rfl, hown5, hb5⟩
      rw [Int.toNat_natCast] at hown5
      obtain ⟨A5, n5, c5, rfl, h5, hc5⟩ := OwnF.form hown5
      obtain rfl : n = n5 := by rw [← h5, iota_length]
      have hI5 := OwnI.ints hown5
      have hc5m := OwnF.cap_le hown5
      have hbel5 := hbel.trans (hb5.mono hbel.size)
      have hio : Hid ((iota n).length = n) := Lib.hid (iota_length n)
      clear hown5 h5 hb5 hbel
      go_wp2_with fail
      refine (rank_yes A5 n c5 (iota n) _ hio.out hc5 hc5m (iota_perm hn16) hI5).mono ?_
      rintro e w' ⟨rfl, rfl⟩
      have hz0 : Hid (rankL (iota n) = 0) := Lib.hid (rankL_sorted _ (iota_sorted n))
      rw [hz0.out]
      have hbel := hbel5
      go_wp2_with fail
      refine (of_no q rank _ (.inl hq)).mono ?_
      rintro e w8 ⟨rfl, hb8⟩
      go_wp2_with fail
      go_ret
      exact ⟨rfl, hbel.trans (hb8.mono hbel.size)⟩
    · have hRl : Hid (((rankL ps : Nat) : Int) = ((fact n : Nat) : Int) - 1) := Lib.hid (by
        have := rankL_desc ps (desc_of hD)
        rw [Hp.out] at this
        omega)
      clear hD
      have hI23 := hI2.on hb3
      have ha3 := ha2.on hb3
      have hbel3 := hbel2.trans (hb3.mono hbel2.size)
      clear hI2 ha2 hbel2 hb3
      go_wp2_with fail
      refine (same_any A2 A n n c2 c ps ps _ Hp.out Hp.out (by omega) (by omega) hI23 ha3).mono ?_
      rintro e w4 ⟨rfl, k4, rfl⟩
      rw [decide_eq_true rfl]
      have hrp : (0 : Int) ≤ ((rankL ps : Nat) : Int) := by omega
      go_wp2_with fail
      refine (all_any (n : Int) _ (by omega) (by omega)).mono ?_
      rintro e w' ⟨rfl, rfl⟩
      rw [Int.toNat_natCast]
      have hf1 := fact_pos n
      have hf2 := fact_le16 (n := n) (by omega)
      have hb1' : (((rankL ps : Nat) : Int) != ((fact n : Nat) : Int) - 1) = false := by rw [bne_eq_false_iff_eq, hRl.out]
      have hbel := below_drewN hbel3 k4
      go_wp2_with fail
      refine (rank_yes none 0 0 [] _ rfl (by omega) (by omega) (by decide) RowF.nil_).mono ?_
      rintro e w' ⟨rfl, rfl⟩
      go_wp2_with fail
      refine (self_any (n : Int) _ (by omega)).mono ?_
      rintro e w5 ⟨v5, rfl, hown5, hb5⟩
      rw [Int.toNat_natCast] at hown5
      obtain ⟨A5, n5, c5, rfl, h5, hc5⟩ := OwnF.form hown5
      obtain rfl : n = n5 := by rw [← h5, iota_length]
      have hI5 := OwnI.ints hown5
      have hc5m := OwnF.cap_le hown5
      have hbel5 := hbel.trans (hb5.mono hbel.size)
      have hio : Hid ((iota n).length = n) := Lib.hid (iota_length n)
      clear hown5 h5 hb5 hbel
      go_wp2_with fail
      refine (rank_yes A5 n c5 (iota n) _ hio.out hc5 hc5m (iota_perm hn16) hI5).mono ?_
      rintro e w' ⟨rfl, rfl⟩
      have hz0 : Hid (rankL (iota n) = 0) := Lib.hid (rankL_sorted _ (iota_sorted n))
      rw [hz0.out]
      have hbel := hbel5
      go_wp2_with fail
      refine (of_no q rank _ (.inl hq)).mono ?_
      rintro e w8 ⟨rfl, hb8⟩
      go_wp2_with fail
      go_ret
      exact ⟨rfl, hbel.trans (hb8.mono hbel.size)⟩
  · have hq0 : 0 ≤ q := by omega
    clear hq
    by_cases hq2 : 16 < q
    · go_enter Try.func5, Try.ntmps5
      go_wp2_with fail
      refine (alive_any _).mono ?_
      rintro e w1 ⟨rfl, hb1⟩
      have ha1 := ha.on hb1
      go_wp2_with fail
      refine (rank_yes A n c ps _ Hp.out hnc hc63 HP.out ha1).mono ?_
      rintro e w' ⟨rfl, rfl⟩
      go_wp2_with fail
      refine (refRight_any A n c ps _ Hp.out hn ha1).mono ?_
      rintro e w' ⟨rfl, rfl⟩
      rw [decide_eq_true HP.out]
      have hn16 := HN16.out
      have hr16 : rankL ps < 20922789888000 := by
        have h1 := rankL_lt ps
        have h2 := fact_le16 HP.out.1
        omega
      have hrlt : Hid (((rankL ps : Nat) : Int) < ((fact ((n : Int)).toNat : Nat) : Int)) := Lib.hid (by
        rw [Int.toNat_natCast, ← Hp.out]
        exact Int.ofNat_lt.2 (rankL_lt ps))
      go_wp2_with fail
      refine (of_any (n : Int) ((rankL ps : Nat) : Int) _ (by omega) (by omega) (by omega) hrlt.out).mono ?_
      rintro e w2 ⟨v2, rfl, hown2, hb2⟩
      rw [Int.toNat_natCast, Int.toNat_natCast, show unrank n (iota n) (rankL ps) = ps by (rw [← Hp.out]; exact unrank_rank ps _ HP.out.perm_iota (iota_sorted _))] at hown2
      clear hrlt
      obtain ⟨A2, n2, c2, rfl, h2, _⟩ := OwnF.form hown2
      obtain rfl : n = n2 := by rw [← h2, Hp.out]
      have hI2 := OwnI.ints hown2
      have ha2 := ha1.on hb2
      have hbel2 := hb1.trans (hb2.mono hb1.size)
      clear hown2 h2 ha1 hb2
      go_wp2_with fail
      refine (next_any A n c ps _ Hp.out hnc hc63 HP.out ha2).mono ?_
      rintro e w3 (⟨v3, i, m, rfl, hN, hown3, hb3⟩ | ⟨rfl, hD, hb3⟩)
      · have hRn := Lib.hid (next_rank HP.out hN)
        have hPn := Lib.hid (next_perm HP.out hN)
        clear hN
        obtain ⟨A3, n3, c3, rfl, h3, hc3⟩ := OwnF.form hown3
        obtain rfl : n = n3 := by rw [← h3, hPn.out.2, Hp.out]
        have H3 := Lib.hid h3
        have hI3 := OwnI.ints hown3
        have hc3m := OwnF.cap_le hown3
        have hI23 := hI2.on hb3
        have ha3 := ha2.on hb3
        have hbel3 := hbel2.trans (hb3.mono hbel2.size)
        clear hI2 ha2 hbel2 hb3 hown3 h3
        go_wp2_with fail
        refine (same_any A2 A n n c2 c ps ps _ Hp.out Hp.out (by omega) (by omega) hI23 ha3).mono ?_
        rintro e w4 ⟨rfl, k4, rfl⟩
        rw [decide_eq_true rfl]
        have hrp : (0 : Int) ≤ ((rankL ps : Nat) : Int) := by omega
        go_wp2_with fail
        refine (rank_yes A3 n c3 (nextL ps i m) _ H3.out hc3 hc3m hPn.out.1 (hI3.drewN' k4)).mono ?_
        rintro e w' ⟨rfl, rfl⟩
        have hb1' : (((rankL (nextL ps i m) : Nat) : Int) != ((rankL ps : Nat) : Int) + 1) = false := by rw [bne_eq_false_iff_eq, hRn.out]; omega
        have hbel := below_drewN hbel3 k4
        go_wp2_with fail
        refine (self_any (n : Int) _ (by omega)).mono ?_
        rintro e w5 ⟨v5, rfl, hown5, hb5⟩
        rw [Int.toNat_natCast] at hown5
        obtain ⟨A5, n5, c5, rfl, h5, hc5⟩ := OwnF.form hown5
        obtain rfl : n = n5 := by rw [← h5, iota_length]
        have hI5 := OwnI.ints hown5
        have hc5m := OwnF.cap_le hown5
        have hbel5 := hbel.trans (hb5.mono hbel.size)
        have hio : Hid ((iota n).length = n) := Lib.hid (iota_length n)
        clear hown5 h5 hb5 hbel
        go_wp2_with fail
        refine (rank_yes A5 n c5 (iota n) _ hio.out hc5 hc5m (iota_perm hn16) hI5).mono ?_
        rintro e w' ⟨rfl, rfl⟩
        have hz0 : Hid (rankL (iota n) = 0) := Lib.hid (rankL_sorted _ (iota_sorted n))
        rw [hz0.out]
        have hbel := hbel5
        go_wp2_with fail
        refine (of_no q rank _ (.inr (.inl hq2))).mono ?_
        rintro e w8 ⟨rfl, hb8⟩
        go_wp2_with fail
        go_ret
        exact ⟨rfl, hbel.trans (hb8.mono hbel.size)⟩
      · have hRl : Hid (((rankL ps : Nat) : Int) = ((fact n : Nat) : Int) - 1) := Lib.hid (by
          have := rankL_desc ps (desc_of hD)
          rw [Hp.out] at this
          omega)
        clear hD
        have hI23 := hI2.on hb3
        have ha3 := ha2.on hb3
        have hbel3 := hbel2.trans (hb3.mono hbel2.size)
        clear hI2 ha2 hbel2 hb3
        go_wp2_with fail
        refine (same_any A2 A n n c2 c ps ps _ Hp.out Hp.out (by omega) (by omega) hI23 ha3).mono ?_
        rintro e w4 ⟨rfl, k4, rfl⟩
        rw [decide_eq_true rfl]
        have hrp : (0 : Int) ≤ ((rankL ps : Nat) : Int) := by omega
        go_wp2_with fail
        refine (all_any (n : Int) _ (by omega) (by omega)).mono ?_
        rintro e w' ⟨rfl, rfl⟩
        rw [Int.toNat_natCast]
        have hf1 := fact_pos n
        have hf2 := fact_le16 (n := n) (by omega)
        have hb1' : (((rankL ps : Nat) : Int) != ((fact n : Nat) : Int) - 1) = false := by rw [bne_eq_false_iff_eq, hRl.out]
        have hbel := below_drewN hbel3 k4
        go_wp2_with fail
        refine (rank_yes none 0 0 [] _ rfl (by omega) (by omega) (by decide) RowF.nil_).mono ?_
        rintro e w' ⟨rfl, rfl⟩
        go_wp2_with fail
        refine (self_any (n : Int) _ (by omega)).mono ?_
        rintro e w5 ⟨v5, rfl, hown5, hb5⟩
        rw [Int.toNat_natCast] at hown5
        obtain ⟨A5, n5, c5, rfl, h5, hc5⟩ := OwnF.form hown5
        obtain rfl : n = n5 := by rw [← h5, iota_length]
        have hI5 := OwnI.ints hown5
        have hc5m := OwnF.cap_le hown5
        have hbel5 := hbel.trans (hb5.mono hbel.size)
        have hio : Hid ((iota n).length = n) := Lib.hid (iota_length n)
        clear hown5 h5 hb5 hbel
        go_wp2_with fail
        refine (rank_yes A5 n c5 (iota n) _ hio.out hc5 hc5m (iota_perm hn16) hI5).mono ?_
        rintro e w' ⟨rfl, rfl⟩
        have hz0 : Hid (rankL (iota n) = 0) := Lib.hid (rankL_sorted _ (iota_sorted n))
        rw [hz0.out]
        have hbel := hbel5
        go_wp2_with fail
        refine (of_no q rank _ (.inr (.inl hq2))).mono ?_
        rintro e w8 ⟨rfl, hb8⟩
        go_wp2_with fail
        go_ret
        exact ⟨rfl, hbel.trans (hb8.mono hbel.size)⟩
    · have hq16 : q ≤ 16 := by omega
      clear hq2
      by_cases hr : rank < 0
      · go_enter Try.func5, Try.ntmps5
        go_wp2_with fail
        refine (alive_any _).mono ?_
        rintro e w1 ⟨rfl, hb1⟩
        have ha1 := ha.on hb1
        go_wp2_with fail
        refine (rank_yes A n c ps _ Hp.out hnc hc63 HP.out ha1).mono ?_
        rintro e w' ⟨rfl, rfl⟩
        go_wp2_with fail
        refine (refRight_any A n c ps _ Hp.out hn ha1).mono ?_
        rintro e w' ⟨rfl, rfl⟩
        rw [decide_eq_true HP.out]
        have hn16 := HN16.out
        have hr16 : rankL ps < 20922789888000 := by
          have h1 := rankL_lt ps
          have h2 := fact_le16 HP.out.1
          omega
        have hrlt : Hid (((rankL ps : Nat) : Int) < ((fact ((n : Int)).toNat : Nat) : Int)) := Lib.hid (by
          rw [Int.toNat_natCast, ← Hp.out]
          exact Int.ofNat_lt.2 (rankL_lt ps))
        go_wp2_with fail
        refine (of_any (n : Int) ((rankL ps : Nat) : Int) _ (by omega) (by omega) (by omega) hrlt.out).mono ?_
        rintro e w2 ⟨v2, rfl, hown2, hb2⟩
        rw [Int.toNat_natCast, Int.toNat_natCast, show unrank n (iota n) (rankL ps) = ps by (rw [← Hp.out]; exact unrank_rank ps _ HP.out.perm_iota (iota_sorted _))] at hown2
        clear hrlt
        obtain ⟨A2, n2, c2, rfl, h2, _⟩ := OwnF.form hown2
        obtain rfl : n = n2 := by rw [← h2, Hp.out]
        have hI2 := OwnI.ints hown2
        have ha2 := ha1.on hb2
        have hbel2 := hb1.trans (hb2.mono hb1.size)
        clear hown2 h2 ha1 hb2
        go_wp2_with fail
        refine (next_any A n c ps _ Hp.out hnc hc63 HP.out ha2).mono ?_
        rintro e w3 (⟨v3, i, m, rfl, hN, hown3, hb3⟩ | ⟨rfl, hD, hb3⟩)
        · have hRn := Lib.hid (next_rank HP.out hN)
          have hPn := Lib.hid (next_perm HP.out hN)
          clear hN
          obtain ⟨A3, n3, c3, rfl, h3, hc3⟩ := OwnF.form hown3
          obtain rfl : n = n3 := by rw [← h3, hPn.out.2, Hp.out]
          have H3 := Lib.hid h3
          have hI3 := OwnI.ints hown3
          have hc3m := OwnF.cap_le hown3
          have hI23 := hI2.on hb3
          have ha3 := ha2.on hb3
          have hbel3 := hbel2.trans (hb3.mono hbel2.size)
          clear hI2 ha2 hbel2 hb3 hown3 h3
          go_wp2_with fail
          refine (same_any A2 A n n c2 c ps ps _ Hp.out Hp.out (by omega) (by omega) hI23 ha3).mono ?_
          rintro e w4 ⟨rfl, k4, rfl⟩
          rw [decide_eq_true rfl]
          have hrp : (0 : Int) ≤ ((rankL ps : Nat) : Int) := by omega
          go_wp2_with fail
          refine (rank_yes A3 n c3 (nextL ps i m) _ H3.out hc3 hc3m hPn.out.1 (hI3.drewN' k4)).mono ?_
          rintro e w' ⟨rfl, rfl⟩
          have hb1' : (((rankL (nextL ps i m) : Nat) : Int) != ((rankL ps : Nat) : Int) + 1) = false := by rw [bne_eq_false_iff_eq, hRn.out]; omega
          have hbel := below_drewN hbel3 k4
          go_wp2_with fail
          refine (self_any (n : Int) _ (by omega)).mono ?_
          rintro e w5 ⟨v5, rfl, hown5, hb5⟩
          rw [Int.toNat_natCast] at hown5
          obtain ⟨A5, n5, c5, rfl, h5, hc5⟩ := OwnF.form hown5
          obtain rfl : n = n5 := by rw [← h5, iota_length]
          have hI5 := OwnI.ints hown5
          have hc5m := OwnF.cap_le hown5
          have hbel5 := hbel.trans (hb5.mono hbel.size)
          have hio : Hid ((iota n).length = n) := Lib.hid (iota_length n)
          clear hown5 h5 hb5 hbel
          go_wp2_with fail
          refine (rank_yes A5 n c5 (iota n) _ hio.out hc5 hc5m (iota_perm hn16) hI5).mono ?_
          rintro e w' ⟨rfl, rfl⟩
          have hz0 : Hid (rankL (iota n) = 0) := Lib.hid (rankL_sorted _ (iota_sorted n))
          rw [hz0.out]
          have hbel := hbel5
          go_wp2_with fail
          refine (of_no q rank _ (.inr (.inr ⟨hq0, hq16, .inl hr⟩))).mono ?_
          rintro e w8 ⟨rfl, hb8⟩
          go_wp2_with fail
          go_ret
          exact ⟨rfl, hbel.trans (hb8.mono hbel.size)⟩
        · have hRl : Hid (((rankL ps : Nat) : Int) = ((fact n : Nat) : Int) - 1) := Lib.hid (by
            have := rankL_desc ps (desc_of hD)
            rw [Hp.out] at this
            omega)
          clear hD
          have hI23 := hI2.on hb3
          have ha3 := ha2.on hb3
          have hbel3 := hbel2.trans (hb3.mono hbel2.size)
          clear hI2 ha2 hbel2 hb3
          go_wp2_with fail
          refine (same_any A2 A n n c2 c ps ps _ Hp.out Hp.out (by omega) (by omega) hI23 ha3).mono ?_
          rintro e w4 ⟨rfl, k4, rfl⟩
          rw [decide_eq_true rfl]
          have hrp : (0 : Int) ≤ ((rankL ps : Nat) : Int) := by omega
          go_wp2_with fail
          refine (all_any (n : Int) _ (by omega) (by omega)).mono ?_
          rintro e w' ⟨rfl, rfl⟩
          rw [Int.toNat_natCast]
          have hf1 := fact_pos n
          have hf2 := fact_le16 (n := n) (by omega)
          have hb1' : (((rankL ps : Nat) : Int) != ((fact n : Nat) : Int) - 1) = false := by rw [bne_eq_false_iff_eq, hRl.out]
          have hbel := below_drewN hbel3 k4
          go_wp2_with fail
          refine (rank_yes none 0 0 [] _ rfl (by omega) (by omega) (by decide) RowF.nil_).mono ?_
          rintro e w' ⟨rfl, rfl⟩
          go_wp2_with fail
          refine (self_any (n : Int) _ (by omega)).mono ?_
          rintro e w5 ⟨v5, rfl, hown5, hb5⟩
          rw [Int.toNat_natCast] at hown5
          obtain ⟨A5, n5, c5, rfl, h5, hc5⟩ := OwnF.form hown5
          obtain rfl : n = n5 := by rw [← h5, iota_length]
          have hI5 := OwnI.ints hown5
          have hc5m := OwnF.cap_le hown5
          have hbel5 := hbel.trans (hb5.mono hbel.size)
          have hio : Hid ((iota n).length = n) := Lib.hid (iota_length n)
          clear hown5 h5 hb5 hbel
          go_wp2_with fail
          refine (rank_yes A5 n c5 (iota n) _ hio.out hc5 hc5m (iota_perm hn16) hI5).mono ?_
          rintro e w' ⟨rfl, rfl⟩
          have hz0 : Hid (rankL (iota n) = 0) := Lib.hid (rankL_sorted _ (iota_sorted n))
          rw [hz0.out]
          have hbel := hbel5
          go_wp2_with fail
          refine (of_no q rank _ (.inr (.inr ⟨hq0, hq16, .inl hr⟩))).mono ?_
          rintro e w8 ⟨rfl, hb8⟩
          go_wp2_with fail
          go_ret
          exact ⟨rfl, hbel.trans (hb8.mono hbel.size)⟩
      · have hr0 : 0 ≤ rank := by omega
        clear hr
        by_cases hk : ((fact q.toNat : Nat) : Int) ≤ rank
        · have HRk := Lib.hid hk
          clear hk
          go_enter Try.func5, Try.ntmps5
          go_wp2_with fail
          refine (alive_any _).mono ?_
          rintro e w1 ⟨rfl, hb1⟩
          have ha1 := ha.on hb1
          go_wp2_with fail
          refine (rank_yes A n c ps _ Hp.out hnc hc63 HP.out ha1).mono ?_
          rintro e w' ⟨rfl, rfl⟩
          go_wp2_with fail
          refine (refRight_any A n c ps _ Hp.out hn ha1).mono ?_
          rintro e w' ⟨rfl, rfl⟩
          rw [decide_eq_true HP.out]
          have hn16 := HN16.out
          have hr16 : rankL ps < 20922789888000 := by
            have h1 := rankL_lt ps
            have h2 := fact_le16 HP.out.1
            omega
          have hrlt : Hid (((rankL ps : Nat) : Int) < ((fact ((n : Int)).toNat : Nat) : Int)) := Lib.hid (by
            rw [Int.toNat_natCast, ← Hp.out]
            exact Int.ofNat_lt.2 (rankL_lt ps))
          go_wp2_with fail
          refine (of_any (n : Int) ((rankL ps : Nat) : Int) _ (by omega) (by omega) (by omega) hrlt.out).mono ?_
          rintro e w2 ⟨v2, rfl, hown2, hb2⟩
          rw [Int.toNat_natCast, Int.toNat_natCast, show unrank n (iota n) (rankL ps) = ps by (rw [← Hp.out]; exact unrank_rank ps _ HP.out.perm_iota (iota_sorted _))] at hown2
          clear hrlt
          obtain ⟨A2, n2, c2, rfl, h2, _⟩ := OwnF.form hown2
          obtain rfl : n = n2 := by rw [← h2, Hp.out]
          have hI2 := OwnI.ints hown2
          have ha2 := ha1.on hb2
          have hbel2 := hb1.trans (hb2.mono hb1.size)
          clear hown2 h2 ha1 hb2
          go_wp2_with fail
          refine (next_any A n c ps _ Hp.out hnc hc63 HP.out ha2).mono ?_
          rintro e w3 (⟨v3, i, m, rfl, hN, hown3, hb3⟩ | ⟨rfl, hD, hb3⟩)
          · have hRn := Lib.hid (next_rank HP.out hN)
            have hPn := Lib.hid (next_perm HP.out hN)
            clear hN
            obtain ⟨A3, n3, c3, rfl, h3, hc3⟩ := OwnF.form hown3
            obtain rfl : n = n3 := by rw [← h3, hPn.out.2, Hp.out]
            have H3 := Lib.hid h3
            have hI3 := OwnI.ints hown3
            have hc3m := OwnF.cap_le hown3
            have hI23 := hI2.on hb3
            have ha3 := ha2.on hb3
            have hbel3 := hbel2.trans (hb3.mono hbel2.size)
            clear hI2 ha2 hbel2 hb3 hown3 h3
            go_wp2_with fail
            refine (same_any A2 A n n c2 c ps ps _ Hp.out Hp.out (by omega) (by omega) hI23 ha3).mono ?_
            rintro e w4 ⟨rfl, k4, rfl⟩
            rw [decide_eq_true rfl]
            have hrp : (0 : Int) ≤ ((rankL ps : Nat) : Int) := by omega
            go_wp2_with fail
            refine (rank_yes A3 n c3 (nextL ps i m) _ H3.out hc3 hc3m hPn.out.1 (hI3.drewN' k4)).mono ?_
            rintro e w' ⟨rfl, rfl⟩
            have hb1' : (((rankL (nextL ps i m) : Nat) : Int) != ((rankL ps : Nat) : Int) + 1) = false := by rw [bne_eq_false_iff_eq, hRn.out]; omega
            have hbel := below_drewN hbel3 k4
            go_wp2_with fail
            refine (self_any (n : Int) _ (by omega)).mono ?_
            rintro e w5 ⟨v5, rfl, hown5, hb5⟩
            rw [Int.toNat_natCast] at hown5
            obtain ⟨A5, n5, c5, rfl, h5, hc5⟩ := OwnF.form hown5
            obtain rfl : n = n5 := by rw [← h5, iota_length]
            have hI5 := OwnI.ints hown5
            have hc5m := OwnF.cap_le hown5
            have hbel5 := hbel.trans (hb5.mono hbel.size)
            have hio : Hid ((iota n).length = n) := Lib.hid (iota_length n)
            clear hown5 h5 hb5 hbel
            go_wp2_with fail
            refine (rank_yes A5 n c5 (iota n) _ hio.out hc5 hc5m (iota_perm hn16) hI5).mono ?_
            rintro e w' ⟨rfl, rfl⟩
            have hz0 : Hid (rankL (iota n) = 0) := Lib.hid (rankL_sorted _ (iota_sorted n))
            rw [hz0.out]
            have hbel := hbel5
            go_wp2_with fail
            refine (of_no q rank _ (.inr (.inr ⟨hq0, hq16, .inr HRk.out⟩))).mono ?_
            rintro e w8 ⟨rfl, hb8⟩
            go_wp2_with fail
            refine (all_any q _ hq0 hq16).mono ?_
            rintro e w' ⟨rfl, rfl⟩
            have hrk := HRk.out
            go_wp2_with fail
            go_ret
            exact ⟨rfl, hbel.trans (hb8.mono hbel.size)⟩
          · have hRl : Hid (((rankL ps : Nat) : Int) = ((fact n : Nat) : Int) - 1) := Lib.hid (by
              have := rankL_desc ps (desc_of hD)
              rw [Hp.out] at this
              omega)
            clear hD
            have hI23 := hI2.on hb3
            have ha3 := ha2.on hb3
            have hbel3 := hbel2.trans (hb3.mono hbel2.size)
            clear hI2 ha2 hbel2 hb3
            go_wp2_with fail
            refine (same_any A2 A n n c2 c ps ps _ Hp.out Hp.out (by omega) (by omega) hI23 ha3).mono ?_
            rintro e w4 ⟨rfl, k4, rfl⟩
            rw [decide_eq_true rfl]
            have hrp : (0 : Int) ≤ ((rankL ps : Nat) : Int) := by omega
            go_wp2_with fail
            refine (all_any (n : Int) _ (by omega) (by omega)).mono ?_
            rintro e w' ⟨rfl, rfl⟩
            rw [Int.toNat_natCast]
            have hf1 := fact_pos n
            have hf2 := fact_le16 (n := n) (by omega)
            have hb1' : (((rankL ps : Nat) : Int) != ((fact n : Nat) : Int) - 1) = false := by rw [bne_eq_false_iff_eq, hRl.out]
            have hbel := below_drewN hbel3 k4
            go_wp2_with fail
            refine (rank_yes none 0 0 [] _ rfl (by omega) (by omega) (by decide) RowF.nil_).mono ?_
            rintro e w' ⟨rfl, rfl⟩
            go_wp2_with fail
            refine (self_any (n : Int) _ (by omega)).mono ?_
            rintro e w5 ⟨v5, rfl, hown5, hb5⟩
            rw [Int.toNat_natCast] at hown5
            obtain ⟨A5, n5, c5, rfl, h5, hc5⟩ := OwnF.form hown5
            obtain rfl : n = n5 := by rw [← h5, iota_length]
            have hI5 := OwnI.ints hown5
            have hc5m := OwnF.cap_le hown5
            have hbel5 := hbel.trans (hb5.mono hbel.size)
            have hio : Hid ((iota n).length = n) := Lib.hid (iota_length n)
            clear hown5 h5 hb5 hbel
            go_wp2_with fail
            refine (rank_yes A5 n c5 (iota n) _ hio.out hc5 hc5m (iota_perm hn16) hI5).mono ?_
            rintro e w' ⟨rfl, rfl⟩
            have hz0 : Hid (rankL (iota n) = 0) := Lib.hid (rankL_sorted _ (iota_sorted n))
            rw [hz0.out]
            have hbel := hbel5
            go_wp2_with fail
            refine (of_no q rank _ (.inr (.inr ⟨hq0, hq16, .inr HRk.out⟩))).mono ?_
            rintro e w8 ⟨rfl, hb8⟩
            go_wp2_with fail
            refine (all_any q _ hq0 hq16).mono ?_
            rintro e w' ⟨rfl, rfl⟩
            have hrk := HRk.out
            go_wp2_with fail
            go_ret
            exact ⟨rfl, hbel.trans (hb8.mono hbel.size)⟩
        · have HRk : Hid (rank < ((fact q.toNat : Nat) : Int)) := Lib.hid (by omega)
          have HOP : Hid (IsPerm (unrank q.toNat (iota q.toNat) rank.toNat) ∧ rankL (unrank q.toNat (iota q.toNat) rank.toNat) = rank.toNat) := Lib.hid (by
            have h := rank_unrank q.toNat (iota q.toNat) rank.toNat (iota_length _) (iota_sorted _) (by have := HRk.out; omega)
            exact ⟨(iota_perm (by omega)).of_perm h.1, h.2⟩)
          clear hk
          go_enter Try.func5, Try.ntmps5
          go_wp2_with fail
          refine (alive_any _).mono ?_
          rintro e w1 ⟨rfl, hb1⟩
          have ha1 := ha.on hb1
          go_wp2_with fail
          refine (rank_yes A n c ps _ Hp.out hnc hc63 HP.out ha1).mono ?_
          rintro e w' ⟨rfl, rfl⟩
          go_wp2_with fail
          refine (refRight_any A n c ps _ Hp.out hn ha1).mono ?_
          rintro e w' ⟨rfl, rfl⟩
          rw [decide_eq_true HP.out]
          have hn16 := HN16.out
          have hr16 : rankL ps < 20922789888000 := by
            have h1 := rankL_lt ps
            have h2 := fact_le16 HP.out.1
            omega
          have hrlt : Hid (((rankL ps : Nat) : Int) < ((fact ((n : Int)).toNat : Nat) : Int)) := Lib.hid (by
            rw [Int.toNat_natCast, ← Hp.out]
            exact Int.ofNat_lt.2 (rankL_lt ps))
          go_wp2_with fail
          refine (of_any (n : Int) ((rankL ps : Nat) : Int) _ (by omega) (by omega) (by omega) hrlt.out).mono ?_
          rintro e w2 ⟨v2, rfl, hown2, hb2⟩
          rw [Int.toNat_natCast, Int.toNat_natCast, show unrank n (iota n) (rankL ps) = ps by (rw [← Hp.out]; exact unrank_rank ps _ HP.out.perm_iota (iota_sorted _))] at hown2
          clear hrlt
          obtain ⟨A2, n2, c2, rfl, h2, _⟩ := OwnF.form hown2
          obtain rfl : n = n2 := by rw [← h2, Hp.out]
          have hI2 := OwnI.ints hown2
          have ha2 := ha1.on hb2
          have hbel2 := hb1.trans (hb2.mono hb1.size)
          clear hown2 h2 ha1 hb2
          go_wp2_with fail
          refine (next_any A n c ps _ Hp.out hnc hc63 HP.out ha2).mono ?_
          rintro e w3 (⟨v3, i, m, rfl, hN, hown3, hb3⟩ | ⟨rfl, hD, hb3⟩)
          · have hRn := Lib.hid (next_rank HP.out hN)
            have hPn := Lib.hid (next_perm HP.out hN)
            clear hN
            obtain ⟨A3, n3, c3, rfl, h3, hc3⟩ := OwnF.form hown3
            obtain rfl : n = n3 := by rw [← h3, hPn.out.2, Hp.out]
            have H3 := Lib.hid h3
            have hI3 := OwnI.ints hown3
            have hc3m := OwnF.cap_le hown3
            have hI23 := hI2.on hb3
            have ha3 := ha2.on hb3
            have hbel3 := hbel2.trans (hb3.mono hbel2.size)
            clear hI2 ha2 hbel2 hb3 hown3 h3
            go_wp2_with fail
            refine (same_any A2 A n n c2 c ps ps _ Hp.out Hp.out (by omega) (by omega) hI23 ha3).mono ?_
            rintro e w4 ⟨rfl, k4, rfl⟩
            rw [decide_eq_true rfl]
            have hrp : (0 : Int) ≤ ((rankL ps : Nat) : Int) := by omega
            go_wp2_with fail
            refine (rank_yes A3 n c3 (nextL ps i m) _ H3.out hc3 hc3m hPn.out.1 (hI3.drewN' k4)).mono ?_
            rintro e w' ⟨rfl, rfl⟩
            have hb1' : (((rankL (nextL ps i m) : Nat) : Int) != ((rankL ps : Nat) : Int) + 1) = false := by rw [bne_eq_false_iff_eq, hRn.out]; omega
            have hbel := below_drewN hbel3 k4
            go_wp2_with fail
            refine (self_any (n : Int) _ (by omega)).mono ?_
            rintro e w5 ⟨v5, rfl, hown5, hb5⟩
            rw [Int.toNat_natCast] at hown5
            obtain ⟨A5, n5, c5, rfl, h5, hc5⟩ := OwnF.form hown5
            obtain rfl : n = n5 := by rw [← h5, iota_length]
            have hI5 := OwnI.ints hown5
            have hc5m := OwnF.cap_le hown5
            have hbel5 := hbel.trans (hb5.mono hbel.size)
            have hio : Hid ((iota n).length = n) := Lib.hid (iota_length n)
            clear hown5 h5 hb5 hbel
            go_wp2_with fail
            refine (rank_yes A5 n c5 (iota n) _ hio.out hc5 hc5m (iota_perm hn16) hI5).mono ?_
            rintro e w' ⟨rfl, rfl⟩
            have hz0 : Hid (rankL (iota n) = 0) := Lib.hid (rankL_sorted _ (iota_sorted n))
            rw [hz0.out]
            have hbel := hbel5
            go_wp2_with fail
            refine (of_any q rank _ hq0 hq16 hr0 HRk.out).mono ?_
            rintro e w8 ⟨v8, rfl, hown8, hb8⟩
            obtain ⟨A8, n8, c8, rfl, h8, hc8⟩ := OwnF.form hown8
            obtain rfl : q.toNat = n8 := by rw [← h8, unrank_length]
            have H8 := Lib.hid h8
            have hI8 := OwnI.ints hown8
            have hc8m := OwnF.cap_le hown8
            have hbel8 := hbel.trans (hb8.mono hbel.size)
            clear hown8 h8
            go_wp2_with fail
            refine (all_any q _ hq0 hq16).mono ?_
            rintro e w' ⟨rfl, rfl⟩
            have hrk := HRk.out
            go_wp2_with fail
            refine (rank_yes A8 q.toNat c8 _ _ H8.out hc8 hc8m HOP.out.1 hI8).mono ?_
            rintro e w' ⟨rfl, rfl⟩
            rw [HOP.out.2]
            have hrt : ((rank.toNat : Nat) : Int) = rank := by omega
            have hqt : ((q.toNat : Nat) : Int) = q := by omega
            rw [hrt]
            go_wp2_with fail
            go_ret
            exact ⟨by simp [hqt], hbel8⟩
          · have hRl : Hid (((rankL ps : Nat) : Int) = ((fact n : Nat) : Int) - 1) := Lib.hid (by
              have := rankL_desc ps (desc_of hD)
              rw [Hp.out] at this
              omega)
            clear hD
            have hI23 := hI2.on hb3
            have ha3 := ha2.on hb3
            have hbel3 := hbel2.trans (hb3.mono hbel2.size)
            clear hI2 ha2 hbel2 hb3
            go_wp2_with fail
            refine (same_any A2 A n n c2 c ps ps _ Hp.out Hp.out (by omega) (by omega) hI23 ha3).mono ?_
            rintro e w4 ⟨rfl, k4, rfl⟩
            rw [decide_eq_true rfl]
            have hrp : (0 : Int) ≤ ((rankL ps : Nat) : Int) := by omega
            go_wp2_with fail
            refine (all_any (n : Int) _ (by omega) (by omega)).mono ?_
            rintro e w' ⟨rfl, rfl⟩
            rw [Int.toNat_natCast]
            have hf1 := fact_pos n
            have hf2 := fact_le16 (n := n) (by omega)
            have hb1' : (((rankL ps : Nat) : Int) != ((fact n : Nat) : Int) - 1) = false := by rw [bne_eq_false_iff_eq, hRl.out]
            have hbel := below_drewN hbel3 k4
            go_wp2_with fail
            refine (rank_yes none 0 0 [] _ rfl (by omega) (by omega) (by decide) RowF.nil_).mono ?_
            rintro e w' ⟨rfl, rfl⟩
            go_wp2_with fail
            refine (self_any (n : Int) _ (by omega)).mono ?_
            rintro e w5 ⟨v5, rfl, hown5, hb5⟩
            rw [Int.toNat_natCast] at hown5
            obtain ⟨A5, n5, c5, rfl, h5, hc5⟩ := OwnF.form hown5
            obtain rfl : n = n5 := by rw [← h5, iota_length]
            have hI5 := OwnI.ints hown5
            have hc5m := OwnF.cap_le hown5
            have hbel5 := hbel.trans (hb5.mono hbel.size)
            have hio : Hid ((iota n).length = n) := Lib.hid (iota_length n)
            clear hown5 h5 hb5 hbel
            go_wp2_with fail
            refine (rank_yes A5 n c5 (iota n) _ hio.out hc5 hc5m (iota_perm hn16) hI5).mono ?_
            rintro e w' ⟨rfl, rfl⟩
            have hz0 : Hid (rankL (iota n) = 0) := Lib.hid (rankL_sorted _ (iota_sorted n))
            rw [hz0.out]
            have hbel := hbel5
            go_wp2_with fail
            refine (of_any q rank _ hq0 hq16 hr0 HRk.out).mono ?_
            rintro e w8 ⟨v8, rfl, hown8, hb8⟩
            obtain ⟨A8, n8, c8, rfl, h8, hc8⟩ := OwnF.form hown8
            obtain rfl : q.toNat = n8 := by rw [← h8, unrank_length]
            have H8 := Lib.hid h8
            have hI8 := OwnI.ints hown8
            have hc8m := OwnF.cap_le hown8
            have hbel8 := hbel.trans (hb8.mono hbel.size)
            clear hown8 h8
            go_wp2_with fail
            refine (all_any q _ hq0 hq16).mono ?_
            rintro e w' ⟨rfl, rfl⟩
            have hrk := HRk.out
            go_wp2_with fail
            refine (rank_yes A8 q.toNat c8 _ _ H8.out hc8 hc8m HOP.out.1 hI8).mono ?_
            rintro e w' ⟨rfl, rfl⟩
            rw [HOP.out.2]
            have hrt : ((rank.toNat : Nat) : Int) = rank := by omega
            have hqt : ((q.toNat : Nat) : Int) = q := by omega
            rw [hrt]
            go_wp2_with fail
            go_ret
            exact ⟨by simp [hqt], hbel8⟩

theorem permRanks_walk (A : Option Addr) (n c : Nat) (ps : List Int) (q rank : Int) (w : World) (hp : ps.length = n) (hn : n ≤ maxLen) (hnc : n ≤ c) (hc63 : c ≤ maxLen) (hq0b : -9223372036854775808 ≤ q) (hqb : q ≤ 9223372036854775807) (hr0b : -9223372036854775808 ≤ rank) (hrb : rank ≤ 9223372036854775807) (ha : Ints w w.heap.size A ps) :
    Calls Try.prog 5 #[.slice A n c, .int .i64 q, .int .i64 rank] w fun e w' => e = .returned (.bool true) ∧ Below w.heap.size w w' := by
  unfold maxLen at hn hc63
  by_cases h40 : n ≤ 40
  · by_cases hP : IsPerm ps
    · exact permRanks_yes A n c ps q rank w hp hn hnc hc63 h40 hq0b hqb hr0b hrb ha hP
    · exact permRanks_no A n c ps q rank w hp hn hnc hc63 h40 hq0b hqb hr0b hrb ha hP
  · have Hp := Lib.hid hp
    clear hp
    go_enter Try.func5, Try.ntmps5
    go_wp2_with fail
    refine (alive_any _).mono ?_
    rintro e w1 ⟨rfl, hb1⟩
    go_wp2_with fail
    go_ret
    exact ⟨rfl, hb1⟩
end Go.Proofs.Ytfnhknbofllhcaa
