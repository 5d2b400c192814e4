/- The walk of PermRules. -/
import Derived.Test.YtfnhknbofllhcaaPermRight
namespace Go.Proofs.Ytfnhknbofllhcaa
open Go.RowKit
set_option linter.unusedSimpArgs false
set_option linter.unusedVariables false

theorem thenL_perm {p q : List Int} (hp : IsPerm p) (hq : IsPerm q) (hl : p.length = q.length) : IsPerm (thenL p q) := by
  refine ⟨by rw [thenL_length]; exact hp.1, ?_, fun z hz => ?_⟩
  · rw [List.nodup_iff_pairwise_ne, List.pairwise_iff_getElem]
    intro i j hi hj hij e
    rw [thenL_length] at hi hj
    have e1 := thenL_get p q i hi
    have e2 := thenL_get p q j hj
    rw [List.getElem?_eq_getElem (by rw [thenL_length]; exact hi)] at e1
    rw [List.getElem?_eq_getElem (by rw [thenL_length]; exact hj)] at e2
    have g1 := hp.get hi
    have g2 := hp.get hj
    have e3 : q[(p[i]?.getD 0).toNat]?.getD 0 = q[(p[j]?.getD 0).toNat]?.getD 0 := by rw [← e1, ← e2]; simpa using e
    have e4 := hq.inj (by omega) (by omega) e3
    have e5 := hp.inj hi hj (by omega)
    omega
  · obtain ⟨k, hk, rfl⟩ := mem_getD hz
    rw [thenL_length] at hk
    rw [thenL_get p q k hk, thenL_length, hl]
    have g := hp.get hk
    exact hq.get (by omega)
theorem thenL_inv {p L : List Int} (hp : IsPerm p) (h : InvOf p L) : thenL p L = iota p.length := list_eq_of (by rw [thenL_length, iota_length]) (fun j hj => by
  rw [thenL_length] at hj
  rw [thenL_get p L j hj, iota_get hj, h.2 j hj])
theorem thenL_iota {q : List Int} : thenL (iota q.length) q = q := list_eq_of (by rw [thenL_length, iota_length]) (fun j hj => by
  rw [thenL_length, iota_length] at hj
  rw [thenL_get _ _ _ (by rw [iota_length]; exact hj), iota_get hj, Int.toNat_natCast])
theorem thenL_assoc {p q r : List Int} (hp : IsPerm p) (hl : p.length = q.length) : thenL (thenL p q) r = thenL p (thenL q r) := list_eq_of (by simp [thenL_length]) (fun j hj => by
  rw [thenL_length, thenL_length] at hj
  have g := hp.get hj
  rw [thenL_get _ _ _ (by rw [thenL_length]; exact hj), thenL_get _ _ _ hj, thenL_get _ _ _ hj, thenL_get _ _ _ (by omega)])
theorem thenL_swap {p q : List Int} {k : Nat} (hk : k + 1 < p.length) : thenL (swapL p k) q = swapL (thenL p q) k := by
  unfold swapL
  rw [thenL_get p q k (by omega), thenL_get p q (k + 1) hk]
  unfold thenL
  rw [List.map_set, List.map_set]
theorem thenL_parity {q : List Int} (hq : IsPerm q) : ∀ (m : Nat) (p : List Int), inv p ≤ m → IsPerm p → p.length = q.length → inv (thenL p q) % 2 = (inv p + inv q) % 2 := by
  intro m
  induction m with
  | zero =>
    intro p hm hp hl
    have : p = iota p.length := iota_of_sorted p hp (sorted_of_inv p (by omega))
    rw [this, hl, thenL_iota, inv_iota, Nat.zero_add]
  | succ m ih =>
    intro p hm hp hl
    by_cases he : p = iota p.length
    · rw [he, hl, thenL_iota, inv_iota, Nat.zero_add]
    · obtain ⟨k, hk, hd⟩ := descent p hp he
      have h1 := inv_swap_down p k hk hd
      have h2 := ih (swapL p k) (by omega) (hp.swap hk) (by rw [swapL_length]; exact hl)
      rw [thenL_swap hk] at h2
      have h3 := inv_swap_flip (thenL_perm hp hq hl).2.1 (k := k) (by rw [thenL_length]; exact hk)
      omega
theorem odd_then {p q : List Int} (hp : IsPerm p) (hq : IsPerm q) (hl : p.length = q.length) : (decide (inv (thenL p q) % 2 = 1) == (decide (inv p % 2 = 1) != decide (inv q % 2 = 1))) = true := by
  have := thenL_parity hq _ p (Nat.le_refl _) hp hl
  rcases Nat.mod_two_eq_zero_or_one (inv p) with h1 | h1 <;> rcases Nat.mod_two_eq_zero_or_one (inv q) with h2 | h2 <;> rcases Nat.mod_two_eq_zero_or_one (inv (thenL p q)) with h3 | h3 <;> simp [h1, h2, h3] <;> omega

set_option maxHeartbeats 8000000 in
theorem permRules_yes (A B C : Option Addr) (n c d f : Nat) (ps qs rs : List Int) (w : World) (hp : ps.length = n) (hq : qs.length = n) (hr : rs.length = n) (hP : IsPerm ps) (hQ : IsPerm qs) (hR : IsPerm rs) (ha : Ints w w.heap.size A ps) (hb : Ints w w.heap.size B qs) (hc : Ints w w.heap.size C rs) :
    Calls Try.prog 8 #[.slice A n c, .slice B n d, .slice C n f] w fun e w' => e = .returned (.bool true) ∧ Below w.heap.size w w' := by
  have hn16 : n ≤ 16 := by rw [← hp]; exact hP.1
  have Hp := Lib.hid hp
  have Hq := Lib.hid hq
  have Hr := Lib.hid hr
  have HP := Lib.hid hP
  have HQ := Lib.hid hQ
  have HR := Lib.hid hR
  have HPQ := Lib.hid (thenL_perm hP hQ (by rw [hp, hq]))
  have HQR := Lib.hid (thenL_perm hQ hR (by rw [hq, hr]))
  have Hpq : Hid ((thenL ps qs).length = n) := Lib.hid (by rw [thenL_length, hp])
  have Hqr : Hid ((thenL qs rs).length = n) := Lib.hid (by rw [thenL_length, hq])
  have HAs := Lib.hid (thenL_assoc (r := rs) hP (by rw [hp, hq] : ps.length = qs.length))
  have HOd := Lib.hid (odd_then hP hQ (by rw [hp, hq]))
  have hnn : ((n : Int) != (n : Int)) = false := by rw [bne_eq_false_iff_eq]
  clear hp hq hr hP hQ hR
  go_enter Try.func8, Try.ntmps8
  go_wp2_with fail
  refine (alive_any _).mono ?_
  rintro e w1 ⟨rfl, hb1⟩
  have ha1 := ha.on hb1
  have hbq1 := hb.on hb1
  have hc1 := hc.on hb1
  go_wp2_with fail
  refine (refRight_any A n c ps _ Hp.out (by omega) ha1).mono ?_
  rintro e w' ⟨rfl, rfl⟩
  rw [decide_eq_true HP.out]
  go_wp2_with fail
  refine (refRight_any B n d qs _ Hq.out (by omega) hbq1).mono ?_
  rintro e w' ⟨rfl, rfl⟩
  rw [decide_eq_true HQ.out]
  go_wp2_with fail
  refine (refRight_any C n f rs _ Hr.out (by omega) hc1).mono ?_
  rintro e w' ⟨rfl, rfl⟩
  rw [decide_eq_true HR.out]
  go_wp2_with fail
  refine (inverse_yes A n c ps _ Hp.out HP.out ha1).mono ?_
  rintro e w2 ⟨L, rfl, hownL, hinv, hb2⟩
  have HV := Lib.hid hinv
  have HTI := Lib.hid (thenL_inv HP.out hinv)
  clear hinv
  have HLP : Hid (IsPerm L) := Lib.hid (by
    have h1 := HTI.out
    refine ⟨by rw [HV.out.1, Hp.out]; exact hn16, ?_, fun z hz => ?_⟩
    · rw [List.nodup_iff_pairwise_ne, List.pairwise_iff_getElem]
      intro i j hi hj hij e
      rw [HV.out.1] at hi hj
      obtain ⟨a, ha, hae⟩ := mem_getD (HP.out.mem (j := (i : Int)) (by omega) (by omega))
      obtain ⟨b, hb, hbe⟩ := mem_getD (HP.out.mem (j := (j : Int)) (by omega) (by omega))
      have e1 := HV.out.2 a ha
      have e2 := HV.out.2 b hb
      rw [hae, Int.toNat_natCast, List.getElem?_eq_getElem (by rw [HV.out.1]; exact hi)] at e1
      rw [hbe, Int.toNat_natCast, List.getElem?_eq_getElem (by rw [HV.out.1]; exact hj)] at e2
      have e3 : (a : Int) = (b : Int) := by rw [← e1, ← e2]; simpa using e
      have : a = b := by omega
      subst this
      rw [hae] at hbe
      omega
    · obtain ⟨k, hk, rfl⟩ := mem_getD hz
      rw [HV.out.1] at hk ⊢
      obtain ⟨a, ha, hae⟩ := mem_getD (HP.out.mem (j := (k : Int)) (by omega) (by omega))
      have e1 := HV.out.2 a ha
      rw [hae, Int.toNat_natCast] at e1
      rw [e1]; omega)
  have HLl : Hid (L.length = n) := Lib.hid (by rw [HV.out.1, Hp.out])
  have ha2 := ha1.on hb2
  have hbq2 := hbq1.on hb2
  have hc2 := hc1.on hb2
  have hl2 := OwnI.ints hownL
  have hbel2 := hb1.trans (hb2.mono hb1.size)
  clear ha hb hc ha1 hbq1 hc1 hownL hb1 hb2
  go_wp2_with fail
  refine (then_yes A _ n c n ps L _ Hp.out HLl.out HP.out HLP.out ha2 hl2).mono ?_
  rintro e w3 ⟨v3, rfl, hown3, hb3⟩
  obtain ⟨A3, n3, c3, rfl, h3, _⟩ := OwnF.form hown3
  obtain rfl : n = n3 := by rw [← h3, thenL_length, Hp.out]
  have hs3 := OwnI.ints hown3
  rw [HTI.out] at hs3
  have ha3 := ha2.on hb3
  have hbq3 := hbq2.on hb3
  have hc3 := hc2.on hb3
  have hbel3 := hbel2.trans (hb3.mono hbel2.size)
  clear ha2 hbq2 hc2 hl2 hbel2 hb3 hown3 h3
  go_wp2_with fail
  refine (then_yes A B n c d ps qs _ Hp.out Hq.out HP.out HQ.out ha3 hbq3).mono ?_
  rintro e w4 ⟨v4, rfl, hown4, hb4⟩
  obtain ⟨A4, n4, c4, rfl, h4, _⟩ := OwnF.form hown4
  obtain rfl : n = n4 := by rw [← h4, thenL_length, Hp.out]
  have hpq4 := OwnI.ints hown4
  have ha4 := ha3.on hb4
  have hbq4 := hbq3.on hb4
  have hc4 := hc3.on hb4
  have hs4 := hs3.on hb4
  have hbel4 := hbel3.trans (hb4.mono hbel3.size)
  clear ha3 hbq3 hc3 hs3 hbel3 hb4 hown4 h4
  go_wp2_with fail
  refine (then_yes A4 C n c4 f (thenL ps qs) rs _ Hpq.out Hr.out HPQ.out HR.out hpq4 hc4).mono ?_
  rintro e w5 ⟨v5, rfl, hown5, hb5⟩
  obtain ⟨A5, n5, c5, rfl, h5, _⟩ := OwnF.form hown5
  obtain rfl : n = n5 := by rw [← h5, thenL_length, Hpq.out]
  have H5 := Lib.hid h5
  have hx5 := OwnI.ints hown5
  have ha5 := ha4.on hb5
  have hbq5 := hbq4.on hb5
  have hc5 := hc4.on hb5
  have hs5 := hs4.on hb5
  have hpq5 := hpq4.on hb5
  have hbel5 := hbel4.trans (hb5.mono hbel4.size)
  clear ha4 hbq4 hc4 hs4 hpq4 hbel4 hb5 hown5 h5
  go_wp2_with fail
  refine (then_yes B C n d f qs rs _ Hq.out Hr.out HQ.out HR.out hbq5 hc5).mono ?_
  rintro e w6 ⟨v6, rfl, hown6, hb6⟩
  obtain ⟨A6, n6, c6, rfl, h6, _⟩ := OwnF.form hown6
  obtain rfl : n = n6 := by rw [← h6, thenL_length, Hq.out]
  have hqr6 := OwnI.ints hown6
  have ha6 := ha5.on hb6
  have hbq6 := hbq5.on hb6
  have hs6 := hs5.on hb6
  have hpq6 := hpq5.on hb6
  have hx6 := hx5.on hb6
  have hbel6 := hbel5.trans (hb6.mono hbel5.size)
  clear ha5 hbq5 hc5 hs5 hpq5 hx5 hbel5 hb6 hown6 h6
  go_wp2_with fail
  refine (then_yes A A6 n c c6 ps (thenL qs rs) _ Hp.out Hqr.out HP.out HQR.out ha6 hqr6).mono ?_
  rintro e w7 ⟨v7, rfl, hown7, hb7⟩
  obtain ⟨A7, n7, c7, rfl, h7, _⟩ := OwnF.form hown7
  obtain rfl : n = n7 := by rw [← h7, thenL_length, Hp.out]
  have H7 := Lib.hid h7
  have hy7 := OwnI.ints hown7
  have ha7 := ha6.on hb7
  have hbq7 := hbq6.on hb7
  have hs7 := hs6.on hb7
  have hpq7 := hpq6.on hb7
  have hx7 := hx6.on hb7
  have hbel7 := hbel6.trans (hb7.mono hbel6.size)
  clear ha6 hbq6 hs6 hpq6 hx6 hbel6 hb7 hown7 h7 hqr6
  go_wp2_with fail
  refine (self_any (n : Int) _ (by omega)).mono ?_
  rintro e w8 ⟨v8, rfl, hown8, hb8⟩
  rw [Int.toNat_natCast] at hown8
  obtain ⟨A8, n8, c8, rfl, h8, _⟩ := OwnF.form hown8
  obtain rfl : n = n8 := by rw [← h8, iota_length]
  have hi8 := OwnI.ints hown8
  have ha8 := ha7.on hb8
  have hbq8 := hbq7.on hb8
  have hs8 := hs7.on hb8
  have hpq8 := hpq7.on hb8
  have hx8 := hx7.on hb8
  have hy8 := hy7.on hb8
  have hbel8 := hbel7.trans (hb8.mono hbel7.size)
  have Hio : Hid ((iota n).length = n) := Lib.hid (iota_length n)
  have Hio2 : Hid ((iota ps.length).length = n) := Lib.hid (by rw [iota_length, Hp.out])
  have Hio3 : Hid (iota ps.length = iota n) := Lib.hid (by rw [Hp.out])
  clear ha7 hbq7 hs7 hpq7 hx7 hy7 hbel7 hb8 hown8 h8
  go_wp2_with fail
  refine (same_any A3 A8 n n c3 c8 _ _ _ Hio2.out Hio.out (by omega) (by omega) hs8 hi8).mono ?_
  rintro e w9 ⟨rfl, k9, rfl⟩
  rw [decide_eq_true Hio3.out]
  go_wp2_with fail
  refine (same_any A5 A7 n n c5 c7 _ _ _ H5.out H7.out (by omega) (by omega) (hx8.drewN' k9) (hy8.drewN' k9)).mono ?_
  rintro e w10 ⟨rfl, k10, rfl⟩
  rw [decide_eq_true HAs.out]
  go_wp2_with fail
  refine (odd_yes A4 n c4 _ _ Hpq.out HPQ.out (hpq8.drewN' (k9 + k10))).mono ?_
  rintro e w11 ⟨rfl, hb11⟩
  have ha11 := (ha8.drewN' (k9 + k10)).on hb11
  have hbq11 := (hbq8.drewN' (k9 + k10)).on hb11
  have hbel11 : Below w.heap.size w w11 := (below_drewN hbel8 (k9 + k10)).trans (hb11.mono hbel8.size)
  generalize hO1 : decide (inv (thenL ps qs) % 2 = 1) = o1 at *
  go_wp2_with fail
  refine (odd_yes A n c _ _ Hp.out HP.out ha11).mono ?_
  rintro e w12 ⟨rfl, hb12⟩
  have hbq12 := hbq11.on hb12
  have hbel12 := hbel11.trans (hb12.mono hbel11.size)
  generalize hO2 : decide (inv ps % 2 = 1) = o2 at *
  go_wp2_with fail
  refine (odd_yes B n d _ _ Hq.out HQ.out hbq12).mono ?_
  rintro e w13 ⟨rfl, hb13⟩
  have hbel13 := hbel12.trans (hb13.mono hbel12.size)
  generalize hO3 : decide (inv qs % 2 = 1) = o3 at *
  clear hO1 hO2 hO3
  go_wp2_with fail
  go_ret
  refine ⟨?_, hbel13⟩
  have := HOd.out
  revert this
  cases o1 <;> cases o2 <;> cases o3 <;> simp

set_option maxHeartbeats 4000000 in
theorem permRules_no (A B C : Option Addr) (n m k c d f : Nat) (ps qs rs : List Int) (w : World) (hp : ps.length = n) (hq : qs.length = m) (hr : rs.length = k) (hn : n ≤ maxLen) (hm : m ≤ maxLen) (hk : k ≤ maxLen) (ha : Ints w w.heap.size A ps) (hb : Ints w w.heap.size B qs) (hc : Ints w w.heap.size C rs) (hno : ¬ (IsPerm ps ∧ IsPerm qs ∧ IsPerm rs ∧ n = m ∧ m = k)) :
    Calls Try.prog 8 #[.slice A n c, .slice B m d, .slice C k f] w fun e w' => e = .returned (.bool true) ∧ Below w.heap.size w w' := by
  unfold maxLen at hn hm hk
  have Hp := Lib.hid hp
  have Hq := Lib.hid hq
  have Hr := Lib.hid hr
  clear hp hq hr
  by_cases hP : IsPerm ps
  · have HP := Lib.hid (decide_eq_true hP)
    by_cases hQ : IsPerm qs
    · have HQ := Lib.hid (decide_eq_true hQ)
      by_cases hR : IsPerm rs
      · have HR := Lib.hid (decide_eq_true hR)
        by_cases hE : n = m
        · have hne : ¬ m = k := fun h => hno ⟨hP, hQ, hR, hE, h⟩
          have h1 : ((n : Int) != (m : Int)) = false := by rw [bne_eq_false_iff_eq]; omega
          have h2 : ((m : Int) != (k : Int)) = true := by rw [bne_iff_ne]; omega
          clear hP hQ hR hE hno
          go_enter Try.func8, Try.ntmps8
          go_wp2_with fail
          refine (alive_any _).mono ?_
          rintro e w1 ⟨rfl, hb1⟩
          go_wp2_with fail
          refine (refRight_any A n c ps _ Hp.out (by omega) (ha.on hb1)).mono ?_
          rintro e w' ⟨rfl, rfl⟩
          rw [HP.out]
          go_wp2_with fail
          refine (refRight_any B m d qs _ Hq.out (by omega) (hb.on hb1)).mono ?_
          rintro e w' ⟨rfl, rfl⟩
          rw [HQ.out]
          go_wp2_with fail
          refine (refRight_any C k f rs _ Hr.out (by omega) (hc.on hb1)).mono ?_
          rintro e w' ⟨rfl, rfl⟩
          rw [HR.out]
          go_wp2_with fail
          go_ret
          exact ⟨rfl, hb1⟩
        · have h1 : ((n : Int) != (m : Int)) = true := by rw [bne_iff_ne]; omega
          clear hP hQ hR hE hno
          go_enter Try.func8, Try.ntmps8
          go_wp2_with fail
          refine (alive_any _).mono ?_
          rintro e w1 ⟨rfl, hb1⟩
          go_wp2_with fail
          refine (refRight_any A n c ps _ Hp.out (by omega) (ha.on hb1)).mono ?_
          rintro e w' ⟨rfl, rfl⟩
          rw [HP.out]
          go_wp2_with fail
          refine (refRight_any B m d qs _ Hq.out (by omega) (hb.on hb1)).mono ?_
          rintro e w' ⟨rfl, rfl⟩
          rw [HQ.out]
          go_wp2_with fail
          refine (refRight_any C k f rs _ Hr.out (by omega) (hc.on hb1)).mono ?_
          rintro e w' ⟨rfl, rfl⟩
          rw [HR.out]
          go_wp2_with fail
          go_ret
          exact ⟨rfl, hb1⟩
      · have HR := Lib.hid (decide_eq_false hR)
        clear hP hQ hR hno
        go_enter Try.func8, Try.ntmps8
        go_wp2_with fail
        refine (alive_any _).mono ?_
        rintro e w1 ⟨rfl, hb1⟩
        go_wp2_with fail
        refine (refRight_any A n c ps _ Hp.out (by omega) (ha.on hb1)).mono ?_
        rintro e w' ⟨rfl, rfl⟩
        rw [HP.out]
        go_wp2_with fail
        refine (refRight_any B m d qs _ Hq.out (by omega) (hb.on hb1)).mono ?_
        rintro e w' ⟨rfl, rfl⟩
        rw [HQ.out]
        go_wp2_with fail
        refine (refRight_any C k f rs _ Hr.out (by omega) (hc.on hb1)).mono ?_
        rintro e w' ⟨rfl, rfl⟩
        rw [HR.out]
        go_wp2_with fail
        go_ret
        exact ⟨rfl, hb1⟩
    · have HQ := Lib.hid (decide_eq_false hQ)
      clear hP hQ hno
      go_enter Try.func8, Try.ntmps8
      go_wp2_with fail
      refine (alive_any _).mono ?_
      rintro e w1 ⟨rfl, hb1⟩
      go_wp2_with fail
      refine (refRight_any A n c ps _ Hp.out (by omega) (ha.on hb1)).mono ?_
      rintro e w' ⟨rfl, rfl⟩
      rw [HP.out]
      go_wp2_with fail
      refine (refRight_any B m d qs _ Hq.out (by omega) (hb.on hb1)).mono ?_
      rintro e w' ⟨rfl, rfl⟩
      rw [HQ.out]
      go_wp2_with fail
      go_ret
      exact ⟨rfl, hb1⟩
  · have HP := Lib.hid (decide_eq_false hP)
    clear hP hno
    go_enter Try.func8, Try.ntmps8
    go_wp2_with fail
    refine (alive_any _).mono ?_
    rintro e w1 ⟨rfl, hb1⟩
    go_wp2_with fail
    refine (refRight_any A n c ps _ Hp.out (by omega) (ha.on hb1)).mono ?_
    rintro e w' ⟨rfl, rfl⟩
    rw [HP.out]
    go_wp2_with fail
    go_ret
    exact ⟨rfl, hb1⟩

theorem permRules_walk (A B C : Option Addr) (n m k c d f : Nat) (ps qs rs : List Int) (w : World) (hp : ps.length = n) (hq : qs.length = m) (hr : rs.length = k) (hn : n ≤ maxLen) (hm : m ≤ maxLen) (hk : k ≤ maxLen) (ha : Ints w w.heap.size A ps) (hb : Ints w w.heap.size B qs) (hc : Ints w w.heap.size C rs) :
    Calls Try.prog 8 #[.slice A n c, .slice B m d, .slice C k f] w fun e w' => e = .returned (.bool true) ∧ Below w.heap.size w w' := by
  by_cases h : IsPerm ps ∧ IsPerm qs ∧ IsPerm rs ∧ n = m ∧ m = k
  · obtain ⟨hP, hQ, hR, rfl, rfl⟩ := h
    exact permRules_yes A B C n c d f ps qs rs w hp hq hr hP hQ hR ha hb hc
  · exact permRules_no A B C n m k c d f ps qs rs w hp hq hr hn hm hk ha hb hc h
end Go.Proofs.Ytfnhknbofllhcaa
