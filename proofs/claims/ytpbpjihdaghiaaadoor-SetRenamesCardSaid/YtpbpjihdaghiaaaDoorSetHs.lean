/- Contracts: the document's Same (tables), Support, Members; set.Support. -/
import Derived.Test.YtpbpjihdaghiaaaDoorMi
import Derived.Test.YtpbpjihdaghiaaaDoorMh
namespace Go.Proofs.YtpbpjihdaghiaaaDoor
open Go.RowKit Go.Sort
set_option linter.unusedSimpArgs false
set_option linter.unusedVariables false

set_option maxRecDepth 100000 in
set_option maxHeartbeats 8000000 in
theorem rsamet_any (A A2 : Option Addr) (len c c2 : Nat) (t t2 : List Bool) (w : World) (h : TabArg w A len c t) (h2 : TabArg w A2 len c2 t2) :
    Calls Tryd.prog 60 #[.slice A len c, .slice A2 len c2] w fun e w' => e = .returned (.bool (decide (t = t2))) ∧ Below w.heap.size w w' := by
  obtain ⟨q, hqd⟩ : ∃ q, decide (t = t2) = q := ⟨_, rfl⟩
  rw [hqd]
  have HQ := Lib.hid hqd
  clear hqd
  have hm := h.hmax
  have HR := Lib.hid h
  have HR2 := Lib.hid h2
  have HL := Lib.hid h.hlen
  have HL2 := Lib.hid h2.hlen
  clear h h2
  go_enter Tryd.func60, Tryd.ntmps60
  go_wp2_with fail
  go_loopw [5] (fun i wr => ∃ k : Nat, k ≤ len ∧ i = .int .i64 k ∧ (∀ j, j < k → tat t j = tat t2 j) ∧ Below w.heap.size w wr) (fun i _ => len - (intOf i).toNat)
  case atStart => exact ⟨0, Nat.zero_le _, rfl, fun j hj => by omega, Below.refl _ _⟩
  case round =>
    obtain ⟨k, hk, rfl, heq, hb⟩ := hrel
    have HE := Lib.hid heq
    have HB := Lib.hid hb
    clear heq hb
    by_cases hlt : k < len
    · obtain ⟨b, off, rfl, hb1, hc1⟩ := HR.out.val (by omega)
      obtain ⟨b2, off2, rfl, hb2, hc2⟩ := HR2.out.val (by omega)
      have k1 := hc1 wr k HB.out hlt
      have k2 := hc2 wr k HB.out hlt
      have hk0 : (0 : Int) ≤ (k : Int) := by omega
      have hk1 : (k : Int) < (len : Int) := by omega
      clear hc1 hc2
      by_cases hv : tat t k = tat t2 k
      · rw [← hv] at k2
        have HV := Lib.hid hv
        clear hv
        generalize hxx : tat t k = x at *
        have HX := Lib.hid hxx
        clear hxx
        have hq : (x != x) = false := by simp
        go_wp2_with fail
        go_quiet (fail)
        go_wp2_with fail
        go_roundw
        case rel => exact ⟨k + 1, by omega, by go_num, fun j hj => by
          by_cases hjk : j = k
          · rw [hjk, HX.out]; exact HV.out
          · exact HE.out j (by omega), below_drewN HB.out _⟩
        case measure => simp [intOf]; omega
      · skip
        have HD : Hid (decide (t = t2) = false) := Lib.hid (decide_eq_false (fun e => hv (by rw [e])))
        generalize tat t k = x at *
        generalize tat t2 k = y at *
        obtain rfl : y = !x := by cases x <;> cases y <;> simp_all
        clear hv
        cases x
        all_goals
          simp only [Bool.not_true, Bool.not_false] at k2
          go_wp2_with fail
          go_quiet (fail)
          go_wp2_with fail
          go_ret
          exact ⟨ret_bool (HD.out.symm.trans HQ.out), below_drewN HB.out _⟩
    · obtain rfl : k = len := by omega
      have HD : Hid (decide (t = t2) = true) := Lib.hid (decide_eq_true (tab_ext (by rw [HL.out, HL2.out]) (fun j hj => HE.out j (by rw [HL.out] at hj; exact hj))))
      go_wp2_with fail
      go_ret
      exact ⟨ret_bool (HD.out.symm.trans HQ.out), HB.out⟩
/-- the variables that count -/
def supF (t : List Bool) (v : Nat) : Bool := !decide (withT t v 0 = withT t v 1)
def supN (t : List Bool) (n : Nat) : Nat := ofBits (supF t) n
theorem supN_lt (t : List Bool) (n : Nat) : supN t n < 2 ^ n := ofBits_lt _ n
set_option maxRecDepth 100000 in
set_option maxHeartbeats 8000000 in
theorem rsupport_any (n : Nat) (hn : n ≤ 16) (A : Option Addr) (c : Nat) (t : List Bool) (w : World) (h : TabArg w A (2 ^ n) c t) :
    Calls Tryd.prog 31 #[.slice A (2 ^ n : Nat) c] w fun e w' => e = .returned (.int .i64 (supN t n : Nat)) ∧ Below w.heap.size w w' := by
  have HA := Lib.hid h
  have HT : Hid (t.length = 2 ^ n) := Lib.hid h.hlen
  have HVR := Lib.hid (fun W A c => rvars_any n hn A c W)
  have HSZ := Lib.hid (fun W v (hv : v ≤ 16) => size_any v hv W)
  have HWI := Lib.hid (fun W v b (hv : v < n) (hb : b ≤ 1) (h : TabArg W A (2 ^ n) c t) => rwith_tab n v b hn hv hb A c t W h)
  have HSM := Lib.hid (fun W B B2 c c2 t1 t2 (h : TabArg W B (2 ^ n) c t1) (h2 : TabArg W B2 (2 ^ n) c2 t2) => rsamet_any B B2 (2 ^ n) c c2 t1 t2 W h h2)
  have HS1 : Hid (∀ k, supF t k = true → supN t (k + 1) = supN t k + 2 ^ k) := Lib.hid (fun k hk => by unfold supN; rw [ofBits, if_pos hk])
  have HS0 : Hid (∀ k, supF t k = false → supN t (k + 1) = supN t k) := Lib.hid (fun k hk => by unfold supN; rw [ofBits, hk]; simp)
  have HD : Hid (∀ k, decide (withT t k 0 = withT t k 1) = !supF t k) := Lib.hid (fun k => by unfold supF; rw [Bool.not_not])
  have HLE : Hid (∀ k, k ≤ n → supN t k < 65537) := Lib.hid (fun k hk => Nat.lt_of_lt_of_le (supN_lt t k) (Nat.le_trans (pow16 (Nat.le_trans hk hn)) (by omega)))
  have HP : Hid (∀ k, k ≤ n → 2 ^ k ≤ 65536) := Lib.hid (fun k hk => pow16 (Nat.le_trans hk hn))
  generalize 2 ^ n = N at *
  clear h
  go_enter Tryd.func31, Tryd.ntmps31
  go_wp2_with fail
  go_loopw [3, 4] (fun v i wr => ∃ k : Nat, k ≤ n ∧ i = .int .i64 k ∧ v = .int .i64 (supN t k : Nat) ∧ Below w.heap.size w wr) (fun _ i _ => n - (intOf i).toNat)
  case atStart => exact ⟨0, Nat.zero_le _, rfl, rfl, Below.refl _ _⟩
  case round =>
    obtain ⟨k, hk, rfl, rfl, hb⟩ := hrel
    have HB := Lib.hid hb
    clear hb
    have hle := HLE.out k hk
    by_cases hlt : k < n
    · have hpk := HP.out k hk
      have hd := HD.out k
      have hs1 := HS1.out k
      have hs0 := HS0.out k
      have HS := Lib.hid (And.intro hs0 hs1)
      have HSK := Lib.hid (fun W => HSZ.out W k (by omega))
      clear hs0 hs1
      generalize hss : supN t k = s at *
      clear hss
      generalize supF t k = b at *
      generalize 2 ^ k = P at *
      have HDD := Lib.hid hd
      clear hd
      go_wp2_with fail
      refine (HVR.out _ _ _).mono ?_
      rintro e w' ⟨rfl, rfl⟩
      go_wp2_with fail
      refine (HWI.out _ k 0 hlt (by omega) (HA.out.on HB.out)).mono ?_
      rintro e wa ⟨B1, d1, rfl, hta, hba⟩
      have HB1 := Lib.hid (HB.out.trans (hba.mono HB.out.size))
      have TA := Lib.hid hta
      clear hta hba
      go_wp2_with fail
      refine (HWI.out _ k 1 hlt (by omega) (HA.out.on HB1.out)).mono ?_
      rintro e wb ⟨B2, d2, rfl, htb, hbb⟩
      have HB2 := Lib.hid (HB1.out.trans (hbb.mono HB1.out.size))
      have TA2 := Lib.hid (TA.out.on hbb)
      have TB := Lib.hid htb
      clear htb hbb
      go_wp2_with fail
      refine (HSM.out _ _ _ _ _ _ _ TA2.out TB.out).mono ?_
      rintro e wc ⟨rfl, hbc⟩
      have HB3 := Lib.hid (HB2.out.trans (hbc.mono HB2.out.size))
      clear hbc
      rw [HDD.out]
      cases b
      · go_wp2_with fail
        go_roundw
        case rel => exact ⟨k + 1, by omega, by go_num, by rw [HS.out.1 (by first | rfl | trivial)], HB3.out⟩
        case measure => simp [intOf]; omega
      · go_wp2_with fail
        refine (HSK.out _).mono ?_
        rintro e w' ⟨rfl, rfl⟩
        go_wp2_with fail
        go_roundw
        case rel => exact ⟨k + 1, by omega, by go_num, by rw [HS.out.2 (by first | rfl | trivial)]; go_num, HB3.out⟩
        case measure => simp [intOf]; omega
    · obtain rfl : k = n := by omega
      generalize hss : supN t k = s at *
      have HSS := Lib.hid hss
      clear hss
      go_wp2_with fail
      refine (HVR.out _ _ _).mono ?_
      rintro e w' ⟨rfl, rfl⟩
      go_wp2_with fail
      go_ret
      exact ⟨ret_int (by rw [HSS.out]), HB.out⟩
theorem u16_in (x : Nat) (h : x < 65536) : IntKind.u16.wrap (x : Int) = (x : Int) := by rw [IntKind.wrap_u16]; omega
theorem pack_inj {n : Nat} {a b : List Bool} (ha : a.length = 2 ^ n) (hb : b.length = 2 ^ n) : packT a = packT b ↔ a = b :=
  ⟨fun e => by rw [← tab_pack ha, ← tab_pack hb, e], fun e => by rw [e]⟩
def suppI (m : Int) (ws : List Nat) : Nat := if srightB m ws then supN (tabS m.toNat ws) m.toNat else 0
set_option maxRecDepth 100000 in
set_option maxHeartbeats 8000000 in
theorem ssupport_any (m : Int) (A : Option Addr) (len c : Nat) (ws : List Nat) (w : World) (h : SetArg w m A len c ws) :
    Calls Tryd.prog 28 #[setA m A len c] w fun e w' => e = .returned (.int .u16 (suppI m ws : Nat)) ∧ Below w.heap.size w w' := by
  have HR := Lib.hid (fun W' (h : SetArg W' m A len c ws) => sright_any m A len c ws W' h)
  have hq : suppI m ws = if srightB m ws then supN (tabS m.toNat ws) m.toNat else 0 := rfl
  generalize suppI m ws = q at *
  cases hr : srightB m ws
  · rw [hr, if_neg (by simp)] at hq
    subst hq
    rw [hr] at HR
    clear hr
    unfold setA at *
    obtain ⟨W0, hW0⟩ : ∃ W0, W0 = (w.alloc (.cells #[.int .i64 m, .slice A len c] 24)) := ⟨_, rfl⟩
    have hb0 : Below w.heap.size w W0 := by rw [hW0]; exact ((Below.refl _ _).alloc (by simp) (.cells #[.int .i64 m, .slice A len c] 24))
    have hv0 : SetVar W0 (w.heap.size) m A len c ws := by
      have := SetVar.new h
      rw [hW0]; exact this
    have HWW := Lib.hid hW0
    have HB := Lib.hid hb0
    have Va := Lib.hid hv0
    clear hb0 hv0 h 
    go_enter Tryd.func28, Tryd.ntmps28
    go_wp2_with fail
    rw [← HWW.out]
    clear hW0
    have kVa0 := Va.out.c0
    have kVa1 := Va.out.c1
    go_wp2_with fail
    refine (HR.out _ Va.out.arg).mono ?_
    rintro e x1 ⟨rfl, hb1⟩
    clear kVa0 kVa1
    have Va' := Lib.hid (Va.out.on hb1)
    clear Va
    have Va := Va'
    clear Va'
    have HB' := Lib.hid (HB.out.trans (hb1.mono HB.out.size))
    clear HB
    have HB := HB'
    clear HB'
    clear hb1
    go_wp2_with fail
    go_ret
    exact ⟨rfl, HB.out⟩
  · rw [hr, if_pos rfl] at hq
    rw [hr] at HR
    obtain ⟨n, rfl, ok⟩ := sright_nat h.lt hr
    rw [Int.toNat_natCast] at hq
    have hn := ok.n16
    have hp := ok.pack_tab
    have ht := tabS_length n ws
    generalize tabS n ws = t at *
    subst hp
    have HX0 := Lib.hid (fun W v (hv : v < n) (h : SetArg W n A len c (packT t)) => swith_tab n v hn hv false A len c t ht W h)
    have HX1 := Lib.hid (fun W v (hv : v < n) (h : SetArg W n A len c (packT t)) => swith_tab n v hn hv true A len c t ht W h)
    have HSM := Lib.hid (fun W A1 A0 l1 l0 d1 d0 v (h1 : SetArg W n A1 l1 d1 (packT (withT t v true.toNat))) (h0 : SetArg W n A0 l0 d0 (packT (withT t v false.toNat))) => ssame_any n n A1 A0 l1 l0 d1 d0 _ _ W h1 h0)
    have HD : Hid (∀ k, decide ((n : Int) = (n : Int) ∧ packT (withT t k true.toNat) = packT (withT t k false.toNat)) = !supF t k) := Lib.hid (fun k => by
      unfold supF
      rw [Bool.not_not, decide_eq_decide, pack_inj (n := n) (by rw [withT_length, ht]) (by rw [withT_length, ht])]
      exact ⟨fun h => h.2.symm, fun h => ⟨rfl, h.symm⟩⟩)
    have HS1 : Hid (∀ k, supF t k = true → bits .or .u16 (supN t k : Int) (IntKind.u16.wrap (2 ^ k)) = ((supN t (k + 1) : Nat) : Int) ∨ n ≤ k) := Lib.hid (fun k hk => by
      rcases Nat.lt_or_ge k n with hlt | hge
      · left
        have h1 : (2 : Nat) ^ k < 65536 := (show 2 ^ k < 2 ^ 16 from Nat.pow_lt_pow_right (by omega) (by omega))
        have h2 : supN t k < 65536 := Nat.lt_of_lt_of_le (supN_lt t k) (by omega)
        have h3 : IntKind.u16.wrap ((2 : Int) ^ k) = ((2 ^ k : Nat) : Int) := by
          rw [pow_cast]
          generalize 2 ^ k = P at *
          exact u16_in P h1
        rw [h3, u16_or_nat _ _ h2 h1]
        unfold supN
        rw [ofBits_yes hk]
      · exact .inr hge)
    have HS0 : Hid (∀ k, supF t k = false → supN t (k + 1) = supN t k) := Lib.hid (fun k hk => by unfold supN; rw [ofBits, hk]; simp)
    have HL16 : Hid (∀ k, k ≤ n → supN t k < 65537) := Lib.hid (fun k hk => Nat.lt_of_lt_of_le (supN_lt t k) (Nat.le_trans (pow16 (Nat.le_trans hk hn)) (by omega)))
    clear hr ok ht
    unfold SetNew setA at *
    generalize wordsN n = m at *
    obtain ⟨W0, hW0⟩ : ∃ W0, W0 = (w.alloc (.cells #[.int .i64 n, .slice A len c] 24)) := ⟨_, rfl⟩
    have hb0 : Below w.heap.size w W0 := by rw [hW0]; exact ((Below.refl _ _).alloc (by simp) (.cells #[.int .i64 n, .slice A len c] 24))
    have hv0 : SetVar W0 (w.heap.size) n A len c (packT t) := by
      have := SetVar.new h
      rw [hW0]; exact this
    have HWW := Lib.hid hW0
    have HB := Lib.hid hb0
    have Va := Lib.hid hv0
    clear hb0 hv0 h 
    go_enter Tryd.func28, Tryd.ntmps28
    go_wp2_with fail
    rw [← HWW.out]
    clear hW0
    have kVa0 := Va.out.c0
    have kVa1 := Va.out.c1
    go_wp2_with fail
    refine (HR.out _ Va.out.arg).mono ?_
    rintro e x1 ⟨rfl, hb1⟩
    clear kVa0 kVa1
    have Va' := Lib.hid (Va.out.on hb1)
    clear Va
    have Va := Va'
    clear Va'
    have HB' := Lib.hid (HB.out.trans (hb1.mono HB.out.size))
    clear HB
    have HB := HB'
    clear HB'
    clear hb1
    have kVa0 := Va.out.c0
    have kVa1 := Va.out.c1
    go_wp2_with fail
    clear kVa0 kVa1
    go_loopw [3, 10] (fun v i wr => ∃ k : Nat, k ≤ n ∧ i = .int .i64 k ∧ v = .int .u16 (supN t k : Nat) ∧ SetVar wr w.heap.size n A len c (packT t) ∧ Below w.heap.size w wr) (fun _ i _ => n - (intOf i).toNat)
    case atStart => exact ⟨0, Nat.zero_le _, rfl, rfl, Va.out, HB.out⟩
    case round =>
      obtain ⟨k, hk, rfl, rfl, hv, hb⟩ := hrel
      have Va := Lib.hid hv
      have HB := Lib.hid hb
      clear hv hb
      by_cases hlt : k < n
      · have hd := HD.out k
        have hs1 := HS1.out k
        have hs0 := HS0.out k
        have HS := Lib.hid (And.intro hs0 hs1)
        clear hs0 hs1
        have kVa0 := Va.out.c0
        have kVa1 := Va.out.c1
        have HSK := Lib.hid (fun W A1 A0 l1 l0 d1 d0 h1 h0 => HSM.out W A1 A0 l1 l0 d1 d0 k h1 h0)
        rw [hd] at HSK
        clear hd
        generalize hss : supN t k = s at *
        clear hss
        generalize supF t k = fb at *
        go_wp2_with fail
        have FACTS : Hid (∀ W', Below wr.heap.size wr W' → W'.cell? ⟨w.heap.size, 0, none⟩ = some (.int .i64 (n : Nat)) ∧ W'.cell? ⟨w.heap.size, 1, none⟩ = some (.slice A len c)) := Lib.hid fun W' hW => ⟨(Va.out.on hW).c0, (Va.out.on hW).c1⟩
        go_region_held3 (fun w' => w'.cell? ⟨w.heap.size, 0, none⟩ = some (.int .i64 (n : Nat)) ∧ w'.cell? ⟨w.heap.size, 1, none⟩ = some (.slice A len c)) ((refine FACTS.out _ ?_; (with_reducible (first | exact Below.refl _ _ | exact (Below.refl _ _).drew | exact hbK1 | exact hbK1.drew | exact hbK0 | exact hbK0.drew | exact hbK2 | exact hbK2.drew)))) (first
              | (go_at_call_of 58 (Value.bool true); refine (HX1.out _ k hlt (Va.out.arg.on ?_)).mono ?_; (with_reducible (first | exact Below.refl _ _ | exact (Below.refl _ _).drew | exact hbK1 | exact hbK1.drew | exact hbK0 | exact hbK0.drew | exact hbK2 | exact hbK2.drew)); rintro e w1 ⟨b1, rfl, hlo1, hhi1, T1, hb1⟩; have hbK1 : Below wr.heap.size wr w1 := (by first | exact (Below.refl _ _).drew.trans hb1 | exact (Below.refl _ _).trans hb1 | exact hbK0.trans (hb1.mono hbK0.size) | exact hbK0.drew.trans (hb1.mono hbK0.size) | exact hbK2.trans (hb1.mono hbK2.size) | exact hbK2.drew.trans (hb1.mono hbK2.size)))
              | (go_at_call_of 58 (Value.bool false); refine (HX0.out _ k hlt (Va.out.arg.on ?_)).mono ?_; (with_reducible (first | exact Below.refl _ _ | exact (Below.refl _ _).drew | exact hbK1 | exact hbK1.drew | exact hbK0 | exact hbK0.drew | exact hbK2 | exact hbK2.drew)); rintro e w0 ⟨b0, rfl, hlo0, hhi0, T0, hb0⟩; have hbK0 : Below wr.heap.size wr w0 := (by first | exact (Below.refl _ _).drew.trans hb0 | exact (Below.refl _ _).trans hb0 | exact hbK1.trans (hb0.mono hbK1.size) | exact hbK1.drew.trans (hb0.mono hbK1.size) | exact hbK2.trans (hb0.mono hbK2.size) | exact hbK2.drew.trans (hb0.mono hbK2.size)))
              | (go_at_call 16; refine (HSK.out _ _ _ _ _ _ _ (by first | exact T1 | exact T1.on hb0 | exact T1.on ((Below.refl _ _).drew.trans hb0)) (by first | exact T0 | exact T0.on hb1 | exact T0.on ((Below.refl _ _).drew.trans hb1))).mono ?_; skip; rintro e w2 ⟨rfl, hb2⟩; have hbK2 : Below wr.heap.size wr w2 := (by first | exact (Below.refl _ _).drew.trans hb2 | exact (Below.refl _ _).trans hb2 | exact hbK1.trans (hb2.mono hbK1.size) | exact hbK1.drew.trans (hb2.mono hbK1.size) | exact hbK0.trans (hb2.mono hbK0.size) | exact hbK0.drew.trans (hb2.mono hbK0.size)))
              | fail)
        all_goals
          have HB2 := Lib.hid (HB.out.trans (hbK2.mono HB.out.size))
          have Va2 := Lib.hid (Va.out.on hbK2)
          clear hbK0 hbK1 hbK2 T0 T1 hb0 hb1 hb2 hlo0 hlo1 hhi0 hhi1 kVa0 kVa1
          cases fb
          · go_wp2_with fail
            go_roundw
            case rel => exact ⟨k + 1, by omega, by go_num, by rw [HS.out.1 (by first | rfl | trivial)], Va2.out, HB2.out⟩
            case measure => simp [intOf]; omega
          · have hor := (HS.out.2 (by first | rfl | trivial)).resolve_right (by omega)
            go_wp2_with fail
            go_roundw
            case rel => exact ⟨k + 1, by omega, by go_num, by first | rfl | rw [hor], Va2.out, HB2.out⟩
            case measure => simp [intOf]; omega
      · obtain rfl : k = n := by omega
        generalize hss : supN t k = s at *
        have HSS := Lib.hid hss
        clear hss
        have HQ := Lib.hid hq
        clear hq
        go_wp2_with fail
        go_ret
        exact ⟨ret_int (by rw [HQ.out]), HB.out⟩
end Go.Proofs.YtpbpjihdaghiaaaDoor
