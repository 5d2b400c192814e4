/- The walk of PermGoes, and why the steps lead there and are no more than needed. -/
import Derived.Test.YtfnhknbofllhcaaInv
import Derived.Test.YtfnhknbofllhcaaPermSteps
namespace Go.Proofs.Ytfnhknbofllhcaa
open Go.RowKit
set_option linter.unusedSimpArgs false
set_option linter.unusedVariables false

/-- steps, each of which can be taken, that lead to q -/
def Good : List Int → List Int → List Int → Prop
  | [], cur, q => cur = q
  | k :: r, cur, q => 0 ≤ k ∧ k + 1 < cur.length ∧ Good r (swapL cur k.toNat) q

/-- each number's place in q -/
def relabel (q cur : List Int) : List Int := cur.map fun z => atL q z 0
theorem relabel_length (q cur : List Int) : (relabel q cur).length = cur.length := by simp [relabel]
theorem relabel_get (q cur : List Int) (k : Nat) (h : k < cur.length) : (relabel q cur)[k]?.getD 0 = atL q (cur[k]?.getD 0) 0 := by
  unfold relabel
  rw [List.getElem?_map, List.getElem?_eq_getElem h]; rfl
theorem relabel_swap (q cur : List Int) (k : Nat) (h : k + 1 < cur.length) : relabel q (swapL cur k) = swapL (relabel q cur) k := by
  unfold swapL
  rw [relabel_get q cur k (by omega), relabel_get q cur (k + 1) h]
  unfold relabel
  rw [List.map_set, List.map_set]
theorem atL_get {q : List Int} (hq : IsPerm q) {i : Nat} (hi : i < q.length) : atL q (q[i]?.getD 0) 0 = (i : Int) := by
  have := atL_hit q (q[i]?.getD 0) i 0 hi rfl (fun j hj e => by have := hq.inj (by omega) hi e; omega)
  rw [this, Nat.zero_add]
theorem relabel_self {q : List Int} (hq : IsPerm q) : relabel q q = iota q.length := by
  apply list_eq_of
  · rw [relabel_length, iota_length]
  · intro j hj
    rw [relabel_length] at hj
    rw [relabel_get q q j hj, atL_get hq hj, iota_get hj]

theorem downs_keep (i : Nat) : ∀ (d : Nat) (cur : List Int) (j : Nat), j < i → (downs i d cur)[j]?.getD 0 = cur[j]?.getD 0
  | 0, _, _, _ => rfl
  | d + 1, cur, j, h => by
    unfold downs
    rw [downs_keep i d _ j h]
    unfold swapL
    rw [List.getElem?_set_ne (by omega), List.getElem?_set_ne (by omega)]
theorem downs_at (i : Nat) : ∀ (d : Nat) (cur : List Int), i + d < cur.length → (downs i d cur)[i]?.getD 0 = cur[i + d]?.getD 0
  | 0, _, _ => rfl
  | d + 1, cur, h => by
    unfold downs
    rw [downs_at i d _ (by rw [swapL_length]; omega)]
    unfold swapL
    rw [List.getElem?_set_ne (by omega), List.getElem?_set_self (by omega)]
    rfl
theorem downs_perm (i : Nat) : ∀ (d : Nat) (cur : List Int), IsPerm cur → i + d < cur.length → IsPerm (downs i d cur)
  | 0, _, h, _ => h
  | d + 1, cur, h, hl => by unfold downs; exact downs_perm i d _ (h.swap (by omega)) (by rw [swapL_length]; omega)

/-- d steps down to place i: they can be taken, and each lowers the number of pairs -/
theorem good_downs {q : List Int} (hq : IsPerm q) (i : Nat) (hi : i < q.length) (rest : List Int) : ∀ (d : Nat) (cur : List Int), IsPerm cur → cur.length = q.length → i + d < cur.length →
    (∀ j, j < i → cur[j]?.getD 0 = q[j]?.getD 0) → cur[i + d]?.getD 0 = q[i]?.getD 0 → Good rest (downs i d cur) q → Good (downL i d ++ rest) cur q ∧ inv (relabel q cur) = d + inv (relabel q (downs i d cur)) := by
  intro d
  induction d with
  | zero => intro cur _ _ _ _ _ hg; exact ⟨hg, by simp [downs]⟩
  | succ d ih =>
    intro cur hc hl hd hpre hx hg
    unfold downs at hg
    have hsw : (swapL cur (i + d)).length = cur.length := swapL_length _ _
    have h1 := ih (swapL cur (i + d)) (hc.swap (by omega)) (by omega) (by omega) (fun j hj => by
      unfold swapL
      rw [List.getElem?_set_ne (by omega), List.getElem?_set_ne (by omega)]
      exact hpre j hj) (by
      unfold swapL
      rw [List.getElem?_set_ne (by omega), List.getElem?_set_self (by omega)]
      exact hx) hg
    refine ⟨?_, ?_⟩
    · unfold downL
      refine ⟨by omega, by omega, ?_⟩
      rw [Int.toNat_natCast]
      exact h1.1
    · show inv (relabel q cur) = (d + 1) + inv (relabel q (downs i d (swapL cur (i + d))))
      have h2 : inv (swapL (relabel q cur) (i + d)) + 1 = inv (relabel q cur) := by
        apply inv_swap_down _ _ (by rw [relabel_length]; omega)
        rw [relabel_get _ _ _ (by omega), relabel_get _ _ _ (by omega), show i + d + 1 = i + (d + 1) by omega, hx, atL_get hq hi]
        have hy := hc.get (k := i + d) (by omega)
        have hmem : cur[i + d]?.getD 0 ∈ q := hq.mem hy.1 (by omega)
        obtain ⟨t, ht, hte⟩ := mem_getD hmem
        rw [← hte, atL_get hq ht]
        have hti : ¬ t < i := fun h => by
          have e1 := hpre t h
          rw [hte] at e1
          have := hc.inj (by omega) (by omega) e1
          omega
        have hti2 : t ≠ i := fun h => by
          subst h
          rw [← hx] at hte
          have := hc.inj (by omega) (by omega) hte
          omega
        omega
      rw [← relabel_swap q cur (i + d) (by omega)] at h2
      have h3 := h1.2
      omega

theorem good_steps {q : List Int} (hq : IsPerm q) : ∀ (r : List Int) (i : Nat) (cur : List Int), q.drop i = r → i ≤ q.length → IsPerm cur → cur.length = q.length → (∀ j, j < i → cur[j]?.getD 0 = q[j]?.getD 0) →
    Good (stepsM r i cur) cur q ∧ (stepsM r i cur).length = inv (relabel q cur) := by
  intro r
  induction r with
  | nil =>
    intro i cur hr hi hc hl hpre
    have hlen : q.length ≤ i := by
      have := congrArg List.length hr
      rw [List.length_drop] at this
      simp at this
      omega
    have he : cur = q := list_eq_of hl (fun j hj => hpre j (by omega))
    refine ⟨he, ?_⟩
    rw [he, relabel_self hq, inv_iota]; rfl
  | cons x r ih =>
    intro i cur hr hi hc hl hpre
    have hil : i < q.length := by
      rcases Nat.lt_or_ge i q.length with h | h
      · exact h
      · rw [List.drop_of_length_le h] at hr; cases hr
    rw [drop_cons q i hil] at hr
    injection hr with hx hr
    have hxm : x ∈ cur := by
      have := hq.get (k := i) hil
      rw [hx] at this
      exact hc.mem this.1 (by omega)
    obtain ⟨t, ht, hte⟩ := mem_getD hxm
    have hat : atL cur x 0 = (t : Int) := by rw [← hte]; exact atL_get hc ht
    have hti : i ≤ t := by
      rcases Nat.lt_or_ge t i with h | h
      · have e1 := hpre t h
        rw [hte, ← hx] at e1
        have := hq.inj (by omega) (by omega) e1
        omega
      · exact h
    have hd : (atL cur x 0 - (i : Int)).toNat = t - i := by rw [hat]; omega
    simp only [stepsM, hd]
    have hdl : (downs i (t - i) cur).length = q.length := by rw [downs_length]; exact hl
    have h1 := ih (i + 1) (downs i (t - i) cur) hr (by omega) (downs_perm i _ cur hc (by omega)) hdl (fun j hj => by
      rcases Nat.lt_succ_iff_lt_or_eq.1 hj with h | h
      · rw [downs_keep i _ cur j h]; exact hpre j h
      · subst h
        rw [downs_at j _ cur (by omega), show j + (t - j) = t by omega, hte, hx])
    have h2 := good_downs hq i hil (stepsM r (i + 1) (downs i (t - i) cur)) (t - i) cur hc hl (by omega) hpre (by rw [show i + (t - i) = t by omega, hte, hx]) h1.1
    refine ⟨h2.1, ?_⟩
    rw [List.length_append, downL_length, h1.2, h2.2]

theorem steps_good {p q : List Int} (hp : IsPerm p) (hq : IsPerm q) (hl : p.length = q.length) : Good (stepsM q 0 p) p q ∧ (stepsM q 0 p).length = inv (relabel q p) :=
  good_steps hq q 0 p rfl (by omega) hp hl (by omega)

theorem good_le {p q : List Int} (hp : IsPerm p) (hq : IsPerm q) (hl : p.length = q.length) : (stepsM q 0 p).length ≤ 400 := by
  rw [(steps_good hp hq hl).2]
  have h : ∀ l : List Int, l.length ≤ 16 → inv l ≤ 16 * l.length := by
    intro l
    induction l with
    | nil => intro _; exact Nat.le_refl _
    | cons x r ih =>
      intro h
      simp only [List.length_cons] at h ⊢
      have := ih (by omega)
      have h2 : r.countP (fun y => decide (y < x)) ≤ r.length := List.countP_le_length
      simp only [inv]; omega
  have := h (relabel q p) (by rw [relabel_length]; exact hp.1)
  rw [relabel_length] at this
  have := hp.1
  omega

set_option maxHeartbeats 4000000 in
theorem permGoes_yes (A B : Option Addr) (n c d : Nat) (ps qs : List Int) (w : World) (hp : ps.length = n) (hq : qs.length = n) (hP : IsPerm ps) (hQ : IsPerm qs) (ha : Ints w w.heap.size A ps) (hb : Ints w w.heap.size B qs) :
    Calls Try.prog 4 #[.slice A n c, .slice B n d] w fun e w' => e = .returned (.bool true) ∧ Below w.heap.size w w' := by
  obtain ⟨i0, hi, hz0, hz1, hz2⟩ := info_parts info_int
  have hn16 : n ≤ 16 := by rw [← hp]; exact hP.1
  have Hp := Lib.hid hp
  have Hq := Lib.hid hq
  have HP := Lib.hid hP
  have HQ := Lib.hid hQ
  have HG := Lib.hid (steps_good hP hQ (by rw [hp, hq]))
  have HLe := Lib.hid (good_le hP hQ (by rw [hp, hq]))
  have hnn : ((n : Int) != (n : Int)) = false := by rw [bne_eq_false_iff_eq]
  clear hp hq hP hQ
  go_enter Try.func4, Try.ntmps4
  go_wp2_with fail
  refine (alive_any _).mono ?_
  rintro e w1 ⟨rfl, hb1⟩
  have ha1 := ha.on hb1
  have hb1' := hb.on hb1
  go_wp2_with fail
  refine (refRight_any A n c ps _ Hp.out (by omega) ha1).mono ?_
  rintro e w' ⟨rfl, rfl⟩
  rw [decide_eq_true HP.out]
  go_wp2_with fail
  refine (refRight_any B n d qs _ Hq.out (by omega) hb1').mono ?_
  rintro e w' ⟨rfl, rfl⟩
  rw [decide_eq_true HQ.out]
  go_wp2_with fail
  refine (steps_yes A B n c d ps qs _ Hp.out Hq.out HP.out HQ.out ha1 hb1').mono ?_
  rintro e w2 ⟨v, rfl, hown2, hb2⟩
  have ha2 := ha1.on hb2
  have hb2' := hb1'.on hb2
  have hbel : Below w.heap.size w w2 := hb1.trans (hb2.mono hb1.size)
  generalize hL : stepsM qs 0 ps = L at *
  have HL := Lib.hid hL
  clear hL
  obtain ⟨Al, nl, cl, rfl, hll, _⟩ := OwnF.form hown2
  have Hll := Lib.hid hll
  have hnl : nl ≤ 400 := by rw [← hll]; exact HLe.out
  have hIl := OwnI.ints hown2
  have hown0 : OwnI (w2.alloc (.cells #[] 3)) w2.heap.size (.slice (some ⟨w2.heap.size, 0, none⟩) 0 0) [] := World.ownsRow_lit w2 #[] 0 (Nat.le_refl _) (by unfold maxLen; omega) rfl
  have Hown0 := Lib.hid hown0
  have hsrc := Lib.hid ((ha2.src Hp.out).alloc (.cells #[] 3))
  clear hll hown2 hb2 ha1 hb1' ha hb hown0
  go_wp2_with (at_builtin; go_loud (refine wp_appN (f := Value.int .i64) Try.underlying22 hi hz0 hz1 hz2 rfl (by omega) _ rfl _ _ rfl w2.heap.size _ [] ps A n c (fun _ => rfl) Hown0.out hsrc.out (by simp) (by simp; omega) rfl rfl ?_); intro v3 w3 hown3 hb3 hs3 hg3 hv3)
  have hb23 : Below w2.heap.size w2 w3 := ((Below.refl _ _).alloc (Nat.le_refl _) _).trans hb3
  have ha3 := ha2.on hb23
  have hb3' := hb2'.on hb23
  have hIl3 := hIl.on hb23
  have hbel3 := hbel.trans (hb23.mono hbel.size)
  simp only [List.nil_append] at hown3
  have hs23 := hb23.size
  clear ha2 hb2' hIl hsrc Hown0 hb3 hg3 hv3 hs3
  obtain ⟨A7, n7, c7, rfl, h7, _⟩ := OwnF.form hown3
  obtain rfl : n = n7 := by rw [← h7, Hp.out]
  have hI7 := OwnI.ints hown3
  clear h7 hown3
  go_loopw [7, 8, 9, 10] (fun now ix _ _ wr => ∃ (k c7 : Nat) (A7 : Option Addr) (cur : List Int), k ≤ nl ∧ ix = .int .i64 k ∧ now = .slice A7 n c7 ∧ Ints wr wr.heap.size A7 cur ∧ cur.length = n ∧ IsPerm cur ∧ Good (L.drop k) cur qs ∧ Below w3.heap.size w3 wr) (fun _ ix _ _ _ => nl - (intOf ix).toNat)
  case atStart => exact ⟨0, c7, A7, ps, Nat.zero_le _, rfl, rfl, hI7, Hp.out, HP.out, HG.out.1, Below.refl _ _⟩
  case round =>
    obtain ⟨k, c8, A8, cur, hk, rfl, rfl, hI8, hlc, hPc, hgood, hbw⟩ := hrel
    have HLC := Lib.hid hlc
    have HPC := Lib.hid hPc
    have HGd := Lib.hid hgood
    clear hlc hPc hgood
    by_cases hlt : k < nl
    · obtain ⟨bl, ol, rfl, hbl, hcl⟩ := hIl3 (by rw [Hll.out]; omega)
      have hck := (hbw.cell (p := ⟨bl, ol + k, none⟩) hbl).trans (hcl k (by rw [Hll.out]; exact hlt))
      have HD := HGd.out
      rw [drop_cons L k (by rw [Hll.out]; exact hlt)] at HD
      generalize hx : L[k]?.getD 0 = x at *
      clear hx
      obtain ⟨hx0, hx1, hg2⟩ := HD
      rw [HLC.out] at hx1
      have HG2 := Lib.hid hg2
      clear hg2 hcl
      go_wp2_with fail
      refine (step_yes A8 n c8 cur x _ HLC.out HPC.out hI8 hx0 hx1).mono ?_
      rintro e w5 ⟨v5, rfl, hown5, hb5⟩
      obtain ⟨A5, n5, c5, rfl, h5, _⟩ := OwnF.form hown5
      obtain rfl : n = n5 := by rw [← h5, swapL_length, HLC.out]
      have H5 := Lib.hid h5
      have hI5 := OwnI.ints hown5
      have hbw5 := hbw.trans (hb5.mono hbw.size)
      clear h5 hown5 hb5
      go_wp2_with fail
      go_roundw
      case rel => exact ⟨k + 1, c5, A5, _, by omega, by go_num, rfl, hI5, H5.out, HPC.out.swap (by rw [HLC.out]; omega), HG2.out, hbw5⟩
      case measure => simp [intOf]; omega
    · obtain ⟨wo, rfl⟩ : ∃ wo : World, wo = wr := ⟨_, rfl⟩
      have hcur : Hid (cur = qs) := Lib.hid (by
        have := HGd.out
        rw [List.drop_of_length_le (by rw [Hll.out]; omega)] at this
        exact this)
      have hbelr := hbel3.trans (hbw.mono hbel3.size)
      have har := ha3.on hbw
      have hbr := hb3'.on hbw
      have HPr := pairsTo_eq (relabel qs ps) n (by rw [relabel_length, Hp.out]; exact Nat.le_refl _)
      rw [List.take_of_length_le (by rw [relabel_length, Hp.out]; exact Nat.le_refl _)] at HPr
      have HPR : Hid (pairsTo (relabel qs ps) n = nl) := Lib.hid (by rw [HPr, ← HG.out.2, Hll.out])
      have hb0 : ∀ m, m ≤ n → pairsTo (relabel qs ps) m ≤ m * 100000 := by
        intro m
        induction m with
        | zero => intro _; exact Nat.le_refl _
        | succ m ih =>
          intro h
          have h1 := ih (by omega)
          have h2 : ((relabel qs ps).take m).countP (fun y => decide ((relabel qs ps)[m]?.getD 0 < y)) ≤ m := Nat.le_trans List.countP_le_length (List.length_take_le _ _)
          simp only [pairsTo]; omega
      have HB := Lib.hid hb0
      have Hrl : Hid ((relabel qs ps).length = n) := Lib.hid (by rw [relabel_length, Hp.out])
      have Hrg : Hid (∀ k, k < n → (relabel qs ps)[k]?.getD 0 = atL qs (ps[k]?.getD 0) 0) := Lib.hid (fun k hk => relabel_get qs ps k (by rw [Hp.out]; exact hk))
      generalize relabel qs ps = rs at *
      clear HPr hb0
      go_wp2_with fail
      go_loopw [11, 12, 13] (fun t i _ wx => ∃ k : Nat, k ≤ n ∧ i = .int .i64 k ∧ t = .int .i64 (pairsTo rs k : Nat) ∧ Below wo.heap.size wo wx) (fun _ i _ _ => n - (intOf i).toNat)
      case atStart => exact ⟨0, Nat.zero_le _, rfl, rfl, Below.refl _ _⟩
      case round =>
        obtain ⟨k2, hk2, rfl, rfl, hbx⟩ := hrel
        have hbk := HB.out k2 hk2
        by_cases hlt2 : k2 < n
        · obtain ⟨ba, oa, rfl, hba, hca⟩ := har (by rw [Hp.out]; omega)
          have HCA := Lib.hid hca
          obtain ⟨wo2, rfl⟩ : ∃ wo : World, wo = wr := ⟨_, rfl⟩
          clear hca
          go_wp2_with fail
          go_loopw [11, 13] (fun t i wy => ∃ j : Nat, j ≤ k2 ∧ i = .int .i64 j ∧ t = .int .i64 ((pairsTo rs k2 + (rs.take j).countP (fun y => decide (rs[k2]?.getD 0 < y)) : Nat) : Int) ∧ Below wo.heap.size wo wy) (fun _ i _ => k2 - (intOf i).toNat)
          case atStart => exact ⟨0, Nat.zero_le _, rfl, by simp, hbx⟩
          case round =>
            obtain ⟨j, hj, rfl, rfl, hby⟩ := hrel
            have hcj : (rs.take j).countP (fun y => decide (rs[k2]?.getD 0 < y)) ≤ j := Nat.le_trans List.countP_le_length (List.length_take_le _ _)
            by_cases hjl : j < k2
            · have hc1 := (hby.cell (p := ⟨ba, oa + j, none⟩) hba).trans (HCA.out j (by rw [Hp.out]; omega))
              have hc2 := (hby.cell (p := ⟨ba, oa + k2, none⟩) hba).trans (HCA.out k2 (by rw [Hp.out]; omega))
              have hjn : (j : Int) < (n : Int) := by omega
              have hs : (rs.take (j + 1)).countP (fun y => decide (rs[k2]?.getD 0 < y)) = (rs.take j).countP (fun y => decide (rs[k2]?.getD 0 < y)) + if rs[k2]?.getD 0 < rs[j]?.getD 0 then 1 else 0 := by
                rw [take_succ_getD rs j (by rw [Hrl.out]; omega), List.countP_append, List.countP_singleton]
                simp
              rw [Hrg.out j (by omega)] at hs
              have hs2 : (if rs[k2]?.getD 0 < atL qs (ps[j]?.getD 0) 0 then 1 else 0) = if atL qs (ps[k2]?.getD 0) 0 < atL qs (ps[j]?.getD 0) 0 then 1 else 0 := by rw [Hrg.out k2 (by omega)]
              rw [hs2] at hs
              have HS := Lib.hid hs
              clear hs hs2
              generalize (rs.take j).countP (fun y => decide (rs[k2]?.getD 0 < y)) = cj at *
              generalize hPk : pairsTo rs k2 = pk at *
              have hpk : (0 : Int) ≤ ((pk + cj : Nat) : Int) := by omega
              have hpk2 : ((pk + cj : Nat) : Int) ≤ 20000000000 := by omega
              generalize hqv : ((pk + cj : Nat) : Int) = q at *
              have HQV := Lib.hid hqv
              clear hqv
              go_wp2_with fail
              go_quiet ((go_at_call 15; exact q_same (at_any B n d qs _ _ Hq.out (by omega) (hbr.on (below_drewN hby _)))))
              go_wp2_with fail
              · go_roundw
                case rel => exact ⟨j + 1, by omega, by go_num, by
                  rw [HS.out, if_pos (by assumption)]
                  have := HQV.out
                  congr 1; omega, below_drewN hby _⟩
                case measure => simp [intOf]; omega
              · go_roundw
                case rel => exact ⟨j + 1, by omega, by go_num, by
                  rw [HS.out, if_neg (by omega)]
                  have := HQV.out
                  congr 1; omega, below_drewN hby _⟩
                case measure => simp [intOf]; omega
            · have hjk : j = k2 := by omega
              have HJ := Lib.hid hjk
              clear hjk
              go_wp2_with fail
              go_roundw
              case rel => exact ⟨k2 + 1, by omega, by go_num, by rw [HJ.out]; rfl, hby⟩
              case measure => simp [intOf]; omega
        · have hkn : k2 = n := by omega
          have HF : Hid (((pairsTo rs k2 : Nat) : Int) = (nl : Int)) := Lib.hid (by rw [hkn, HPR.out])
          have hI9 := hI8.on hbx
          have hbr9 := hbr.on hbx
          clear hkn
          go_wp2_with fail
          refine (same_any A8 B n n c8 d cur qs _ HLC.out Hq.out (by omega) (by omega) hI9 hbr9).mono ?_
          rintro e w6 ⟨rfl, k6, rfl⟩
          rw [decide_eq_true hcur.out, HF.out]
          go_wp2_with fail
          go_ret
          exact ⟨by simp, below_drewN (hbelr.trans (hbx.mono hbelr.size)) _⟩

theorem permGoes_no (A B : Option Addr) (n m c d : Nat) (ps qs : List Int) (w : World) (hp : ps.length = n) (hq : qs.length = m) (hn : n ≤ 9223372036854775807) (hm : m ≤ 9223372036854775807) (ha : Ints w w.heap.size A ps) (hb : Ints w w.heap.size B qs) (hno : ¬ (IsPerm ps ∧ IsPerm qs ∧ n = m)) :
    Calls Try.prog 4 #[.slice A n c, .slice B m d] w fun e w' => e = .returned (.bool true) ∧ Below w.heap.size w w' := by
  have Hp := Lib.hid hp
  have Hq := Lib.hid hq
  clear hp hq
  by_cases hP : IsPerm ps
  · by_cases hQ : IsPerm qs
    · have hnm : ((n : Int) != (m : Int)) = true := by
        rw [bne_iff_ne]
        intro h
        exact hno ⟨hP, hQ, by omega⟩
      have HP := Lib.hid (decide_eq_true hP)
      have HQ := Lib.hid (decide_eq_true hQ)
      clear hP hQ hno
      go_enter Try.func4, Try.ntmps4
      go_wp2_with fail
      refine (alive_any _).mono ?_
      rintro e w1 ⟨rfl, hb1⟩
      go_wp2_with fail
      refine (refRight_any A n c ps _ Hp.out (by omega) (ha.on hb1)).mono ?_
      rintro e w' ⟨rfl, rfl⟩
      rw [HP.out]
      go_wp2_with fail
      refine (refRight_any B m d qs _ Hq.out (by omega) (hb.on hb1)).mono ?_
      rintro e w' ⟨rfl, rfl⟩
      rw [HQ.out]
      go_wp2_with fail
      go_ret
      exact ⟨rfl, hb1⟩
    · have HP := Lib.hid (decide_eq_true hP)
      have HQ := Lib.hid (decide_eq_false hQ)
      clear hP hQ hno
      go_enter Try.func4, Try.ntmps4
      go_wp2_with fail
      refine (alive_any _).mono ?_
      rintro e w1 ⟨rfl, hb1⟩
      go_wp2_with fail
      refine (refRight_any A n c ps _ Hp.out (by omega) (ha.on hb1)).mono ?_
      rintro e w' ⟨rfl, rfl⟩
      rw [HP.out]
      go_wp2_with fail
      refine (refRight_any B m d qs _ Hq.out (by omega) (hb.on hb1)).mono ?_
      rintro e w' ⟨rfl, rfl⟩
      rw [HQ.out]
      go_wp2_with fail
      go_ret
      exact ⟨rfl, hb1⟩
  · have HP := Lib.hid (decide_eq_false hP)
    clear hP hno
    go_enter Try.func4, Try.ntmps4
    go_wp2_with fail
    refine (alive_any _).mono ?_
    rintro e w1 ⟨rfl, hb1⟩
    go_wp2_with fail
    refine (refRight_any A n c ps _ Hp.out (by omega) (ha.on hb1)).mono ?_
    rintro e w' ⟨rfl, rfl⟩
    rw [HP.out]
    go_wp2_with fail
    go_ret
    exact ⟨rfl, hb1⟩

theorem permGoes_walk (A B : Option Addr) (n m c d : Nat) (ps qs : List Int) (w : World) (hp : ps.length = n) (hq : qs.length = m) (hn : n ≤ maxLen) (hm : m ≤ maxLen) (ha : Ints w w.heap.size A ps) (hb : Ints w w.heap.size B qs) :
    Calls Try.prog 4 #[.slice A n c, .slice B m d] w fun e w' => e = .returned (.bool true) ∧ Below w.heap.size w w' := by
  unfold maxLen at hn hm
  by_cases h : IsPerm ps ∧ IsPerm qs ∧ n = m
  · obtain ⟨hP, hQ, rfl⟩ := h
    exact permGoes_yes A B n c d ps qs w hp hq hP hQ ha hb
  · exact permGoes_no A B n m c d ps qs w hp hq hn hm ha hb h
end Go.Proofs.Ytfnhknbofllhcaa
