/- Contract: perm.Odd. -/
import Derived.Test.YtfnhknbofllhcaaCyc
import Derived.Test.YtfnhknbofllhcaaPermV
namespace Go.Proofs.Ytfnhknbofllhcaa
open Go.RowKit
set_option linter.unusedSimpArgs false
set_option linter.unusedVariables false

theorem info_bool : (Try.prog.info? 4).map (fun i => (i.zero, i.size, i.bytes)) = some (some (.bool false), 1, 1) := by kernel_rfl

set_option maxHeartbeats 4000000 in
theorem odd_yes (A : Option Addr) (n c : Nat) (zs : List Int) (w : World) (hz : zs.length = n) (hP : IsPerm zs) (hr : Ints w w.heap.size A zs) :
    Calls Try.prog 26 #[.slice A n c] w fun e w' => e = .returned (.bool (decide (inv zs % 2 = 1))) ∧ Below w.heap.size w w' := by
  obtain ⟨i0, hi, hz0, hz1, hz2⟩ := info_parts info_bool
  have hn16 : n ≤ 16 := by rw [← hz]; exact hP.1
  have Hz := Lib.hid hz
  have HP := Lib.hid hP
  clear hz hP
  go_enter Try.func26, Try.ntmps26
  go_wp2_with fail
  refine (right_any A n c zs _ Hz.out (by omega) hr).mono ?_
  rintro e w' ⟨rfl, rfl⟩
  rw [decide_eq_true HP.out]
  go_wp2_with (at_make; refine wp_make (f := Value.bool) Try.underlying46 hi hz0 hz1 hz2 rfl _ rfl _ _ rfl (n : Int) n rfl rfl rfl (by omega) (by unfold maxLen; omega) ?_; intro w1 hown1 hb1 hs1)
  have hr1 := hr.below' hb1
  go_loopw [3, 5, 6, 7, 16] (fun od _ _ _ i wr => ∃ (k : Nat) (S : List Bool) (odd : Bool), k ≤ n ∧ i = .int .i64 k ∧ od = .bool odd ∧ OwnF Value.bool 4 wr w.heap.size (.slice (some ⟨w.heap.size, 0, none⟩) n n) S ∧ Out zs k S odd ∧ Below w.heap.size w1 wr) (fun _ _ _ _ i _ => n - (intOf i).toNat)
  case atStart => exact ⟨0, List.replicate n false, false, Nat.zero_le _, rfl, rfl, hown1, by rw [← Hz.out]; exact Out.start HP.out, Below.refl _ _⟩
  case round =>
    obtain ⟨k, S, odd, hk, rfl, rfl, hown, hout, hbw⟩ := hrel
    have HO := Lib.hid hout
    clear hout hown1
    by_cases hlt : k < n
    · have HI := Lib.hid (HO.out.inn (by rw [Hz.out]; exact hlt))
      obtain ⟨wo, rfl⟩ : ∃ wo : World, wo = wr := ⟨_, rfl⟩
      go_wp2_with fail
      go_loopw [6, 7] (fun cv kv wx => ∃ (ct q : Nat) (S2 : List Bool), cv = .int .i64 ct ∧ kv = .int .i64 q ∧ OwnF Value.bool 4 wx w.heap.size (.slice (some ⟨w.heap.size, 0, none⟩) n n) S2 ∧ Inn zs k S2 odd ct q ∧ ct + unseen S2 ≤ n ∧ Below w.heap.size w1 wx) (fun cv _ _ => n + 1 - (intOf cv).toNat)
      case atStart => exact ⟨0, k, S, rfl, rfl, hown, HI.out, by
        have h1 : unseen S ≤ S.length := List.countP_le_length
        have := HO.out.1
        rw [Hz.out] at this
        omega, hbw⟩
      case round =>
        obtain ⟨ct, q, S2, rfl, rfl, hown2, hinn, hct, hbw2⟩ := hrel
        have HN := Lib.hid hinn
        clear hinn hown HI HO
        have hqn : q < n := by have := HN.out.2.1; rw [Hz.out] at this; exact this
        have hSl : Hid (S2.length = n) := Lib.hid (by rw [HN.out.1, Hz.out])
        have hg := OwnF.at_ hown2 q (by rw [hSl.out]; exact hqn)
        rw [List.getElem?_eq_getElem (by rw [hSl.out]; exact hqn)] at hg
        have hsv : S2[q]?.getD false = S2[q]'(by rw [hSl.out]; exact hqn) := by rw [List.getElem?_eq_getElem (by rw [hSl.out]; exact hqn)]; rfl
        obtain ⟨hgc, hgf⟩ := hg
        generalize hsq : S2[q]'(by rw [hSl.out]; exact hqn) = sq at *
        have HSV := Lib.hid hsv
        clear hsv hsq
        simp only [Option.map_some] at hgc
        cases sq
        · have Hst := Lib.hid (HN.out.step HP.out (by rw [Hz.out]; exact hlt) HSV.out)
          have Hun := Lib.hid (unseen_set S2 q (by rw [hSl.out]; exact hqn) HSV.out)
          obtain ⟨b, off, rfl, hb, hc⟩ := hr1 (by rw [Hz.out]; omega)
          have hck := (hbw2.cell (p := ⟨b, off + q, none⟩) hb).trans (hc q (by rw [Hz.out]; exact hqn))
          have hx := HP.out.get (k := q) (by rw [Hz.out]; exact hqn)
          rw [Hz.out] at hx
          generalize hxe : zs[q]?.getD 0 = x at *
          clear hxe hc
          obtain ⟨y, rfl⟩ := Int.eq_ofNat_of_zero_le hx.1
          rw [Int.toNat_natCast] at Hst
          have hcell2 : (wr.setCell ⟨w.heap.size, q, none⟩ (.bool true)).cell? ⟨b, off + q, none⟩ = some (.int .i64 (y : Int)) := by
            rw [World.cell?_setCell_other _ _ _ _ (fun e => by injection e; omega)]; exact hck
          have hst := OwnF.set_ hown2 q true
          have hbs := hbw2.setCell (p := ⟨w.heap.size, q, none⟩) (Nat.le_refl _) (.bool true)
          clear hown2 hx hck
          go_wp2_with fail
          go_roundw
          case rel => exact ⟨ct + 1, y, S2.set q true, by go_num, rfl, hst, Hst.out, by have := Hun.out; omega, hbs⟩
          case measure => simp [intOf]; omega
        · have Hst := Lib.hid (HN.out.stop HP.out (by rw [Hz.out]; exact hlt) HSV.out)
          rcases Nat.eq_zero_or_pos ct with h0 | h0
          · subst h0
            go_wp2_with fail
            go_roundw
            case rel => exact ⟨k + 1, S2, odd, by omega, by go_num, by simp, hown2, by have := Hst.out; simpa using this, hbw2⟩
            case measure => simp [intOf]; omega
          · have hp0 : (0 : Int) < (ct : Int) := by omega
            have hd0 : decide (0 < ct) = true := by simp; omega
            by_cases hev : ct % 2 = 0
            · have he2 : ((ct : Int) % 2 == 0) = true := by rw [beq_iff_eq]; omega
              have Hd : Hid (decide (ct % 2 = 0) = true) := Lib.hid (decide_eq_true hev)
              have Hd0 := Lib.hid hd0
              clear hev hd0
              go_wp2_with fail
              go_roundw
              case rel => exact ⟨k + 1, S2, !odd, by omega, by go_num, by simp, hown2, by have := Hst.out; rw [Hd.out, Hd0.out] at this; simpa using this, hbw2⟩
              case measure => simp [intOf]; omega
            · have he2 : ((ct : Int) % 2 == 0) = false := by rw [beq_eq_false_iff_ne]; omega
              have Hd : Hid (decide (ct % 2 = 0) = false) := Lib.hid (decide_eq_false hev)
              have Hd0 := Lib.hid hd0
              clear hev hd0
              go_wp2_with fail
              go_roundw
              case rel => exact ⟨k + 1, S2, odd, by omega, by go_num, by simp, hown2, by have := Hst.out; rw [Hd.out, Hd0.out] at this; simpa using this, hbw2⟩
              case measure => simp [intOf]; omega
    · have hkn : k = zs.length := by rw [Hz.out]; omega
      have HR : Hid (odd = decide (inv zs % 2 = 1)) := Lib.hid (by have := HO.out; rw [hkn] at this; exact this.done HP.out)
      clear hkn
      go_wp2_with fail
      go_ret
      exact ⟨by rw [← HR.out]; rfl, hb1.trans hbw⟩

theorem odd_no (A : Option Addr) (n c : Nat) (zs : List Int) (w : World) (hz : zs.length = n) (hn : n ≤ 9223372036854775807) (hno : ¬ IsPerm zs) (hr : Ints w w.heap.size A zs) :
    Calls Try.prog 26 #[.slice A n c] w fun e w' => e = .returned (.bool false) ∧ w = w' := by
  have Hz := Lib.hid hz
  have HP := Lib.hid (decide_eq_false hno)
  clear hz hno
  go_enter Try.func26, Try.ntmps26
  go_wp2_with fail
  refine (right_any A n c zs _ Hz.out hn hr).mono ?_
  rintro e w' ⟨rfl, rfl⟩
  rw [HP.out]
  go_wp2_with fail
  go_ret
  exact ⟨rfl, rfl⟩
end Go.Proofs.Ytfnhknbofllhcaa
