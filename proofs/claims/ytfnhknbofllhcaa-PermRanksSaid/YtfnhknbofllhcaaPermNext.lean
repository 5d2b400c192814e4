/- Contract: ramageref02.Next. -/
import Derived.Test.YtfnhknbofllhcaaRankP
import Derived.Test.YtfnhknbofllhcaaPermV
namespace Go.Proofs.Ytfnhknbofllhcaa
open Go.RowKit
set_option linter.unusedSimpArgs false
set_option linter.unusedVariables false

/-- the least greater one so far: among the places from i + 1 to k - 1 -/
def Best (p : List Int) (i k : Nat) (b : Int) : Prop :=
  (b = -1 ∧ ∀ j, i < j → j < k → ¬ p[i]?.getD 0 < p[j]?.getD 0) ∨
  (∃ m : Nat, b = (m : Int) ∧ i < m ∧ m < k ∧ p[i]?.getD 0 < p[m]?.getD 0 ∧ ∀ j, i < j → j < k → p[i]?.getD 0 < p[j]?.getD 0 → p[m]?.getD 0 ≤ p[j]?.getD 0)
theorem Best.start (p : List Int) (i : Nat) : Best p i (i + 1) (-1) := .inl ⟨rfl, fun j h1 h2 => by omega⟩
theorem Best.cases {p : List Int} {i k : Nat} {b : Int} (h : Best p i k b) : b = -1 ∨ ∃ m : Nat, b = (m : Int) ∧ i < m ∧ m < k := by
  rcases h with ⟨e, _⟩ | ⟨m, e, h1, h2, _⟩
  · exact .inl e
  · exact .inr ⟨m, e, h1, h2⟩
theorem Best.skip {p : List Int} {i k : Nat} {b : Int} (h : Best p i k b) (hn : ¬ p[i]?.getD 0 < p[k]?.getD 0) : Best p i (k + 1) b := by
  rcases h with ⟨rfl, h⟩ | ⟨m, rfl, h1, h2, h3, h4⟩
  · exact .inl ⟨rfl, fun j a c => by
      rcases Nat.lt_succ_iff_lt_or_eq.1 c with e | e
      · exact h j a e
      · subst e; exact hn⟩
  · exact .inr ⟨m, rfl, h1, by omega, h3, fun j a c d => by
      rcases Nat.lt_succ_iff_lt_or_eq.1 c with e | e
      · exact h4 j a e d
      · subst e; exact absurd d hn⟩
theorem Best.first {p : List Int} {i k : Nat} (h : Best p i k (-1)) (hik : i < k) (hy : p[i]?.getD 0 < p[k]?.getD 0) : Best p i (k + 1) (k : Int) := by
  rcases h with ⟨_, h⟩ | ⟨m, e, _⟩
  · exact .inr ⟨k, rfl, hik, by omega, hy, fun j a c d => by
      rcases Nat.lt_succ_iff_lt_or_eq.1 c with e | e
      · exact absurd d (h j a e)
      · subst e; exact Int.le_refl _⟩
  · omega
theorem Best.less {p : List Int} {i k m : Nat} (h : Best p i k (m : Int)) (hik : i < k) (hy : p[i]?.getD 0 < p[k]?.getD 0) (hl : p[k]?.getD 0 < p[m]?.getD 0) : Best p i (k + 1) (k : Int) := by
  rcases h with ⟨e, _⟩ | ⟨m', e, h1, h2, h3, h4⟩
  · omega
  · obtain rfl : m = m' := by omega
    exact .inr ⟨k, rfl, hik, by omega, hy, fun j a c d => by
      rcases Nat.lt_succ_iff_lt_or_eq.1 c with e | e
      · have := h4 j a e d; omega
      · subst e; exact Int.le_refl _⟩
theorem Best.keep {p : List Int} {i k m : Nat} (h : Best p i k (m : Int)) (hl : ¬ p[k]?.getD 0 < p[m]?.getD 0) : Best p i (k + 1) (m : Int) := by
  rcases h with ⟨e, _⟩ | ⟨m', e, h1, h2, h3, h4⟩
  · omega
  · obtain rfl : m = m' := by omega
    exact .inr ⟨m, rfl, h1, by omega, h3, fun j a c d => by
      rcases Nat.lt_succ_iff_lt_or_eq.1 c with e | e
      · exact h4 j a e d
      · subst e; omega⟩

/-- the numbers that are still to come, as they are gathered -/
def restTo (T : List Int) (k : Nat) : List Int := (iota k).filter (fun x => decide (¬ x ∈ T))
theorem restTo_succ (T : List Int) (k : Nat) : restTo T (k + 1) = if (k : Int) ∈ T then restTo T k else restTo T k ++ [(k : Int)] := by
  unfold restTo
  rw [iota_succ, List.filter_append]
  by_cases h : (k : Int) ∈ T <;> simp [h]
theorem restTo_lt {T : List Int} {k : Nat} {z : Int} (h : z ∈ restTo T k) : 0 ≤ z ∧ z < k := mem_iota.1 (List.mem_filter.1 h).1
theorem restTo_length (T : List Int) (k : Nat) : (restTo T k).length ≤ k := by
  have := List.length_filter_le (fun x => decide (¬ x ∈ T)) (iota k)
  rw [iota_length] at this
  exact this
theorem atL_mem (zs : List Int) (x : Int) : atL zs x 0 < 0 ↔ ¬ x ∈ zs := by
  constructor
  · intro h hm
    obtain ⟨k, hk, hke⟩ := mem_getD hm
    rcases Int.lt_or_le (atL zs x 0) 0 with h1 | h1
    · rcases atL_lo zs x 0 with h2 | h2
      · have h3 : ∀ (l : List Int) (s : Nat), x ∈ l → atL l x s ≠ -1 := by
          intro l
          induction l with
          | nil => intro s h; cases h
          | cons z r ih =>
            intro s h
            unfold atL
            split
            · omega
            · rename_i hne
              rcases List.mem_cons.1 h with e | e
              · exact absurd e.symm hne
              · exact ih (s + 1) e
        exact h3 zs 0 hm h2
      · omega
    · omega
  · intro h
    rw [atL_miss zs x 0 (fun j hj e => h (by rw [← e]; exact getD_mem zs j hj))]
    omega

theorem NextAt.of {p : List Int} {i : Nat} {b : Int} (hp : IsPerm p) (hi : i + 1 < p.length) (hd : ∀ j, i < j → j + 1 < p.length → p[j + 1]?.getD 0 < p[j]?.getD 0) (ha : ¬ p[i + 1]?.getD 0 < p[i]?.getD 0) (hB : Best p i p.length b) :
    ∃ m : Nat, b = (m : Int) ∧ NextAt p i m := by
  have hlt : p[i]?.getD 0 < p[i + 1]?.getD 0 := by
    rcases Int.lt_trichotomy (p[i]?.getD 0) (p[i + 1]?.getD 0) with h | h | h
    · exact h
    · have := hp.inj (by omega) hi h; omega
    · exact absurd h ha
  rcases hB with ⟨_, h⟩ | ⟨m, rfl, h1, h2, h3, h4⟩
  · exact absurd hlt (h (i + 1) (by omega) hi)
  · exact ⟨m, rfl, hi, h1, h2, hd, h3, h4⟩

/-- what Next answers -/
def NextPost (zs : List Int) (w : World) (e : Ending) (w' : World) : Prop :=
  (∃ (v : Value) (i m : Nat), e = .returned (.tuple #[v, .bool true]) ∧ NextAt zs i m ∧ OwnI w' w.heap.size v (nextL zs i m) ∧ Below w.heap.size w w') ∨
  (e = .returned (.tuple #[.slice none 0 0, .bool false]) ∧ (∀ j, j + 1 < zs.length → zs[j + 1]?.getD 0 < zs[j]?.getD 0) ∧ Below w.heap.size w w')

set_option maxHeartbeats 4000000 in
theorem next_any (A : Option Addr) (n c : Nat) (zs : List Int) (w : World) (hz : zs.length = n) (hnc : n ≤ c) (hc63 : c ≤ 9223372036854775807) (hP : IsPerm zs) (hr : Ints w w.heap.size A zs) :
    Calls Try.prog 18 #[.slice A n c] w (NextPost zs w) := by
  obtain ⟨i0, hi, hz0, hz1, hz2⟩ := info_parts info_int
  have hn16 : n ≤ 16 := by rw [← hz]; exact hP.1
  have Hz := Lib.hid hz
  have HP := Lib.hid hP
  clear hz hP
  go_enter Try.func18, Try.ntmps18
  go_wp2_with fail
  go_loopw [4] (fun iv wr => ∃ q : Int, iv = .int .i64 q ∧ -2 ≤ q ∧ q ≤ (n : Int) - 2 ∧ (∀ j : Nat, q < j → j + 1 < n → zs[j + 1]?.getD 0 < zs[j]?.getD 0) ∧ Below w.heap.size w wr) (fun iv _ => (intOf iv + 2).toNat)
  case atStart => exact ⟨(n : Int) - 2, rfl, by omega, Int.le_refl _, fun j h1 h2 => by omega, Below.refl _ _⟩
  case round =>
    obtain ⟨q, rfl, hq0, hq1, hd, hbw⟩ := hrel
    have HD := Lib.hid hd
    clear hd
    rcases Int.lt_or_le q 0 with hneg | hpos
    · have hdf : decide (0 ≤ q) = false := by simp; omega
      go_wp2_with fail
      go_quiet (fail)
      go_wp2_with fail
      go_ret2
      exact .inr ⟨rfl, fun j hj => HD.out j (by omega) (by rw [Hz.out] at hj; exact hj), below_drewN hbw _⟩
    · obtain ⟨i, rfl⟩ := Int.eq_ofNat_of_zero_le hpos
      have hin : i + 1 < n := by omega
      obtain ⟨b, off, rfl, hb, hc⟩ := hr (by rw [Hz.out]; omega)
      have HC := Lib.hid hc
      have hc1 := (hbw.cell (p := ⟨b, off + i, none⟩) hb).trans (hc i (by rw [Hz.out]; omega))
      have hc2 := (hbw.cell (p := ⟨b, off + (i + 1), none⟩) hb).trans (hc (i + 1) (by rw [Hz.out]; omega))
      have hp0 : (0 : Int) ≤ (i : Int) + 1 := by omega
      have hp1 : (i : Int) + 1 < (n : Int) := by omega
      have hp2 : ((i : Int) + 1).toNat = i + 1 := by omega
      clear hc
      by_cases hgt : zs[i + 1]?.getD 0 < zs[i]?.getD 0
      · have HGt := Lib.hid hgt
        go_wp2_with fail
        go_quiet (fail)
        go_wp2_with fail
        go_roundw
        case rel => exact ⟨(i : Int) - 1, by go_num, by omega, by omega, fun j h1 h2 => by
          rcases Nat.lt_or_ge i j with h3 | h3
          · exact HD.out j (by omega) h2
          · have : j = i := by omega
            subst this; exact HGt.out, below_drewN hbw _⟩
        case measure => simp [intOf]; omega
      · have HGt := Lib.hid hgt
        go_wp2_with fail
        go_quiet (fail)
        go_wp2_with fail
        obtain ⟨wo, rfl⟩ : ∃ wo : World, wo = wr := ⟨_, rfl⟩
        go_loopw [5, 6] (fun bv kv wx => ∃ (k : Nat) (bst : Int), i < k ∧ k ≤ n ∧ kv = .int .i64 k ∧ bv = .int .i64 bst ∧ Best zs i k bst ∧ Below w.heap.size w wx) (fun _ kv _ => n - (intOf kv).toNat)
        case atStart => exact ⟨i + 1, -1, by omega, by omega, by go_num, rfl, Best.start zs i, below_drewN hbw _⟩
        case round =>
          obtain ⟨k, bst, hik, hkn, rfl, rfl, hbest, hbx⟩ := hrel
          have HB := Lib.hid hbest
          clear hbest
          by_cases hlt : k < n
          · have hck := (hbx.cell (p := ⟨b, off + k, none⟩) hb).trans (HC.out k (by rw [Hz.out]; exact hlt))
            have hci := (hbx.cell (p := ⟨b, off + i, none⟩) hb).trans (HC.out i (by rw [Hz.out]; omega))
            have hin2 : (i : Int) < (n : Int) := by omega
            have hkn2 : (k : Int) < (n : Int) := by omega
            clear hc1 hc2
            by_cases hy : zs[i]?.getD 0 < zs[k]?.getD 0
            · have HY := Lib.hid hy
              rcases HB.out.cases with rfl | ⟨m, rfl, hm1, hm2⟩
              · go_wp2_with fail
                go_quiet (fail)
                go_wp2_with fail
                go_roundw
                case rel => exact ⟨k + 1, (k : Int), by omega, by omega, by go_num, rfl, HB.out.first hik HY.out, below_drewN hbx _⟩
                case measure => simp [intOf]; omega
              · have hcm := (hbx.cell (p := ⟨b, off + m, none⟩) hb).trans (HC.out m (by rw [Hz.out]; omega))
                have hmn : (m : Int) < (n : Int) := by omega
                have hm0 : decide ((m : Int) < 0) = false := by simp
                by_cases hl : zs[k]?.getD 0 < zs[m]?.getD 0
                · have HL := Lib.hid hl
                  go_wp2_with fail
                  go_quiet (fail)
                  go_wp2_with fail
                  go_roundw
                  case rel => exact ⟨k + 1, (k : Int), by omega, by omega, by go_num, rfl, HB.out.less hik HY.out HL.out, below_drewN hbx _⟩
                  case measure => simp [intOf]; omega
                · have HL := Lib.hid hl
                  go_wp2_with fail
                  go_quiet (fail)
                  go_wp2_with fail
                  go_roundw
                  case rel => exact ⟨k + 1, (m : Int), by omega, by omega, by go_num, rfl, HB.out.keep (by have := HL.out; omega), below_drewN hbx _⟩
                  case measure => simp [intOf]; omega
            · have HY := Lib.hid hy
              have hyf : decide (zs[i]?.getD 0 < zs[k]?.getD 0) = false := decide_eq_false hy
              go_wp2_with fail
              go_quiet (fail)
              go_wp2_with fail
              go_roundw
              case rel => exact ⟨k + 1, bst, by omega, by omega, by go_num, rfl, HB.out.skip (by have := HY.out; omega), below_drewN hbx _⟩
              case measure => simp [intOf]; omega
          · have hk : k = zs.length := by rw [Hz.out]; omega
            have hN := NextAt.of HP.out (i := i) (by rw [Hz.out]; exact hin) (fun j h1 h2 => HD.out j (by omega) (by rw [Hz.out] at h2; exact h2)) (by have := HGt.out; omega) (by rw [← hk]; exact HB.out)
            obtain ⟨m, rfl, hNext⟩ := hN
            have HN := Lib.hid hNext
            have hmn : m < n := by have := hNext.2.2.1; rw [Hz.out] at this; exact this
            have hcm := HC.out m (by rw [Hz.out]; exact hmn)
            clear hk hNext
            obtain ⟨wo3, rfl⟩ : ∃ wo : World, wo = wr := ⟨_, rfl⟩
            have hwz := hbx.size
            have hsrc : Src (wo3.alloc (.cells #[] 3)) (some ⟨b, off, none⟩) i ((zs.take i).map (Value.int .i64)) := RowF.src (d := 0) (((hr.below' hbx).alloc hwz _).take i) (by rw [List.length_take, Hz.out]; omega)
            have Hsrc := Lib.hid hsrc
            have hown0 : OwnI (wo3.alloc (.cells #[] 3)) w.heap.size (.slice (some ⟨wo3.heap.size, 0, none⟩) 0 0) [] := World.ownsRow_lit wo3 #[] 0 hwz (by unfold maxLen; omega) rfl
            have Hown0 := Lib.hid hown0
            have hic : i ≤ c := by omega
            clear hsrc hown0 hc1 hc2
            have hbelx : Below w.heap.size w (wo3.alloc (.cells #[] 3)) := hbx.alloc hwz _
            have Hbelx := Lib.hid hbelx
            clear hbelx
            go_wp2_with (first
              | (at_builtin
                 refine wp_appN (f := Value.int .i64) Try.underlying22 hi hz0 hz1 hz2 rfl (by omega) _ rfl _ _ rfl w.heap.size _ [] (zs.take i) (some ⟨b, off, none⟩) i c (fun _ => rfl) Hown0.out Hsrc.out (by simp; omega) (by simp; omega) rfl rfl ?_
                 intro v3 w3 hown3 hb3 hs3 hg3 hv3
                 have hb03 := Hbelx.out.trans hb3
                 have hcm3 := (hb03.cell (p := ⟨b, off + m, none⟩) hb).trans hcm
                 have hs03 := hb03.size
                 simp only [List.nil_append] at hown3
                 have hl3 : (zs.take i).length ≤ 34359738366 := by rw [List.length_take]; omega)
              | (at_builtin
                 refine wp_app1 (f := Value.int .i64) Try.underlying22 hi hz0 hz1 hz2 rfl (by omega) _ rfl _ _ rfl w.heap.size _ (zs.take i) (zs[m]?.getD 0) 1 rfl hown3 hs03 hl3 rfl rfl (by first | rfl | simp [World.setCell]) ?_
                 intro v4 w4 hown4 hb4 hs4 hg4 hv4))
            have hb04 := hb03.trans hb4
            have HT : Hid ((zs.take i ++ [zs[m]?.getD 0]).length = i + 1) := Lib.hid (by rw [List.length_append, List.length_take, List.length_singleton, Hz.out]; omega)
            have HNX : Hid (nextL zs i m = (zs.take i ++ [zs[m]?.getD 0]) ++ restTo (zs.take i ++ [zs[m]?.getD 0]) n) := Lib.hid (by unfold nextL restTo; rw [Hz.out, List.append_assoc]; rfl)
            generalize zs.take i ++ [zs[m]?.getD 0] = T at *
            clear hown3 hb3 hg3 hv3 hb4 hg4 hv4 hcm3 hb03 hs03 hl3
            go_loopw [7, 8] (fun ov xv wx => ∃ k : Nat, k ≤ n ∧ xv = .int .i64 k ∧ OwnI wx w.heap.size ov (T ++ restTo T k) ∧ Below w.heap.size w wx) (fun _ xv _ => n - (intOf xv).toNat)
            case atStart => exact ⟨0, Nat.zero_le _, rfl, by simpa [restTo, iota] using hown4, hb04⟩
            case round =>
              obtain ⟨k, hkn, rfl, hownO, hbO⟩ := hrel
              by_cases hlt2 : k < n
              · obtain ⟨Ao, no, co, hov, hlo, hco⟩ := OwnF.form hownO
                have HLO := Lib.hid hlo
                have hno : no ≤ 40 := by
                  rw [← hlo, List.length_append, HT.out]
                  have := restTo_length T k
                  omega
                rw [hov] at hownO ⊢
                clear hov hlo
                have HM : Hid (atL (T ++ restTo T k) (k : Int) 0 < 0 ↔ ¬ (k : Int) ∈ T) := Lib.hid (by
                  rw [atL_mem]
                  constructor
                  · intro h h2; exact h (List.mem_append.2 (.inl h2))
                  · intro h h2
                    rcases List.mem_append.1 h2 with h3 | h3
                    · exact h h3
                    · have := restTo_lt h3; omega)
                go_wp2_with fail
                refine (at_any Ao no co _ (k : Int) _ HLO.out (by omega) (OwnI.ints hownO)).mono ?_
                rintro e w' ⟨rfl, rfl⟩
                generalize hav : atL (T ++ restTo T k) (k : Int) 0 = av at *
                clear hav
                by_cases hmem : (k : Int) ∈ T
                · have hav0 : ¬ av < 0 := fun h => HM.out.1 h hmem
                  have HS := Lib.hid (show restTo T (k + 1) = restTo T k by rw [restTo_succ, if_pos hmem])
                  clear hmem
                  go_wp2_with fail
                  go_roundw
                  case rel => exact ⟨k + 1, by omega, by go_num, by rw [HS.out]; exact hownO, hbO⟩
                  case measure => simp [intOf]; omega
                · have hav0 : av < 0 := HM.out.2 hmem
                  have HS := Lib.hid (show restTo T (k + 1) = restTo T k ++ [(k : Int)] by rw [restTo_succ, if_neg hmem])
                  clear hmem
                  go_wp2_with (at_builtin; go_loud (refine wp_app1 (f := Value.int .i64) Try.underlying22 hi hz0 hz1 hz2 rfl (by omega) _ rfl _ _ rfl w.heap.size _ (T ++ restTo T k) (k : Int) 1 rfl hownO hbO.size (by rw [HLO.out]; omega) rfl rfl (by first | rfl | simp [World.setCell]) ?_); intro v5 w5 hown5 hb5 hs5 hg5 hv5)
                  go_roundw
                  case rel => exact ⟨k + 1, by omega, by go_num, by rw [HS.out, ← List.append_assoc]; exact hown5, hbO.trans hb5⟩
                  case measure => simp [intOf]; omega
              · have hkn2 : k = n := by omega
                have HE : Hid (T ++ restTo T k = nextL zs i m) := Lib.hid (by rw [HNX.out, hkn2])
                clear hkn2
                go_wp2_with fail
                go_ret2
                exact .inl ⟨_, i, m, rfl, HN.out, by rw [← HE.out]; exact hownO, hbO⟩
end Go.Proofs.Ytfnhknbofllhcaa
