/- Contracts: set.Of of too many variables, column, single, Single. Contracts of the document's small functions over texts and tables: Num of a digit, Size, Same. Contracts: the document's bit, Right, Table, Vars, Value, Put, truth, Zero; great. -/
import Derived.Test.YtpjciaomhfeeeaaGreatDoorMd
import Derived.Test.YtpjciaomhfeeeaaGreatDoorMc
import Derived.Test.YtpjciaomhfeeeaaGreatDoorMa
import Derived.Laws.IdiomStrings
section
namespace Go.Proofs.YtpjciaomhfeeeaaGreatDoor
open Go.RowKit Go.Sort
set_option linter.unusedSimpArgs false
set_option linter.unusedVariables false

/-- the bits of a variable within a word -/
def colN (v : Nat) : Nat := ofBits (fun x => x.testBit v) 64
theorem bit_testV (k v : Nat) (hk : k < 64) : bits .and .i64 ((k : Int) / 2 ^ v) 1 = if k.testBit v then 1 else 0 := by
  have := bit_test k (by omega) (v : Int) (by omega)
  rwa [Int.toNat_natCast] at this
theorem ofBits_yes {f : Nat → Bool} {k : Nat} (h : f k = true) : ofBits f k ||| 2 ^ k = ofBits f (k + 1) := by
  rw [ofBits, if_pos h, Nat.or_comm, nat_join k (2 ^ k) _ (Nat.mod_self _) (ofBits_lt f k), Nat.add_comm]
theorem ofBits_no {f : Nat → Bool} {k : Nat} (h : f k = false) : ofBits f (k + 1) = ofBits f k := by
  rw [ofBits, h]; simp
theorem ofBits_lt64 (f : Nat → Bool) {k : Nat} (hk : k ≤ 64) : ofBits f k < 18446744073709551616 :=
  Nat.lt_of_lt_of_le (ofBits_lt f k) (show 2 ^ k ≤ 2 ^ 64 from Nat.pow_le_pow_right (by decide) hk)
set_option maxRecDepth 100000 in
set_option maxHeartbeats 2000000 in
theorem scolumn_any (v : Nat) (hv : v ≤ 16) (w : World) : Calls Tryz.prog 192 #[.int .i64 (v : Nat)] w fun e w' => e = .returned (U (colN v)) ∧ w = w' := by
  unfold U colN
  obtain ⟨f, hf⟩ : ∃ f : Nat → Bool, f = fun x => x.testBit v := ⟨_, rfl⟩
  rw [← hf]
  have HF := Lib.hid (fun x => congrFun hf x)
  clear hf
  go_enter Tryz.func192, Tryz.ntmps192
  go_wp2
  go_loop [3, 5] (fun c i => ∃ k : Nat, k ≤ 64 ∧ i = .int .i64 k ∧ c = .int .u64 (ofBits f k : Nat)) (fun _ i => 64 - (intOf i).toNat)
  case atStart => exact ⟨0, Nat.zero_le _, rfl, rfl⟩
  case round =>
    obtain ⟨k, hk, rfl, rfl⟩ := hrel
    by_cases hlt : k < 64
    · have hbt := bit_testV k v hlt
      have hl := ofBits_lt64 f hk
      have hp := u64_pow k hlt
      have hp64 : 2 ^ k < 18446744073709551616 := (show (2 : Nat) ^ k < 2 ^ 64 from Nat.pow_lt_pow_right (by decide) hlt)
      have hor := u64_or_nat (ofBits f k) (2 ^ k) hl hp64
      have hor0 : bits .or .u64 ((ofBits f k : Nat) : Int) 0 = ((ofBits f k : Nat) : Int) := by
        have := u64_or_nat (ofBits f k) 0 hl (by omega)
        rwa [Nat.or_zero] at this
      by_cases hb : k.testBit v = true
      · rw [if_pos hb] at hbt
        have hy := ofBits_yes (f := f) (k := k) (by rw [HF.out]; exact hb)
        rw [hy] at hor
        generalize hc1 : ofBits f (k + 1) = c1 at *
        generalize ofBits f k = c0 at *
        generalize 2 ^ k = pk at *
        have HC := Lib.hid hc1
        clear hb hy hor0 hc1
        go_wp2_with fail
        go_round
        case rel => exact ⟨k + 1, by omega, by go_num, by rw [HC.out]⟩
        case measure => simp [intOf]; omega
      · have hb' : k.testBit v = false := by simpa using hb
        rw [if_neg hb] at hbt
        have hy := ofBits_no (f := f) (k := k) (by rw [HF.out]; exact hb')
        have HC := Lib.hid hy
        generalize ofBits f k = c0 at *
        clear hb hb' hy hor hp
        go_wp2_with fail
        go_round
        case rel => exact ⟨k + 1, by omega, by go_num, by rw [HC.out]⟩
        case measure => simp [intOf]; omega
    · obtain rfl : k = 64 := by omega
      go_wp2
      go_ret
      exact ⟨rfl, rfl⟩
/-- the words of the set in which a variable is 1 -/
def singW (n v k : Nat) : Nat := if v < 6 then colN v &&& fullN n else if k.testBit (v - 6) then 18446744073709551615 else 0
theorem singW_lt (n v k : Nat) : singW n v k < 18446744073709551616 := by
  unfold singW
  split
  · exact Nat.lt_of_le_of_lt Nat.and_le_right (fullN_lt n)
  · split <;> omega
theorem testBit_div (x v k : Nat) (h : k ≤ v) : x.testBit v = (x / 2 ^ k).testBit (v - k) := by
  rw [Nat.testBit_div_two_pow]
  congr 1
  omega
theorem sing_ok {n v : Nat} (hn : n ≤ 16) (hv : v < n) : SOk n ((List.range (wordsN n)).map (singW n v)) := by
  refine SOk.made hn (fun k _ => singW_lt n v k) (fun j h1 h2 => ?_)
  unfold singW
  split
  · rw [Nat.testBit_and, fullN_bit n j h2, decide_eq_false (by omega), Bool.and_false]
  · rename_i h6
    exfalso
    have : 2 ^ 6 ≤ 2 ^ n := Nat.pow_le_pow_right (by omega) (by omega)
    omega
theorem sing_bit {n v x : Nat} (hv : v < n) (hx : x < 2 ^ n) : bitAt ((List.range (wordsN n)).map (singW n v)) x = x.testBit v := by
  have hm : x % 64 < 64 := Nat.mod_lt _ (by omega)
  rw [bitAt_range (idx_lt hx)]
  unfold singW
  by_cases h6 : v < 6
  · rw [if_pos h6, Nat.testBit_and, fullN_bit n _ hm, decide_eq_true (by have := Nat.mod_le x 64; omega), Bool.and_true]
    unfold colN
    rw [testBit_ofBits, decide_eq_true hm, Bool.true_and, show (64 : Nat) = 2 ^ 6 from rfl, Nat.testBit_mod_two_pow, decide_eq_true h6, Bool.true_and]
  · rw [if_neg h6, testBit_div x v 6 (by omega)]
    rw [show x / 2 ^ 6 = x / 64 from rfl]
    by_cases hb : (x / 64).testBit (v - 6) = true
    · rw [if_pos hb, hb, show (18446744073709551615 : Nat) = 2 ^ 64 - 1 from rfl, Nat.testBit_two_pow_sub_one, decide_eq_true hm]
    · rw [if_neg hb, Nat.zero_testBit]
      simpa using hb
set_option maxRecDepth 100000 in
set_option maxHeartbeats 4000000 in
theorem ssingle_any (n v : Nat) (hn : n ≤ 16) (hvn : v < n) (w : World) : Calls Tryz.prog 190 #[.int .i64 (n : Nat), .int .i64 (v : Nat)] w (SetRes w n ((List.range (wordsN n)).map (singW n v))) := by
  have hm := wordsN_le hn
  have HBL := Lib.hid (fun W => sblank_any n hn W)
  have HFU := Lib.hid (fun W => sfull_any n hn W)
  have HCO := Lib.hid (fun W => scolumn_any v (by omega) W)
  have hfl := fullN_lt n
  have hcl : colN v < 18446744073709551616 := ofBits_lt64 _ (Nat.le_refl _)
  have hand := u64_and_nat (colN v) (fullN n) hcl hfl
  obtain ⟨g, hg⟩ : ∃ g, g = singW n v := ⟨_, rfl⟩
  have HG := Lib.hid hg
  have hsmall : v < 6 → ∀ k, g k = colN v &&& fullN n := fun h k => by rw [hg]; unfold singW; rw [if_pos h]
  have hbig : ¬ v < 6 → ∀ k, g k = if k.testBit (v - 6) then 18446744073709551615 else 0 := fun h k => by rw [hg]; unfold singW; rw [if_neg h]
  have HSM := Lib.hid hsmall
  have HBG := Lib.hid hbig
  rw [← hg]
  unfold SetRes setV U at *
  generalize fullN n = f at *
  generalize colN v = c at *
  generalize wordsN n = m at *
  generalize hcf : c &&& f = cf at *
  clear hg hsmall hbig hcf
  have HBK := Lib.hid (Blk.new w 26 #[.int .i64 0, .slice none 0 0])
  have HB0 := Lib.hid ((Below.refl w.heap.size w).alloc (Nat.le_refl _) (.cells #[.int .i64 0, .slice none 0 0] 26))
  go_enter Tryz.func190, Tryz.ntmps190
  go_wp2_with fail
  refine (HBL.out _).mono ?_
  rintro e w1 ⟨b, rfl, hb, hown, hb1⟩
  rw [World.size_alloc] at hb
  have hs1 := hb1.size
  rw [World.size_alloc] at hs1
  have hblt := (hown.lt b rfl).2
  obtain ⟨V, hV⟩ : ∃ V, V = w1.alloc (.cells #[.int .i64 (n : Nat), .slice (some ⟨b, 0, none⟩) m m] 26) := ⟨_, rfl⟩
  have hbV := (HB0.out.trans (hb1.mono HB0.out.size)).alloc (by omega) (.cells #[.int .i64 (n : Nat), .slice (some ⟨b, 0, none⟩) m m] 26)
  have hR := (HBK.out.onB hb1).alloc (.cells #[.int .i64 (n : Nat), .slice (some ⟨b, 0, none⟩) m m] 26)
  have hO := Blk.new w1 26 #[.int .i64 (n : Nat), .slice (some ⟨b, 0, none⟩) m m]
  have hown' := (hown.mono (show w.heap.size ≤ _ by rw [World.size_alloc]; omega)).alloc (.cells #[.int .i64 (n : Nat), .slice (some ⟨b, 0, none⟩) m m] 26)
  rw [← hV] at hbV hR hO hown'
  rw [← filled_zero g] at hown'
  have HNE : Hid (w.heap.size + 1 ≤ b ∧ b < w1.heap.size) := Lib.hid ⟨hb, hblt⟩
  have HVV := Lib.hid hV
  have S := Lib.hid (And.intro hR (And.intro hO (And.intro hown' hbV)))
  clear hown hb1 hb hs1 hblt hV hbV hR hO hown'
  go_wp2_with fail
  rw [← HVV.out]
  go_loopw [12] (fun i wr => ∃ k : Nat, k ≤ m ∧ i = .int .i64 k ∧ Blk wr w.heap.size 26 #[.int .i64 0, .slice none 0 0] ∧ Blk wr w1.heap.size 26 #[.int .i64 (n : Nat), .slice (some ⟨b, 0, none⟩) m m] ∧
    OwnF (fun x : Nat => .int .u64 (x : Int)) 132 wr w.heap.size (.slice (some ⟨b, 0, none⟩) m m) (filled g m k) ∧ Below w.heap.size w wr) (fun i _ => m - (intOf i).toNat)
  case atStart => exact ⟨0, Nat.zero_le _, rfl, S.out.1, S.out.2.1, S.out.2.2.1, S.out.2.2.2⟩
  case round =>
    obtain ⟨k, hk, rfl, hR, hO, hown, hbw⟩ := hrel
    have R := Lib.hid (And.intro hR (And.intro hO (And.intro hown hbw)))
    by_cases hlt : k < m
    · have kO : wr.cell? ⟨w1.heap.size, 1, none⟩ = some (.slice (some ⟨b, 0, none⟩) m m) := hO.cell 1
      have hat := hown.at_ k (by rw [filled_length]; exact hlt)
      rw [filled_at _ _ _ _ hlt, if_neg (Nat.lt_irrefl _)] at hat
      have kc : wr.cell? ⟨b, k, none⟩ = some (.int .u64 0) := hat.1
      have kz : wr.frozen? ⟨b, k, none⟩ = false := hat.2
      clear hO hown hbw hR hat
      by_cases h6 : v < 6
      · have HGK := Lib.hid (HSM.out h6 k)
        go_wp2_with fail
        go_still_tail 9, (by kernel_rfl)
        still_call ((HCO.out _).mono fun _ _ ⟨a, b⟩ => ⟨a, b.symm⟩)
        repeat still_step
        still_call ((HFU.out _).mono fun _ _ ⟨a, b⟩ => ⟨a, b.symm⟩)
        repeat still_step
        refine wpStill_nil ?_
        go_wp2_with fail
        go_roundw
        case rel =>
          obtain ⟨hR, hO, hown, hbw⟩ := R.out
          have hst := hown.set_ k (g k)
          rw [filled_set _ _ _ hlt, HGK.out] at hst
          exact ⟨k + 1, by omega, by go_num, hR.store (by have := HNE.out; omega) k _, hO.store (by have := HNE.out; omega) k _, hst, (hbw.setCell (p := ⟨b, k, none⟩) (by have := HNE.out; simp only; omega) _).drew⟩
        case measure => simp [intOf]; omega
      · obtain ⟨u, rfl⟩ : ∃ u, v = u + 6 := ⟨v - 6, by omega⟩
        have hgk := HBG.out h6 k
        rw [Nat.add_sub_cancel] at hgk
        have hbt := bit_test k (by omega) (u : Int) (by omega)
        rw [Int.toNat_natCast] at hbt
        by_cases hbk : k.testBit u = true
        · rw [if_pos hbk] at hgk hbt
          have HGK := Lib.hid hgk
          clear hgk hbk
          go_wp2_with fail
          go_roundw
          case rel =>
            obtain ⟨hR, hO, hown, hbw⟩ := R.out
            have hst := hown.set_ k (g k)
            rw [filled_set _ _ _ hlt, HGK.out] at hst
            exact ⟨k + 1, by omega, by go_num, hR.store (by have := HNE.out; omega) k _, hO.store (by have := HNE.out; omega) k _, hst, (hbw.setCell (p := ⟨b, k, none⟩) (by have := HNE.out; simp only; omega) _)⟩
          case measure => simp [intOf]; omega
        · rw [if_neg hbk] at hgk hbt
          have HGK := Lib.hid hgk
          clear hgk hbk
          go_wp2_with fail
          go_roundw
          case rel =>
            obtain ⟨hR, hO, hown, hbw⟩ := R.out
            have hst : filled g m k = filled g m (k + 1) := by
              rw [← filled_set _ _ _ hlt, HGK.out]
              symm
              apply List.ext_getElem (by simp)
              intro i h1 h2
              rw [List.getElem_set]
              split
              · rename_i he
                subst he
                have h3 := filled_at g m k k hlt
                rw [List.getElem?_eq_getElem h2, if_neg (Nat.lt_irrefl _)] at h3
                injection h3 with h3
                exact h3.symm
              · rfl
            rw [hst] at hown
            exact ⟨k + 1, by omega, by go_num, hR, hO, hown, hbw⟩
          case measure => simp [intOf]; omega
    · obtain rfl : k = m := by omega
      have kO0 : wr.cell? ⟨w1.heap.size, 0, none⟩ = some (.int .i64 (n : Nat)) := hO.cell 0
      have kO1 : wr.cell? ⟨w1.heap.size, 1, none⟩ = some (.slice (some ⟨b, 0, none⟩) k k) := hO.cell 1
      have kR0 : wr.cell? ⟨w.heap.size, 0, none⟩ = some (.int .i64 0) := hR.cell 0
      have kR1 : wr.cell? ⟨w.heap.size, 1, none⟩ = some (.slice none 0 0) := hR.cell 1
      have z0 := hR.frozen 0
      have z1 := hR.frozen 1
      clear hR hO hown hbw
      go_wp2_with fail
      refine bodyPost_ret (v := .agg #[.int .i64 (n : Nat), .slice (some ⟨b, 0, none⟩) k k]) ?_ rfl ⟨b, rfl, by have := HNE.out; omega, ?_, by simp, ?_⟩
      · simp [results, Tryz.results190, go_sem, *]
      · obtain ⟨hR, hO, hown, hbw⟩ := R.out
        rw [filled_all] at hown
        exact (hown.set_below' (by have := HNE.out; simp only; omega) _).set_below' (by have := HNE.out; simp only; omega) _
      · obtain ⟨hR, hO, hown, hbw⟩ := R.out
        exact (hbw.setCell (Nat.le_refl _) _).setCell (Nat.le_refl _) _
end Go.Proofs.YtpjciaomhfeeeaaGreatDoor
end

section
namespace Go.Proofs.YtpjciaomhfeeeaaGreatDoor
open Go.RowKit
set_option linter.unusedSimpArgs false
set_option linter.unusedVariables false

end Go.Proofs.YtpjciaomhfeeeaaGreatDoor
end

section
namespace Go.Proofs.YtpjciaomhfeeeaaGreatDoor
open Go.RowKit Go.Sort
set_option linter.unusedSimpArgs false
set_option linter.unusedVariables false

theorem bit_val (x v : Nat) : x / 2 ^ v % 2 = (x.testBit v).toNat := by
  rw [Nat.testBit_eq_decide_div_mod_eq]
  by_cases h : x / 2 ^ v % 2 = 1
  · rw [decide_eq_true h, h]; rfl
  · rw [decide_eq_false h]
    have := Nat.mod_two_eq_zero_or_one (x / 2 ^ v)
    show _ = 0
    omega
/-- an assignment with a variable as 1 or 0 -/
def putV (x v b : Nat) : Nat := x - (x.testBit v).toNat * 2 ^ v + b * 2 ^ v
theorem bit_le (x v : Nat) : (x.testBit v).toNat * 2 ^ v ≤ x := by
  rw [← bit_val]
  have h1 := Nat.div_mul_le_self x (2 ^ v)
  have h2 : x / 2 ^ v % 2 ≤ x / 2 ^ v := Nat.mod_le _ _
  exact Nat.le_trans (Nat.mul_le_mul_right _ h2) h1
end Go.Proofs.YtpjciaomhfeeeaaGreatDoor
end
