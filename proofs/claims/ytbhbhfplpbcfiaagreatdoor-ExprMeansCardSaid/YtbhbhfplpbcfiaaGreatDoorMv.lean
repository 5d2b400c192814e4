/- Contracts: the document's whole, stop, bits, or (29). Contracts: the document's whole, split (29). -/
import Derived.Test.YtbhbhfplpbcfiaaGreatDoorMu
import Derived.Test.YtbhbhfplpbcfiaaGreatDoorMq
import Derived.Test.YtbhbhfplpbcfiaaGreatDoorMg
import Derived.Test.YtbhbhfplpbcfiaaGreatDoorMa
section
namespace Go.Proofs.YtbhbhfplpbcfiaaGreatDoor
open Go.RowKit Go.Sort
set_option linter.unusedSimpArgs false
set_option linter.unusedVariables false

/-- a slice of tokens: at address A, n of them -/
structure TkArg (w : World) (A : Option Addr) (n c : Nat) (L : List Tok) : Prop where
  len : L.length = n
  le : n ≤ c
  max : n ≤ 100000
  row : RowS 3 encT w w.heap.size A L
  n15 : ∀ t ∈ L, t.n ≤ 15
  kind : ∀ t ∈ L, t.kind ≤ 127
theorem TkArg.on {w w' : World} {A : Option Addr} {n c : Nat} {L : List Tok} (h : TkArg w A n c L) (hb : Below w.heap.size w w') : TkArg w' A n c L := ⟨h.len, h.le, h.max, h.row.on hb, h.n15, h.kind⟩
/-- the cells of the k-th token, in every later world -/
theorem TkArg.cells {w : World} {A : Option Addr} {n c : Nat} {L : List Tok} (h : TkArg w A n c L) {k : Nat} {t : Tok} (hk : L[k]? = some t) : ∃ b off, A = some ⟨b, off, none⟩ ∧ b < w.heap.size ∧
    w.cell? ⟨b, off + k * 3, none⟩ = some (.int .u8 (t.kind : Nat)) ∧ w.cell? ⟨b, off + k * 3 + 1, none⟩ = some (.int .i64 (t.n : Nat)) ∧ w.cell? ⟨b, off + k * 3 + 2, none⟩ = some (.int .i64 (t.at_ : Nat)) := by
  obtain ⟨b, off, e, hb, hc⟩ := h.row (List.length_pos_of_mem (List.mem_of_getElem? hk))
  have := hc k t hk
  exact ⟨b, off, e, hb, by simpa using this 0 _ rfl, this 1 _ rfl, this 2 _ rfl⟩
/-- the place of the first full stop -/
def stopT (L : List Tok) : Nat := L.findIdx fun t => t.kind == 46
set_option maxRecDepth 100000 in
set_option maxHeartbeats 8000000 in
theorem rstop_any (A : Option Addr) (n c : Nat) (L : List Tok) (w : World) (h : TkArg w A n c L) : Calls Tryz.prog 32 #[.slice A n c] w fun e w' => e = .returned (.int .i64 (stopT L : Nat)) ∧ w = w' := by
  have hn := h.max
  have hl := h.len
  have H := Lib.hid h
  clear h
  go_enter Tryz.func32, Tryz.ntmps32
  go_wp2_with fail
  go_loop [3] (fun i => ∃ k : Nat, k ≤ n ∧ i = .int .i64 (k : Nat) ∧ ∀ j t, j < k → L[j]? = some t → t.kind ≠ 46) (fun i => n - (intOf i).toNat)
  case atStart => exact ⟨0, Nat.zero_le _, rfl, fun j t hj => by omega⟩
  case round =>
    obtain ⟨k, hk, rfl, hall⟩ := hrel
    have HA := Lib.hid hall
    clear hall
    by_cases hk2 : k < n
    · obtain ⟨t, ht⟩ : ∃ t, L[k]? = some t := ⟨_, List.getElem?_eq_getElem (by omega)⟩
      obtain ⟨b, off, rfl, hb, q0, q1, q2⟩ := H.out.cells ht
      have hki : (k : Int) < (n : Int) := by omega
      have HT := Lib.hid ht
      clear ht
      by_cases h46 : t.kind = 46
      · have h1 : ((t.kind : Int) != 46) = false := by simp; omega
        have HS : Hid (stopT L = k) := Lib.hid (by
          unfold stopT
          rw [List.findIdx_eq (by omega)]
          have e := HT.out
          rw [List.getElem?_eq_getElem (by omega)] at e
          injection e with e
          refine ⟨by rw [e]; simpa using h46, fun j hj => ?_⟩
          have := HA.out j (L[j]'(by omega)) hj (List.getElem?_eq_getElem (by omega))
          simpa using this)
        go_wp2_with fail
        go_ret
        exact ⟨by rw [HS.out]; rfl, rfl⟩
      · have h1 : ((t.kind : Int) != 46) = true := by simp; omega
        go_wp2_with fail
        go_round
        case rel => exact ⟨k + 1, by omega, by go_num, fun j u hj hu => by
          rcases Nat.lt_or_ge j k with h | h
          · exact HA.out j u h hu
          · obtain rfl : j = k := by omega
            rw [HT.out] at hu
            injection hu with hu
            rw [← hu]
            exact h46⟩
        case measure => simp [intOf]; omega
    · have hkn : k = n := by omega
      have hki : ¬ (k : Int) < (n : Int) := by omega
      have hkd : decide ((k : Int) < (n : Int)) = false := by simpa using hki
      have HS : Hid (stopT L = k) := Lib.hid (by
        unfold stopT
        rw [List.findIdx_eq_length.2 (fun t ht => by
          obtain ⟨j, hj, rfl⟩ := List.getElem_of_mem ht
          have := HA.out j L[j] (by omega) (List.getElem?_eq_getElem hj)
          simpa using this)]
        omega)
      clear hkn
      go_wp2_with fail
      go_ret
      exact ⟨by rw [HS.out]; rfl, rfl⟩
/-- a bit put into bits -/
theorem put_or (m v : Nat) : putV m v 1 = m ||| 2 ^ v := by
  apply Nat.eq_of_testBit_eq
  intro j
  rw [show (1 : Nat) = true.toNat from rfl, putV_bit, Nat.testBit_or, Nat.testBit_two_pow]
  by_cases h : j = v
  · subst h; simp
  · rw [if_neg h]
    have : (decide (v = j)) = false := by simp; omega
    rw [this, Bool.or_false]
theorem bits_take {L : List Tok} {k : Nat} {t : Tok} (h : L[k]? = some t) : bitsT (L.take (k + 1)) = bitsT (L.take k) ||| (if t.kind = 118 then 2 ^ t.n else 0) := by
  rw [List.take_add_one, h, bits_app]
  congr 1
  show bitsT [t] = _
  rw [bits_cons]
  exact Nat.or_zero _
theorem bitsT_lt : ∀ (L : List Tok), (∀ t ∈ L, t.n ≤ 15) → bitsT L < 65536
  | [], _ => by decide
  | t :: L, h => by
    rw [bits_cons]
    refine or_lt16 ?_ (bitsT_lt L fun u hu => h u (by simp [hu]))
    split
    · exact pow_lt16 (h t (by simp))
    · decide
set_option maxRecDepth 100000 in
set_option maxHeartbeats 8000000 in
theorem rbits_any (A : Option Addr) (n c : Nat) (L : List Tok) (w : World) (h : TkArg w A n c L) : Calls Tryz.prog 34 #[.slice A n c] w fun e w' => e = .returned (.int .i64 (bitsT L : Nat)) ∧ w = w' := by
  have hn := h.max
  have hl := h.len
  have H := Lib.hid h
  clear h
  go_enter Tryz.func34, Tryz.ntmps34
  go_wp2_with fail
  go_loop [3, 4] (fun m i => ∃ k : Nat, k ≤ n ∧ m = .int .i64 (bitsT (L.take k) : Nat) ∧ i = .int .i64 (k : Nat)) (fun m i => n - (intOf i).toNat)
  case atStart => exact ⟨0, Nat.zero_le _, rfl, rfl⟩
  case round =>
    obtain ⟨k, hk, rfl, rfl⟩ := hrel
    by_cases hk2 : k < n
    · obtain ⟨t, ht⟩ : ∃ t, L[k]? = some t := ⟨_, List.getElem?_eq_getElem (by omega)⟩
      obtain ⟨b, off, rfl, hb, q0, q1, q2⟩ := H.out.cells ht
      have hki : (k : Int) < (n : Int) := by omega
      have HT := Lib.hid (bits_take ht)
      have hlt := bitsT_lt (L.take k) fun u hu => H.out.n15 u (List.mem_of_mem_take hu)
      have h15 : t.n ≤ 15 := H.out.n15 t (List.mem_of_getElem? ht)
      have HP := Lib.hid (fun W => rput_any (bitsT (L.take k)) t.n 1 (by omega) (by omega) (by omega) W)
      rw [put_or] at HP
      clear ht
      by_cases h118 : t.kind = 118
      · have h1 : (t.kind : Int) = 118 := by omega
        go_wp2_with fail
        refine (HP.out _).mono ?_
        rintro e w1 ⟨rfl, rfl⟩
        go_wp2_with fail
        go_round
        case rel => exact ⟨k + 1, by omega, by rw [HT.out, if_pos h118], by go_num⟩
        case measure => simp [intOf]; omega
      · have h1 : ¬ (t.kind : Int) = 118 := by omega
        go_wp2_with fail
        go_round
        case rel => exact ⟨k + 1, by omega, by rw [HT.out, if_neg h118, Nat.or_zero], by go_num⟩
        case measure => simp [intOf]; omega
    · have hkn : k = n := by omega
      have hki : ¬ (k : Int) < (n : Int) := by omega
      have HS : Hid (bitsT (L.take k) = bitsT L) := Lib.hid (by rw [hkn, ← hl, List.take_length])
      clear hkn
      go_wp2_with fail
      go_ret
      exact ⟨by rw [HS.out]; rfl, rfl⟩
/-- the first k bits of b, put into a; or taken out -/
def orK (a b k : Nat) : Nat := a ||| (b % 2 ^ k)
theorem mod_step (b k : Nat) : b % 2 ^ (k + 1) = (b % 2 ^ k) ||| (if b.testBit k then 2 ^ k else 0) := by
  apply Nat.eq_of_testBit_eq
  intro j
  rw [Nat.testBit_or, Nat.testBit_mod_two_pow, Nat.testBit_mod_two_pow]
  by_cases hj : j = k
  · subst hj
    cases h : b.testBit j <;> simp [Nat.testBit_two_pow]
  · by_cases h1 : j < k
    · have : (if b.testBit k then 2 ^ k else 0).testBit j = false := by
        split
        · rw [Nat.testBit_two_pow]; simp; omega
        · simp
      rw [this, decide_eq_true h1, decide_eq_true (show j < k + 1 by omega), Bool.or_false]
    · have : (if b.testBit k then 2 ^ k else 0).testBit j = false := by
        split
        · rw [Nat.testBit_two_pow]; simp; omega
        · simp
      rw [this, decide_eq_false h1, decide_eq_false (show ¬ j < k + 1 by omega)]
      simp
def cutK (a b k : Nat) : Nat := cutN a (b % 2 ^ k)
theorem orK_step (a b k : Nat) : orK a b (k + 1) = if b.testBit k then putV (orK a b k) k 1 else orK a b k := by
  unfold orK
  rw [mod_step, ← Nat.or_assoc]
  split
  · rw [put_or]
  · rw [Nat.or_zero]
theorem cutN_bit (a m j : Nat) : (cutN a m).testBit j = (a.testBit j && !m.testBit j) := by
  unfold cutN
  rw [Nat.testBit_xor, Nat.testBit_and]
  cases a.testBit j <;> cases m.testBit j <;> rfl
theorem cutK_step (a b k : Nat) : cutK a b (k + 1) = if b.testBit k then putV (cutK a b k) k 0 else cutK a b k := by
  apply Nat.eq_of_testBit_eq
  intro j
  unfold cutK
  rw [cutN_bit, mod_step, Nat.testBit_or]
  cases h : b.testBit k with
  | false => rw [if_neg (by simp), if_neg (by simp), cutN_bit]; simp
  | true =>
    rw [if_pos rfl, if_pos rfl, show (0 : Nat) = false.toNat from rfl, putV_bit, cutN_bit, Nat.testBit_two_pow]
    by_cases hj : j = k
    · subst hj; simp
    · rw [if_neg hj]
      have : decide (k = j) = false := by simp; omega
      rw [this, Bool.or_false]
set_option maxRecDepth 100000 in
set_option maxHeartbeats 8000000 in
theorem ror_any (a b : Nat) (ha : a < 65536) (hb : b < 65536) (without : Bool) (w : World) : Calls Tryz.prog 35 #[.int .i64 (a : Nat), .int .i64 (b : Nat), .bool without] w fun e w' => e = .returned (.int .i64 (if without then cutN a b else a ||| b : Nat)) ∧ w = w' := by
  obtain ⟨F, hF⟩ : ∃ F : Nat → Nat, F = fun k => if without then cutK a b k else orK a b k := ⟨_, rfl⟩
  have F0 : F 0 = a := by rw [hF]; cases without <;> simp [cutK, orK, cutN, Nat.mod_one]
  have Fs : ∀ k, F (k + 1) = if b.testBit k then putV (F k) k (if without then 0 else 1) else F k := fun k => by
    rw [hF]
    cases without
    · simpa using orK_step a b k
    · simpa using cutK_step a b k
  have F16 : F 16 = if without then cutN a b else a ||| b := by rw [hF]; cases without <;> simp [cutK, orK, Nat.mod_eq_of_lt hb]
  have Flt : ∀ k, F k < 65536 := fun k => by
    rw [hF]
    cases without
    · exact or_lt16 ha (Nat.lt_of_le_of_lt (Nat.mod_le _ _) hb)
    · exact cut_lt ha
  have HF0 := Lib.hid F0
  have HFs := Lib.hid Fs
  have HF16 := Lib.hid F16
  have HFl := Lib.hid Flt
  have HV := Lib.hid (fun k W hk => rvalue_any b k (by omega) hk W)
  clear hF F0 Fs F16 Flt
  go_enter Tryz.func35, Tryz.ntmps35
  go_wp2_with fail
  go_loop [7, 8] (fun m i => ∃ k : Nat, k ≤ 16 ∧ m = .int .i64 (F k : Nat) ∧ i = .int .i64 (k : Nat)) (fun m i => 16 - (intOf i).toNat)
  case atStart => exact ⟨0, Nat.zero_le _, by rw [HF0.out], rfl⟩
  case round =>
    obtain ⟨k, hk, rfl, rfl⟩ := hrel
    by_cases hk2 : k < 16
    · have hki : (k : Int) < 16 := by omega
      have hlt := HFl.out k
      have HP0 := Lib.hid (fun W => rput_any (F k) k 0 (by omega) (by omega) (by omega) W)
      have HP1 := Lib.hid (fun W => rput_any (F k) k 1 (by omega) (by omega) (by omega) W)
      have HST := Lib.hid (HFs.out k)
      cases hbit : b.testBit k <;> cases without
      all_goals
        have HVk := Lib.hid (fun W => HV.out k W (by omega))
        rw [hbit] at HVk HST
        simp only [Bool.toNat_true, Bool.toNat_false, if_true, if_false, Bool.false_eq_true] at HVk HST
        clear hbit
        go_wp2_with fail
        refine (HVk.out _).mono ?_
        rintro e w1 ⟨rfl, rfl⟩
        go_wp2_with fail
      · refine (HVk.out _).mono ?_
        rintro e w1 ⟨rfl, rfl⟩
        go_wp2_with fail
        go_round
        case rel => exact ⟨k + 1, by omega, by rw [HST.out], by go_num⟩
        case measure => simp [intOf]; omega
      · refine (HVk.out _).mono ?_
        rintro e w1 ⟨rfl, rfl⟩
        go_wp2_with fail
        go_round
        case rel => exact ⟨k + 1, by omega, by rw [HST.out], by go_num⟩
        case measure => simp [intOf]; omega
      · refine (HVk.out _).mono ?_
        rintro e w1 ⟨rfl, rfl⟩
        go_wp2_with fail
        refine (HP1.out _).mono ?_
        rintro e w1 ⟨rfl, rfl⟩
        go_wp2_with fail
        go_round
        case rel => exact ⟨k + 1, by omega, by rw [HST.out], by go_num⟩
        case measure => simp [intOf]; omega
      · refine (HP0.out _).mono ?_
        rintro e w1 ⟨rfl, rfl⟩
        go_wp2_with fail
        refine (HVk.out _).mono ?_
        rintro e w1 ⟨rfl, rfl⟩
        go_wp2_with fail
        go_round
        case rel => exact ⟨k + 1, by omega, by rw [HST.out], by go_num⟩
        case measure => simp [intOf]; omega
    · obtain rfl : k = 16 := by omega
      cases without
      all_goals
        have H16 := HF16.out
        simp only [if_true, if_false, Bool.false_eq_true] at H16
        go_wp2_with fail
        go_ret
        exact ⟨by rw [← H16]; rfl, rfl⟩
end Go.Proofs.YtbhbhfplpbcfiaaGreatDoor
end

section
namespace Go.Proofs.YtbhbhfplpbcfiaaGreatDoor
open Go.RowKit Go.Sort
set_option linter.unusedSimpArgs false
set_option linter.unusedVariables false

abbrev u8V (k : Nat) : Value := .int .u8 (k : Nat)
abbrev OwnB := OwnF u8V 5
/-- the first m of them -/
theorem OwnF.cutT {α : Type} {f : α → Value} {E : TypeId} {w : World} {base n c m : Nat} {A : Option Addr} {xs : List α} (h : OwnF f E w base (.slice A n c) xs) (hm : m ≤ n) (hA : A ≠ none) : OwnF f E w base (.slice A m c) (xs.take m) := by
  obtain ⟨A', n', c', e, e1, e2⟩ := h.form
  injection e with ea eb ec
  subst ea eb ec
  have hlen : (xs.take m).length = m := by simp; omega
  rcases h with ⟨hl, ⟨h1, h2⟩ | ⟨g, cap, cur, h1, hg, hh, hn, hcap, hsz, ht⟩⟩
  · injection h1 with h1; exact absurd h1 hA
  · injection h1 with ha hb hc
    subst ha hc
    refine ⟨by simp, .inr ⟨g, c, cur, by rw [hlen], hg, hh, by rw [hlen]; omega, hcap, hsz, ?_⟩⟩
    rw [hlen, List.map_take, ← ht, List.take_take]
    congr 1
    omega
set_option maxRecDepth 100000 in
set_option maxHeartbeats 8000000 in
theorem rwhole_any (A : Option Addr) (n c base : Nat) (xs : List Nat) (w : World) (h : OwnB w base (.slice A n c) xs) : Calls Tryz.prog 61 #[.slice A n c] w fun e w' => (∃ m, m ≤ n ∧ e = .returned (.slice A m c) ∧ (xs.take m).reverse = whole xs.reverse) ∧ w = w' := by
  obtain ⟨A', n', c', e, e1, e2⟩ := h.form
  injection e with ea eb ec
  subst ea eb ec
  have hnm : n ≤ 9223372036854775807 := by have := h.len_le; omega
  have hl : xs.length = n := e1
  have H := Lib.hid h
  clear h e1
  go_enter Tryz.func61, Tryz.ntmps61
  go_wp2_with fail
  go_loop [0] (fun v => ∃ m : Nat, m ≤ n ∧ v = .slice A m c ∧ whole (xs.take m).reverse = whole xs.reverse) (fun v => lenOf v)
  case atStart => exact ⟨n, Nat.le_refl _, rfl, by rw [← hl, List.take_length]⟩
  case round =>
    obtain ⟨m, hm, rfl, hw⟩ := hrel
    have HW := Lib.hid hw
    clear hw
    by_cases h0 : m = 0
    · subst h0
      go_wp2_with fail
      refine bodyPost_ret (v := .slice A 0 c) (by simp [results, Tryz.results61, go_sem, *]) rfl ⟨⟨0, Nat.zero_le _, rfl, ?_⟩, rfl⟩
      rw [← HW.out]
      rfl
    · obtain ⟨q, rfl⟩ : ∃ q, m = q + 1 := ⟨m - 1, by omega⟩
      obtain ⟨g, cap, hg, _, _, _⟩ := H.out.head (by omega)
      injection hg with e1 e2' e3
      subst e1 e3
      clear e2'
      obtain ⟨v, hv⟩ : ∃ v, xs[q]? = some v := ⟨_, List.getElem?_eq_getElem (by omega)⟩
      have q0 : w.cell? ⟨g, q, none⟩ = some (.int .u8 (v : Nat)) := by have := (OwnF.at_ H.out q (by omega)).1; rw [hv] at this; exact this
      have HT : Hid ((xs.take (q + 1)).reverse = v :: (xs.take q).reverse) := Lib.hid (by rw [List.take_add_one, hv]; simp)
      clear hv
      have hp : (0 : Int) < ((q + 1 : Nat) : Int) := by omega
      by_cases h33 : v = 33
      · have h1 : (v : Int) = 33 := by omega
        go_wp2_with fail
        exact ⟨⟨q, by omega, rfl, by rw [← HW.out, HT.out, h33, whole, if_pos rfl]⟩, by simp [lenOf]⟩
      · have h1 : ((v : Int) == 33) = false := by simp; omega
        go_wp2_with fail
        refine bodyPost_ret (v := .slice (some ⟨g, 0, none⟩) (q + 1) c) (by simp [results, Tryz.results61, go_sem, *]) rfl ⟨⟨q + 1, hm, rfl, ?_⟩, rfl⟩
        rw [← HW.out, HT.out, whole, if_neg h33]
/-- what the search for one operator gives -/
def scanV (a : Option Nat) : Int := match a with | some i => i | none => -1
theorem scan_step (k : Nat) (t : Tok) (l : List Tok) (i : Nat) (d : Int) (a : Option Nat) : scan k (t :: l) i d a = (if t.kind = 40 then scan k l (i + 1) (d + 1) a else if t.kind = 41 then scan k l (i + 1) (d - 1) a else if t.kind = k ∧ d = 0 ∧ (a = none ∨ k ≠ 62) then scan k l (i + 1) d (some i) else scan k l (i + 1) d a) := rfl
/-- the sign of a rank, counted from 0 -/
def sgn0 (r : Nat) : Nat := if r = 0 then 61 else if r = 1 then 62 else if r = 2 then 94 else if r = 3 then 124 else 38
/-- the place at which tokens are split, when the first r operators were not found -/
def splitF (C : List Tok) : Nat → Option Nat
  | 0 => none
  | r + 1 => match splitF C r with | some a => some a | none => (scan (sgn0 r) C 0 0 none).1
theorem splitF_5 (C : List Tok) : splitF C 5 = splitT C := by
  unfold splitT
  simp only [splitF, show sgn0 0 = 61 from rfl, show sgn0 1 = 62 from rfl, show sgn0 2 = 94 from rfl, show sgn0 3 = 124 from rfl, show sgn0 4 = 38 from rfl]
  cases (scan 61 C 0 0 none).1 <;> cases (scan 62 C 0 0 none).1 <;> cases (scan 94 C 0 0 none).1 <;> cases (scan 124 C 0 0 none).1 <;> rfl
theorem splitF_some {C : List Tok} {r a : Nat} (hr : r ≤ 5) (h : splitF C r = some a) : splitT C = some a := by
  rw [← splitF_5]
  have : ∀ k, splitF C (r + k) = some a := fun k => by
    induction k with
    | zero => exact h
    | succ k ih => rw [← Nat.add_assoc, splitF, ih]
  have h2 := this (5 - r)
  rwa [show r + (5 - r) = 5 by omega] at h2
theorem scan_lt (k : Nat) : ∀ (l : List Tok) (i : Nat) (d : Int) (a : Option Nat) (j : Nat), (scan k l i d a).1 = some j → a = some j ∨ (i ≤ j ∧ j < i + l.length)
  | [], i, d, a, j, h => .inl h
  | t :: l, i, d, a, j, h => by
    rw [scan_step] at h
    have go : ∀ d' a', (scan k l (i + 1) d' a').1 = some j → a' = some j ∨ (i + 1 ≤ j ∧ j < i + 1 + l.length) := fun d' a' h' => scan_lt k l (i + 1) d' a' j h'
    simp only [List.length_cons]
    split at h
    · rcases go _ _ h with h | h
      · exact .inl h
      · exact .inr (by omega)
    · split at h
      · rcases go _ _ h with h | h
        · exact .inl h
        · exact .inr (by omega)
      · split at h
        · rcases go _ _ h with h | h
          · injection h with h; exact .inr (by omega)
          · exact .inr (by omega)
        · rcases go _ _ h with h | h
          · exact .inl h
          · exact .inr (by omega)
set_option maxRecDepth 100000 in
set_option maxHeartbeats 16000000 in
theorem rsplit_any (A : Option Addr) (n c : Nat) (L : List Tok) (w : World) (h : TkArg w A n c L) : Calls Tryz.prog 31 #[.slice A n c] w fun e w' => e = .returned (.int .i64 (scanV (splitT L))) ∧ w = w' := by
  have hn := h.max
  have hl := h.len
  have H := Lib.hid h
  clear h
  go_enter Tryz.func31, Tryz.ntmps31
  go_wp2_with fail
  go_loop [4] (fun i => ∃ r : Nat, r ≤ 5 ∧ i = .int .i64 (r : Nat) ∧ splitF L r = none) (fun i => 5 - (intOf i).toNat)
  case atStart => exact ⟨0, Nat.zero_le _, rfl, rfl⟩
  case round =>
    obtain ⟨r, hr, rfl, hnone⟩ := hrel
    have HN := Lib.hid hnone
    clear hnone
    by_cases hr5 : r = 5
    · subst hr5
      have HS : Hid (splitT L = none) := Lib.hid (by rw [← splitF_5]; exact HN.out)
      go_wp2_with fail
      go_ret
      exact ⟨by rw [HS.out]; rfl, rfl⟩
    · have HST : Hid (splitF L (r + 1) = (scan (sgn0 r) L 0 0 none).1) := Lib.hid (by rw [splitF, HN.out])
      rcases (show r = 0 ∨ r = 1 ∨ r = 2 ∨ r = 3 ∨ r = 4 by omega) with rfl | rfl | rfl | rfl | rfl
      · have hix : ((⟨#[61, 62, 94, 124, 38]⟩ : ByteArray)[0]'(by decide)).toNat = 61 := rfl
        have HST : Hid (splitF L (0 + 1) = (scan 61 L 0 0 none).1) := HST
        go_wp2_with fail
        go_loop [5, 6, 7] (fun at_ dp ix => ∃ (i : Nat) (d : Int) (a : Option Nat), i ≤ n ∧ at_ = .int .i64 (scanV a) ∧ dp = .int .i64 d ∧ ix = .int .i64 (i : Nat) ∧ scan 61 L 0 0 none = scan 61 (L.drop i) i d a ∧ -(i : Int) ≤ d ∧ d ≤ i ∧ (∀ j, a = some j → j < n)) (fun _ _ ix => n - (intOf ix).toNat)
        case atStart => exact ⟨0, 0, none, Nat.zero_le _, rfl, rfl, rfl, by simp, by simp, by simp, fun j h => by cases h⟩
        case round =>
          obtain ⟨i, d, a, hi, rfl, rfl, rfl, hsc, hd1, hd2, haj⟩ := hrel
          have HSC := Lib.hid hsc
          have HAJ := Lib.hid haj
          clear hsc haj
          by_cases hin : i < n
          · obtain ⟨t, ht⟩ : ∃ t, L[i]? = some t := ⟨_, List.getElem?_eq_getElem (by omega)⟩
            obtain ⟨b, off, rfl, hb, q0, q1, q2⟩ := H.out.cells ht
            have hii : (i : Int) < (n : Int) := by omega
            have HD : Hid (scan 61 L 0 0 none = if t.kind = 40 then scan 61 (L.drop (i + 1)) (i + 1) (d + 1) a else if t.kind = 41 then scan 61 (L.drop (i + 1)) (i + 1) (d - 1) a else if t.kind = 61 ∧ d = 0 ∧ (a = none ∨ 61 ≠ 62) then scan 61 (L.drop (i + 1)) (i + 1) d (some i) else scan 61 (L.drop (i + 1)) (i + 1) d a) := Lib.hid (by
              rw [HSC.out]
              have e : L.drop i = t :: L.drop (i + 1) := by
                rw [List.drop_eq_getElem_cons (by omega)]
                rw [List.getElem?_eq_getElem (by omega)] at ht
                injection ht with ht
                rw [ht]
              rw [e, scan_step])
            clear ht
            by_cases h40 : t.kind = 40
            · have h1 : (t.kind : Int) = 40 := by omega
              go_wp2_with fail
              go_round
              case rel => exact ⟨i + 1, d + 1, a, by omega, rfl, by go_num, by go_num, by rw [HD.out, if_pos h40], by omega, by omega, HAJ.out⟩
              case measure => simp [intOf]; omega
            by_cases h41 : t.kind = 41
            · have h1 : (t.kind : Int) = 41 := by omega
              go_wp2_with fail
              go_round
              case rel => exact ⟨i + 1, d - 1, a, by omega, rfl, by go_num, by go_num, by rw [HD.out, if_neg h40, if_pos h41], by omega, by omega, HAJ.out⟩
              case measure => simp [intOf]; omega
            have h1 : ((t.kind : Int) == 40) = false := by simp; omega
            have h2 : ((t.kind : Int) == 41) = false := by simp; omega
            by_cases hs : t.kind = 61
            · have h3 : ((t.kind : Int) == 61) = true := by simp; omega
              by_cases hd0 : d = 0
              · subst hd0
                cases a with
                | none =>
                  have hsv : scanV none = -1 := rfl
                  go_wp2_with fail
                  go_round
                  case rel => exact ⟨i + 1, 0, some i, by omega, rfl, by go_num, by go_num, by rw [HD.out, if_neg h40, if_neg h41, if_pos ⟨hs, rfl, .inl rfl⟩], by omega, by omega, fun j h => by injection h with h; omega⟩
                  case measure => simp [intOf]; omega
                | some j =>
                  have hsv : scanV (some j) = (j : Int) := rfl
                  have hj0 : ¬ ((j : Int) < 0) := by omega
                  go_wp2_with fail
                  go_round
                  case rel => exact ⟨i + 1, 0, some i, by omega, rfl, by go_num, by go_num, by rw [HD.out, if_neg h40, if_neg h41, if_pos ⟨hs, rfl, .inr (by omega)⟩], by omega, by omega, fun j h => by injection h with h; omega⟩
                  case measure => simp [intOf]; omega
              · have hd3 : (d == 0) = false := by simpa using hd0
                go_wp2_with fail
                go_round
                case rel => exact ⟨i + 1, d, a, by omega, rfl, by go_num, by go_num, by rw [HD.out, if_neg h40, if_neg h41, if_neg (by omega)], by omega, by omega, HAJ.out⟩
                case measure => simp [intOf]; omega
            · have h3 : ((t.kind : Int) == 61) = false := by simp; omega
              go_wp2_with fail
              go_round
              case rel => exact ⟨i + 1, d, a, by omega, rfl, by go_num, by go_num, by rw [HD.out, if_neg h40, if_neg h41, if_neg (by omega)], by omega, by omega, HAJ.out⟩
              case measure => simp [intOf]; omega
          · have hni : i = n := by omega
            have hii : ¬ (i : Int) < (n : Int) := by omega
            have HE : Hid (splitF L (0 + 1) = a) := Lib.hid (by rw [HST.out, HSC.out, List.drop_eq_nil_of_le (by omega)]; rfl)
            clear hni
            cases a with
            | none =>
              have hsv : scanV none = -1 := rfl
              go_wp2_with fail
              go_round
              case rel => exact ⟨1, by omega, rfl, HE.out⟩
              case measure => simp [intOf]
            | some j =>
              have hsv : scanV (some j) = (j : Int) := rfl
              have hj0 : (0 : Int) ≤ (j : Int) := by omega
              have HS : Hid (splitT L = some j) := Lib.hid (splitF_some (by omega) HE.out)
              go_wp2_with fail
              go_ret
              exact ⟨by rw [HS.out]; rfl, rfl⟩
      · have hix : ((⟨#[61, 62, 94, 124, 38]⟩ : ByteArray)[1]'(by decide)).toNat = 62 := rfl
        have HST : Hid (splitF L (1 + 1) = (scan 62 L 0 0 none).1) := HST
        go_wp2_with fail
        go_loop [5, 6, 7] (fun at_ dp ix => ∃ (i : Nat) (d : Int) (a : Option Nat), i ≤ n ∧ at_ = .int .i64 (scanV a) ∧ dp = .int .i64 d ∧ ix = .int .i64 (i : Nat) ∧ scan 62 L 0 0 none = scan 62 (L.drop i) i d a ∧ -(i : Int) ≤ d ∧ d ≤ i ∧ (∀ j, a = some j → j < n)) (fun _ _ ix => n - (intOf ix).toNat)
        case atStart => exact ⟨0, 0, none, Nat.zero_le _, rfl, rfl, rfl, by simp, by simp, by simp, fun j h => by cases h⟩
        case round =>
          obtain ⟨i, d, a, hi, rfl, rfl, rfl, hsc, hd1, hd2, haj⟩ := hrel
          have HSC := Lib.hid hsc
          have HAJ := Lib.hid haj
          clear hsc haj
          by_cases hin : i < n
          · obtain ⟨t, ht⟩ : ∃ t, L[i]? = some t := ⟨_, List.getElem?_eq_getElem (by omega)⟩
            obtain ⟨b, off, rfl, hb, q0, q1, q2⟩ := H.out.cells ht
            have hii : (i : Int) < (n : Int) := by omega
            have HD : Hid (scan 62 L 0 0 none = if t.kind = 40 then scan 62 (L.drop (i + 1)) (i + 1) (d + 1) a else if t.kind = 41 then scan 62 (L.drop (i + 1)) (i + 1) (d - 1) a else if t.kind = 62 ∧ d = 0 ∧ (a = none ∨ 62 ≠ 62) then scan 62 (L.drop (i + 1)) (i + 1) d (some i) else scan 62 (L.drop (i + 1)) (i + 1) d a) := Lib.hid (by
              rw [HSC.out]
              have e : L.drop i = t :: L.drop (i + 1) := by
                rw [List.drop_eq_getElem_cons (by omega)]
                rw [List.getElem?_eq_getElem (by omega)] at ht
                injection ht with ht
                rw [ht]
              rw [e, scan_step])
            clear ht
            by_cases h40 : t.kind = 40
            · have h1 : (t.kind : Int) = 40 := by omega
              go_wp2_with fail
              go_round
              case rel => exact ⟨i + 1, d + 1, a, by omega, rfl, by go_num, by go_num, by rw [HD.out, if_pos h40], by omega, by omega, HAJ.out⟩
              case measure => simp [intOf]; omega
            by_cases h41 : t.kind = 41
            · have h1 : (t.kind : Int) = 41 := by omega
              go_wp2_with fail
              go_round
              case rel => exact ⟨i + 1, d - 1, a, by omega, rfl, by go_num, by go_num, by rw [HD.out, if_neg h40, if_pos h41], by omega, by omega, HAJ.out⟩
              case measure => simp [intOf]; omega
            have h1 : ((t.kind : Int) == 40) = false := by simp; omega
            have h2 : ((t.kind : Int) == 41) = false := by simp; omega
            by_cases hs : t.kind = 62
            · have h3 : ((t.kind : Int) == 62) = true := by simp; omega
              by_cases hd0 : d = 0
              · subst hd0
                cases a with
                | none =>
                  have hsv : scanV none = -1 := rfl
                  go_wp2_with fail
                  go_round
                  case rel => exact ⟨i + 1, 0, some i, by omega, rfl, by go_num, by go_num, by rw [HD.out, if_neg h40, if_neg h41, if_pos ⟨hs, rfl, .inl rfl⟩], by omega, by omega, fun j h => by injection h with h; omega⟩
                  case measure => simp [intOf]; omega
                | some j =>
                  have hsv : scanV (some j) = (j : Int) := rfl
                  have hj0 : ¬ ((j : Int) < 0) := by omega
                  go_wp2_with fail
                  go_round
                  case rel => exact ⟨i + 1, 0, some j, by omega, rfl, by go_num, by go_num, by rw [HD.out, if_neg h40, if_neg h41, if_neg (by simp)], by omega, by omega, HAJ.out⟩
                  case measure => simp [intOf]; omega
              · have hd3 : (d == 0) = false := by simpa using hd0
                go_wp2_with fail
                go_round
                case rel => exact ⟨i + 1, d, a, by omega, rfl, by go_num, by go_num, by rw [HD.out, if_neg h40, if_neg h41, if_neg (by omega)], by omega, by omega, HAJ.out⟩
                case measure => simp [intOf]; omega
            · have h3 : ((t.kind : Int) == 62) = false := by simp; omega
              go_wp2_with fail
              go_round
              case rel => exact ⟨i + 1, d, a, by omega, rfl, by go_num, by go_num, by rw [HD.out, if_neg h40, if_neg h41, if_neg (by omega)], by omega, by omega, HAJ.out⟩
              case measure => simp [intOf]; omega
          · have hni : i = n := by omega
            have hii : ¬ (i : Int) < (n : Int) := by omega
            have HE : Hid (splitF L (1 + 1) = a) := Lib.hid (by rw [HST.out, HSC.out, List.drop_eq_nil_of_le (by omega)]; rfl)
            clear hni
            cases a with
            | none =>
              have hsv : scanV none = -1 := rfl
              go_wp2_with fail
              go_round
              case rel => exact ⟨2, by omega, rfl, HE.out⟩
              case measure => simp [intOf]
            | some j =>
              have hsv : scanV (some j) = (j : Int) := rfl
              have hj0 : (0 : Int) ≤ (j : Int) := by omega
              have HS : Hid (splitT L = some j) := Lib.hid (splitF_some (by omega) HE.out)
              go_wp2_with fail
              go_ret
              exact ⟨by rw [HS.out]; rfl, rfl⟩
      · have hix : ((⟨#[61, 62, 94, 124, 38]⟩ : ByteArray)[2]'(by decide)).toNat = 94 := rfl
        have HST : Hid (splitF L (2 + 1) = (scan 94 L 0 0 none).1) := HST
        go_wp2_with fail
        go_loop [5, 6, 7] (fun at_ dp ix => ∃ (i : Nat) (d : Int) (a : Option Nat), i ≤ n ∧ at_ = .int .i64 (scanV a) ∧ dp = .int .i64 d ∧ ix = .int .i64 (i : Nat) ∧ scan 94 L 0 0 none = scan 94 (L.drop i) i d a ∧ -(i : Int) ≤ d ∧ d ≤ i ∧ (∀ j, a = some j → j < n)) (fun _ _ ix => n - (intOf ix).toNat)
        case atStart => exact ⟨0, 0, none, Nat.zero_le _, rfl, rfl, rfl, by simp, by simp, by simp, fun j h => by cases h⟩
        case round =>
          obtain ⟨i, d, a, hi, rfl, rfl, rfl, hsc, hd1, hd2, haj⟩ := hrel
          have HSC := Lib.hid hsc
          have HAJ := Lib.hid haj
          clear hsc haj
          by_cases hin : i < n
          · obtain ⟨t, ht⟩ : ∃ t, L[i]? = some t := ⟨_, List.getElem?_eq_getElem (by omega)⟩
            obtain ⟨b, off, rfl, hb, q0, q1, q2⟩ := H.out.cells ht
            have hii : (i : Int) < (n : Int) := by omega
            have HD : Hid (scan 94 L 0 0 none = if t.kind = 40 then scan 94 (L.drop (i + 1)) (i + 1) (d + 1) a else if t.kind = 41 then scan 94 (L.drop (i + 1)) (i + 1) (d - 1) a else if t.kind = 94 ∧ d = 0 ∧ (a = none ∨ 94 ≠ 62) then scan 94 (L.drop (i + 1)) (i + 1) d (some i) else scan 94 (L.drop (i + 1)) (i + 1) d a) := Lib.hid (by
              rw [HSC.out]
              have e : L.drop i = t :: L.drop (i + 1) := by
                rw [List.drop_eq_getElem_cons (by omega)]
                rw [List.getElem?_eq_getElem (by omega)] at ht
                injection ht with ht
                rw [ht]
              rw [e, scan_step])
            clear ht
            by_cases h40 : t.kind = 40
            · have h1 : (t.kind : Int) = 40 := by omega
              go_wp2_with fail
              go_round
              case rel => exact ⟨i + 1, d + 1, a, by omega, rfl, by go_num, by go_num, by rw [HD.out, if_pos h40], by omega, by omega, HAJ.out⟩
              case measure => simp [intOf]; omega
            by_cases h41 : t.kind = 41
            · have h1 : (t.kind : Int) = 41 := by omega
              go_wp2_with fail
              go_round
              case rel => exact ⟨i + 1, d - 1, a, by omega, rfl, by go_num, by go_num, by rw [HD.out, if_neg h40, if_pos h41], by omega, by omega, HAJ.out⟩
              case measure => simp [intOf]; omega
            have h1 : ((t.kind : Int) == 40) = false := by simp; omega
            have h2 : ((t.kind : Int) == 41) = false := by simp; omega
            by_cases hs : t.kind = 94
            · have h3 : ((t.kind : Int) == 94) = true := by simp; omega
              by_cases hd0 : d = 0
              · subst hd0
                cases a with
                | none =>
                  have hsv : scanV none = -1 := rfl
                  go_wp2_with fail
                  go_round
                  case rel => exact ⟨i + 1, 0, some i, by omega, rfl, by go_num, by go_num, by rw [HD.out, if_neg h40, if_neg h41, if_pos ⟨hs, rfl, .inl rfl⟩], by omega, by omega, fun j h => by injection h with h; omega⟩
                  case measure => simp [intOf]; omega
                | some j =>
                  have hsv : scanV (some j) = (j : Int) := rfl
                  have hj0 : ¬ ((j : Int) < 0) := by omega
                  go_wp2_with fail
                  go_round
                  case rel => exact ⟨i + 1, 0, some i, by omega, rfl, by go_num, by go_num, by rw [HD.out, if_neg h40, if_neg h41, if_pos ⟨hs, rfl, .inr (by omega)⟩], by omega, by omega, fun j h => by injection h with h; omega⟩
                  case measure => simp [intOf]; omega
              · have hd3 : (d == 0) = false := by simpa using hd0
                go_wp2_with fail
                go_round
                case rel => exact ⟨i + 1, d, a, by omega, rfl, by go_num, by go_num, by rw [HD.out, if_neg h40, if_neg h41, if_neg (by omega)], by omega, by omega, HAJ.out⟩
                case measure => simp [intOf]; omega
            · have h3 : ((t.kind : Int) == 94) = false := by simp; omega
              go_wp2_with fail
              go_round
              case rel => exact ⟨i + 1, d, a, by omega, rfl, by go_num, by go_num, by rw [HD.out, if_neg h40, if_neg h41, if_neg (by omega)], by omega, by omega, HAJ.out⟩
              case measure => simp [intOf]; omega
          · have hni : i = n := by omega
            have hii : ¬ (i : Int) < (n : Int) := by omega
            have HE : Hid (splitF L (2 + 1) = a) := Lib.hid (by rw [HST.out, HSC.out, List.drop_eq_nil_of_le (by omega)]; rfl)
            clear hni
            cases a with
            | none =>
              have hsv : scanV none = -1 := rfl
              go_wp2_with fail
              go_round
              case rel => exact ⟨3, by omega, rfl, HE.out⟩
              case measure => simp [intOf]
            | some j =>
              have hsv : scanV (some j) = (j : Int) := rfl
              have hj0 : (0 : Int) ≤ (j : Int) := by omega
              have HS : Hid (splitT L = some j) := Lib.hid (splitF_some (by omega) HE.out)
              go_wp2_with fail
              go_ret
              exact ⟨by rw [HS.out]; rfl, rfl⟩
      · have hix : ((⟨#[61, 62, 94, 124, 38]⟩ : ByteArray)[3]'(by decide)).toNat = 124 := rfl
        have HST : Hid (splitF L (3 + 1) = (scan 124 L 0 0 none).1) := HST
        go_wp2_with fail
        go_loop [5, 6, 7] (fun at_ dp ix => ∃ (i : Nat) (d : Int) (a : Option Nat), i ≤ n ∧ at_ = .int .i64 (scanV a) ∧ dp = .int .i64 d ∧ ix = .int .i64 (i : Nat) ∧ scan 124 L 0 0 none = scan 124 (L.drop i) i d a ∧ -(i : Int) ≤ d ∧ d ≤ i ∧ (∀ j, a = some j → j < n)) (fun _ _ ix => n - (intOf ix).toNat)
        case atStart => exact ⟨0, 0, none, Nat.zero_le _, rfl, rfl, rfl, by simp, by simp, by simp, fun j h => by cases h⟩
        case round =>
          obtain ⟨i, d, a, hi, rfl, rfl, rfl, hsc, hd1, hd2, haj⟩ := hrel
          have HSC := Lib.hid hsc
          have HAJ := Lib.hid haj
          clear hsc haj
          by_cases hin : i < n
          · obtain ⟨t, ht⟩ : ∃ t, L[i]? = some t := ⟨_, List.getElem?_eq_getElem (by omega)⟩
            obtain ⟨b, off, rfl, hb, q0, q1, q2⟩ := H.out.cells ht
            have hii : (i : Int) < (n : Int) := by omega
            have HD : Hid (scan 124 L 0 0 none = if t.kind = 40 then scan 124 (L.drop (i + 1)) (i + 1) (d + 1) a else if t.kind = 41 then scan 124 (L.drop (i + 1)) (i + 1) (d - 1) a else if t.kind = 124 ∧ d = 0 ∧ (a = none ∨ 124 ≠ 62) then scan 124 (L.drop (i + 1)) (i + 1) d (some i) else scan 124 (L.drop (i + 1)) (i + 1) d a) := Lib.hid (by
              rw [HSC.out]
              have e : L.drop i = t :: L.drop (i + 1) := by
                rw [List.drop_eq_getElem_cons (by omega)]
                rw [List.getElem?_eq_getElem (by omega)] at ht
                injection ht with ht
                rw [ht]
              rw [e, scan_step])
            clear ht
            by_cases h40 : t.kind = 40
            · have h1 : (t.kind : Int) = 40 := by omega
              go_wp2_with fail
              go_round
              case rel => exact ⟨i + 1, d + 1, a, by omega, rfl, by go_num, by go_num, by rw [HD.out, if_pos h40], by omega, by omega, HAJ.out⟩
              case measure => simp [intOf]; omega
            by_cases h41 : t.kind = 41
            · have h1 : (t.kind : Int) = 41 := by omega
              go_wp2_with fail
              go_round
              case rel => exact ⟨i + 1, d - 1, a, by omega, rfl, by go_num, by go_num, by rw [HD.out, if_neg h40, if_pos h41], by omega, by omega, HAJ.out⟩
              case measure => simp [intOf]; omega
            have h1 : ((t.kind : Int) == 40) = false := by simp; omega
            have h2 : ((t.kind : Int) == 41) = false := by simp; omega
            by_cases hs : t.kind = 124
            · have h3 : ((t.kind : Int) == 124) = true := by simp; omega
              by_cases hd0 : d = 0
              · subst hd0
                cases a with
                | none =>
                  have hsv : scanV none = -1 := rfl
                  go_wp2_with fail
                  go_round
                  case rel => exact ⟨i + 1, 0, some i, by omega, rfl, by go_num, by go_num, by rw [HD.out, if_neg h40, if_neg h41, if_pos ⟨hs, rfl, .inl rfl⟩], by omega, by omega, fun j h => by injection h with h; omega⟩
                  case measure => simp [intOf]; omega
                | some j =>
                  have hsv : scanV (some j) = (j : Int) := rfl
                  have hj0 : ¬ ((j : Int) < 0) := by omega
                  go_wp2_with fail
                  go_round
                  case rel => exact ⟨i + 1, 0, some i, by omega, rfl, by go_num, by go_num, by rw [HD.out, if_neg h40, if_neg h41, if_pos ⟨hs, rfl, .inr (by omega)⟩], by omega, by omega, fun j h => by injection h with h; omega⟩
                  case measure => simp [intOf]; omega
              · have hd3 : (d == 0) = false := by simpa using hd0
                go_wp2_with fail
                go_round
                case rel => exact ⟨i + 1, d, a, by omega, rfl, by go_num, by go_num, by rw [HD.out, if_neg h40, if_neg h41, if_neg (by omega)], by omega, by omega, HAJ.out⟩
                case measure => simp [intOf]; omega
            · have h3 : ((t.kind : Int) == 124) = false := by simp; omega
              go_wp2_with fail
              go_round
              case rel => exact ⟨i + 1, d, a, by omega, rfl, by go_num, by go_num, by rw [HD.out, if_neg h40, if_neg h41, if_neg (by omega)], by omega, by omega, HAJ.out⟩
              case measure => simp [intOf]; omega
          · have hni : i = n := by omega
            have hii : ¬ (i : Int) < (n : Int) := by omega
            have HE : Hid (splitF L (3 + 1) = a) := Lib.hid (by rw [HST.out, HSC.out, List.drop_eq_nil_of_le (by omega)]; rfl)
            clear hni
            cases a with
            | none =>
              have hsv : scanV none = -1 := rfl
              go_wp2_with fail
              go_round
              case rel => exact ⟨4, by omega, rfl, HE.out⟩
              case measure => simp [intOf]
            | some j =>
              have hsv : scanV (some j) = (j : Int) := rfl
              have hj0 : (0 : Int) ≤ (j : Int) := by omega
              have HS : Hid (splitT L = some j) := Lib.hid (splitF_some (by omega) HE.out)
              go_wp2_with fail
              go_ret
              exact ⟨by rw [HS.out]; rfl, rfl⟩
      · have hix : ((⟨#[61, 62, 94, 124, 38]⟩ : ByteArray)[4]'(by decide)).toNat = 38 := rfl
        have HST : Hid (splitF L (4 + 1) = (scan 38 L 0 0 none).1) := HST
        go_wp2_with fail
        go_loop [5, 6, 7] (fun at_ dp ix => ∃ (i : Nat) (d : Int) (a : Option Nat), i ≤ n ∧ at_ = .int .i64 (scanV a) ∧ dp = .int .i64 d ∧ ix = .int .i64 (i : Nat) ∧ scan 38 L 0 0 none = scan 38 (L.drop i) i d a ∧ -(i : Int) ≤ d ∧ d ≤ i ∧ (∀ j, a = some j → j < n)) (fun _ _ ix => n - (intOf ix).toNat)
        case atStart => exact ⟨0, 0, none, Nat.zero_le _, rfl, rfl, rfl, by simp, by simp, by simp, fun j h => by cases h⟩
        case round =>
          obtain ⟨i, d, a, hi, rfl, rfl, rfl, hsc, hd1, hd2, haj⟩ := hrel
          have HSC := Lib.hid hsc
          have HAJ := Lib.hid haj
          clear hsc haj
          by_cases hin : i < n
          · obtain ⟨t, ht⟩ : ∃ t, L[i]? = some t := ⟨_, List.getElem?_eq_getElem (by omega)⟩
            obtain ⟨b, off, rfl, hb, q0, q1, q2⟩ := H.out.cells ht
            have hii : (i : Int) < (n : Int) := by omega
            have HD : Hid (scan 38 L 0 0 none = if t.kind = 40 then scan 38 (L.drop (i + 1)) (i + 1) (d + 1) a else if t.kind = 41 then scan 38 (L.drop (i + 1)) (i + 1) (d - 1) a else if t.kind = 38 ∧ d = 0 ∧ (a = none ∨ 38 ≠ 62) then scan 38 (L.drop (i + 1)) (i + 1) d (some i) else scan 38 (L.drop (i + 1)) (i + 1) d a) := Lib.hid (by
              rw [HSC.out]
              have e : L.drop i = t :: L.drop (i + 1) := by
                rw [List.drop_eq_getElem_cons (by omega)]
                rw [List.getElem?_eq_getElem (by omega)] at ht
                injection ht with ht
                rw [ht]
              rw [e, scan_step])
            clear ht
            by_cases h40 : t.kind = 40
            · have h1 : (t.kind : Int) = 40 := by omega
              go_wp2_with fail
              go_round
              case rel => exact ⟨i + 1, d + 1, a, by omega, rfl, by go_num, by go_num, by rw [HD.out, if_pos h40], by omega, by omega, HAJ.out⟩
              case measure => simp [intOf]; omega
            by_cases h41 : t.kind = 41
            · have h1 : (t.kind : Int) = 41 := by omega
              go_wp2_with fail
              go_round
              case rel => exact ⟨i + 1, d - 1, a, by omega, rfl, by go_num, by go_num, by rw [HD.out, if_neg h40, if_pos h41], by omega, by omega, HAJ.out⟩
              case measure => simp [intOf]; omega
            have h1 : ((t.kind : Int) == 40) = false := by simp; omega
            have h2 : ((t.kind : Int) == 41) = false := by simp; omega
            by_cases hs : t.kind = 38
            · have h3 : ((t.kind : Int) == 38) = true := by simp; omega
              by_cases hd0 : d = 0
              · subst hd0
                cases a with
                | none =>
                  have hsv : scanV none = -1 := rfl
                  go_wp2_with fail
                  go_round
                  case rel => exact ⟨i + 1, 0, some i, by omega, rfl, by go_num, by go_num, by rw [HD.out, if_neg h40, if_neg h41, if_pos ⟨hs, rfl, .inl rfl⟩], by omega, by omega, fun j h => by injection h with h; omega⟩
                  case measure => simp [intOf]; omega
                | some j =>
                  have hsv : scanV (some j) = (j : Int) := rfl
                  have hj0 : ¬ ((j : Int) < 0) := by omega
                  go_wp2_with fail
                  go_round
                  case rel => exact ⟨i + 1, 0, some i, by omega, rfl, by go_num, by go_num, by rw [HD.out, if_neg h40, if_neg h41, if_pos ⟨hs, rfl, .inr (by omega)⟩], by omega, by omega, fun j h => by injection h with h; omega⟩
                  case measure => simp [intOf]; omega
              · have hd3 : (d == 0) = false := by simpa using hd0
                go_wp2_with fail
                go_round
                case rel => exact ⟨i + 1, d, a, by omega, rfl, by go_num, by go_num, by rw [HD.out, if_neg h40, if_neg h41, if_neg (by omega)], by omega, by omega, HAJ.out⟩
                case measure => simp [intOf]; omega
            · have h3 : ((t.kind : Int) == 38) = false := by simp; omega
              go_wp2_with fail
              go_round
              case rel => exact ⟨i + 1, d, a, by omega, rfl, by go_num, by go_num, by rw [HD.out, if_neg h40, if_neg h41, if_neg (by omega)], by omega, by omega, HAJ.out⟩
              case measure => simp [intOf]; omega
          · have hni : i = n := by omega
            have hii : ¬ (i : Int) < (n : Int) := by omega
            have HE : Hid (splitF L (4 + 1) = a) := Lib.hid (by rw [HST.out, HSC.out, List.drop_eq_nil_of_le (by omega)]; rfl)
            clear hni
            cases a with
            | none =>
              have hsv : scanV none = -1 := rfl
              go_wp2_with fail
              go_round
              case rel => exact ⟨5, by omega, rfl, HE.out⟩
              case measure => simp [intOf]
            | some j =>
              have hsv : scanV (some j) = (j : Int) := rfl
              have hj0 : (0 : Int) ≤ (j : Int) := by omega
              have HS : Hid (splitT L = some j) := Lib.hid (splitF_some (by omega) HE.out)
              go_wp2_with fail
              go_ret
              exact ⟨by rw [HS.out]; rfl, rfl⟩
end Go.Proofs.YtbhbhfplpbcfiaaGreatDoor
end
