/- Plain: variables renamed by a permutation, as tables and assignment by assignment. -/
import Derived.Test.YtpbpjihdaghiaaaDoorMb
import Derived.Test.YtpbpjihdaghiaaaDoorMl
namespace Go.Proofs.YtpbpjihdaghiaaaDoor
open Go.RowKit Go.Sort
set_option linter.unusedSimpArgs false
set_option linter.unusedVariables false

/-- where a variable goes -/
def pn (zs : List Int) (v : Nat) : Nat := (zs[v]?.getD 0).toNat
/-- which have been seen -/
def seenN (zs : List Int) : Nat → Nat
  | 0 => 0
  | k + 1 => seenN zs k ||| 2 ^ pn zs k
theorem seenN_bit (zs : List Int) : ∀ k j, (seenN zs k).testBit j = decide (∃ v, v < k ∧ pn zs v = j)
  | 0, j => by simp [seenN]
  | k + 1, j => by
    rw [seenN, Nat.testBit_or, seenN_bit zs k, Nat.testBit_two_pow, Bool.eq_iff_iff]
    simp only [Bool.or_eq_true, decide_eq_true_eq]
    constructor
    · rintro (⟨v, hv, e⟩ | e)
      · exact ⟨v, by omega, e⟩
      · exact ⟨k, by omega, e⟩
    · rintro ⟨v, hv, e⟩
      rcases Nat.lt_succ_iff_lt_or_eq.1 hv with h | rfl
      · exact .inl ⟨v, h, e⟩
      · exact .inr e
theorem seenN_lt {zs : List Int} {n : Nat} : ∀ k, (∀ v, v < k → pn zs v < n) → seenN zs k < 2 ^ n
  | 0, _ => by simp [seenN]; exact Nat.two_pow_pos n
  | k + 1, h => Nat.or_lt_two_pow (seenN_lt k fun v hv => h v (by omega)) (Nat.pow_lt_pow_right (by omega) (h k (by omega)))
theorem sumCount_ge (zs : List Int) : ∀ m : Nat, (∀ j : Nat, j < m → 1 ≤ zs.count (j : Int)) → m ≤ sumCount zs m ∧ ∀ j, j < m → 2 ≤ zs.count (j : Int) → m < sumCount zs m
  | 0, _ => ⟨Nat.zero_le _, fun j hj => by omega⟩
  | m + 1, h => by
    obtain ⟨i1, i2⟩ := sumCount_ge zs m fun j hj => h j (by omega)
    have hm := h m (by omega)
    simp only [sumCount]
    refine ⟨by omega, fun j hj h2 => ?_⟩
    rcases Nat.lt_succ_iff_lt_or_eq.1 hj with h3 | rfl
    · have := i2 j h3 h2; omega
    · omega
/-- all are seen: a permutation -/
theorem seen_perm {zs : List Int} {n : Nat} (hl : zs.length = n) (hn : n ≤ 16) (hr : ∀ z ∈ zs, 0 ≤ z ∧ z < (n : Int)) (hs : seenN zs n = 2 ^ n - 1) : IsPerm zs := by
  have h1 : ∀ j : Nat, j < n → 1 ≤ zs.count (j : Int) := fun j hj => by
    have hb := seenN_bit zs n j
    rw [hs, Nat.testBit_two_pow_sub_one, decide_eq_true hj] at hb
    obtain ⟨v, hv, e⟩ := of_decide_eq_true hb.symm
    have hm : zs[v]?.getD 0 ∈ zs := getD_mem zs v (by omega)
    have h0 := hr _ hm
    have : zs[v]?.getD 0 = (j : Int) := by unfold pn at e; omega
    rw [this] at hm
    exact List.count_pos_iff.2 hm
  have h2 : sumCount zs n = n := by
    rw [sumCount_eq, ← hl, List.countP_eq_length]
    intro a ha
    have := hr a ha
    rw [hl]
    simpa using this
  have h3 := (sumCount_ge zs n h1).2
  refine ⟨by omega, (right_of_counts zs fun j hj => ?_).1, fun z hz => by rw [hl]; exact hr z hz⟩
  have := h1 j (by omega)
  rcases Nat.lt_or_ge (zs.count (j : Int)) 2 with h4 | h4
  · omega
  · have := h3 j (by omega) h4; omega
theorem IsPerm.pn_lt {zs : List Int} (h : IsPerm zs) {v : Nat} (hv : v < zs.length) : pn zs v < zs.length := by
  have := h.get hv; unfold pn; omega
theorem IsPerm.pn_int {zs : List Int} (h : IsPerm zs) {v : Nat} (hv : v < zs.length) : zs[v]?.getD 0 = (pn zs v : Int) := by
  have := h.get hv; unfold pn; omega
theorem IsPerm.pn_onto {zs : List Int} (h : IsPerm zs) {j : Nat} (hj : j < zs.length) : ∃ v, v < zs.length ∧ pn zs v = j := by
  obtain ⟨v, hv, e⟩ := mem_getD (h.mem (j := (j : Int)) (by omega) (by omega))
  exact ⟨v, hv, by unfold pn; rw [e]; simp⟩
theorem IsPerm.pn_inj {zs : List Int} (h : IsPerm zs) {a b : Nat} (ha : a < zs.length) (hb : b < zs.length) (e : pn zs a = pn zs b) : a = b := by
  have e1 : zs[a] = zs[b] := by
    have h1 := h.pn_int ha
    have h2 := h.pn_int hb
    rw [List.getElem?_eq_getElem ha, Option.getD_some] at h1
    rw [List.getElem?_eq_getElem hb, Option.getD_some] at h2
    rw [h1, h2, e]
  exact (List.getElem_inj h.2.1).1 e1
theorem perm_seen {zs : List Int} {n : Nat} (hl : zs.length = n) (hp : IsPerm zs) : seenN zs n = 2 ^ n - 1 := by
  apply Nat.eq_of_testBit_eq
  intro j
  rw [seenN_bit, Nat.testBit_two_pow_sub_one, decide_eq_decide]
  constructor
  · rintro ⟨v, hv, rfl⟩
    have := hp.pn_lt (v := v) (by omega)
    omega
  · intro hj
    obtain ⟨v, hv, e⟩ := hp.pn_onto (j := j) (by omega)
    exact ⟨v, by omega, e⟩
/-- an assignment with its variables moved -/
def renX (zs : List Int) (y : Nat) : Nat → Nat
  | 0 => 0
  | k + 1 => renX zs y k ||| y / 2 ^ k % 2 * 2 ^ pn zs k
theorem mul_bit (y k q j : Nat) : (y / 2 ^ k % 2 * 2 ^ q).testBit j = (decide (q = j) && y.testBit k) := by
  rw [Nat.testBit_eq_decide_div_mod_eq (x := y)]
  rcases Nat.mod_two_eq_zero_or_one (y / 2 ^ k) with h | h
  · rw [h]; simp
  · rw [h, Nat.one_mul, Nat.testBit_two_pow]; simp
theorem renX_bit (zs : List Int) (y : Nat) : ∀ k j, (renX zs y k).testBit j = decide (∃ v, v < k ∧ pn zs v = j ∧ y.testBit v = true)
  | 0, j => by simp [renX]
  | k + 1, j => by
    rw [renX, Nat.testBit_or, renX_bit zs y k, mul_bit, Bool.eq_iff_iff]
    simp only [Bool.or_eq_true, Bool.and_eq_true, decide_eq_true_eq]
    constructor
    · rintro (⟨v, hv, e⟩ | e)
      · exact ⟨v, by omega, e⟩
      · exact ⟨k, by omega, e⟩
    · rintro ⟨v, hv, e⟩
      rcases Nat.lt_succ_iff_lt_or_eq.1 hv with h | rfl
      · exact .inl ⟨v, h, e⟩
      · exact .inr e
theorem bits_ext {n a b : Nat} (ha : a < 2 ^ n) (hb : b < 2 ^ n) (h : ∀ j, j < n → a.testBit j = b.testBit j) : a = b := by
  apply Nat.eq_of_testBit_eq
  intro j
  rcases Nat.lt_or_ge j n with hj | hj
  · exact h j hj
  · rw [Nat.testBit_lt_two_pow (Nat.lt_of_lt_of_le ha (Nat.pow_le_pow_right (by omega) hj)), Nat.testBit_lt_two_pow (Nat.lt_of_lt_of_le hb (Nat.pow_le_pow_right (by omega) hj))]
theorem renX_lt {zs : List Int} (hp : IsPerm zs) (y : Nat) : ∀ k, k ≤ zs.length → renX zs y k < 2 ^ zs.length
  | 0, _ => by rw [renX]; exact Nat.two_pow_pos _
  | k + 1, hk => by
    refine Nat.or_lt_two_pow (renX_lt hp y k (by omega)) ?_
    have h1 := Nat.pow_lt_pow_right (a := 2) (by omega) (hp.pn_lt (v := k) (by omega))
    rcases Nat.mod_two_eq_zero_or_one (y / 2 ^ k) with h | h
    · rw [h, Nat.zero_mul]; exact Nat.two_pow_pos _
    · rw [h, Nat.one_mul]; exact h1
/-- the assignment that goes there -/
def renY (zs : List Int) (x k : Nat) : Nat := ofBits (fun v => x.testBit (pn zs v)) k
theorem renY_lt (zs : List Int) (x k : Nat) : renY zs x k < 2 ^ k := ofBits_lt _ _
theorem renX_of_renY {zs : List Int} {n x : Nat} (hp : IsPerm zs) (hl : zs.length = n) (hx : x < 2 ^ n) : renX zs (renY zs x n) n = x := by
  subst hl
  apply bits_ext (renX_lt hp _ _ (Nat.le_refl _)) hx
  intro j hj
  obtain ⟨v, hv, e⟩ := hp.pn_onto hj
  rw [renX_bit]
  cases hb : x.testBit j
  · rw [decide_eq_false]
    rintro ⟨u, hu, e1, e2⟩
    unfold renY at e2
    rw [testBit_ofBits, decide_eq_true hu, Bool.true_and, e1, hb] at e2
    cases e2
  · rw [decide_eq_true]
    refine ⟨v, hv, e, ?_⟩
    unfold renY
    rw [testBit_ofBits, decide_eq_true hv, Bool.true_and, e, hb]
theorem renY_of_renX {zs : List Int} {n y : Nat} (hp : IsPerm zs) (hl : zs.length = n) (hy : y < 2 ^ n) : renY zs (renX zs y n) n = y := by
  subst hl
  apply bits_ext (renY_lt _ _ _) hy
  intro j hj
  unfold renY
  rw [testBit_ofBits, decide_eq_true hj, Bool.true_and, renX_bit]
  cases hb : y.testBit j
  · rw [decide_eq_false]
    rintro ⟨u, hu, e1, e2⟩
    rw [hp.pn_inj hu hj e1, hb] at e2
    cases e2
  · rw [decide_eq_true]
    exact ⟨j, hj, rfl, hb⟩
/-- the table with its variables renamed -/
def renT (zs : List Int) (t : List Bool) (n : Nat) : List Bool := (List.range (2 ^ n)).map fun x => tat t (renY zs x n)
theorem renT_length (zs : List Int) (t : List Bool) (n : Nat) : (renT zs t n).length = 2 ^ n := by simp [renT]
theorem renT_at {zs : List Int} {t : List Bool} {n x : Nat} (hx : x < 2 ^ n) : tat (renT zs t n) x = tat t (renY zs x n) := by
  unfold renT
  rw [tat, List.getElem?_map, List.getElem?_range hx]; rfl
/-- the words that the members make -/
theorem ren_words {zs : List Int} {n : Nat} {ws : List Nat} (hp : IsPerm zs) (hl : zs.length = n) (ok : SOk n ws) (hn : n ≤ 16) :
    ofL (wordsN n) (((List.range (2 ^ n)).filter (bitAt ws)).map fun y => renX zs y n) = packT (renT zs (tabS n ws) n) := by
  have hin : ∀ x ∈ ((List.range (2 ^ n)).filter (bitAt ws)).map fun y => renX zs y n, x < 2 ^ n := fun x hx => by
    rw [List.mem_map] at hx
    obtain ⟨y, _, rfl⟩ := hx
    have := renX_lt hp y zs.length (Nat.le_refl _)
    rwa [hl] at this
  refine SOk.ext (ofL_ok hn hin) (SOk.pack hn (renT_length _ _ _)) fun x hx => ?_
  rw [ofL_bit _ _ (fun y hy => idx_lt (hin y hy)), bitAt_pack]
  show _ = tat (renT zs (tabS n ws) n) x
  rw [renT_at hx, tat_tab (renY_lt _ _ _)]
  cases hb : bitAt ws (renY zs x n)
  · rw [decide_eq_false]
    intro hm
    rw [List.mem_map] at hm
    obtain ⟨y, hy, rfl⟩ := hm
    rw [List.mem_filter, List.mem_range] at hy
    rw [renY_of_renX hp hl hy.1, hy.2] at hb
    cases hb
  · rw [decide_eq_true]
    rw [List.mem_map]
    exact ⟨renY zs x n, by rw [List.mem_filter, List.mem_range]; exact ⟨renY_lt _ _ _, hb⟩, renX_of_renY hp hl hx⟩
/-- the way back -/
def BackOf (zs bs : List Int) : Prop := bs.length = zs.length ∧ ∀ v, v < zs.length → bs[pn zs v]?.getD 0 = (v : Int)
theorem BackOf.pn {zs bs : List Int} (h : BackOf zs bs) {v : Nat} (hv : v < zs.length) : pn bs (pn zs v) = v := by
  have := h.2 v hv
  unfold Go.Proofs.YtpbpjihdaghiaaaDoor.pn at *
  rw [this]; simp
theorem BackOf.perm {zs bs : List Int} (h : BackOf zs bs) (hp : IsPerm zs) : IsPerm bs := by
  have hr : ∀ z ∈ bs, 0 ≤ z ∧ z < (zs.length : Int) := fun z hz => by
    obtain ⟨k, hk, rfl⟩ := mem_getD hz
    obtain ⟨v, hv, e⟩ := hp.pn_onto (j := k) (by rw [← h.1]; exact hk)
    rw [← e, h.2 v hv]
    omega
  apply seen_perm (n := zs.length) h.1 hp.1 hr
  apply Nat.eq_of_testBit_eq
  intro j
  rw [seenN_bit, Nat.testBit_two_pow_sub_one, decide_eq_decide]
  constructor
  · rintro ⟨v, hv, rfl⟩
    have hm : bs[v]?.getD 0 ∈ bs := getD_mem bs v (by rw [h.1]; exact hv)
    have := hr _ hm
    unfold Go.Proofs.YtpbpjihdaghiaaaDoor.pn
    omega
  · intro hj
    exact ⟨_, hp.pn_lt hj, h.pn hj⟩
theorem renT_back {zs bs : List Int} {n : Nat} {t : List Bool} (h : BackOf zs bs) (hp : IsPerm zs) (hl : zs.length = n) (ht : t.length = 2 ^ n) : renT bs (renT zs t n) n = t := by
  apply tab_ext (by rw [renT_length, ht])
  intro x hx
  rw [renT_length] at hx
  rw [renT_at hx, renT_at (renY_lt _ _ _)]
  congr 1
  apply bits_ext (renY_lt _ _ _) hx
  intro j hj
  unfold renY
  rw [testBit_ofBits, decide_eq_true hj, Bool.true_and, testBit_ofBits, decide_eq_true (by rw [← hl]; exact hp.pn_lt (by omega)), Bool.true_and, h.pn (by omega)]
end Go.Proofs.YtpbpjihdaghiaaaDoor
