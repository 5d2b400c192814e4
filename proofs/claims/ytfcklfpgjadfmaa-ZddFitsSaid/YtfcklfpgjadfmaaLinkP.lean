/- Plain: a store that was filled from below: its records, what Make and View tell of them. -/
import Derived.Test.YtfcklfpgjadfmaaTermP
import Derived.Test.YtfcklfpgjadfmaaViewC
namespace Go.Proofs.Ytfcklfpgjadfmaa
open Go.RowKit
set_option linter.unusedSimpArgs false
set_option linter.unusedVariables false

/-- a node's record -/
def ndRec (z : Bool) (nd : Nd) : Rec := ⟨fmOf z, nd.lv, nd.lv, ⟨0, nd.lo⟩, ⟨0, nd.hi⟩⟩
def csOf (z : Bool) (S : List Nd) : List (Option Rec) := S.map fun nd => some (ndRec z nd)
theorem ndRec_inj {z : Bool} {a b : Nd} (h : ndRec z a = ndRec z b) : a = b := by
  obtain ⟨a1, a2, a3⟩ := a
  obtain ⟨b1, b2, b3⟩ := b
  simp only [ndRec, Rec.mk.injEq, Edg.mk.injEq] at h
  simp only [Nd.mk.injEq]
  omega
theorem cntC_csOf (z : Bool) (S : List Nd) : cntC (csOf z S) = S.length := by
  unfold cntC csOf
  induction S with
  | nil => rfl
  | cons x r ih => rw [List.map_cons, List.countP_cons, ih]; simp
theorem csOf_length (z : Bool) (S : List Nd) : (csOf z S).length = S.length := by simp [csOf]
theorem recAt_csOf (z : Bool) (S : List Nd) (e : Nat) : recAt (csOf z S) (e : Int) = if 2 ≤ e then (S[e - 2]?).map (ndRec z) else none := by
  unfold recAt csOf
  by_cases h : 2 ≤ e
  · rw [if_pos h, if_pos (by omega)]
    have : ((e : Int) - 2).toNat = e - 2 := by omega
    rw [this, List.getElem?_map]
    cases S[e - 2]? <;> rfl
  · rw [if_neg h, if_neg (by omega)]
theorem mem_csOf {z : Bool} {S : List Nd} {nd : Nd} : some (ndRec z nd) ∈ csOf z S ↔ nd ∈ S := by
  unfold csOf
  rw [List.mem_map]
  constructor
  · rintro ⟨x, hx, e⟩
    injection e with e
    rw [← ndRec_inj e]
    exact hx
  · intro h
    exact ⟨nd, h, rfl⟩
theorem idxOf_csOf (z : Bool) (nd : Nd) : ∀ S : List Nd, (csOf z S).idxOf (some (ndRec z nd)) = S.idxOf nd
  | [] => rfl
  | x :: r => by
    have ih := idxOf_csOf z nd r
    unfold csOf at ih ⊢
    rw [List.map_cons, List.idxOf_cons, List.idxOf_cons, ih]
    by_cases h : x = nd
    · subst h; simp
    · have : ¬ (some (ndRec z x) = some (ndRec z nd)) := fun e => h (by injection e with e; exact ndRec_inj e)
      have h1 : (some (ndRec z x) == some (ndRec z nd)) = false := by simpa using this
      have h2 : (x == nd) = false := by simpa using h
      rw [h1, h2]
theorem idOf_csOf (z : Bool) (S : List Nd) (nd : Nd) : idOf (csOf z S) (ndRec z nd) = if nd ∈ S then some (S.idxOf nd + 2) else none := by
  unfold idOf
  rw [idxOf_csOf]
  by_cases h : nd ∈ S
  · rw [if_pos h, if_pos (mem_csOf.2 h)]
  · rw [if_neg h, if_neg (fun h' => h (mem_csOf.1 h'))]
theorem plain_edge {z : Bool} {n : Nat} {a : Nat} {l : Int} (hn : n ≤ 16) (h0 : 0 ≤ l) (hl : l ≤ n) : plain (fmOf z) ⟨0, a⟩ l n = true := by
  have hf : fmOf z ≠ 5 ∧ 1 ≤ fmOf z ∧ fmOf z ≤ 5 := by cases z <;> decide
  unfold plain
  rw [if_pos (.inl hf.1), decide_eq_true (p := (⟨0, a⟩ : Edg).tag = 0) rfl, Bool.and_true, decide_eq_true_eq]
  omega
theorem leads_csOf {z : Bool} {n : Nat} {S : List Nd} {a l : Nat} (hn : n ≤ 16) (hl : l ≤ n) (h : Ld S a l) : leads (csOf z S) n (fmOf z) ⟨0, a⟩ (l : Int) = true := by
  unfold leads
  rw [plain_edge hn (by omega) (by omega), Bool.true_and]
  rcases h with h | ⟨nd, h, h2⟩
  · rw [decide_eq_true (p := (⟨0, (a : Nat)⟩ : Edg).pos < 2) (by simp only; omega), Bool.true_or]
  · by_cases h1 : 2 ≤ a
    · simp only
      rw [recAt_csOf, if_pos h1, h]
      simp only [Option.map_some, ndRec]
      rw [Bool.or_eq_true]
      right
      rw [decide_eq_true_eq]
      exact ⟨trivial, by omega, by omega⟩
    · rw [decide_eq_true (p := (⟨0, (a : Nat)⟩ : Edg).pos < 2) (by simp only; omega), Bool.true_or]
theorem redE_csOf (z : Bool) (a b : Nat) : redE z ⟨0, a⟩ ⟨0, b⟩ = red z a b := by
  unfold redE red
  cases z with
  | true =>
    simp only [if_true]
    by_cases h : b = 0
    · subst h; rfl
    · rw [decide_eq_false h, decide_eq_false]
      omega
  | false =>
    simp only [Bool.false_eq_true, if_false]
    by_cases h : a = b
    · subst h; simp
    · rw [decide_eq_false h, decide_eq_false]
      simp only [Edg.mk.injEq, true_and]
      omega
theorem right_csOf {z : Bool} {n l a b : Nat} (hn : n ≤ 16) (hl : l < n) (hr : red z a b = false) : right (ndRec z ⟨l, a, b⟩) n = true := by
  have hf : 1 ≤ fmOf z ∧ fmOf z ≤ 5 := by cases z <;> decide
  unfold right ndRec
  simp only
  rw [plain_edge hn (by omega) (by omega), plain_edge hn (by omega) (by omega), Bool.and_true, Bool.and_true, Bool.and_eq_true]
  refine ⟨?_, ?_⟩
  · rw [decide_eq_true_eq]
    refine ⟨hf.1, hf.2, by omega, by omega, Int.le_refl _, by omega, .inl trivial⟩
  · cases z with
    | true =>
      simp only [red, if_true, decide_eq_false_iff_not] at hr
      rw [if_pos (.inl rfl), decide_eq_true_eq]
      omega
    | false =>
      simp only [red, Bool.false_eq_true, if_false, decide_eq_false_iff_not] at hr
      rw [if_neg (by decide), decide_eq_true_eq]
      intro e
      injection e with _ e
      omega
/-- what Make tells of edges made from below -/
theorem makeE_csOf {z : Bool} {n room : Nat} {S : List Nd} {l a b : Nat} (hn : n ≤ 16) (hl : l < n) (ha : Ld S a (l + 1)) (hb : Ld S b (l + 1)) :
    makeE z n room (csOf z S) l ⟨0, a⟩ ⟨0, b⟩ = ((match (mkP z room S l a b).1 with | some e => (⟨0, e⟩ : Edg) | none => .nil), (match (mkP z room S l a b).1 with | some e => 0 | none => 6), csOf z (mkP z room S l a b).2) := by
  have h1 := leads_csOf (z := z) hn (by omega) ha
  have h2 := leads_csOf (z := z) hn (by omega) hb
  have e1 : ((l + 1 : Nat) : Int) = (l : Int) + 1 := by omega
  rw [e1] at h1 h2
  by_cases hr : red z a b = true
  · rw [makeE_red (by omega) h1 h2 (by rw [redE_csOf]; exact hr)]
    unfold mkP
    rw [if_pos hr]
  · rw [makeE_find (by omega) h1 h2 (by rw [redE_csOf]; exact hr)]
    have hr' : red z a b = false := by simpa using hr
    have e2 : (⟨fmOf z, (l : Int), (l : Int), ⟨0, (a : Int)⟩, ⟨0, (b : Int)⟩⟩ : Rec) = ndRec z ⟨l, a, b⟩ := rfl
    rw [e2]
    have hid := idOf_csOf z S ⟨l, a, b⟩
    unfold mkP findP
    rw [if_neg hr, hid]
    by_cases hm : (⟨l, a, b⟩ : Nd) ∈ S
    · rw [if_pos hm, if_pos hm]
      simp only [fE, if_true]
    · rw [if_neg hm, if_neg hm]
      simp only
      have hc : right (ndRec z ⟨l, a, b⟩) n = true := right_csOf hn hl hr'
      have hc1 : leads (csOf z S) n (ndRec z ⟨l, a, b⟩).form (ndRec z ⟨l, a, b⟩).lo ((ndRec z ⟨l, a, b⟩).bot + 1) = true := h1
      have hc2 : leads (csOf z S) n (ndRec z ⟨l, a, b⟩).form (ndRec z ⟨l, a, b⟩).hi ((ndRec z ⟨l, a, b⟩).bot + 1) = true := h2
      rw [hc, hc1, hc2, cntC_csOf, csOf_length]
      simp only [Bool.and_self, if_true]
      by_cases hlen : S.length < room
      · rw [if_pos hlen, if_pos hlen]
        simp only [fE, if_true]
        simp [csOf]
      · rw [if_neg hlen, if_neg hlen]
        rfl
/-- what View tells of edges made from below -/
theorem viewE_csOf {z : Bool} {n : Nat} {S : List Nd} {l e : Nat} (hn : n ≤ 16) (hl : l < n) (he : Ld S e l) :
    viewE z n (csOf z S) ⟨0, e⟩ l = (⟨0, (viewP z S e l).1⟩, ⟨0, (viewP z S e l).2⟩, 0) := by
  have h1 := leads_csOf (z := z) hn (by omega) he
  have hsame : viewP z S e l = (e, if z then 0 else e) → ((⟨0, (e : Int)⟩ : Edg), (if z then Edg.nil else ⟨0, (e : Int)⟩), 0) = ((⟨0, (viewP z S e l).1⟩ : Edg), (⟨0, (viewP z S e l).2⟩ : Edg), 0) := fun h => by
    rw [h]
    cases z <;> rfl
  by_cases h2 : 2 ≤ e
  · have hr := recAt_csOf z S e
    rw [if_pos h2] at hr
    rcases he with h | ⟨nd, h, h3⟩
    · omega
    · rw [h] at hr
      by_cases h4 : nd.lv = l
      · rw [viewE_at (by omega) h1 hr (by simp only [ndRec]; omega)]
        unfold viewP
        rw [if_pos h2, h]
        simp only
        rw [if_pos h4]
        rfl
      · rw [viewE_high (by omega) h1 hr (by simp only [ndRec]; omega)]
        apply hsame
        unfold viewP
        rw [if_pos h2, h]
        simp only
        rw [if_neg h4]
  · have hr := recAt_csOf z S e
    rw [if_neg h2] at hr
    rw [viewE_none (by omega) h1 hr]
    apply hsame
    unfold viewP
    rw [if_neg h2]
end Go.Proofs.Ytfcklfpgjadfmaa
