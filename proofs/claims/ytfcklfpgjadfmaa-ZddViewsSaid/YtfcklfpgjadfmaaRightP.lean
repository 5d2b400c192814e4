/- Plain: View and Make of a right edge, in a store behind records that were found. -/
import Derived.Test.YtfcklfpgjadfmaaBuilt
import Derived.Test.YtfcklfpgjadfmaaRefDiaC
import Derived.Test.YtfcklfpgjadfmaaViewC
namespace Go.Proofs.Ytfcklfpgjadfmaa
open Go.RowKit Go.Sort
set_option linter.unusedSimpArgs false
set_option linter.unusedVariables false

/-- each record is right, and its edges lead -/
def RecsOk (n : Nat) (rs : List Rec) : Prop := ∀ r ∈ rs, right r n = true ∧ leads (rs.map some) n r.form r.lo (r.bot + 1) = true ∧ leads (rs.map some) n r.form r.hi (r.bot + 1) = true
theorem leads_snoc {rs : List Rec} {n : Nat} {f : Int} {e : Edg} {l : Int} (r : Rec) (h : leads (rs.map some) n f e l = true) : leads ((rs ++ [r]).map some) n f e l = true := by
  unfold leads at h ⊢
  simp only [Bool.and_eq_true, Bool.or_eq_true, decide_eq_true_eq] at h ⊢
  refine ⟨h.1, ?_⟩
  rcases h.2 with h2 | h2
  · exact .inl h2
  · right
    cases hx : recAt (rs.map some) e.pos with
    | none => rw [hx] at h2; cases h2
    | some x =>
      rw [hx] at h2
      have h3 : recAt ((rs ++ [r]).map some) e.pos = some x := by
        rw [recAt_map] at hx ⊢
        split at hx
        · rename_i h4
          rw [if_pos (by simp; omega), List.getElem?_append_left (by omega)]
          exact hx
        · cases hx
      rw [h3]
      exact h2
theorem RecsOk.find {n room : Nat} {rs : List Rec} (h : RecsOk n rs) (r : Rec) : RecsOk n (findR n room rs r).2.2 := by
  unfold findR
  split
  · exact h
  · split
    · rename_i hc
      split
      · intro x hx
        simp only [Bool.and_eq_true] at hc
        rcases List.mem_append.1 hx with hx | hx
        · have := h x hx
          exact ⟨this.1, leads_snoc _ this.2.1, leads_snoc _ this.2.2⟩
        · simp at hx
          subst hx
          exact ⟨hc.1.1, leads_snoc _ hc.1.2, leads_snoc _ hc.2⟩
      · exact h
    · exact h
theorem recsOk_fold (n room : Nat) : ∀ (l rs : List Rec), RecsOk n rs → RecsOk n (l.foldl (fun rs r => (findR n room rs r).2.2) rs)
  | [], rs, h => h
  | r :: l, rs, h => recsOk_fold n room l _ (h.find r)
theorem recsOk_built (n room : Nat) (l : List Rec) : RecsOk n (builtR n room l) := recsOk_fold n room l [] (fun r h => by simp at h)

theorem leads_less {cs : List (Option Rec)} {n : Nat} {f l : Int} {e : Edg} (hf : f ≠ 5) (hl : l < n) (h : leads cs n f e l = true) (hr : recAt cs e.pos = none ∨ ∃ r, recAt cs e.pos = some r ∧ l < r.top) : leads cs n f e (l + 1) = true := by
  unfold leads plain at h ⊢
  simp only [Bool.and_eq_true, Bool.or_eq_true, decide_eq_true_eq] at h ⊢
  obtain ⟨⟨h1, h2⟩, h3⟩ := h
  rw [if_pos (.inl hf)] at h2 ⊢
  refine ⟨⟨by omega, h2⟩, ?_⟩
  rcases hr with hr | ⟨r, hr, hlt⟩
  · rw [hr] at h3 ⊢
    exact h3
  · rw [hr] at h3 ⊢
    rcases h3 with h3 | h3
    · exact .inl h3
    · right
      simp only [decide_eq_true_eq] at h3 ⊢
      exact ⟨h3.1, by omega, h3.2.2⟩
theorem leads_nil_ {cs : List (Option Rec)} {n : Nat} {f l : Int} (hf : 1 ≤ f ∧ f ≤ 5) (hn : n ≤ 16) (hl : 0 ≤ l ∧ l ≤ n) : leads cs n f .nil l = true := by
  unfold leads plain Edg.nil
  simp
  omega
theorem leads_tag {cs : List (Option Rec)} {n : Nat} {f l : Int} {e : Edg} (hf : f ≠ 5) (h : leads cs n f e l = true) : e.tag = 0 := by
  unfold leads plain at h
  simp only [Bool.and_eq_true, decide_eq_true_eq] at h
  have h2 := h.1.2
  rw [if_pos (.inl hf)] at h2
  simpa using h2
theorem fm_ne (z : Bool) : fmOf z ≠ 5 := by cases z <;> simp [fmOf]
theorem view_make (z : Bool) {n room : Nat} {rs : List Rec} {e : Edg} {l : Int} (hn : n ≤ 16) (hok : RecsOk n rs) (hid : ∀ (i : Nat) (r : Rec), rs[i]? = some r → idOf (rs.map some) r = some (i + 2)) (hl : 0 ≤ l ∧ l < n)
    (hle : leads (rs.map some) n (fmOf z) e l = true) :
    ∃ lo hi, viewE z n (rs.map some) e l = (lo, hi, 0) ∧ makeE z n room (rs.map some) l lo hi = (e, 0, rs.map some) := by
  have top : (recAt (rs.map some) e.pos = none ∨ ∃ r, recAt (rs.map some) e.pos = some r ∧ l < r.top) → ∃ lo hi, (e, if z then Edg.nil else e, (0 : Nat)) = (lo, hi, 0) ∧ makeE z n room (rs.map some) l lo hi = (e, 0, rs.map some) := fun h => by
    have h1 := leads_less (fm_ne z) hl.2 hle h
    cases z with
    | false => exact ⟨e, e, rfl, makeE_red hl h1 h1 (by simp [redE])⟩
    | true => exact ⟨e, .nil, rfl, makeE_red hl h1 (leads_nil_ (by simp [fmOf]) hn (by omega)) (by simp [redE, Edg.nil])⟩
  cases hr : recAt (rs.map some) e.pos with
  | none => rw [viewE_none hl hle hr]; exact top (.inl hr)
  | some r =>
    by_cases ht : l < r.top
    · rw [viewE_high hl hle hr ht]; exact top (.inr ⟨r, hr, ht⟩)
    · rw [viewE_at hl hle hr ht]
      obtain ⟨k, hk, hkr, _⟩ := plcOf_some hr
      have htop := leads_top hle hr
      have ho := hok r (List.mem_of_getElem? hkr)
      have hpos : e.pos = (k : Int) + 2 := by
        rw [recAt_map] at hr
        unfold plcOf at *
        split at hr
        · rename_i h2
          rename_i h3
          rw [if_pos h2] at h3
          omega
        · cases hr
      have hform : r.form = fmOf z := by
        unfold leads at hle
        rw [hr] at hle
        simp only [Bool.and_eq_true, Bool.or_eq_true, decide_eq_true_eq] at hle
        rcases hle.2 with h | h
        · omega
        · exact h.1
      have hright := ho.1
      unfold right at hright
      simp only [Bool.and_eq_true, decide_eq_true_eq] at hright
      obtain ⟨⟨⟨h1, h2⟩, h3⟩, h4⟩ := hright
      have hbot : r.bot = l := by
        have := h1.2.2.2.2.2.2
        rw [hform] at this
        cases z <;> simp [fmOf] at this <;> omega
      have htl : r.top = l := by omega
      rw [hform, hbot] at ho
      have hre : r = ⟨fmOf z, l, l, r.lo, r.hi⟩ := by
        cases r
        simp only at hform hbot htl
        subst hform hbot
        subst htl
        rfl
      refine ⟨r.lo, r.hi, rfl, ?_⟩
      have hnr : ¬ redE z r.lo r.hi = true := by
        rw [hform] at h4
        cases z with
        | false => simpa [fmOf, redE] using h4
        | true => simpa [fmOf, redE] using h4
      rw [makeE_find hl ho.2.1 ho.2.2 hnr, ← hre]
      have hf : findP n room (rs.map some) r = (k + 2, 0, rs.map some) := by
        unfold findP
        rw [hid k r hkr]
      rw [hf]
      have htag := leads_tag (fm_ne z) hle
      cases e
      simp only at hpos htag
      subst hpos htag
      simp [fE]
theorem viewE_wf {z : Bool} {n : Nat} {rs : List Rec} {e : Edg} {l : Int} (hw : ∀ r ∈ rs, r.Wf) (he : e.Wf) : (viewE z n (rs.map some) e l).1.Wf ∧ (viewE z n (rs.map some) e l).2.1.Wf := by
  unfold viewE
  split
  · exact ⟨Edg.nil_wf, Edg.nil_wf⟩
  · split
    · split
      · refine ⟨he, ?_⟩
        simp only
        split
        · exact Edg.nil_wf
        · exact he
      · rename_i r hr
        obtain ⟨k, hk, hkr, _⟩ := plcOf_some hr
        have := hw r (List.mem_of_getElem? hkr)
        split
        · refine ⟨he, ?_⟩
          simp only
          split
          · exact Edg.nil_wf
          · exact he
        · exact ⟨this.2.2.2.1, this.2.2.2.2⟩
    · exact ⟨Edg.nil_wf, Edg.nil_wf⟩
end Go.Proofs.Ytfcklfpgjadfmaa
