/- Plain: a built store's records lead on rightly; the program's members are the document's. -/
import Derived.Test.YtpjciaomhfeeeaaGreatBuilt
import Derived.Test.YtpjciaomhfeeeaaGreatMah
import Derived.Test.YtpjciaomhfeeeaaGreatMap
namespace Go.Proofs.YtpjciaomhfeeeaaGreat
open Go Go.RowKit Go.Sort
set_option linter.unusedSimpArgs false
set_option linter.unusedVariables false

/-- each record is right, and its edges lead -/
def RecsR (n : Nat) (rs : List Rec) : Prop := ∀ r ∈ rs, right r n = true ∧ leads (rs.map some) n r.form r.lo (r.bot + 1) = true ∧ leads (rs.map some) n r.form r.hi (r.bot + 1) = true
theorem leads_more {rs : List Rec} {n : Nat} {f : Int} {e : Edg} {l : Int} (r : Rec) (h : leads (rs.map some) n f e l = true) : leads ((rs ++ [r]).map some) n f e l = true := by
  unfold leads at h ⊢
  simp only [Bool.and_eq_true, Bool.or_eq_true, decide_eq_true_eq] at h ⊢
  refine ⟨h.1, ?_⟩
  rcases h.2 with h2 | h2
  · exact .inl h2
  · right
    cases hx : recAt (rs.map some) e.pos with
    | none => rw [hx] at h2; cases h2
    | some x =>
      rw [hx] at h2
      have h3 : recAt ((rs ++ [r]).map some) e.pos = some x := by
        rw [recAt_map] at hx ⊢
        split at hx
        · rename_i h4
          rw [if_pos (by simp; omega), List.getElem?_append_left (by omega)]
          exact hx
        · cases hx
      rw [h3]
      exact h2
theorem RecsR.find {n room : Nat} {rs : List Rec} (h : RecsR n rs) (r : Rec) : RecsR n (findR n room rs r).2.2 := by
  unfold findR
  split
  · exact h
  · split
    · rename_i hc
      split
      · intro x hx
        simp only [Bool.and_eq_true] at hc
        rcases List.mem_append.1 hx with hx | hx
        · have := h x hx
          exact ⟨this.1, leads_more _ this.2.1, leads_more _ this.2.2⟩
        · simp at hx
          subst hx
          exact ⟨hc.1.1, leads_more _ hc.1.2, leads_more _ hc.2⟩
      · exact h
    · exact h
theorem recsR_fold (n room : Nat) : ∀ (l rs : List Rec), RecsR n rs → RecsR n (l.foldl (fun rs r => (findR n room rs r).2.2) rs)
  | [], rs, h => h
  | r :: l, rs, h => recsR_fold n room l _ (h.find r)
theorem recsR_built (n room : Nat) (l : List Rec) : RecsR n (builtR n room l) := recsR_fold n room l [] (fun r h => by simp at h)

theorem fit_of_leads {cs : List (Option Rec)} {n f : Int} {e : Edg} {l : Nat} (h : leads cs n f e l = true) : Fit cs f e l := by
  intro r hr
  unfold leads at h
  rw [hr] at h
  simp only [Bool.and_eq_true, Bool.or_eq_true, decide_eq_true_eq] at h
  rcases h.2 with h2 | h2
  · unfold recAt at hr
    rw [if_neg (by omega)] at hr
    cases hr
  · exact ⟨h2.1, h2.2.1⟩
theorem recAt_mem {rs : List Rec} {id : Int} {r : Rec} (h : recAt (rs.map some) id = some r) : r ∈ rs := by
  rw [recAt_map] at h
  split at h
  · exact List.mem_of_getElem? h
  · cases h
theorem right_parts {r : Rec} {n : Nat} (h : right r n = true) : r.top ≤ r.bot ∧ r.bot < n := by
  unfold right at h
  simp only [Bool.and_eq_true, decide_eq_true_eq] at h
  exact ⟨h.1.1.1.2.2.2.2.1, h.1.1.1.2.2.2.2.2.1⟩
theorem chain_of {n : Nat} {rs : List Rec} (h : RecsR n rs) (hw : ∀ r ∈ rs, r.Wf) : Chain (rs.map some) n := by
  intro id r hr
  have hm := recAt_mem hr
  obtain ⟨h1, h2, h3⟩ := h r hm
  have hwr := hw r hm
  obtain ⟨p1, p2⟩ := right_parts h1
  obtain ⟨o, ho⟩ := Int.eq_ofNat_of_zero_le (show 0 ≤ r.bot from hwr.2.2.1.1)
  rw [ho] at h2 h3 ⊢
  have g2 := fit_of_leads (l := o + 1) h2
  have g3 := fit_of_leads (l := o + 1) h3
  rw [ho] at p1 p2
  exact ⟨hwr.2.1.1, p1, p2, fun r' hr' => ⟨(g2 r' hr').1, (g2 r' hr').2⟩, fun r' hr' => ⟨(g3 r' hr').1, (g3 r' hr').2⟩⟩
theorem hcs_of {n : Nat} {rs : List Rec} (h : RecsR n rs) (hw : ∀ r ∈ rs, r.Wf) : ∀ id r, recAt (rs.map some) id = some r → r.Wf ∧ r.top ≤ r.bot ∧ r.bot < n := fun id r hr =>
  have hm := recAt_mem hr
  ⟨hw r hm, right_parts (h r hm).1⟩

/-- only the levels below n count -/
theorem inR_cong {cs : List (Option Rec)} {n f : Int} : ∀ (m : Nat) (b b' : Nat → Bool) (x : Rst) (l : Nat), (∀ k, l ≤ k → k < l + m → b k = b' k) → inR cs n f b m x l = inR cs n f b' m x l
  | 0, _, _, _, _, _ => rfl
  | m + 1, b, b', x, l, h => by rw [inR, inR, h l (by omega) (by omega), inR_cong m b b' _ (l + 1) (fun k h1 h2 => h k (by omega) (by omega))]
/-- the members by levels -/
def byM (cs : List (Option Rec)) (n : Nat) (f : Int) (e : Edg) : List Nat := (List.range (2 ^ n)).filter (fun z => holdsD cs n f (fun k => z.testBit (n - 1 - k)) (n + 1) e 0)
theorem allM_by {cs : List (Option Rec)} {n : Nat} {ps : List Int} {f : Int} {e : Edg} (h : startC cs n ps.length f e = 0) (hc : Chain cs n) (hF : Fit cs f e 0) : allM cs n ps f e = (byM cs n f e).map (upM ps n) := by
  unfold allM byM
  rw [if_neg (by simpa using h), memR_filter n _ 0 0]
  congr 1
  rw [Nat.zero_mul]
  have e0 : (fun x => 0 + x : Nat → Nat) = id := funext fun x => by simp
  rw [e0, List.map_id]
  refine List.filter_congr fun z _ => ?_
  rw [show ((0 : Int)) = ((0 : Nat) : Int) from rfl, inR_holds hc n 0 (n + 1) e (by simp) hF (by omega), Nat.zero_add]
/-- the document's number of levels as bits -/
theorem holds_bits {cs : List (Option Rec)} {n : Nat} {f : Int} {e : Edg} (hc : Chain cs n) (hF : Fit cs f e 0) (b b' : Nat → Bool) (h : ∀ k, k < n → b k = b' k) : holdsD cs n f b (n + 1) e 0 = holdsD cs n f b' (n + 1) e 0 := by
  rw [← inR_holds hc n 0 (n + 1) e (by simp) hF (by omega), ← inR_holds hc n 0 (n + 1) e (by simp) hF (by omega)]
  exact inR_cong n b b' _ 0 (fun k _ hk => h k (by omega))
end Go.Proofs.YtpjciaomhfeeeaaGreat
