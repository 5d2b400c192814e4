/- Plain: an edge that isn't nothing has a member; the document's Rank. Plain: what Nth, Rank, First, Last tell is what the list of members tells. -/
import Derived.Test.YtpjciaomhfeeeaaGreatRnkP
import Derived.Test.YtpjciaomhfeeeaaGreatNode
import Derived.Test.YtpjciaomhfeeeaaGreatMai
import Derived.Test.YtpjciaomhfeeeaaGreatMad
import Derived.Test.YtpjciaomhfeeeaaGreatMaj
section
namespace Go.Proofs.YtpjciaomhfeeeaaGreat
open Go Go.RowKit
set_option linter.unusedSimpArgs false
set_option linter.unusedVariables false

def LiveR (cs : List (Option Rec)) : Prop := ∀ id r, recAt cs id = some r → r.lo.pos ≠ 0 ∨ r.hi.pos ≠ 0
section
variable {cs : List (Option Rec)} {n f : Int}
theorem cnt_half {m : Nat} {x : Rst} (hi : x.inn = true) (one : Bool) (h : 0 < cntR cs n f m (halfR cs n f x one)) : 0 < cntR cs n f (m + 1) x := by
  rw [cntR_succ, if_pos hi]
  cases one <;> omega
theorem cnt_node {r : Rec} (o m : Nat) (ho : r.bot = (o : Int)) (tag : Int) (h : 0 < cntR cs n f m (atR cs r.lo ((o + 1 : Nat) : Int)) ∨ 0 < cntR cs n f m (atR cs r.hi ((o + 1 : Nat) : Int))) :
    ∀ (d t : Nat), t + d = o → 0 < cntR cs n f (d + 1 + m) ⟨true, true, { r with top := (t : Int) }, tag, (t : Int)⟩
  | 0, t, ht => by
    obtain rfl : t = o := by omega
    rw [show 0 + 1 + m = m + 1 by omega]
    rcases h with h | h
    · refine cnt_half rfl false ?_
      unfold halfR topR
      simp only [ho]
      rw [if_neg (by simp)]
      simpa using h
    · refine cnt_half rfl true ?_
      unfold halfR topR
      simp only [ho]
      rw [if_neg (by simp)]
      simpa using h
  | d + 1, t, ht => by
    rw [show d + 1 + 1 + m = (d + 1 + m) + 1 by omega]
    refine cnt_half rfl false ?_
    unfold halfR topR
    simp only [ho]
    rw [if_neg (by simp), if_neg (by simp)]
    have hne : ((t : Int) == (o : Int)) = false := by rw [beq_eq_false_iff_ne]; omega
    rw [hne, if_neg (by simp)]
    have := cnt_node o m ho tag h d (t + 1) (by omega)
    rw [ho] at this
    exact this
theorem cnt_pos (hc : Chain cs n) (hL : LiveR cs) : ∀ (m l : Nat) (e : Edg), ((l + m : Nat) : Int) = n → Fit cs f e l → e.pos ≠ 0 → 0 < cntR cs n f m (atR cs e (l : Nat)) := by
  intro m
  induction m using Nat.strongRecOn with
  | _ m ih =>
    intro l e hn hF hp
    have out : ∀ m', m = m' + 1 → (∀ r, recAt cs e.pos = some r → (l : Int) < r.top) → 0 < cntR cs n f m (atR cs e (l : Nat)) := by
      intro m' hm hlt
      subst hm
      refine cnt_half (by rw [atR_inn hp]) false ?_
      rw [half_out hp false hlt (by omega), if_neg (by simp)]
      exact ih m' (by omega) (l + 1) e (by omega) (hF.up hlt) hp
    cases hr : recAt cs e.pos with
    | none =>
      cases m with
      | zero => rw [cntR_zero, if_pos (by rw [atR_inn hp])]; omega
      | succ m => exact out m rfl (fun r hr' => by rw [hr] at hr'; cases hr')
    | some r =>
      obtain ⟨c1, c2, c3, c4, c5⟩ := hc _ _ hr
      obtain ⟨f1, f2⟩ := hF r hr
      by_cases ht : (l : Int) < r.top
      · obtain ⟨m', rfl⟩ : ∃ m', m = m' + 1 := ⟨m - 1, by omega⟩
        exact out m' rfl (fun r' hr' => by rw [hr] at hr'; injection hr' with hr'; rw [← hr']; exact ht)
      · obtain ⟨o, ho⟩ := Int.eq_ofNat_of_zero_le (show 0 ≤ r.bot by omega)
        obtain ⟨m', hm'⟩ : ∃ m', m = (o - l) + 1 + m' := ⟨m - (o - l) - 1, by omega⟩
        have htl : r.top = (l : Int) := by omega
        have hx : atR cs e (l : Nat) = ⟨true, true, { r with top := (l : Int) }, e.tag, (l : Int)⟩ := by
          rw [atR_inn hp, hr, ← htl]; rfl
        rw [hx, hm']
        refine cnt_node o m' ho e.tag ?_ (o - l) l (by omega)
        rcases hL _ _ hr with h | h
        · exact .inl (ih m' (by omega) (o + 1) r.lo (by omega) (fun r' hr' => ⟨by rw [(c4 r' hr').1, f1], by have := (c4 r' hr').2; omega⟩) h)
        · exact .inr (ih m' (by omega) (o + 1) r.hi (by omega) (fun r' hr' => ⟨by rw [(c5 r' hr').1, f1], by have := (c5 r' hr').2; omega⟩) h)
end
theorem plain_zero {f l n : Int} {e : Edg} (h : plain f e l n = true) (hp : e.pos = 0) : e.tag = 0 := by
  obtain ⟨t, p⟩ := e
  simp only at hp
  subst hp
  by_cases hA : 1 ≤ f ∧ f ≤ 5 ∧ 0 ≤ n ∧ n ≤ 16 ∧ 0 ≤ l ∧ l ≤ n
  · rw [plain_tag hA (.inr rfl)] at h
    simpa using h
  · rw [plain_noA hA] at h; cases h
theorem live_of {n : Nat} {rs : List Rec} (h : RecsR n rs) : LiveR (rs.map some) := by
  intro id r hr
  have hm := recAt_mem hr
  have h1 := (h r hm).1
  unfold right at h1
  simp only [Bool.and_eq_true] at h1
  obtain ⟨⟨⟨_, h2⟩, h3⟩, h4⟩ := h1
  by_cases hf : r.form = 2 ∨ r.form = 4
  · rw [if_pos hf] at h4
    exact .inr (by simpa using h4)
  · rw [if_neg hf] at h4
    simp only [decide_eq_true_eq] at h4
    by_cases hl : r.lo.pos = 0
    · by_cases hh : r.hi.pos = 0
      · exfalso
        apply h4
        have e1 := plain_zero h2 hl
        have e2 := plain_zero h3 hh
        have : r.lo = ⟨r.lo.tag, r.lo.pos⟩ := rfl
        rw [this, e1, hl]
        have : r.hi = ⟨r.hi.tag, r.hi.pos⟩ := rfl
        rw [this, e2, hh]
      · exact .inr hh
    · exact .inl hl
/-- an edge that may be asked and isn't nothing has members -/
theorem pos_of {n : Nat} {rs : List Rec} {f : Int} {e : Edg} (hr : RecsR n rs) (hw : ∀ r ∈ rs, r.Wf) (hF : Fit (rs.map some) f e 0) (hi : (atR (rs.map some) e 0).inn = true) : 0 < cntR (rs.map some) n f n (atR (rs.map some) e 0) := by
  have hp : e.pos ≠ 0 := fun h => by rw [atR_zero h] at hi; cases hi
  exact cnt_pos (chain_of hr hw) (live_of hr) n 0 e (by simp) hF hp

/-- how many of a list stand ahead -/
def rankD (zs : List Nat) (ps : List Int) (x : Nat) : Nat := (zs.filter fun z => decide (rdown z ps < rdown x ps)).length
theorem rankD_snoc (zs : List Nat) (ps : List Int) (x z : Nat) : rankD (zs ++ [z]) ps x = rankD zs ps x + if rdown z ps < rdown x ps then 1 else 0 := by
  unfold rankD
  rw [List.filter_append, List.length_append]
  by_cases h : rdown z ps < rdown x ps <;> simp [h]
theorem rankD_le (zs : List Nat) (ps : List Int) (x : Nat) : rankD zs ps x ≤ zs.length := List.length_filter_le _ _
end Go.Proofs.YtpjciaomhfeeeaaGreat
end

section
namespace Go.Proofs.YtpjciaomhfeeeaaGreat
open Go Go.RowKit
set_option linter.unusedSimpArgs false
set_option linter.unusedVariables false

section
variable {cs : List (Option Rec)} {n : Nat} {ps : List Int} {f : Int} {e : Edg}
theorem allM_map (h : startC cs n ps.length f e = 0) : allM cs n ps f e = (memR cs n f n (atR cs e 0) 0).map (upM ps n) := by
  unfold allM; rw [if_neg (by simpa using h)]
theorem allM_cnt (h : startC cs n ps.length f e = 0) : (allM cs n ps f e).length = cntR cs n f n (atR cs e 0) := by
  rw [allM_map h, List.length_map]; rfl
theorem allM_get (h : startC cs n ps.length f e = 0) {k : Nat} (hk : k < (allM cs n ps f e).length) : (allM cs n ps f e)[k]? = some (upM ps n (nthR cs n f n (atR cs e 0) k 0)) := by
  rw [allM_cnt h] at hk
  rw [allM_map h, List.getElem?_map, nthR_get n _ k 0 hk]; rfl
theorem nthC_in (h : startC cs n ps.length f e = 0) {k : Nat} (hk : k < (allM cs n ps f e).length) : nthC cs n ps f e k = ((((allM cs n ps f e)[k]?.getD 0 : Nat) : Int), 0) := by
  rw [allM_get h hk]
  rw [allM_cnt h] at hk
  unfold nthC
  rw [if_neg (by simpa using h), if_neg (by omega), Int.toNat_natCast]; rfl
theorem nthC_out (h : startC cs n ps.length f e = 0) {k : Int} (hk : k < 0 ∨ ((allM cs n ps f e).length : Int) ≤ k) : nthC cs n ps f e k = (0, 11) := by
  rw [allM_cnt h] at hk
  unfold nthC
  rw [if_neg (by simpa using h), if_pos hk]
theorem rankR_D (hp : IsPerm ps) (hl : ps.length = n) (h : startC cs n ps.length f e = 0) (x : Nat) : rankR cs n f (rdown x ps).testBit n (atR cs e 0) = rankD (allM cs n ps f e) ps x := by
  have hx : rdown x ps < 2 ^ n := by have := rdown_lt x ps; rw [hl] at this; exact this
  rw [rankR_eq, Nat.mod_eq_of_lt hx, allM_map h]
  unfold rankD
  rw [List.filter_map, List.length_map]
  congr 1
  refine List.filter_congr fun z hz => ?_
  have hz2 := memR_lt n _ z hz
  have := rdown_up hp z (by rw [hl]; exact hz2)
  rw [hl] at this
  simp only [Function.comp_apply, this]
theorem rankC_in (hp : IsPerm ps) (hl : ps.length = n) (h : startC cs n ps.length f e = 0) {x : Nat} (hx : x < 2 ^ n) : rankC cs n ps f e x = (((rankD (allM cs n ps f e) ps x : Nat) : Int), 0) := by
  unfold rankC
  rw [if_neg (by simpa using h), if_neg (by omega), Int.toNat_natCast, rankR_D hp hl h x]
theorem rankC_out (h : startC cs n ps.length f e = 0) {x : Int} (hx : x < 0 ∨ ((2 ^ n : Nat) : Int) ≤ x) : rankC cs n ps f e x = (0, 1) := by
  unfold rankC
  rw [if_neg (by simpa using h), if_pos hx]
theorem mem_lt (hp : IsPerm ps) (hl : ps.length = n) (h : startC cs n ps.length f e = 0) : ∀ z ∈ allM cs n ps f e, z < 2 ^ n := by
  intro z hz
  rw [allM_map h] at hz
  obtain ⟨a, _, rfl⟩ := List.mem_map.1 hz
  have := upM_lt hp a
  rw [hl] at this
  exact this
theorem rank_at (hp : IsPerm ps) (hl : ps.length = n) (h : startC cs n ps.length f e = 0) {k : Nat} (hk : k < (allM cs n ps f e).length) : rankC cs n ps f e (((allM cs n ps f e)[k]?.getD 0 : Nat) : Int) = ((k : Int), 0) := by
  have hg := allM_get h hk
  have hlt : (allM cs n ps f e)[k]?.getD 0 < 2 ^ n := by
    refine mem_lt hp hl h _ ?_
    rw [List.getElem?_eq_getElem hk]
    exact List.getElem_mem _
  unfold rankC
  rw [if_neg (by simpa using h), if_neg (by omega), Int.toNat_natCast, hg]
  rw [allM_cnt h] at hk
  have hn := nthR_lt n _ k hk
  have hr := rdown_up hp (nthR cs n f n (atR cs e 0) k 0) (by rw [hl]; exact hn)
  rw [hl] at hr
  simp only [Option.getD_some]
  rw [hr, rank_nth n _ k hk]
theorem lastC_none (h : startC cs n ps.length f e = 0) (hpos : (atR cs e 0).inn = true → 0 < cntR cs n f n (atR cs e 0)) (h0 : (allM cs n ps f e).length = 0) : lastC cs n ps f e = (0, 11) := by
  rw [allM_cnt h] at h0
  unfold lastC
  rw [if_neg (by simpa using h), if_pos]
  cases hi : (atR cs e 0).inn with
  | false => rfl
  | true => have := hpos hi; omega
theorem lastC_some (h : startC cs n ps.length f e = 0) (h0 : 0 < (allM cs n ps f e).length) : lastC cs n ps f e = ((((allM cs n ps f e)[(allM cs n ps f e).length - 1]?.getD 0 : Nat) : Int), 0) := by
  rw [allM_get h (by omega), allM_cnt h]
  rw [allM_cnt h] at h0
  unfold lastC
  rw [if_neg (by simpa using h), if_neg (by rw [inn_of_cnt h0]; simp)]; rfl
end
end Go.Proofs.YtpjciaomhfeeeaaGreat
end
