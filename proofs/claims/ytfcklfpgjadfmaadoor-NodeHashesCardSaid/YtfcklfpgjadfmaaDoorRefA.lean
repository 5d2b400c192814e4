/- Contracts: ramageref10.Plain. -/
import Derived.Test.YtfcklfpgjadfmaaDoorNode
namespace Go.Proofs.YtfcklfpgjadfmaaDoor
open Go.RowKit
set_option linter.unusedSimpArgs false
set_option linter.unusedVariables false

set_option maxHeartbeats 2000000 in
theorem refPlain_any (f : Int) (e : Edg) (l n : Int) (w : World) (hf : 0 ≤ f ∧ f ≤ 255) (he : e.Wf) : Calls Tryd.prog 18 #[.int .u8 f, .agg e.cells.toArray, .int .i64 l, .int .i64 n] w fun r w' => r = .returned (.bool (plain f e l n)) ∧ Below w.heap.size w w' := by
  obtain ⟨t, p⟩ := e
  obtain ⟨h1, h2, h3, h4⟩ := he
  obtain ⟨h5, h6⟩ := hf
  simp only [Edg.cells] at h1 h2 h3 h4 ⊢
  have hfin : Below w.heap.size w (w.alloc (.cells #[.int .u8 t, .int .u32 p] 25)) := (Below.refl _ _).alloc (Nat.le_refl _) _
  by_cases hA : 1 ≤ f ∧ f ≤ 5 ∧ 0 ≤ n ∧ n ≤ 16 ∧ 0 ≤ l ∧ l ≤ n
  · have HA := Lib.hid hA
    obtain ⟨b1, b2, b3, b4, b5, b6⟩ := hA
    by_cases hf5 : f = 5
    · subst hf5
      by_cases hp0 : p = 0
      · subst hp0
        have HR : Hid (plain 5 ⟨t, 0⟩ l n = (t == 0)) := Lib.hid (plain_tag HA.out (.inr rfl))
        go_enter Tryd.func18, Tryd.ntmps18
        go_wp2_with fail
        go_ret
        exact ⟨by rw [HR.out]; rfl, hfin⟩
      · have hp00 : (p == 0) = false := by simpa using hp0
        have HR : Hid (plain 5 ⟨t, p⟩ l n = (decide (l ≤ t) && decide (t ≤ n))) := Lib.hid (plain_tbdd HA.out (by simp [hp0]))
        clear hp0
        by_cases ht : l ≤ t
        · have hd1 : decide (l ≤ t) = true := by simpa using ht
          go_enter Tryd.func18, Tryd.ntmps18
          go_wp2_with fail
          go_ret
          exact ⟨by rw [HR.out, hd1]; rfl, hfin⟩
        · have hd1 : decide (l ≤ t) = false := by simpa using ht
          go_enter Tryd.func18, Tryd.ntmps18
          go_wp2_with fail
          go_ret
          exact ⟨by rw [HR.out, hd1]; rfl, hfin⟩
    · have HR : Hid (plain f ⟨t, p⟩ l n = (t == 0)) := Lib.hid (plain_tag HA.out (.inl hf5))
      have hf50 : (f == 5) = false := by simpa using hf5
      have hf51 : (f != 5) = true := by simpa using hf5
      clear hf5
      go_enter Tryd.func18, Tryd.ntmps18
      go_wp2_with fail
      go_ret
      exact ⟨by rw [HR.out]; rfl, hfin⟩
  · have HR : Hid (plain f ⟨t, p⟩ l n = false) := Lib.hid (plain_noA hA)
    have HA := Lib.hid hA
    clear hA
    go_enter Tryd.func18, Tryd.ntmps18
    by_cases b1 : 1 ≤ f
    · by_cases b2 : f ≤ 5
      · by_cases b3 : 0 ≤ n
        · by_cases b4 : n ≤ 16
          · by_cases b5 : 0 ≤ l
            · have b6 : ¬ l ≤ n := fun b6 => HA.out ⟨b1, b2, b3, b4, b5, b6⟩
              go_wp2_with fail
              go_ret
              exact ⟨by rw [HR.out]; rfl, hfin⟩
            · go_wp2_with fail
              go_ret
              exact ⟨by rw [HR.out]; rfl, hfin⟩
          · go_wp2_with fail
            go_ret
            exact ⟨by rw [HR.out]; rfl, hfin⟩
        · go_wp2_with fail
          go_ret
          exact ⟨by rw [HR.out]; rfl, hfin⟩
      · go_wp2_with fail
        go_ret
        exact ⟨by rw [HR.out]; rfl, hfin⟩
    · go_wp2_with fail
      go_ret
      exact ⟨by rw [HR.out]; rfl, hfin⟩
/-- the record's fields as bounds: what stands between a record and 'it may be' -/
theorem right_eq (r : Rec) (n : Int) : right r n = (decide (1 ≤ r.form ∧ r.form ≤ 5 ∧ 0 ≤ n ∧ n ≤ 16 ∧ r.top ≤ r.bot ∧ r.bot < n ∧ (r.top = r.bot ∨ r.form = 3 ∨ r.form = 4)) && plain r.form r.lo (r.bot + 1) n && plain r.form r.hi (r.bot + 1) n &&
    (if r.form = 2 ∨ r.form = 4 then decide (r.hi.pos ≠ 0) else decide (r.lo ≠ r.hi))) := rfl
end Go.Proofs.YtfcklfpgjadfmaaDoor
