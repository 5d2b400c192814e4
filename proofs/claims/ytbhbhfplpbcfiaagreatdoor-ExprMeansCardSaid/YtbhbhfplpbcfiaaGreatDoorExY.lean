/- Law 29: ExprAgain. -/
import Derived.Test.YtbhbhfplpbcfiaaGreatDoorExX
import Derived.Test.YtbhbhfplpbcfiaaGreatDoorExO
import Derived.Test.YtbhbhfplpbcfiaaGreatDoorExW
namespace Go.Proofs.YtbhbhfplpbcfiaaGreatDoor
open Go.RowKit Go.Sort
set_option linter.unusedSimpArgs false
set_option linter.unusedVariables false

set_option maxRecDepth 100000 in
set_option maxHeartbeats 4000000 in
theorem exprText_nil (w : World) : Calls Tryz.prog 9 #[.pointer none] w fun e w' => e = .returned (.string ⟨#[]⟩) ∧ w = w' := by
  go_enter Tryz.func9, Tryz.ntmps9
  go_wp2_with fail
  go_ret
  exact ⟨rfl, rfl⟩
theorem size_list (s : ByteArray) : ∃ l : List UInt8, s = ⟨l.toArray⟩ ∧ l.length = s.size := ⟨s.data.toList, bytes_eq rfl, by rw [Array.length_toList]; rfl⟩
/-- what stands behind a Parse of the text of an expression, blanks around it -/
theorem parse_again {x : Ex} (hs : x.Small) (hf : x.Full) (hlen : x.textE.length ≤ 4000) (hd : x.depthE ≤ 400) (w : World) (hV : PV w) :
    Calls Tryz.prog 7 #[.string ⟨(32 :: (x.textE ++ [32, 32])).toArray⟩] w fun e w' => Below w.heap.size w w' ∧
      ((∃ p : Nat, 200 < x.depthE ∧ e = .returned (.tuple #[.pointer none, .int .i64 p, .int .u8 12])) ∨ (∃ g, e = .returned (.tuple #[.pointer (some ⟨g, 0, none⟩), .int .i64 0, .int .u8 0]) ∧ ExprIs w' g x)) := by
  refine (parse_any _ w (by simp; omega) hV).mono ?_
  obtain ⟨⟨L0, z0, hLz, hz0, hL0⟩, _⟩ := lex_ended (32 :: (x.textE ++ [32, 32])) 0 _ (Nat.le_refl _)
  have hag := again_ok hs hf hLz hz0 hL0
  rw [← hLz] at hag
  rintro e w' ⟨hb, ⟨h, _⟩ | ⟨_, c, p, hw, hc, he⟩ | ⟨_, hw, L, z, x2, g, h1, h2, h3, h4, h5, h6, h7, h8, h9, h10, h11⟩⟩
  · exfalso; simp at h; omega
  · refine ⟨hb, .inl ?_⟩
    rcases hag with ⟨_, k⟩ | ⟨k1, p', k2⟩
    · rw [hw] at k
      injection k with k1 k2
      omega
    · rw [hw] at k2
      injection k2 with k2 k3
      subst k3
      exact ⟨p, k1, he⟩
  · refine ⟨hb, .inr ⟨g, h9, ?_⟩⟩
    rcases hag with ⟨k, _⟩ | ⟨_, p', k2⟩
    · have e1 : L = L0 := by
        have := h1.symm.trans hLz
        exact (List.append_inj' this rfl).1
      subst e1
      rw [rt_det k _ h5]
      exact h11
    · rw [hw] at k2
      injection k2 with _ k3
      omega
/-- what Parse leaves of any text of at most 400 bytes -/
theorem parse_400 (l : List UInt8) (w : World) (h : l.length ≤ 400) (hV : PV w) : Calls Tryz.prog 7 #[.string ⟨l.toArray⟩] w fun e w' => Below w.heap.size w w' ∧
      ((∃ c p : Nat, (c = 10 ∨ c = 12) ∧ e = .returned (.tuple #[.pointer none, .int .i64 p, .int .u8 c])) ∨ (∃ g x, e = .returned (.tuple #[.pointer (some ⟨g, 0, none⟩), .int .i64 0, .int .u8 0]) ∧ ExprIs w' g x ∧ x.Small ∧ x.Full ∧ x.textE.length ≤ 4 * l.length ∧ x.depthE < l.length)) := by
  refine (parse_any l w (by omega) hV).mono ?_
  rintro e w' ⟨hb, ⟨h, _⟩ | ⟨_, c, p, hw, hc, he⟩ | ⟨_, hw, L, z, x, g, h1, h2, h3, h4, h5, h6, h7, h8, h9, h10, h11⟩⟩
  · exfalso; omega
  · exact ⟨hb, .inl ⟨c, p, hc, he⟩⟩
  · have hl := lex_len l 0
    rw [h1] at hl
    simp at hl
    have h12 := rt_len h5 (fun t ht => (h4 t ht).1)
    have h13 := rt_depth h5
    exact ⟨hb, .inr ⟨g, x, h9, h11, h6, h7, by omega, by omega⟩⟩
end Go.Proofs.YtbhbhfplpbcfiaaGreatDoor
