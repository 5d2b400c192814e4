/- The layer's example; the walk of ZddNil. -/
import Derived.Test.YtfcklfpgjadfmaaZddView
namespace Go.Proofs.Ytfcklfpgjadfmaa
open Go.RowKit Go.Sort
set_option linter.unusedSimpArgs false
set_option linter.unusedVariables false

set_option maxHeartbeats 2000000 in
theorem zalive_any (w : World) : Calls Try.prog 25 #[] w fun e w' => e = .returned (.bool true) ∧ Below w.heap.size w w' := by
  have m1 : makeE true 2 5 [] 1 ⟨0, 1⟩ ⟨0, 0⟩ = (⟨0, 1⟩, 0, []) := by decide +kernel
  have M1 := Lib.hid m1
  clear m1
  go_enter Try.func25, Try.ntmps25
  go_wp2_with fail
  refine (storeNew_yes 2 5 _ (by omega) (by omega) (by omega) (by omega)).mono ?_
  rintro e w1 ⟨⟨g, F, rfl, hS, hF⟩, hb1⟩
  have HS1 := Lib.hid hS
  have HF := Lib.hid hF
  have HB1 := Lib.hid hb1
  clear hS hF hb1
  go_wp2_with fail
  refine (zmake_any F g 2 5 [] 1 ⟨0, 1⟩ ⟨0, 0⟩ _ HS1.out (by unfold Edg.Wf; simp) (by unfold Edg.Wf; simp)).mono ?_
  rintro e w2 ⟨rfl, hT⟩
  rw [M1.out] at hT ⊢
  obtain ⟨⟨F2, hS2, hF2⟩, hc2⟩ := hT
  have hb2 := hc2.below HB1.out.size HF.out
  have HB2 := Lib.hid (HB1.out.trans hb2)
  have HS2 := Lib.hid (hS2.on ((Below.refl _ _).alloc (Nat.le_refl _) (.cells #[.int .u8 0, .int .u32 1] 35)))
  clear hS2 hF2 hc2 hb2
  simp only [Edg.cells]
  go_wp2_with fail
  refine (storeLen_any F2 g 2 5 _ [] _ HS2.out).mono ?_
  rintro e w' ⟨rfl, rfl⟩
  have hcn : cntC ([] : List (Option Rec)) = 0 := rfl
  rw [hcn]
  clear hcn
  go_wp2_with fail
  go_ret
  exact ⟨rfl, HB2.out.alloc HB2.out.size _⟩

set_option maxHeartbeats 4000000 in
theorem znil_walk (l : Int) (lo hi : Edg) (w : World) (hlo : lo.Wf) (hhi : hi.Wf) : Calls Try.prog 14 #[.int .i64 l, .agg lo.cells.toArray, .agg hi.cells.toArray] w fun e w' => e = .returned (.bool true) ∧ Below w.heap.size w w' := by
  have HH := Lib.hid hhi
  obtain ⟨lt, lp⟩ := lo
  obtain ⟨ht, hp⟩ := hi
  simp only [Edg.cells]
  obtain ⟨W, hW⟩ : ∃ W, W = (w.alloc (.cells #[.int .u8 lt, .int .u32 lp] 35)).alloc (.cells #[.int .u8 ht, .int .u32 hp] 35) := ⟨_, rfl⟩
  have hB0 : Blk W w.heap.size 35 #[.int .u8 lt, .int .u32 lp] := by rw [hW]; exact (Blk.new w _ _).alloc _
  have hB1 : Blk W (w.heap.size + 1) 35 #[.int .u8 ht, .int .u32 hp] := by rw [hW]; exact Blk.new_at (by simp) _ _
  have H2 : Hid (Below w.heap.size w W) := Lib.hid (by rw [hW]; exact ((Below.refl _ _).alloc (Nat.le_refl _) _).alloc (by simp) _)
  have FB : Hid (∀ W', Below W.heap.size W W' → Blk W' w.heap.size 35 #[.int .u8 lt, .int .u32 lp] ∧ Blk W' (w.heap.size + 1) 35 #[.int .u8 ht, .int .u32 hp]) := Lib.hid fun W' hW' => ⟨hB0.on' hW', hB1.on' hW'⟩
  have HWS : Hid (W.heap.size = w.heap.size + 2) := Lib.hid (by rw [hW]; simp)
  have HWW := Lib.hid hW
  clear hlo hhi hB0 hB1
  go_enter Try.func14, Try.ntmps14
  go_wp2_with fail
  rw [← HWW.out]
  clear hW
  refine (zalive_any _).mono ?_
  rintro e w1 ⟨rfl, hb1⟩
  have hlt1 : w.heap.size < w1.heap.size := by have := hb1.size; have := HWS.out; omega
  have hlt2 : w.heap.size + 1 < w1.heap.size := by have := hb1.size; have := HWS.out; omega
  have a0 : w1.cell? ⟨w.heap.size, 0, none⟩ = some (.int .u8 lt) := (FB.out w1 hb1).1.cell 0
  have a1 : w1.cell? ⟨w.heap.size, 1, none⟩ = some (.int .u32 lp) := (FB.out w1 hb1).1.cell 1
  have b0 : w1.cell? ⟨w.heap.size + 1, 0, none⟩ = some (.int .u8 ht) := (FB.out w1 hb1).2.cell 0
  have b1 : w1.cell? ⟨w.heap.size + 1, 1, none⟩ = some (.int .u32 hp) := (FB.out w1 hb1).2.cell 1
  go_wp2_with fail
  refine (zmake_nil l ⟨lt, lp⟩ ⟨ht, hp⟩ _).mono ?_
  rintro e w2 ⟨rfl, hb2⟩
  have hbb2 := hb1.trans (hb2.mono hb1.size)
  have hlt12 : w.heap.size < w2.heap.size := by have := hb2.size; omega
  have hlt22 : w.heap.size + 1 < w2.heap.size := by have := hb2.size; omega
  have c0 : w2.cell? ⟨w.heap.size, 0, none⟩ = some (.int .u8 lt) := (FB.out w2 hbb2).1.cell 0
  have c1 : w2.cell? ⟨w.heap.size, 1, none⟩ = some (.int .u32 lp) := (FB.out w2 hbb2).1.cell 1
  have HB2 := Lib.hid hbb2
  clear hb1 hb2 hbb2 a0 a1 b0 b1
  go_wp2_with fail
  refine (zview_nil ⟨lt, lp⟩ l _).mono ?_
  rintro e w3 ⟨rfl, hb3⟩
  have HN := Lib.hid ((Blk.new w2 35 #[.int .u8 0, .int .u32 0]).on' hb3)
  have n0 : w3.cell? ⟨w2.heap.size, 0, none⟩ = some (.int .u8 0) := HN.out.cell 0
  have n1 : w3.cell? ⟨w2.heap.size, 1, none⟩ = some (.int .u32 0) := HN.out.cell 1
  have hb23 : Below W.heap.size W w3 := (HB2.out.alloc HB2.out.size _).trans (hb3.mono (by have := HB2.out.size; simp; omega))
  have d0 : w3.cell? ⟨w.heap.size + 1, 0, none⟩ = some (.int .u8 ht) := (FB.out w3 hb23).2.cell 0
  have d1 : w3.cell? ⟨w.heap.size + 1, 1, none⟩ = some (.int .u32 hp) := (FB.out w3 hb23).2.cell 1
  have hs3 := hb3.size
  have hlt3 : w2.heap.size < w3.heap.size := by simp at hs3; omega
  have hlt13 : w.heap.size + 1 < w3.heap.size := by omega
  have hlt03 : w.heap.size < w3.heap.size := by omega
  have HB3 := Lib.hid hb23
  clear hb3 hb23 c0 c1 hs3
  go_wp2_with fail
  refine (zright_nil ⟨ht, hp⟩ l _ HH.out).mono ?_
  rintro e w4 ⟨rfl, hb4⟩
  go_wp2_with fail
  go_ret
  refine ⟨rfl, ?_⟩
  have hs := H2.out.size
  have hs3 := HB3.out.size
  exact H2.out.trans ((((HB3.out.alloc hs3 _).alloc (by simp; omega) _).trans (hb4.mono (by simp; omega))).mono hs)
end Go.Proofs.Ytfcklfpgjadfmaa
