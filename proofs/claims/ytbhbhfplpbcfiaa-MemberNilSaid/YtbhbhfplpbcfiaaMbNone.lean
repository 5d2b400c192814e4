/- Contract: the law's none. -/
import Derived.Test.YtbhbhfplpbcfiaaMbAllN
namespace Go.Proofs.Ytbhbhfplpbcfiaa
open Go Go.RowKit Go.Shelf
set_option linter.unusedSimpArgs false
set_option linter.unusedVariables false

set_option maxRecDepth 100000 in
set_option maxHeartbeats 16000000 in
theorem mnone_any (sp op : Option Addr) (h : sp = none ∨ op = none) (f tag pos k : Int) (A : Option Addr) (n c : Nat) (w : World) :
    Calls Try.prog 8 #[.pointer sp, .pointer op, .int .u8 f, .agg #[.int .u8 tag, .int .u32 pos], .int .i64 k, .slice A n c] w fun e w' => e = .returned (.bool true) ∧ Below w.heap.size w w' := by
  obtain ⟨W, hW⟩ : ∃ W, W = w.alloc (.cells #[.int .u8 tag, .int .u32 pos] 24) := ⟨_, rfl⟩
  have hbW : Below w.heap.size w W := by rw [hW]; exact (Below.refl _ _).alloc (Nat.le_refl _) _
  have b1 : Blk W w.heap.size 24 #[.int .u8 tag, .int .u32 pos] := by rw [hW]; exact Blk.new w _ _
  have H1 := Lib.hid (fun W => nth_nil sp op h f tag pos k W)
  have H2 := Lib.hid (fun W => rank_nil sp op h f tag pos k W)
  have H3 := Lib.hid (fun W => first_nil sp op h f tag pos W)
  have H4 := Lib.hid (fun W => last_nil sp op h f tag pos W)
  have H5 := Lib.hid (fun W => best_nil sp op h f tag pos A n c W)
  have H6 := Lib.hid (fun W => mall_any sp op f tag pos W)
  have H7 := Lib.hid (fun b W k0 k1 k2 k3 k4 hb => mall_none sp op h f tag pos b W k0 k1 k2 k3 k4 hb)
  have HWW := Lib.hid hW
  have HB := Lib.hid hbW
  have B := Lib.hid b1
  clear hbW b1 h
  go_enter Try.func8, Try.ntmps8
  go_wp2_with fail
  rw [← HWW.out]
  clear hW
  have k00 : W.cell? ⟨w.heap.size, 0, none⟩ = some (.int .u8 tag) := B.out.cell 0
  have k01 : W.cell? ⟨w.heap.size, 1, none⟩ = some (.int .u32 pos) := B.out.cell 1
  try go_wp2_with fail
  clear k00 k01
  refine (H1.out _).mono ?_
  rintro e w1 ⟨rfl, hb1⟩
  have HB1 := Lib.hid (HB.out.trans (hb1.mono HB.out.size))
  have HBW1 : Hid (Below W.heap.size W w1) := Lib.hid (hb1)
  have k10 : w1.cell? ⟨w.heap.size, 0, none⟩ = some (.int .u8 tag) := ((B.out.onB (HBW1.out)).cell 0)
  have k11 : w1.cell? ⟨w.heap.size, 1, none⟩ = some (.int .u32 pos) := ((B.out.onB (HBW1.out)).cell 1)
  clear hb1
  go_wp2_with fail
  clear k10 k11
  refine (H2.out _).mono ?_
  rintro e w2 ⟨rfl, hb2⟩
  have HB2 := Lib.hid (HB1.out.trans (hb2.mono HB1.out.size))
  have HBW2 : Hid (Below W.heap.size W w2) := Lib.hid ((HBW1.out.trans (hb2.mono HBW1.out.size)))
  have k20 : w2.cell? ⟨w.heap.size, 0, none⟩ = some (.int .u8 tag) := ((B.out.onB (HBW2.out)).cell 0)
  have k21 : w2.cell? ⟨w.heap.size, 1, none⟩ = some (.int .u32 pos) := ((B.out.onB (HBW2.out)).cell 1)
  clear hb2
  go_wp2_with fail
  clear k20 k21
  refine (H3.out _).mono ?_
  rintro e w3 ⟨rfl, hb3⟩
  have HB3 := Lib.hid (HB2.out.trans (hb3.mono HB2.out.size))
  have HBW3 : Hid (Below W.heap.size W w3) := Lib.hid ((HBW2.out.trans (hb3.mono HBW2.out.size)))
  have k30 : w3.cell? ⟨w.heap.size, 0, none⟩ = some (.int .u8 tag) := ((B.out.onB (HBW3.out)).cell 0)
  have k31 : w3.cell? ⟨w.heap.size, 1, none⟩ = some (.int .u32 pos) := ((B.out.onB (HBW3.out)).cell 1)
  clear hb3
  go_wp2_with fail
  clear k30 k31
  refine (H4.out _).mono ?_
  rintro e w4 ⟨rfl, hb4⟩
  have HB4 := Lib.hid (HB3.out.trans (hb4.mono HB3.out.size))
  have HBW4 : Hid (Below W.heap.size W w4) := Lib.hid ((HBW3.out.trans (hb4.mono HBW3.out.size)))
  have k40 : w4.cell? ⟨w.heap.size, 0, none⟩ = some (.int .u8 tag) := ((B.out.onB (HBW4.out)).cell 0)
  have k41 : w4.cell? ⟨w.heap.size, 1, none⟩ = some (.int .u32 pos) := ((B.out.onB (HBW4.out)).cell 1)
  clear hb4
  go_wp2_with fail
  clear k40 k41
  refine (H5.out _).mono ?_
  rintro e w5 ⟨rfl, hb5⟩
  have HB5 := Lib.hid (HB4.out.trans (hb5.mono HB4.out.size))
  have HBW5 : Hid (Below W.heap.size W w5) := Lib.hid ((HBW4.out.trans (hb5.mono HBW4.out.size)))
  have k50 : w5.cell? ⟨w.heap.size, 0, none⟩ = some (.int .u8 tag) := ((B.out.onB (HBW5.out)).cell 0)
  have k51 : w5.cell? ⟨w.heap.size, 1, none⟩ = some (.int .u32 pos) := ((B.out.onB (HBW5.out)).cell 1)
  clear hb5
  go_wp2_with fail
  clear k50 k51
  refine (H6.out _).mono ?_
  rintro e w6 ⟨rfl, hw6⟩
  have hb6 : Below w5.heap.size w5 w6 := by rw [hw6]; exact ((((Below.refl _ _).alloc (Nat.le_refl _) _).alloc (by simp) _).alloc (by simp; omega) _).alloc (by simp; omega) _
  have HSQ : Hid (SeqRuns Try.prog 31 #[.pointer (some ⟨w5.heap.size, 0, none⟩), .pointer (some ⟨w5.heap.size + 1, 0, none⟩), .pointer (some ⟨w5.heap.size + 1 + 1, 0, none⟩), .pointer (some ⟨w5.heap.size + 1 + 1 + 1, 0, none⟩)] (fun x : Nat => #[Value.int .i64 (x : Int)]) (fun _ => False) [] w6) := Lib.hid (by
    refine H7.out w5.heap.size w6 ?_ ?_ ?_ ?_ ?_ (by rw [hw6]; simp <;> omega)
    all_goals (rw [hw6]; simp [go_sem]))
  have HB6 := Lib.hid (HB5.out.trans (hb6.mono HB5.out.size))
  clear hw6 hb6
  go_wp2_with fail
  refine (collect_any 9 (by omega) _ _ (enters_of Try.func31 (by kernel_rfl) rfl) _ [] _ HSQ.out (fun _ h => h.elim) (by simp)).mono ?_
  rintro e w7 ⟨v, rfl, hown, hb7⟩
  obtain ⟨A7, n7, c7, rfl, hn7, _⟩ := hown.form
  have hn0 : n7 = 0 := by simpa using hn7.symm
  subst hn0
  have HB7 := Lib.hid (HB6.out.trans (hb7.mono HB6.out.size))
  clear hown hb7 hn7
  go_wp2_with fail
  go_ret
  exact ⟨rfl, HB7.out⟩
end Go.Proofs.Ytbhbhfplpbcfiaa
