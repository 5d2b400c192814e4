/- Contracts: caches, and the engines of a manager. -/
import Derived.Test.YtkbanaaljebhiaaGreatDoorLeads
import Derived.Test.YtkbanaaljebhiaaGreatDoorMn
namespace Go.Proofs.YtkbanaaljebhiaaGreatDoor
open Go.RowKit
set_option linter.unusedSimpArgs false
set_option linter.unusedVariables false

theorem info_apply : (Tryz.prog.info? 483).map (fun i => (i.zero.map (·.cells.size), i.size, i.bytes)) = some (some 12, 12, 48) := by kernel_rfl
set_option maxRecDepth 100000 in
set_option maxHeartbeats 4000000 in
theorem cacheNew_apply (w : World) : Calls Tryz.prog 88 #[.int .i64 12] w fun e w' => (∃ c, e = .returned (.tuple #[.pointer (some ⟨c, 0, none⟩), .int .u8 0])) ∧ Below w.heap.size w w' := by
  obtain ⟨i0, hi, hz⟩ := Option.map_eq_some_iff.1 info_apply
  injection hz with hz0 hz
  injection hz with hz1 hz2
  obtain ⟨z, hzz, hzs⟩ := Option.map_eq_some_iff.1 hz0
  go_enter Tryz.func88, Tryz.ntmps88
  go_wp2_with (at_make; refine wpList_make_full _ rfl _ _ _ rfl w.heap.size 483 i0 z 12 Tryz.underlying254 hi hzz hz1 .i64 .i64 (4096 : Int) (4096 : Int) 4096 rfl rfl rfl rfl (by rw [hz2]; decide) (by unfold maxLen; omega) (Nat.le_refl _) ?_; intro w1 hown1 hgr1)
  have hb1 : Below w.heap.size w w1 := (Below.refl _ _).grown hgr1 (Nat.le_refl _) (by simp)
  clear hown1 hgr1
  go_wp2_with fail
  go_ret2
  exact ⟨⟨_, rfl⟩, hb1.alloc hb1.size _⟩
theorem info_quant : (Tryz.prog.info? 447).map (fun i => (i.zero.map (·.cells.size), i.size, i.bytes)) = some (some 11, 11, 40) := by kernel_rfl
set_option maxRecDepth 100000 in
set_option maxHeartbeats 4000000 in
theorem cacheNew_quant (w : World) : Calls Tryz.prog 89 #[.int .i64 12] w fun e w' => (∃ c, e = .returned (.tuple #[.pointer (some ⟨c, 0, none⟩), .int .u8 0])) ∧ Below w.heap.size w w' := by
  obtain ⟨i0, hi, hz⟩ := Option.map_eq_some_iff.1 info_quant
  injection hz with hz0 hz
  injection hz with hz1 hz2
  obtain ⟨z, hzz, hzs⟩ := Option.map_eq_some_iff.1 hz0
  go_enter Tryz.func89, Tryz.ntmps89
  go_wp2_with (at_make; refine wpList_make_full _ rfl _ _ _ rfl w.heap.size 447 i0 z 11 Tryz.underlying257 hi hzz hz1 .i64 .i64 (4096 : Int) (4096 : Int) 4096 rfl rfl rfl rfl (by rw [hz2]; decide) (by unfold maxLen; omega) (Nat.le_refl _) ?_; intro w1 hown1 hgr1)
  have hb1 : Below w.heap.size w w1 := (Below.refl _ _).grown hgr1 (Nat.le_refl _) (by simp)
  clear hown1 hgr1
  go_wp2_with fail
  go_ret2
  exact ⟨⟨_, rfl⟩, hb1.alloc hb1.size _⟩
theorem info_family : (Tryz.prog.info? 487).map (fun i => (i.zero.map (·.cells.size), i.size, i.bytes)) = some (some 11, 11, 40) := by kernel_rfl
set_option maxRecDepth 100000 in
set_option maxHeartbeats 4000000 in
theorem cacheNew_family (w : World) : Calls Tryz.prog 91 #[.int .i64 12] w fun e w' => (∃ c, e = .returned (.tuple #[.pointer (some ⟨c, 0, none⟩), .int .u8 0])) ∧ Below w.heap.size w w' := by
  obtain ⟨i0, hi, hz⟩ := Option.map_eq_some_iff.1 info_family
  injection hz with hz0 hz
  injection hz with hz1 hz2
  obtain ⟨z, hzz, hzs⟩ := Option.map_eq_some_iff.1 hz0
  go_enter Tryz.func91, Tryz.ntmps91
  go_wp2_with (at_make; refine wpList_make_full _ rfl _ _ _ rfl w.heap.size 487 i0 z 11 Tryz.underlying260 hi hzz hz1 .i64 .i64 (4096 : Int) (4096 : Int) 4096 rfl rfl rfl rfl (by rw [hz2]; decide) (by unfold maxLen; omega) (Nat.le_refl _) ?_; intro w1 hown1 hgr1)
  have hb1 : Below w.heap.size w w1 := (Below.refl _ _).grown hgr1 (Nat.le_refl _) (by simp)
  clear hown1 hgr1
  go_wp2_with fail
  go_ret2
  exact ⟨⟨_, rfl⟩, hb1.alloc hb1.size _⟩
set_option maxRecDepth 100000 in
set_option maxHeartbeats 4000000 in
theorem applyNew_any (g : Nat) (w : World) : Calls Tryz.prog 31 #[.pointer (some ⟨g, 0, none⟩), .int .i64 12] w fun e w' => (∃ c k, e = .returned (.tuple #[.pointer (some ⟨c, 0, none⟩), .int .u8 0]) ∧ Blk w' c 160 #[.pointer (some ⟨g, 0, none⟩), k] ∧ w.heap.size ≤ c) ∧ Below w.heap.size w w' := by
  have HC := Lib.hid (fun W => cacheNew_apply W)
  go_enter Tryz.func31, Tryz.ntmps31
  go_wp2_with fail
  refine (HC.out _).mono ?_
  rintro e w1 ⟨⟨c, rfl⟩, hb1⟩
  go_wp2_with fail
  go_ret2
  exact ⟨⟨_, _, rfl, Blk.new w1 _ _, hb1.size⟩, hb1.alloc hb1.size _⟩
set_option maxRecDepth 100000 in
theorem opsStore_any (c g : Nat) (k : Value) (w : World) (h : Blk w c 160 #[.pointer (some ⟨g, 0, none⟩), k]) : Calls Tryz.prog 90 #[.pointer (some ⟨c, 0, none⟩)] w fun e w' => e = .returned (.pointer (some ⟨g, 0, none⟩)) ∧ w = w' := by
  have k0 : w.cell? ⟨c, 0, none⟩ = some (.pointer (some ⟨g, 0, none⟩)) := h.cell 0
  go_enter Tryz.func90, Tryz.ntmps90
  go_wp2_with fail
  go_ret
  exact ⟨rfl, rfl⟩
set_option maxRecDepth 100000 in
set_option maxHeartbeats 4000000 in
theorem quantNew_any (c g : Nat) (k : Value) (w : World) (h : Blk w c 160 #[.pointer (some ⟨g, 0, none⟩), k]) : Calls Tryz.prog 32 #[.pointer (some ⟨c, 0, none⟩), .int .i64 12] w fun e w' => (∃ q, e = .returned (.tuple #[.pointer (some ⟨q, 0, none⟩), .int .u8 0])) ∧ Below w.heap.size w w' := by
  have HC := Lib.hid (fun W => cacheNew_quant W)
  have HO := Lib.hid (fun W (h : Blk W c 160 #[.pointer (some ⟨g, 0, none⟩), k]) => opsStore_any c g k W h)
  have HK := Lib.hid h
  clear h
  go_enter Tryz.func32, Tryz.ntmps32
  go_wp2_with fail
  refine (HC.out _).mono ?_
  rintro e w1 ⟨⟨d, rfl⟩, hb1⟩
  have HB := Lib.hid hb1
  clear hb1
  go_wp2_with fail
  refine (HO.out _ (HK.out.onB HB.out)).mono ?_
  rintro e w2 ⟨rfl, rfl⟩
  go_wp2_with fail
  go_ret2
  exact ⟨⟨_, rfl⟩, HB.out.alloc HB.out.size _⟩
set_option maxRecDepth 100000 in
set_option maxHeartbeats 4000000 in
theorem familyNew_any (c g : Nat) (k : Value) (w : World) (h : Blk w c 160 #[.pointer (some ⟨g, 0, none⟩), k]) : Calls Tryz.prog 33 #[.pointer (some ⟨c, 0, none⟩), .int .i64 12] w fun e w' => (∃ q, e = .returned (.tuple #[.pointer (some ⟨q, 0, none⟩), .int .u8 0])) ∧ Below w.heap.size w w' := by
  have HC := Lib.hid (fun W => cacheNew_family W)
  have HO := Lib.hid (fun W (h : Blk W c 160 #[.pointer (some ⟨g, 0, none⟩), k]) => opsStore_any c g k W h)
  have HK := Lib.hid h
  clear h
  go_enter Tryz.func33, Tryz.ntmps33
  go_wp2_with fail
  refine (HC.out _).mono ?_
  rintro e w1 ⟨⟨d, rfl⟩, hb1⟩
  have HB := Lib.hid hb1
  clear hb1
  go_wp2_with fail
  refine (HO.out _ (HK.out.onB HB.out)).mono ?_
  rintro e w2 ⟨rfl, rfl⟩
  go_wp2_with fail
  go_ret2
  exact ⟨⟨_, rfl⟩, HB.out.alloc HB.out.size _⟩
end Go.Proofs.YtkbanaaljebhiaaGreatDoor
