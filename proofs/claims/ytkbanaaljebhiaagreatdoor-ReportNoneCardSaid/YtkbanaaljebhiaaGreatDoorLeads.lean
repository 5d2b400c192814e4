/- Contracts: store.New, Leads. -/
import Derived.Test.YtkbanaaljebhiaaGreatDoorMo
namespace Go.Proofs.YtkbanaaljebhiaaGreatDoor
open Go.RowKit
set_option linter.unusedSimpArgs false
set_option linter.unusedVariables false

theorem keepD {W w : World} (h : Below W.heap.size W w) (o : Obj) : Below W.heap.size W (w.drew.alloc o) := h.drew.alloc h.size _
theorem keepE {W w : World} (h : Below W.heap.size W w) (o : Obj) : Below W.heap.size W (w.alloc o).drew := (h.alloc h.size _).drew
theorem newA {w w1 : World} {T : TypeId} {cs : Array Value} (h : Below (w.drew.alloc (.cells cs T)).heap.size (w.drew.alloc (.cells cs T)) w1) : Blk w1 w.heap.size T cs := (Blk.new w.drew T cs).on' h
theorem keep7' {B g : Nat} {W w : World} {v0 v1 v2 v3 v4 v5 v6  : Value} (hg : B ≤ g) (h : Below B W w) : Below B W (((((((w.setCell ⟨g, 0, none⟩ v0).setCell ⟨g, 1, none⟩ v1).setCell ⟨g, 2, none⟩ v2).setCell ⟨g, 3, none⟩ v3).setCell ⟨g, 4, none⟩ v4).setCell ⟨g, 5, none⟩ v5).setCell ⟨g, 6, none⟩ v6) := (((((((h.setCell hg _).setCell hg _).setCell hg _).setCell hg _).setCell hg _).setCell hg _).setCell hg _)
theorem storeNew_yes (n room : Int) (w : World) (h0 : 0 ≤ n) (h1 : n ≤ 16) (h2 : 0 ≤ room) (h3 : room ≤ 1048576) :
    Calls Tryz.prog 29 #[.int .i64 n, .int .i64 room] w fun e w' => (∃ g F, e = .returned (.tuple #[.pointer (some ⟨g, 0, none⟩), .int .u8 0]) ∧ StoreAt w' F g n.toNat room.toNat [] [] ∧ (∀ k ∈ F, w.heap.size ≤ k)) ∧ Below w.heap.size w w' := by
  obtain ⟨a, rfl⟩ := Int.eq_ofNat_of_zero_le h0
  obtain ⟨c, rfl⟩ := Int.eq_ofNat_of_zero_le h2
  go_enter Tryz.func29, Tryz.ntmps29
  go_wp2_with fail
  refine (arenaNew_yes c _ h2 h3).mono ?_
  rintro e w1 ⟨Fa, rfl, hA, hFa, hb1⟩
  have HA := Lib.hid hA
  have HFa := Lib.hid hFa
  clear hA hFa
  go_wp2_with fail
  refine (idxNew_any _).mono ?_
  rintro e w2 ⟨⟨gi, Fi, rfl, hI, hFi⟩, hb2⟩
  have HI := Lib.hid hI
  have HFi := Lib.hid hFi
  clear hI hFi
  have hs1 := hb1.size
  have hbel := hb1.trans (hb2.mono hb1.size)
  have HBEL := Lib.hid hbel
  have HB2 := Lib.hid hb2
  clear hb1 hb2 hbel
  go_wp2_with fail
  go_ret2
  have hFalt := HA.out.lt
  have hFilt := HI.out.lt
  have hs := HBEL.out.size
  have hs2 := HB2.out.size
  rw [Int.toNat_natCast]
  refine ⟨⟨w2.heap.size, w2.heap.size :: (Fa ++ Fi), rfl, ⟨w.heap.size, gi, Fa, Fi, fun _ => none, Blk.new _ _ _, (HA.out.on HB2.out).on ((Below.refl _ _).alloc (Nat.le_refl _) _), HI.out.on ((Below.refl _ _).alloc (Nat.le_refl _) _), fun r id => ?_, rfl, ?_, ⟨by omega, by omega, by simp, rfl, fun i r h => by simp at h⟩⟩, ?_⟩, HBEL.out.alloc HBEL.out.size _⟩
  · rw [recAt_nil]; simp
  · rw [List.nodup_cons, List.nodup_append]
    refine ⟨fun hm => ?_, HA.out.nodup, ?_, fun x hx y hy => ?_⟩
    · rcases List.mem_append.1 hm with h | h
      · have := hFalt _ h; omega
      · have := hFilt _ h; omega
    · obtain ⟨sl, ⟨A, q, c', _, _, _, rfl, hnd⟩, _⟩ := HI.out
      exact hnd
    · have := hFalt x hx; have := HFi.out y hy; omega
  · intro k hk
    rcases List.mem_cons.1 hk with rfl | hk
    · omega
    · rcases List.mem_append.1 hk with hk | hk
      · exact HFa.out k hk
      · have := HFi.out k hk; omega
theorem storeNew_var (n room : Int) (w : World) (h0 : n < 0 ∨ 16 < n) :
    Calls Tryz.prog 29 #[.int .i64 n, .int .i64 room] w fun e w' => e = .returned (.tuple #[.pointer none, .int .u8 3]) ∧ w = w' := by
  rcases h0 with h | h
  all_goals
    go_enter Tryz.func29, Tryz.ntmps29
    go_wp2_with fail
    go_ret2
    exact ⟨rfl, rfl⟩
theorem storeNew_arg (n room : Int) (w : World) (h0 : 0 ≤ n) (h1 : n ≤ 16) (h2 : room < 0 ∨ 1048576 < room) :
    Calls Tryz.prog 29 #[.int .i64 n, .int .i64 room] w fun e w' => e = .returned (.tuple #[.pointer none, .int .u8 1]) ∧ w = w' := by
  have H2 := Lib.hid h2
  clear h2
  go_enter Tryz.func29, Tryz.ntmps29
  go_wp2_with fail
  refine (arenaNew_no room _ H2.out).mono ?_
  rintro e w1 ⟨rfl, rfl⟩
  go_wp2_with fail
  go_ret2
  exact ⟨rfl, rfl⟩

theorem leads_no {cs : List (Option Rec)} {n f : Int} {e : Edg} {l : Int} (h : plain f e l n = false) : leads cs n f e l = false := by unfold leads; rw [h]; rfl
theorem leads_low {cs : List (Option Rec)} {n f : Int} {e : Edg} {l : Int} (h : plain f e l n = true) (h2 : e.pos < 2) : leads cs n f e l = true := by unfold leads; rw [h, decide_eq_true h2]; rfl
theorem leads_none {cs : List (Option Rec)} {n f : Int} {e : Edg} {l : Int} (h : plain f e l n = true) (h2 : ¬ e.pos < 2) (h3 : recAt cs e.pos = none) : leads cs n f e l = false := by unfold leads; rw [h, decide_eq_false h2, h3]; rfl
theorem leads_some {cs : List (Option Rec)} {n f : Int} {e : Edg} {l : Int} {r : Rec} (h : plain f e l n = true) (h2 : ¬ e.pos < 2) (h3 : recAt cs e.pos = some r) : leads cs n f e l = ((r.form == f) && (decide (l ≤ r.top) && decide (e.tag ≤ r.top))) := by
  unfold leads; rw [h, decide_eq_false h2, h3]
  by_cases g1 : r.form = f <;> simp [g1]
end Go.Proofs.YtkbanaaljebhiaaGreatDoor
