/- Stores in memory; contracts of New, Vars, Len, Room, Get. -/
import Derived.Test.YtfcklfpgjadfmaaIdxGet
import Derived.Test.YtfcklfpgjadfmaaNodeR
namespace Go.Proofs.Ytfcklfpgjadfmaa
open Go.RowKit
set_option linter.unusedSimpArgs false
set_option linter.unusedVariables false

/-- what a store's list of cells is like -/
structure StOk (n room : Nat) (cs : List (Option Rec)) (free : List Int) : Prop where
  n16 : n ≤ 16
  room20 : room ≤ 1048576
  len : cs.length ≤ room
  cnt : cntC cs + free.length = cs.length
  wf : ∀ (i : Nat) (r : Rec), cs[i]? = some (some r) → r.Wf
/-- block g is a store of n variables: its cells, what is free, its room; F: its blocks -/
def StoreAt (w : World) (F : List Nat) (g n room : Nat) (cs : List (Option Rec)) (free : List Int) : Prop :=
  ∃ (ga gi : Nat) (Fa Fi : List Nat) (m : Rec → Option Nat), Blk w g 75 #[.int .i64 (n : Nat), .pointer (some ⟨ga, 0, none⟩), .pointer (some ⟨gi, 0, none⟩)] ∧ ArenaAt w Fa ga cs free room ∧ IdxAt w Fi gi m (cntC cs) ∧
    (∀ (r : Rec) (id : Nat), m r = some id ↔ recAt cs id = some r) ∧ F = g :: (Fa ++ Fi) ∧ F.Nodup ∧ StOk n room cs free
section
variable {w w' : World} {F G : List Nat} {g n room : Nat} {cs : List (Option Rec)} {free : List Int}
theorem StoreAt.chg (h : StoreAt w F g n room cs free) (hb : Chg G w w') (hd : ∀ k ∈ F, ¬ k ∈ G) : StoreAt w' F g n room cs free := by
  obtain ⟨ga, gi, Fa, Fi, m, h1, h2, h3, h4, rfl, h6, h7⟩ := h
  exact ⟨ga, gi, Fa, Fi, m, h1.chg hb (hd g (by simp)), h2.chg hb (fun k hk => hd k (by simp [hk])), h3.chg hb (fun k hk => hd k (by simp [hk])), h4, rfl, h6, h7⟩
theorem StoreAt.on (h : StoreAt w F g n room cs free) (hb : Below w.heap.size w w') : StoreAt w' F g n room cs free := h.chg (G := []) (chg_of_below hb) (fun _ _ h => by cases h)
theorem StoreAt.lt (h : StoreAt w F g n room cs free) : ∀ k ∈ F, k < w.heap.size := by
  obtain ⟨ga, gi, Fa, Fi, m, h1, h2, h3, h4, rfl, h6, h7⟩ := h
  intro k hk
  rcases List.mem_cons.1 hk with rfl | hk
  · exact h1.lt
  · rcases List.mem_append.1 hk with hk | hk
    · exact h2.lt k hk
    · exact h3.lt k hk
theorem StoreAt.ok (h : StoreAt w F g n room cs free) : StOk n room cs free := by
  obtain ⟨ga, gi, Fa, Fi, m, h1, h2, h3, h4, h5, h6, h7⟩ := h
  exact h7
theorem StoreAt.mem (h : StoreAt w F g n room cs free) : g ∈ F := by
  obtain ⟨ga, gi, Fa, Fi, m, h1, h2, h3, h4, rfl, h6, h7⟩ := h
  simp
end
theorem recAt_wf {n room : Nat} {cs : List (Option Rec)} {free : List Int} (h : StOk n room cs free) {id : Int} {r : Rec} (hr : recAt cs id = some r) : r.Wf := h.wf _ r (recAt_some hr).2.2
theorem recAt_nil (id : Int) : recAt [] id = none := by unfold recAt; split <;> rfl

theorem storeVars_any (F : List Nat) (g n room : Nat) (cs : List (Option Rec)) (free : List Int) (w : World) (h : StoreAt w F g n room cs free) :
    Calls Try.prog 62 #[.pointer (some ⟨g, 0, none⟩)] w fun e w' => e = .returned (.int .i64 (n : Nat)) ∧ w = w' := by
  obtain ⟨ga, gi, Fa, Fi, m, hB, hA, hI, h4, rfl, h6, h7⟩ := h
  have hc0 : w.cell? ⟨g, 0, none⟩ = some (.int .i64 (n : Nat)) := hB.cell 0
  clear hB hA hI h4 h6 h7
  go_enter Try.func62, Try.ntmps62
  go_wp2_with fail
  go_ret
  exact ⟨rfl, rfl⟩
theorem storeLen_any (F : List Nat) (g n room : Nat) (cs : List (Option Rec)) (free : List Int) (w : World) (h : StoreAt w F g n room cs free) :
    Calls Try.prog 23 #[.pointer (some ⟨g, 0, none⟩)] w fun e w' => e = .returned (.int .i64 (cntC cs : Nat)) ∧ w = w' := by
  obtain ⟨ga, gi, Fa, Fi, m, hB, hA, hI, h4, rfl, h6, h7⟩ := h
  have hc0 : w.cell? ⟨g, 1, none⟩ = some (.pointer (some ⟨ga, 0, none⟩)) := hB.cell 1
  have HA := Lib.hid hA
  clear hB hA hI h4 h6 h7
  go_enter Try.func23, Try.ntmps23
  go_wp2_with fail
  refine (arenaLen_any _ _ _ _ _ _ HA.out).mono ?_
  rintro e w' ⟨rfl, rfl⟩
  go_wp2_with fail
  go_ret
  exact ⟨rfl, rfl⟩
theorem storeRoom_any (F : List Nat) (g n room : Nat) (cs : List (Option Rec)) (free : List Int) (w : World) (h : StoreAt w F g n room cs free) :
    Calls Try.prog 67 #[.pointer (some ⟨g, 0, none⟩)] w fun e w' => e = .returned (.int .i64 (room : Nat)) ∧ w = w' := by
  obtain ⟨ga, gi, Fa, Fi, m, hB, hA, hI, h4, rfl, h6, h7⟩ := h
  have hc0 : w.cell? ⟨g, 1, none⟩ = some (.pointer (some ⟨ga, 0, none⟩)) := hB.cell 1
  have HA := Lib.hid hA
  clear hB hA hI h4 h6 h7
  go_enter Try.func67, Try.ntmps67
  go_wp2_with fail
  refine (arenaRoom_any _ _ _ _ _ _ HA.out).mono ?_
  rintro e w' ⟨rfl, rfl⟩
  go_wp2_with fail
  go_ret
  exact ⟨rfl, rfl⟩
/-- what Get tells of an id -/
def getR (x : Option Rec) : Value := match x with | some r => .tuple #[.agg r.cells.toArray, .bool true] | none => .tuple #[.agg Rec.nil.cells.toArray, .bool false]
theorem arenaGet_any (F : List Nat) (g : Nat) (cs : List (Option Rec)) (free : List Int) (room : Nat) (id : Int) (w : World) (h : ArenaAt w F g cs free room) (h0 : 0 ≤ id) (hid : id ≤ 4294967295) :
    Calls Try.prog 72 #[.pointer (some ⟨g, 0, none⟩), .int .u32 id] w fun e w' => e = .returned (getR (recAt cs id)) ∧ Below w.heap.size w w' := by
  cases hr : recAt cs id with
  | none => exact arenaGet_none F g cs free room id w h h0 hid hr
  | some r => exact arenaGet_some F g cs free room id r w h hid hr
set_option maxHeartbeats 1000000 in
theorem storeGet_any (F : List Nat) (g n room : Nat) (cs : List (Option Rec)) (free : List Int) (id : Int) (w : World) (h : StoreAt w F g n room cs free) (h0 : 0 ≤ id) (hid : id ≤ 4294967295) :
    Calls Try.prog 54 #[.pointer (some ⟨g, 0, none⟩), .int .u32 id] w fun e w' => e = .returned (getR (recAt cs id)) ∧ Below w.heap.size w w' := by
  obtain ⟨ga, gi, Fa, Fi, m, hB, hA, hI, h4, rfl, h6, h7⟩ := h
  have hlt := hB.lt
  have hc0 : w.cell? ⟨g, 1, none⟩ = some (.pointer (some ⟨ga, 0, none⟩)) := hB.cell 1
  have hne : ¬ g = w.heap.size := by omega
  have HA := Lib.hid hA
  obtain ⟨f, t, b, lt, lp, ht, hp, bb, hv⟩ : ∃ f t b lt lp ht hp bb, getR (recAt cs id) = .tuple #[.agg #[.int .u8 f, .int .u8 t, .int .u8 b, .int .u8 lt, .int .u32 lp, .int .u8 ht, .int .u32 hp], .bool bb] := by
    cases recAt cs id with
    | none => exact ⟨_, _, _, _, _, _, _, _, rfl⟩
    | some r => obtain ⟨_, _, _, ⟨_, _⟩, ⟨_, _⟩⟩ := r; exact ⟨_, _, _, _, _, _, _, _, rfl⟩
  have HV := Lib.hid hv
  clear hB hA hI h4 h6 h7 hv
  go_enter Try.func54, Try.ntmps54
  go_wp2_with fail
  refine (arenaGet_any _ _ _ _ _ id _ (HA.out.on ((Below.refl _ _).alloc (Nat.le_refl _) _)) h0 hid).mono ?_
  rintro e w1 ⟨rfl, hb1⟩
  rw [HV.out]
  have HN := Lib.hid ((Blk.new w 69 #[.int .u8 0, .int .u8 0, .int .u8 0, .int .u8 0, .int .u32 0, .int .u8 0, .int .u32 0]).on' hb1)
  have n0 : w1.cell? ⟨w.heap.size, 0, none⟩ = some (.int .u8 0) := HN.out.cell 0
  have n1 : w1.cell? ⟨w.heap.size, 1, none⟩ = some (.int .u8 0) := HN.out.cell 1
  have n2 : w1.cell? ⟨w.heap.size, 2, none⟩ = some (.int .u8 0) := HN.out.cell 2
  have n3 : w1.cell? ⟨w.heap.size, 3, none⟩ = some (.int .u8 0) := HN.out.cell 3
  have n4 : w1.cell? ⟨w.heap.size, 4, none⟩ = some (.int .u32 0) := HN.out.cell 4
  have n5 : w1.cell? ⟨w.heap.size, 5, none⟩ = some (.int .u8 0) := HN.out.cell 5
  have n6 : w1.cell? ⟨w.heap.size, 6, none⟩ = some (.int .u32 0) := HN.out.cell 6
  have z0 := HN.out.frozen 0
  have z1 := HN.out.frozen 1
  have z2 := HN.out.frozen 2
  have z3 := HN.out.frozen 3
  have z4 := HN.out.frozen 4
  have z5 := HN.out.frozen 5
  have z6 := HN.out.frozen 6
  have HB := Lib.hid (((Below.refl _ _).alloc (Nat.le_refl _) _).trans (hb1.mono (by simp)))
  clear hb1
  go_wp2_with fail
  refine bodyPost_ret (v := .tuple #[.agg #[.int .u8 f, .int .u8 t, .int .u8 b, .int .u8 lt, .int .u32 lp, .int .u8 ht, .int .u32 hp], .bool bb]) (by simp [results, Try.results54, go_sem, *]) rfl ⟨by rw [HV.out], ?_⟩
  have hm := Nat.le_refl w.heap.size
  exact ((((((HB.out.setCell hm _).setCell hm _).setCell hm _).setCell hm _).setCell hm _).setCell hm _).setCell hm _
end Go.Proofs.Ytfcklfpgjadfmaa
