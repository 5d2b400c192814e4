/- Orders in memory; contracts of order.Of, New, Vars, Var, Level, Perm. -/
import Derived.Test.YtomibgonhdkhdaaFoot
import Derived.Test.YtomibgonhdkhdaaPermV
namespace Go.Proofs.Ytomibgonhdkhdaa
open Go.RowKit
set_option linter.unusedSimpArgs false
set_option linter.unusedVariables false

/-- block g is an order: variables by levels ps, levels by variables ls; F: its blocks -/
def OrdAt (w : World) (F : List Nat) (g : Nat) (ps ls : List Int) : Prop :=
  ∃ (A : Option Addr) (n c : Nat) (A' : Option Addr) (c' : Nat), Blk w g 49 #[.slice A n c, .slice A' n c'] ∧ OwnI w 0 (.slice A n c) ps ∧ OwnI w 0 (.slice A' n c') ls ∧ ps.length = n ∧ ls.length = n ∧
    F = g :: (blk (.slice A n c) ++ blk (.slice A' n c')) ∧ F.Nodup

theorem OrdAt.chg {w w' : World} {F G : List Nat} {g : Nat} {ps ls : List Int} (h : OrdAt w F g ps ls) (hb : Chg G w w') (hd : ∀ k ∈ F, ¬ k ∈ G) : OrdAt w' F g ps ls := by
  obtain ⟨A, n, c, A', c', h1, h2, h3, h4, h5, rfl, h7⟩ := h
  exact ⟨A, n, c, A', c', h1.chg hb (hd g (by simp)), h2.chg hb (fun k hk => hd k (by simp [hk])), h3.chg hb (fun k hk => hd k (by simp [hk])), h4, h5, rfl, h7⟩
theorem OrdAt.lt {w : World} {F : List Nat} {g : Nat} {ps ls : List Int} (h : OrdAt w F g ps ls) : ∀ k ∈ F, k < w.heap.size := by
  obtain ⟨A, n, c, A', c', h1, h2, h3, h4, h5, rfl, h7⟩ := h
  intro k hk
  rcases List.mem_cons.1 hk with rfl | hk
  · exact h1.lt
  · rcases List.mem_append.1 hk with hk | hk
    · exact OwnF.blk_lt h2 k hk
    · exact OwnF.blk_lt h3 k hk
theorem OrdAt.on {w w' : World} {F : List Nat} {g : Nat} {ps ls : List Int} (h : OrdAt w F g ps ls) (hb : Below w.heap.size w w') : OrdAt w' F g ps ls :=
  h.chg (G := []) (chg_of_below hb) (fun _ _ h => by cases h)

set_option maxHeartbeats 1000000 in
theorem orderOf_yes (A : Option Addr) (n c : Nat) (ps : List Int) (w : World) (hp : ps.length = n) (hP : IsPerm ps) (ha : Ints w w.heap.size A ps) :
    Calls Try.prog 9 #[.slice A n c] w fun e w' => ∃ g F ls, e = .returned (.tuple #[.pointer (some ⟨g, 0, none⟩), .int .u8 0]) ∧ OrdAt w' F g ps ls ∧ InvOf ps ls ∧ (∀ k ∈ F, w.heap.size ≤ k) ∧ Below w.heap.size w w' := by
  have Hp := Lib.hid hp
  have HP := Lib.hid hP
  have hn16 : n ≤ 16 := by rw [← hp]; exact hP.1
  clear hp hP
  go_enter Try.func9, Try.ntmps9
  go_wp2_with fail
  refine (inverse_yes A n c ps _ Hp.out HP.out ha).mono ?_
  rintro e w1 ⟨L, rfl, hownL, hinv, hb1⟩
  have HV := Lib.hid hinv
  clear hinv
  go_wp2_with fail
  refine (clone_any A n c ps _ Hp.out (by omega) (ha.on hb1)).mono ?_
  rintro e w2 ⟨v, rfl, hownC, hb2⟩
  have hownL2 := hownL.below hb2
  obtain ⟨A2, n2, c2, rfl, h2, _⟩ := OwnF.form hownC
  obtain rfl : n = n2 := by rw [← h2, Hp.out]
  clear h2
  go_wp2_with fail
  go_ret2
  refine ⟨_, _, L, rfl, ⟨_, _, _, _, _, Blk.new _ _ _, (hownC.alloc _).zero, (hownL2.alloc _).zero, Hp.out, by rw [HV.out.1, Hp.out], rfl, ?_⟩, HV.out, ?_, ?_⟩
  · have hs := hb1.size
    have hs2 := hb2.size
    have hc := OwnF.blk_ge hownC
    have hc2 := OwnF.blk_lt hownC
    have hL := OwnF.blk_lt hownL
    rw [List.nodup_cons, List.nodup_append]
    refine ⟨fun hm => ?_, ?_, ?_, fun a ha b hb e => ?_⟩
    · rcases List.mem_append.1 hm with h | h
      · have := hc2 _ h; omega
      · have := hL _ h; omega
    · unfold blk; cases (Value.slice A2 n c2).ownBlock <;> simp
    · unfold blk; simp [Value.ownBlock]
    · have := hc a ha; have := hL b hb; omega
  · intro k hk
    have hs := hb1.size
    have hs2 := hb2.size
    rcases List.mem_cons.1 hk with rfl | hk
    · omega
    · rcases List.mem_append.1 hk with hk | hk
      · have := OwnF.blk_ge hownC k hk; omega
      · have := OwnF.blk_ge hownL k hk; omega
  · exact (hb1.trans (hb2.mono hb1.size)).alloc (by have := hb1.size; have := hb2.size; omega) _

theorem orderOf_no (A : Option Addr) (n c : Nat) (ps : List Int) (w : World) (hp : ps.length = n) (hn : n ≤ 9223372036854775807) (hno : ¬ IsPerm ps) (ha : Ints w w.heap.size A ps) :
    Calls Try.prog 9 #[.slice A n c] w fun e w' => e = .returned (.tuple #[.pointer none, .int .u8 1]) ∧ w = w' := by
  have Hp := Lib.hid hp
  have HP := Lib.hid hno
  clear hp hno
  go_enter Try.func9, Try.ntmps9
  go_wp2_with fail
  refine (inverse_no A n c ps _ Hp.out hn ha HP.out).mono ?_
  rintro e w1 ⟨rfl, rfl⟩
  go_wp2_with fail
  go_ret2
  exact ⟨rfl, rfl⟩

set_option maxHeartbeats 1000000 in
theorem orderNew_yes (n : Int) (w : World) (h0 : 0 ≤ n) (hn : n ≤ 16) :
    Calls Try.prog 17 #[.int .i64 n] w fun e w' => ∃ g F ls, e = .returned (.tuple #[.pointer (some ⟨g, 0, none⟩), .int .u8 0]) ∧ OrdAt w' F g (iota n.toNat) ls ∧ InvOf (iota n.toNat) ls ∧ (∀ k ∈ F, w.heap.size ≤ k) ∧ Below w.heap.size w w' := by
  go_enter Try.func17, Try.ntmps17
  go_wp2_with fail
  refine (permSame_any n _ h0 hn).mono ?_
  rintro e w1 ⟨rfl, hown, hb1, _⟩
  go_wp2_with fail
  refine (orderOf_yes _ n.toNat n.toNat (iota n.toNat) _ (iota_length _) (iota_perm (by omega)) (OwnI.ints hown)).mono ?_
  rintro e w2 ⟨g, F, ls, rfl, hO, hI, hF, hb2⟩
  go_wp2_with fail
  go_ret2
  have hs := hb1.size
  exact ⟨g, F, ls, rfl, hO, hI, fun k hk => by have := hF k hk; omega, hb1.trans (hb2.mono hs)⟩

theorem orderNew_no (n : Int) (w : World) (h0 : n < 0 ∨ 16 < n) :
    Calls Try.prog 17 #[.int .i64 n] w fun e w' => e = .returned (.tuple #[.pointer none, .int .u8 3]) ∧ w = w' := by
  go_enter Try.func17, Try.ntmps17
  go_wp2_with fail
  refine (permSame_no n _ h0).mono ?_
  rintro e w1 ⟨rfl, rfl⟩
  go_wp2_with fail
  go_ret2
  exact ⟨rfl, rfl⟩

/-- what stands in a list at a place; -1: there is none -/
def atI (zs : List Int) (i : Int) : Int := if 0 ≤ i ∧ i < zs.length then zs[i.toNat]?.getD 0 else -1

theorem orderAt_any (A : Option Addr) (n c : Nat) (zs : List Int) (i : Int) (w : World) (hz : zs.length = n) (hr : Ints w w.heap.size A zs) :
    Calls Try.prog 36 #[.slice A n c, .int .i64 i] w fun e w' => e = .returned (.int .i64 (atI zs i)) ∧ w = w' := by
  by_cases h0 : 0 ≤ i
  · by_cases h1 : i < n
    · obtain ⟨k, rfl⟩ := Int.eq_ofNat_of_zero_le h0
      have hk : k < n := by omega
      obtain ⟨b, off, rfl, hb, hc⟩ := hr (by rw [hz]; omega)
      have hck := hc k (by rw [hz]; exact hk)
      have he : Hid (atI zs (k : Int) = zs[k]?.getD 0) := Lib.hid (by unfold atI; rw [if_pos ⟨h0, by rw [hz]; exact h1⟩, Int.toNat_natCast])
      clear hc hz h0 h1
      go_enter Try.func36, Try.ntmps36
      go_wp2_with fail
      go_ret
      exact ⟨by rw [he.out]; rfl, rfl⟩
    · have he : Hid (atI zs i = -1) := Lib.hid (by unfold atI; rw [if_neg (by rw [hz]; omega)])
      clear hz
      have h2 : ¬ i < 0 := by omega
      go_enter Try.func36, Try.ntmps36
      go_wp2_with fail
      go_ret
      exact ⟨by rw [he.out]; rfl, rfl⟩
  · have he : Hid (atI zs i = -1) := Lib.hid (by unfold atI; rw [if_neg (by omega)])
    clear hz
    have h2 : i < 0 := by omega
    go_enter Try.func36, Try.ntmps36
    go_wp2_with fail
    go_ret
    exact ⟨by rw [he.out]; rfl, rfl⟩

theorem orderVars_any (F : List Nat) (g : Nat) (ps ls : List Int) (w : World) (h : OrdAt w F g ps ls) :
    Calls Try.prog 22 #[.pointer (some ⟨g, 0, none⟩)] w fun e w' => e = .returned (.int .i64 ps.length) ∧ w = w' := by
  obtain ⟨A, n, c, A', c', hB, h1, h2, hl1, hl2, _, _⟩ := h
  have hc0 : w.cell? ⟨g, 0, none⟩ = some (.slice A n c) := hB.cell 0
  have H := Lib.hid hl1
  clear hl1 hl2
  go_enter Try.func22, Try.ntmps22
  go_wp2_with fail
  go_ret
  exact ⟨by rw [H.out]; rfl, rfl⟩
theorem orderVar_any (F : List Nat) (g : Nat) (ps ls : List Int) (i : Int) (w : World) (h : OrdAt w F g ps ls) :
    Calls Try.prog 23 #[.pointer (some ⟨g, 0, none⟩), .int .i64 i] w fun e w' => e = .returned (.int .i64 (atI ps i)) ∧ w = w' := by
  obtain ⟨A, n, c, A', c', hB, h1, h2, hl1, hl2, _, _⟩ := h
  have hc0 : w.cell? ⟨g, 0, none⟩ = some (.slice A n c) := hB.cell 0
  have H := Lib.hid hl1
  clear hl1 hl2
  go_enter Try.func23, Try.ntmps23
  go_wp2_with fail
  refine (orderAt_any A n c ps i _ H.out (OwnI.ints h1)).mono ?_
  rintro e w' ⟨rfl, rfl⟩
  go_wp2_with fail
  go_ret
  exact ⟨rfl, rfl⟩
theorem orderLevel_any (F : List Nat) (g : Nat) (ps ls : List Int) (i : Int) (w : World) (h : OrdAt w F g ps ls) :
    Calls Try.prog 24 #[.pointer (some ⟨g, 0, none⟩), .int .i64 i] w fun e w' => e = .returned (.int .i64 (atI ls i)) ∧ w = w' := by
  obtain ⟨A, n, c, A', c', hB, h1, h2, hl1, hl2, _, _⟩ := h
  have hc0 : w.cell? ⟨g, 1, none⟩ = some (.slice A' n c') := hB.cell 1
  have H := Lib.hid hl2
  clear hl1 hl2
  go_enter Try.func24, Try.ntmps24
  go_wp2_with fail
  refine (orderAt_any A' n c' ls i _ H.out (OwnI.ints h2)).mono ?_
  rintro e w' ⟨rfl, rfl⟩
  go_wp2_with fail
  go_ret
  exact ⟨rfl, rfl⟩
theorem orderPerm_any (F : List Nat) (g : Nat) (ps ls : List Int) (w : World) (hn : ps.length ≤ 1000000) (h : OrdAt w F g ps ls) :
    Calls Try.prog 19 #[.pointer (some ⟨g, 0, none⟩)] w fun e w' => ∃ v, e = .returned v ∧ OwnI w' w.heap.size v ps ∧ Below w.heap.size w w' := by
  obtain ⟨A, n, c, A', c', hB, h1, h2, hl1, hl2, _, _⟩ := h
  have hc0 : w.cell? ⟨g, 0, none⟩ = some (.slice A n c) := hB.cell 0
  have H := Lib.hid hl1
  have hn2 : n ≤ 1000000 := by rw [← hl1]; exact hn
  clear hl1 hl2 hn
  go_enter Try.func19, Try.ntmps19
  go_wp2_with fail
  refine (clone_any A n c ps _ H.out (by omega) (OwnI.ints h1)).mono ?_
  rintro e w1 ⟨v, rfl, hown, hb⟩
  go_wp2_with fail
  go_ret
  exact ⟨_, rfl, hown, hb⟩
theorem orderNil_vars (w : World) : Calls Try.prog 22 #[.pointer none] w fun e w' => e = .returned (.int .i64 0) ∧ w = w' := by
  go_enter Try.func22, Try.ntmps22
  go_wp2_with fail
  go_ret
  exact ⟨rfl, rfl⟩
theorem orderNil_var (w : World) (i : Int) : Calls Try.prog 23 #[.pointer none, .int .i64 i] w fun e w' => e = .returned (.int .i64 (-1)) ∧ w = w' := by
  go_enter Try.func23, Try.ntmps23
  go_wp2_with fail
  go_ret
  exact ⟨rfl, rfl⟩
theorem orderNil_level (w : World) (i : Int) : Calls Try.prog 24 #[.pointer none, .int .i64 i] w fun e w' => e = .returned (.int .i64 (-1)) ∧ w = w' := by
  go_enter Try.func24, Try.ntmps24
  go_wp2_with fail
  go_ret
  exact ⟨rfl, rfl⟩
theorem orderNil_perm (w : World) : Calls Try.prog 19 #[.pointer none] w fun e w' => e = .returned (.slice none 0 0) ∧ w = w' := by
  go_enter Try.func19, Try.ntmps19
  go_wp2_with fail
  go_ret
  exact ⟨rfl, rfl⟩
end Go.Proofs.Ytomibgonhdkhdaa
