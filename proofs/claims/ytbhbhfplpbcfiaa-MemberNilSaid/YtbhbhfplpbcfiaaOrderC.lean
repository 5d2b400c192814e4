/- Contracts: Order.Down, Up; ramageref09.Down; why they are the same. -/
import Derived.Test.YtbhbhfplpbcfiaaOrderB
namespace Go.Proofs.Ytbhbhfplpbcfiaa
open Go.RowKit
set_option linter.unusedSimpArgs false
set_option linter.unusedVariables false

/-- an assignment by levels -/
def downM (ls : List Int) (n x : Nat) : Nat := movedTo x (fun v => n - 1 - (ls[v]?.getD 0).toNat) n
def upM (ps : List Int) (n x : Nat) : Nat := movedTo x (fun i => (ps[n - 1 - i]?.getD 0).toNat) n

/-- both lists belong together -/
structure Fits (ps ls : List Int) : Prop where
  perm : IsPerm ps
  inv : InvOf ps ls
theorem Fits.ls_get {ps ls : List Int} (h : Fits ps ls) {v : Nat} (hv : v < ls.length) : 0 ≤ ls[v]?.getD 0 ∧ ls[v]?.getD 0 < ps.length ∧ ps[(ls[v]?.getD 0).toNat]?.getD 0 = (v : Int) := by
  rw [h.inv.1] at hv
  obtain ⟨k, hk, hke⟩ := mem_getD (h.perm.mem (j := (v : Int)) (by omega) (by omega))
  have := h.inv.2 k hk
  rw [hke, Int.toNat_natCast] at this
  rw [this]
  exact ⟨by omega, by omega, by rw [Int.toNat_natCast]; exact hke⟩
theorem Fits.len {ps ls : List Int} (h : Fits ps ls) : ls.length = ps.length := h.inv.1

set_option maxHeartbeats 1000000 in
theorem orderDown_yes (F : List Nat) (g : Nat) (ps ls : List Int) (x : Nat) (w : World) (h : OrdAt w F g ps ls) (hf : Fits ps ls) (hx : x < 2 ^ ps.length) :
    Calls Try.prog 47 #[.pointer (some ⟨g, 0, none⟩), .int .i64 x] w fun e w' => e = .returned (.int .i64 (downM ls ps.length x : Nat)) ∧ Below w.heap.size w w' := by
  have hO := h
  obtain ⟨A, n, c, A', c', hB, h1, h2, hl1, hl2, _, _⟩ := h
  have hmf : ∀ (fn : Fn) (first cap : Array Value) (w : World), (Instr.makeFunc fn first cap).run Try.prog w = .ok (.func fn first cap) w := fun _ _ _ _ => rfl
  have hc0 : (w.alloc (.cells #[.pointer (some ⟨g, 0, none⟩)] 31)).cell? ⟨g, 0, none⟩ = some (.slice A n c) := (World.cell?_alloc_past _ _ _ hB.lt).trans (hB.cell 0)
  have hbox : (w.alloc (.cells #[.pointer (some ⟨g, 0, none⟩)] 31)).cell? ⟨w.heap.size, 0, none⟩ = some (.pointer (some ⟨g, 0, none⟩)) := by rw [World.cell?_alloc_at _ _ _ _ rfl]; rfl
  have hn16 : n ≤ 16 := by rw [← hl1]; exact hf.perm.1
  have H1 := Lib.hid hl1
  have HF := Lib.hid hf
  have HX : Hid (x < 2 ^ n) := Lib.hid (by rw [← hl1]; exact hx)
  have hx16 : x < 65536 := Nat.lt_of_lt_of_le HX.out (Nat.le_trans (Nat.pow_le_pow_right (by omega) hn16) (by decide))
  have hdz : (x : Int) / 2 ^ n = 0 := by
    have : ((x / 2 ^ n : Nat) : Int) = 0 := by rw [Nat.div_eq_of_lt HX.out]; rfl
    simpa using this
  have hOa : OrdAt (w.alloc (.cells #[.pointer (some ⟨g, 0, none⟩)] 31)) F g ps ls := hO.on ((Below.refl _ _).alloc (Nat.le_refl _) _)
  have hcl : ∀ (j : Nat) (W : World), j < n → Below (w.alloc (.cells #[.pointer (some ⟨g, 0, none⟩)] 31)).heap.size (w.alloc (.cells #[.pointer (some ⟨g, 0, none⟩)] 31)) W →
      Calls Try.prog 75 #[.int .i64 j, .pointer (some ⟨w.heap.size, 0, none⟩)] W fun e W' => e = .returned (.int .i64 ((n - 1 - (ls[j]?.getD 0).toNat : Nat) : Int)) ∧ ∃ k, W' = W.drewN k := by
    intro j W hj hb
    have hlj : j < ls.length := by rw [HF.out.len, H1.out]; exact hj
    have hg := HF.out.ls_get hlj
    have := down1_any F g w.heap.size ps ls j W ((hb.cell (by simp)).trans hbox) (hOa.on hb) HF.out.perm.1 hlj ⟨hg.1, hg.2.1⟩
    rw [H1.out] at this
    exact this
  have HCL := Lib.hid hcl
  have ht : Hid (∀ j, j < n → (fun v => n - 1 - (ls[v]?.getD 0).toNat) j < n) := Lib.hid (fun j hj => by show n - 1 - _ < n; omega)
  clear hl1 hl2 hf hx hcl h1 h2 hO hOa hB
  go_enter Try.func47, Try.ntmps47
  go_wp2_with fail
  refine (moved_any 75 (.pointer (some ⟨w.heap.size, 0, none⟩)) x n (fun v => n - 1 - (ls[v]?.getD 0).toNat) _ hn16 HX.out ht.out (fun j W => callFunc33 j _ W) HCL.out).mono ?_
  rintro e w1 ⟨rfl, hb⟩
  go_wp2_with fail
  go_ret
  refine ⟨?_, ((Below.refl _ _).alloc (Nat.le_refl _) _).trans (hb.mono (by simp))⟩
  rw [H1.out]; rfl

set_option maxHeartbeats 1000000 in
theorem orderUp_yes (F : List Nat) (g : Nat) (ps ls : List Int) (x : Nat) (w : World) (h : OrdAt w F g ps ls) (hf : Fits ps ls) (hx : x < 2 ^ ps.length) :
    Calls Try.prog 77 #[.pointer (some ⟨g, 0, none⟩), .int .i64 x] w fun e w' => e = .returned (.int .i64 (upM ps ps.length x : Nat)) ∧ Below w.heap.size w w' := by
  have hO := h
  obtain ⟨A, n, c, A', c', hB, h1, h2, hl1, hl2, _, _⟩ := h
  have hmf : ∀ (fn : Fn) (first cap : Array Value) (w : World), (Instr.makeFunc fn first cap).run Try.prog w = .ok (.func fn first cap) w := fun _ _ _ _ => rfl
  have hc0 : (w.alloc (.cells #[.pointer (some ⟨g, 0, none⟩)] 31)).cell? ⟨g, 0, none⟩ = some (.slice A n c) := (World.cell?_alloc_past _ _ _ hB.lt).trans (hB.cell 0)
  have hbox : (w.alloc (.cells #[.pointer (some ⟨g, 0, none⟩)] 31)).cell? ⟨w.heap.size, 0, none⟩ = some (.pointer (some ⟨g, 0, none⟩)) := by rw [World.cell?_alloc_at _ _ _ _ rfl]; rfl
  have hn16 : n ≤ 16 := by rw [← hl1]; exact hf.perm.1
  have H1 := Lib.hid hl1
  have HF := Lib.hid hf
  have HX : Hid (x < 2 ^ n) := Lib.hid (by rw [← hl1]; exact hx)
  have hx16 : x < 65536 := Nat.lt_of_lt_of_le HX.out (Nat.le_trans (Nat.pow_le_pow_right (by omega) hn16) (by decide))
  have hdz : (x : Int) / 2 ^ n = 0 := by
    have : ((x / 2 ^ n : Nat) : Int) = 0 := by rw [Nat.div_eq_of_lt HX.out]; rfl
    simpa using this
  have hOa : OrdAt (w.alloc (.cells #[.pointer (some ⟨g, 0, none⟩)] 31)) F g ps ls := hO.on ((Below.refl _ _).alloc (Nat.le_refl _) _)
  have hcl : ∀ (j : Nat) (W : World), j < n → Below (w.alloc (.cells #[.pointer (some ⟨g, 0, none⟩)] 31)).heap.size (w.alloc (.cells #[.pointer (some ⟨g, 0, none⟩)] 31)) W →
      Calls Try.prog 89 #[.int .i64 j, .pointer (some ⟨w.heap.size, 0, none⟩)] W fun e W' => e = .returned (.int .i64 (((ps[n - 1 - j]?.getD 0).toNat : Nat) : Int)) ∧ ∃ k, W' = W.drewN k := by
    intro j W hj hb
    have hlj : j < ps.length := by rw [H1.out]; exact hj
    have hg := HF.out.perm.get (k := ps.length - 1 - j) (by omega)
    have := up1_any F g w.heap.size ps ls j W ((hb.cell (by simp)).trans hbox) (hOa.on hb) HF.out.perm.1 hlj hg.1
    rw [H1.out] at this
    exact this
  have HCL := Lib.hid hcl
  have ht : Hid (∀ j, j < n → (fun i => (ps[n - 1 - i]?.getD 0).toNat) j < n) := Lib.hid (fun j hj => by
    show (ps[n - 1 - j]?.getD 0).toNat < n
    have := HF.out.perm.get (k := n - 1 - j) (by rw [H1.out]; omega)
    rw [H1.out] at this
    omega)
  clear hl1 hl2 hf hx hcl h1 h2 hO hOa hB
  go_enter Try.func77, Try.ntmps77
  go_wp2_with fail
  refine (moved_any 89 (.pointer (some ⟨w.heap.size, 0, none⟩)) x n (fun i => (ps[n - 1 - i]?.getD 0).toNat) _ hn16 HX.out ht.out (fun j W => callFunc34 j _ W) HCL.out).mono ?_
  rintro e w1 ⟨rfl, hb⟩
  go_wp2_with fail
  go_ret
  refine ⟨?_, ((Below.refl _ _).alloc (Nat.le_refl _) _).trans (hb.mono (by simp))⟩
  rw [H1.out]; rfl

theorem big_div {x : Int} {n : Nat} (h : ((2 ^ n : Nat) : Int) ≤ x) : (0 : Int) < x / 2 ^ n := by
  have h2 : (1 : Int) ≤ x / ((2 ^ n : Nat) : Int) := by
    rw [Int.le_ediv_iff_mul_le (by exact Int.ofNat_lt.2 (Nat.two_pow_pos n)), Int.one_mul]
    exact h
  have h3 : x / 2 ^ n = x / ((2 ^ n : Nat) : Int) := by simp
  rw [h3]; omega

theorem orderDown_no (F : List Nat) (g : Nat) (ps ls : List Int) (x : Int) (w : World) (h : OrdAt w F g ps ls) (hn : ps.length ≤ 16) (hx : x < 0 ∨ ((2 ^ ps.length : Nat) : Int) ≤ x) :
    Calls Try.prog 47 #[.pointer (some ⟨g, 0, none⟩), .int .i64 x] w fun e w' => e = .returned (.int .i64 (-1)) ∧ Below w.heap.size w w' := by
  obtain ⟨A, n, c, A', c', hB, h1, h2, hl1, hl2, _, _⟩ := h
  have hc0 : (w.alloc (.cells #[.pointer (some ⟨g, 0, none⟩)] 31)).cell? ⟨g, 0, none⟩ = some (.slice A n c) := (World.cell?_alloc_past _ _ _ hB.lt).trans (hB.cell 0)
  have hbox : (w.alloc (.cells #[.pointer (some ⟨g, 0, none⟩)] 31)).cell? ⟨w.heap.size, 0, none⟩ = some (.pointer (some ⟨g, 0, none⟩)) := by rw [World.cell?_alloc_at _ _ _ _ rfl]; rfl
  have hn16 : n ≤ 16 := by rw [← hl1]; exact hn
  rw [hl1] at hx
  rcases hx with hx | hx
  · clear hl1 hl2 hn h1 h2 hB
    go_enter Try.func47, Try.ntmps47
    go_wp2_with fail
    go_ret
    exact ⟨rfl, (Below.refl _ _).alloc (Nat.le_refl _) _⟩
  · have hd := big_div hx
    have h0 : ¬ x < 0 := by have : (0 : Int) ≤ ((2 ^ n : Nat) : Int) := Int.natCast_nonneg _; omega
    clear hl1 hl2 hn h1 h2 hB hx
    go_enter Try.func47, Try.ntmps47
    go_wp2_with fail
    go_ret
    exact ⟨rfl, (Below.refl _ _).alloc (Nat.le_refl _) _⟩
theorem orderUp_no (F : List Nat) (g : Nat) (ps ls : List Int) (x : Int) (w : World) (h : OrdAt w F g ps ls) (hn : ps.length ≤ 16) (hx : x < 0 ∨ ((2 ^ ps.length : Nat) : Int) ≤ x) :
    Calls Try.prog 77 #[.pointer (some ⟨g, 0, none⟩), .int .i64 x] w fun e w' => e = .returned (.int .i64 (-1)) ∧ Below w.heap.size w w' := by
  obtain ⟨A, n, c, A', c', hB, h1, h2, hl1, hl2, _, _⟩ := h
  have hc0 : (w.alloc (.cells #[.pointer (some ⟨g, 0, none⟩)] 31)).cell? ⟨g, 0, none⟩ = some (.slice A n c) := (World.cell?_alloc_past _ _ _ hB.lt).trans (hB.cell 0)
  have hbox : (w.alloc (.cells #[.pointer (some ⟨g, 0, none⟩)] 31)).cell? ⟨w.heap.size, 0, none⟩ = some (.pointer (some ⟨g, 0, none⟩)) := by rw [World.cell?_alloc_at _ _ _ _ rfl]; rfl
  have hn16 : n ≤ 16 := by rw [← hl1]; exact hn
  rw [hl1] at hx
  rcases hx with hx | hx
  · clear hl1 hl2 hn h1 h2 hB
    go_enter Try.func77, Try.ntmps77
    go_wp2_with fail
    go_ret
    exact ⟨rfl, (Below.refl _ _).alloc (Nat.le_refl _) _⟩
  · have hd := big_div hx
    have h0 : ¬ x < 0 := by have : (0 : Int) ≤ ((2 ^ n : Nat) : Int) := Int.natCast_nonneg _; omega
    clear hl1 hl2 hn h1 h2 hB hx
    go_enter Try.func77, Try.ntmps77
    go_wp2_with fail
    go_ret
    exact ⟨rfl, (Below.refl _ _).alloc (Nat.le_refl _) _⟩
theorem orderNil_down (x : Int) (w : World) :
    Calls Try.prog 47 #[.pointer none, .int .i64 x] w fun e w' => e = .returned (.int .i64 (-1)) ∧ Below w.heap.size w w' := by
  have hbox : (w.alloc (.cells #[.pointer none] 31)).cell? ⟨w.heap.size, 0, none⟩ = some (.pointer none) := by rw [World.cell?_alloc_at _ _ _ _ rfl]; rfl
  go_enter Try.func47, Try.ntmps47
  go_wp2_with fail
  go_ret
  exact ⟨rfl, (Below.refl _ _).alloc (Nat.le_refl _) _⟩
theorem orderNil_up (x : Int) (w : World) :
    Calls Try.prog 77 #[.pointer none, .int .i64 x] w fun e w' => e = .returned (.int .i64 (-1)) ∧ Below w.heap.size w w' := by
  have hbox : (w.alloc (.cells #[.pointer none] 31)).cell? ⟨w.heap.size, 0, none⟩ = some (.pointer none) := by rw [World.cell?_alloc_at _ _ _ _ rfl]; rfl
  go_enter Try.func77, Try.ntmps77
  go_wp2_with fail
  go_ret
  exact ⟨rfl, (Below.refl _ _).alloc (Nat.le_refl _) _⟩
end Go.Proofs.Ytbhbhfplpbcfiaa
