/- Contracts: ramageref05.Size, Value; order.moved with its two closures; Down, Up. Contracts: Order.Down, Up; ramageref09.Down; why they are the same. Contracts: ramageref09.Down, Up, Levels; Order.Levels; why they are the same. -/
import Derived.Test.YtpjciaomhfeeeaaGreatMn
import Derived.Test.YtpjciaomhfeeeaaGreatMa
section
namespace Go.Proofs.YtpjciaomhfeeeaaGreat
open Go.RowKit
set_option linter.unusedSimpArgs false
set_option linter.unusedVariables false

/-- 2 to the k, behind a name -/
def pow2 (k : Nat) : Nat := 2 ^ k
theorem pow2_succ (k : Nat) : pow2 (k + 1) = 2 * pow2 k := by unfold pow2; rw [Nat.pow_succ, Nat.mul_comm]
theorem pow2_pos (k : Nat) : 1 ≤ pow2 k := Nat.one_le_two_pow
theorem pow_le62 {k : Nat} (h : k ≤ 62) : pow2 k ≤ 4611686018427387904 := Nat.le_trans (Nat.pow_le_pow_right (by omega) h) (by decide)

theorem size_any (n : Int) (w : World) (hn : n ≤ 62) :
    Calls Tryz.prog 59 #[.int .i64 n] w fun e w' => e = .returned (.int .i64 (pow2 n.toNat : Nat)) ∧ w = w' := by
  go_enter Tryz.func59, Tryz.ntmps59
  go_wp2_with fail
  go_loop [3, 4] (fun s i => ∃ k : Nat, k ≤ n.toNat ∧ i = .int .i64 k ∧ s = .int .i64 (pow2 k : Nat)) (fun _ i => n.toNat - (intOf i).toNat)
  case atStart => exact ⟨0, Nat.zero_le _, rfl, rfl⟩
  case round =>
    obtain ⟨k, hk, rfl, rfl⟩ := hrel
    by_cases hlt : (k : Int) < n
    · have hp := pow_le62 (k := k + 1) (by omega)
      have he := Lib.hid (pow2_succ k)
      rw [pow2_succ] at hp
      go_wp2_with fail
      go_round
      case rel => exact ⟨k + 1, by omega, by go_num, by rw [he.out]; go_num⟩
      case measure => simp [intOf]; omega
    · have he : Hid (k = n.toNat) := Lib.hid (by omega)
      go_wp2_with fail
      go_ret
      exact ⟨by rw [← he.out]; rfl, rfl⟩

theorem value_any (x v : Int) (w : World) (hx : 0 ≤ x) (hxm : x ≤ 9223372036854775807) (hv : v ≤ 62) :
    Calls Tryz.prog 31 #[.int .i64 x, .int .i64 v] w fun e w' => e = .returned (.int .i64 ((x.toNat / pow2 v.toNat % 2 : Nat) : Int)) ∧ w = w' := by
  obtain ⟨y, rfl⟩ := Int.eq_ofNat_of_zero_le hx
  rw [Int.toNat_natCast]
  have hp := pow_le62 (k := v.toNat) (by omega)
  have hp1 := pow2_pos v.toNat
  go_enter Tryz.func31, Tryz.ntmps31
  go_wp2_with fail
  refine (size_any v _ hv).mono ?_
  rintro e w' ⟨rfl, rfl⟩
  generalize hP : pow2 v.toNat = P at *
  have h0 : (1 : Int) ≤ (P : Int) := by omega
  have h3 : y / P ≤ y := Nat.div_le_self _ _
  have h4 : (y : Int) / (P : Int) = ((y / P : Nat) : Int) := by simp
  have h5 : 0 ≤ (y : Int) / (P : Int) := by rw [h4]; exact Int.natCast_nonneg _
  have h6 : (y : Int) / (P : Int) ≤ 9223372036854775807 := by rw [h4]; omega
  clear h4
  go_wp2_with fail
  go_ret
  exact ⟨ret_int (by rw [← hP]; simp), rfl⟩

/-- bits of a number, each to another place -/
def movedTo (x : Nat) (t : Nat → Nat) : Nat → Nat
  | 0 => 0
  | k + 1 => movedTo x t k ||| (x / 2 ^ k % 2) * 2 ^ t k
theorem movedTo_testBit (x : Nat) (t : Nat → Nat) : ∀ (k b : Nat), (movedTo x t k).testBit b = decide (∃ j, j < k ∧ x.testBit j = true ∧ t j = b) := by
  intro k
  induction k with
  | zero => intro b; simp [movedTo]
  | succ k ih =>
    intro b
    simp only [movedTo]
    rw [Nat.testBit_or, ih]
    have h1 : ((x / 2 ^ k % 2) * 2 ^ t k).testBit b = decide (x.testBit k = true ∧ t k = b) := by
      rw [Nat.testBit_eq_decide_div_mod_eq (x := x)]
      rcases Nat.mod_two_eq_zero_or_one (x / 2 ^ k) with h | h
      · simp [h]
      · rw [h, Nat.one_mul, Nat.testBit_two_pow]; simp
    rw [h1, ← Bool.decide_or]
    apply decide_eq_decide.2
    constructor
    · rintro (⟨j, h1, h2, h3⟩ | ⟨h1, h2⟩)
      · exact ⟨j, by omega, h2, h3⟩
      · exact ⟨k, by omega, h1, h2⟩
    · rintro ⟨j, h1, h2, h3⟩
      rcases Nat.lt_succ_iff_lt_or_eq.1 h1 with h | h
      · exact .inl ⟨j, h, h2, h3⟩
      · subst h; exact .inr ⟨h2, h3⟩
theorem movedTo_lt (x : Nat) (t : Nat → Nat) (n : Nat) : ∀ k, (∀ j, j < k → t j < n) → movedTo x t k < 2 ^ n := by
  intro k
  induction k with
  | zero => intro _; exact Nat.two_pow_pos n
  | succ k ih =>
    intro h
    simp only [movedTo]
    refine Nat.or_lt_two_pow (ih (fun j hj => h j (by omega))) ?_
    have h1 : x / 2 ^ k % 2 ≤ 1 := by omega
    have h2 : 2 ^ t k < 2 ^ n := Nat.pow_lt_pow_right (by omega) (h k (by omega))
    have h3 : x / 2 ^ k % 2 * 2 ^ t k ≤ 1 * 2 ^ t k := Nat.mul_le_mul_right _ h1
    omega
/-- zeros above play no part -/
theorem movedTo_stop (x : Nat) (t : Nat → Nat) (i : Nat) (hx : x < 2 ^ i) : ∀ d, movedTo x t (i + d) = movedTo x t i := by
  intro d
  induction d with
  | zero => rfl
  | succ d ih =>
    show movedTo x t (i + d) ||| (x / 2 ^ (i + d) % 2) * 2 ^ t (i + d) = _
    have : x / 2 ^ (i + d) = 0 := Nat.div_eq_of_lt (Nat.lt_of_lt_of_le hx (Nat.pow_le_pow_right (by omega) (by omega)))
    rw [this, ih]
    simp

theorem moved_step (x o i t : Nat) (ho : o < 65536) (hx : x < 65536) (ht : t < 16) :
    bits .or .i64 (o : Int) (wrap64 (bits .and .i64 ((x : Int) / 2 ^ i) 1 * 2 ^ t)) = ((o ||| (x / 2 ^ i % 2) * 2 ^ t : Nat) : Int) := by
  have h1 := bit_test x (by omega) (i : Int) (by omega)
  rw [Int.toNat_natCast] at h1
  rw [h1, Nat.testBit_eq_decide_div_mod_eq]
  rcases Nat.mod_two_eq_zero_or_one (x / 2 ^ i) with h | h
  · have e1 : wrap64 ((if decide (x / 2 ^ i % 2 = 1) = true then 1 else 0) * 2 ^ t) = ((0 : Nat) : Int) := by rw [h]; simp [wrap64]
    rw [e1, h, i64_or_nat _ _ (by omega) (by omega), Nat.zero_mul]
  · have e1 : ((if decide (x / 2 ^ i % 2 = 1) = true then 1 else 0) * 2 ^ t : Int) = 2 ^ t := by rw [h]; simp
    rw [e1, h, or_pow o (by omega) t (by omega), Nat.one_mul]

set_option maxHeartbeats 1000000 in
theorem moved_any (K : FuncId) (ptr : Value) (x n : Nat) (t : Nat → Nat) (w : World) (hn : n ≤ 16) (hx : x < 2 ^ n) (ht : ∀ j, j < n → t j < n)
    (hcf : ∀ (j : Nat) (W : World), Sem.run Tryz.prog (callFunc K #[.int .i64 j, ptr]) W = .ok (.enter K #[.int .i64 j, ptr]) W)
    (hK : ∀ (j : Nat) (W : World), j < n → Below w.heap.size w W → Calls Tryz.prog K #[.int .i64 j, ptr] W fun e W' => e = .returned (.int .i64 (t j : Nat)) ∧ ∃ k, W' = W.drewN k) :
    Calls Tryz.prog 76 #[.int .i64 x, .func (.func K) #[] #[ptr]] w fun e w' => e = .returned (.int .i64 (movedTo x t n : Nat)) ∧ Below w.heap.size w w' := by
  have hx16 : x < 65536 := Nat.lt_of_lt_of_le hx (Nat.le_trans (Nat.pow_le_pow_right (by omega) hn) (by decide))
  have HT := Lib.hid ht
  have HK := Lib.hid hK
  have HX := Lib.hid hx
  clear ht hK hx
  go_enter Tryz.func76, Tryz.ntmps76
  go_wp2_with fail
  go_loopw [5, 6] (fun o i wr => ∃ k : Nat, k ≤ n ∧ i = .int .i64 k ∧ o = .int .i64 (movedTo x t k : Nat) ∧ Below w.heap.size w wr) (fun _ i _ => n - (intOf i).toNat)
  case atStart => exact ⟨0, Nat.zero_le _, rfl, rfl, Below.refl _ _⟩
  case round =>
    obtain ⟨k, hk, rfl, rfl, hbw⟩ := hrel
    have hdiv : (x : Int) / 2 ^ k = ((x / 2 ^ k : Nat) : Int) := by simp
    by_cases h0 : x / 2 ^ k = 0
    · have hstop : Hid (movedTo x t n = movedTo x t k) := Lib.hid (by
        have h1 : x < 2 ^ k := by
          rcases Nat.lt_or_ge x (2 ^ k) with h | h
          · exact h
          · have := Nat.div_pos h (Nat.two_pow_pos k); omega
        have := movedTo_stop x t k h1 (n - k)
        rwa [show k + (n - k) = n by omega] at this)
      have hz : ¬ (0 : Int) < (x : Int) / 2 ^ k := by rw [hdiv, h0]; decide
      have hkm : (k : Int) ≤ 16 := by omega
      clear hdiv h0
      go_wp2_with fail
      go_ret
      exact ⟨by rw [hstop.out]; rfl, hbw⟩
    · have hkn : k < n := by
        rcases Nat.lt_or_ge k n with h | h
        · exact h
        · exfalso
          apply h0
          exact Nat.div_eq_of_lt (Nat.lt_of_lt_of_le HX.out (Nat.pow_le_pow_right (by omega) h))
      have hz : (0 : Int) < (x : Int) / 2 ^ k := by rw [hdiv]; exact Int.ofNat_lt.2 (Nat.pos_of_ne_zero h0)
      have ho := movedTo_lt x t 16 k (fun j hj => by have := HT.out j (by omega); omega)
      have htk := HT.out k hkn
      have HS := Lib.hid (moved_step x (movedTo x t k) k (t k) ho hx16 (by omega))
      clear hdiv h0
      generalize hmo : movedTo x t k = mo at *
      have HMO := Lib.hid hmo
      clear hmo
      go_wp2_with fail
      go_quiet ((exact Calls.quiet_of (HK.out k _ hkn (below_drewN hbw _))))
      go_wp2_with fail
      go_roundw
      case rel => exact ⟨k + 1, by omega, by go_num, by
        show Value.int .i64 _ = Value.int .i64 ((movedTo x t k ||| (x / 2 ^ k % 2) * 2 ^ t k : Nat) : Int)
        rw [HMO.out, ← HS.out], below_drewN hbw _⟩
      case measure => simp [intOf]; omega

theorem callFunc34 (j : Nat) (ptr : Value) (W : World) : Sem.run Tryz.prog (callFunc 77 #[.int .i64 j, ptr]) W = .ok (.enter 77 #[.int .i64 j, ptr]) W := by go_simp

theorem up1_any (F : List Nat) (g bx : Nat) (ps ls : List Int) (j : Nat) (w : World) (hbx : w.cell? ⟨bx, 0, none⟩ = some (.pointer (some ⟨g, 0, none⟩))) (h : OrdAt w F g ps ls) (hn : ps.length ≤ 16) (hj : j < ps.length) (hl : 0 ≤ ps[ps.length - 1 - j]?.getD 0) :
    Calls Tryz.prog 77 #[.int .i64 j, .pointer (some ⟨bx, 0, none⟩)] w fun e W' => e = .returned (.int .i64 (((ps[ps.length - 1 - j]?.getD 0).toNat : Nat) : Int)) ∧ ∃ k, W' = w.drewN k := by
  obtain ⟨A, n, c, A', c', hB, h1, h2, hl1, hl2, _, _⟩ := h
  have hc0 : w.cell? ⟨g, 0, none⟩ = some (.slice A n c) := hB.cell 0
  obtain ⟨b, off, rfl, hb, hc⟩ := (OwnI.ints h1) (by omega)
  have hck := hc (ps.length - 1 - j) (by omega)
  rw [hl1] at hj hn hck hl ⊢
  have H1 := Lib.hid hl1
  clear hl1 hl2 hc
  generalize hx : ps[n - 1 - j]?.getD 0 = x at *
  clear hx
  obtain ⟨y, rfl⟩ := Int.eq_ofNat_of_zero_le hl
  have hi0 : (0 : Int) ≤ (n : Int) - 1 - (j : Int) := by omega
  have hi1 : (n : Int) - 1 - (j : Int) < (n : Int) := by omega
  have hi2 : ((n : Int) - 1 - (j : Int)).toNat = n - 1 - j := by omega
  go_enter Tryz.func77, Tryz.ntmps77
  go_wp2_with fail
  go_quiet (fail)
  go_wp2_with fail
  go_ret
  exact ⟨by rw [Int.toNat_natCast]; rfl, _, rfl⟩
end Go.Proofs.YtpjciaomhfeeeaaGreat
end

section
namespace Go.Proofs.YtpjciaomhfeeeaaGreat
open Go.RowKit
set_option linter.unusedSimpArgs false
set_option linter.unusedVariables false

/-- an assignment by levels -/
def downM (ls : List Int) (n x : Nat) : Nat := movedTo x (fun v => n - 1 - (ls[v]?.getD 0).toNat) n
def upM (ps : List Int) (n x : Nat) : Nat := movedTo x (fun i => (ps[n - 1 - i]?.getD 0).toNat) n

/-- both lists belong together -/
structure Fits (ps ls : List Int) : Prop where
  perm : IsPerm ps
  inv : InvOf ps ls
theorem Fits.ls_get {ps ls : List Int} (h : Fits ps ls) {v : Nat} (hv : v < ls.length) : 0 ≤ ls[v]?.getD 0 ∧ ls[v]?.getD 0 < ps.length ∧ ps[(ls[v]?.getD 0).toNat]?.getD 0 = (v : Int) := by
  rw [h.inv.1] at hv
  obtain ⟨k, hk, hke⟩ := mem_getD (h.perm.mem (j := (v : Int)) (by omega) (by omega))
  have := h.inv.2 k hk
  rw [hke, Int.toNat_natCast] at this
  rw [this]
  exact ⟨by omega, by omega, by rw [Int.toNat_natCast]; exact hke⟩
theorem Fits.len {ps ls : List Int} (h : Fits ps ls) : ls.length = ps.length := h.inv.1

set_option maxHeartbeats 1000000 in
theorem orderUp_yes (F : List Nat) (g : Nat) (ps ls : List Int) (x : Nat) (w : World) (h : OrdAt w F g ps ls) (hf : Fits ps ls) (hx : x < 2 ^ ps.length) :
    Calls Tryz.prog 55 #[.pointer (some ⟨g, 0, none⟩), .int .i64 x] w fun e w' => e = .returned (.int .i64 (upM ps ps.length x : Nat)) ∧ Below w.heap.size w w' := by
  have hO := h
  obtain ⟨A, n, c, A', c', hB, h1, h2, hl1, hl2, _, _⟩ := h
  have hmf : ∀ (fn : Fn) (first cap : Array Value) (w : World), (Instr.makeFunc fn first cap).run Tryz.prog w = .ok (.func fn first cap) w := fun _ _ _ _ => rfl
  have hc0 : (w.alloc (.cells #[.pointer (some ⟨g, 0, none⟩)] 33)).cell? ⟨g, 0, none⟩ = some (.slice A n c) := (World.cell?_alloc_past _ _ _ hB.lt).trans (hB.cell 0)
  have hbox : (w.alloc (.cells #[.pointer (some ⟨g, 0, none⟩)] 33)).cell? ⟨w.heap.size, 0, none⟩ = some (.pointer (some ⟨g, 0, none⟩)) := by rw [World.cell?_alloc_at _ _ _ _ rfl]; rfl
  have hn16 : n ≤ 16 := by rw [← hl1]; exact hf.perm.1
  have H1 := Lib.hid hl1
  have HF := Lib.hid hf
  have HX : Hid (x < 2 ^ n) := Lib.hid (by rw [← hl1]; exact hx)
  have hx16 : x < 65536 := Nat.lt_of_lt_of_le HX.out (Nat.le_trans (Nat.pow_le_pow_right (by omega) hn16) (by decide))
  have hdz : (x : Int) / 2 ^ n = 0 := by
    have : ((x / 2 ^ n : Nat) : Int) = 0 := by rw [Nat.div_eq_of_lt HX.out]; rfl
    simpa using this
  have hOa : OrdAt (w.alloc (.cells #[.pointer (some ⟨g, 0, none⟩)] 33)) F g ps ls := hO.on ((Below.refl _ _).alloc (Nat.le_refl _) _)
  have hcl : ∀ (j : Nat) (W : World), j < n → Below (w.alloc (.cells #[.pointer (some ⟨g, 0, none⟩)] 33)).heap.size (w.alloc (.cells #[.pointer (some ⟨g, 0, none⟩)] 33)) W →
      Calls Tryz.prog 77 #[.int .i64 j, .pointer (some ⟨w.heap.size, 0, none⟩)] W fun e W' => e = .returned (.int .i64 (((ps[n - 1 - j]?.getD 0).toNat : Nat) : Int)) ∧ ∃ k, W' = W.drewN k := by
    intro j W hj hb
    have hlj : j < ps.length := by rw [H1.out]; exact hj
    have hg := HF.out.perm.get (k := ps.length - 1 - j) (by omega)
    have := up1_any F g w.heap.size ps ls j W ((hb.cell (by simp)).trans hbox) (hOa.on hb) HF.out.perm.1 hlj hg.1
    rw [H1.out] at this
    exact this
  have HCL := Lib.hid hcl
  have ht : Hid (∀ j, j < n → (fun i => (ps[n - 1 - i]?.getD 0).toNat) j < n) := Lib.hid (fun j hj => by
    show (ps[n - 1 - j]?.getD 0).toNat < n
    have := HF.out.perm.get (k := n - 1 - j) (by rw [H1.out]; omega)
    rw [H1.out] at this
    omega)
  clear hl1 hl2 hf hx hcl h1 h2 hO hOa hB
  go_enter Tryz.func55, Tryz.ntmps55
  go_wp2_with fail
  refine (moved_any 77 (.pointer (some ⟨w.heap.size, 0, none⟩)) x n (fun i => (ps[n - 1 - i]?.getD 0).toNat) _ hn16 HX.out ht.out (fun j W => callFunc34 j _ W) HCL.out).mono ?_
  rintro e w1 ⟨rfl, hb⟩
  go_wp2_with fail
  go_ret
  refine ⟨?_, ((Below.refl _ _).alloc (Nat.le_refl _) _).trans (hb.mono (by simp))⟩
  rw [H1.out]; rfl

theorem big_div {x : Int} {n : Nat} (h : ((2 ^ n : Nat) : Int) ≤ x) : (0 : Int) < x / 2 ^ n := by
  have h2 : (1 : Int) ≤ x / ((2 ^ n : Nat) : Int) := by
    rw [Int.le_ediv_iff_mul_le (by exact Int.ofNat_lt.2 (Nat.two_pow_pos n)), Int.one_mul]
    exact h
  have h3 : x / 2 ^ n = x / ((2 ^ n : Nat) : Int) := by simp
  rw [h3]; omega

theorem orderUp_no (F : List Nat) (g : Nat) (ps ls : List Int) (x : Int) (w : World) (h : OrdAt w F g ps ls) (hn : ps.length ≤ 16) (hx : x < 0 ∨ ((2 ^ ps.length : Nat) : Int) ≤ x) :
    Calls Tryz.prog 55 #[.pointer (some ⟨g, 0, none⟩), .int .i64 x] w fun e w' => e = .returned (.int .i64 (-1)) ∧ Below w.heap.size w w' := by
  obtain ⟨A, n, c, A', c', hB, h1, h2, hl1, hl2, _, _⟩ := h
  have hc0 : (w.alloc (.cells #[.pointer (some ⟨g, 0, none⟩)] 33)).cell? ⟨g, 0, none⟩ = some (.slice A n c) := (World.cell?_alloc_past _ _ _ hB.lt).trans (hB.cell 0)
  have hbox : (w.alloc (.cells #[.pointer (some ⟨g, 0, none⟩)] 33)).cell? ⟨w.heap.size, 0, none⟩ = some (.pointer (some ⟨g, 0, none⟩)) := by rw [World.cell?_alloc_at _ _ _ _ rfl]; rfl
  have hn16 : n ≤ 16 := by rw [← hl1]; exact hn
  rw [hl1] at hx
  rcases hx with hx | hx
  · clear hl1 hl2 hn h1 h2 hB
    go_enter Tryz.func55, Tryz.ntmps55
    go_wp2_with fail
    go_ret
    exact ⟨rfl, (Below.refl _ _).alloc (Nat.le_refl _) _⟩
  · have hd := big_div hx
    have h0 : ¬ x < 0 := by have : (0 : Int) ≤ ((2 ^ n : Nat) : Int) := Int.natCast_nonneg _; omega
    clear hl1 hl2 hn h1 h2 hB hx
    go_enter Tryz.func55, Tryz.ntmps55
    go_wp2_with fail
    go_ret
    exact ⟨rfl, (Below.refl _ _).alloc (Nat.le_refl _) _⟩
theorem orderNil_up (x : Int) (w : World) :
    Calls Tryz.prog 55 #[.pointer none, .int .i64 x] w fun e w' => e = .returned (.int .i64 (-1)) ∧ Below w.heap.size w w' := by
  have hbox : (w.alloc (.cells #[.pointer none] 33)).cell? ⟨w.heap.size, 0, none⟩ = some (.pointer none) := by rw [World.cell?_alloc_at _ _ _ _ rfl]; rfl
  go_enter Tryz.func55, Tryz.ntmps55
  go_wp2_with fail
  go_ret
  exact ⟨rfl, (Below.refl _ _).alloc (Nat.le_refl _) _⟩
end Go.Proofs.YtpjciaomhfeeeaaGreat
end

section
namespace Go.Proofs.YtpjciaomhfeeeaaGreat
open Go.RowKit
set_option linter.unusedSimpArgs false
set_option linter.unusedVariables false

/-- the document's Down -/
def rdown (x : Nat) (p : List Int) : Nat := p.foldl (fun y v => 2 * y + x / pow2 v.toNat % 2) 0
theorem rdown_snoc (x : Nat) (p : List Int) (v : Int) : rdown x (p ++ [v]) = 2 * rdown x p + x / pow2 v.toNat % 2 := by simp [rdown]
theorem rdown_lt (x : Nat) (p : List Int) : rdown x p < pow2 p.length := by
  have h : ∀ q : List Int, rdown x q.reverse < pow2 q.length := by
    intro q
    induction q with
    | nil => exact pow2_pos 0
    | cons v r ih =>
      rw [List.reverse_cons, rdown_snoc, List.length_cons, pow2_succ]
      omega
  have := h p.reverse
  rwa [List.reverse_reverse, List.length_reverse] at this
theorem testBit_pow2 (x j : Nat) : x.testBit j = decide (x / pow2 j % 2 = 1) := Nat.testBit_eq_decide_div_mod_eq
theorem rdown_testBit (x : Nat) : ∀ (q : List Int) (b : Nat), (rdown x q.reverse).testBit b = if b < q.length then x.testBit (q[b]?.getD 0).toNat else false := by
  intro q
  induction q with
  | nil => intro b; simp [rdown]
  | cons v r ih =>
    intro b
    rw [List.reverse_cons, rdown_snoc]
    cases b with
    | zero =>
      rw [if_pos (by simp), testBit_pow2, testBit_pow2]
      simp only [List.getElem?_cons_zero, Option.getD_some]
      apply decide_eq_decide.2
      have : pow2 0 = 1 := rfl
      rw [this, Nat.div_one]
      omega
    | succ b =>
      have h1 : (2 * rdown x r.reverse + x / pow2 v.toNat % 2).testBit (b + 1) = (rdown x r.reverse).testBit b := by
        rw [Nat.testBit_succ]
        congr 1
        omega
      rw [h1, ih b]
      simp
theorem rdown_testBit' (x : Nat) (p : List Int) (b : Nat) (hb : b < p.length) : (rdown x p).testBit b = x.testBit (p[p.length - 1 - b]?.getD 0).toNat := by
  have := rdown_testBit x p.reverse b
  rw [List.reverse_reverse, List.length_reverse, if_pos hb] at this
  rw [this, List.getElem?_reverse hb]
theorem eq_of_bits {a b n : Nat} (ha : a < 2 ^ n) (hb : b < 2 ^ n) (h : ∀ j, j < n → a.testBit j = b.testBit j) : a = b := by
  apply Nat.eq_of_testBit_eq
  intro j
  rcases Nat.lt_or_ge j n with h1 | h1
  · exact h j h1
  · rw [Nat.testBit_lt_two_pow (Nat.lt_of_lt_of_le ha (Nat.pow_le_pow_right (by omega) h1)), Nat.testBit_lt_two_pow (Nat.lt_of_lt_of_le hb (Nat.pow_le_pow_right (by omega) h1))]

theorem downM_eq {ps ls : List Int} (h : Fits ps ls) (x : Nat) : downM ls ps.length x = rdown x ps := by
  apply eq_of_bits (n := ps.length)
  · exact movedTo_lt _ _ _ _ (fun j hj => by omega)
  · exact rdown_lt x ps
  · intro b hb
    rw [rdown_testBit' x ps b hb]
    unfold downM
    rw [movedTo_testBit]
    have hg := h.perm.get (k := ps.length - 1 - b) (by omega)
    have hi := h.inv.2 (ps.length - 1 - b) (by omega)
    rw [Bool.eq_iff_iff, decide_eq_true_eq]
    constructor
    · rintro ⟨j, h1, h2, h3⟩
      have hj := h.ls_get (v := j) (by rw [h.len]; exact h1)
      have e : (ls[j]?.getD 0).toNat = ps.length - 1 - b := by omega
      have e2 := hj.2.2
      rw [e] at e2
      rw [e2, Int.toNat_natCast]
      exact h2
    · intro h2
      refine ⟨(ps[ps.length - 1 - b]?.getD 0).toNat, by omega, h2, ?_⟩
      rw [hi, Int.toNat_natCast]; omega
theorem upM_lt {ps : List Int} (hp : IsPerm ps) (y : Nat) : upM ps ps.length y < 2 ^ ps.length :=
  movedTo_lt _ _ _ _ (fun j hj => by have := hp.get (k := ps.length - 1 - j) (by omega); omega)
/-- Up leads back -/
theorem rdown_up {ps : List Int} (hp : IsPerm ps) (y : Nat) (hy : y < 2 ^ ps.length) : rdown (upM ps ps.length y) ps = y := by
  apply eq_of_bits (n := ps.length)
  · exact rdown_lt _ ps
  · exact hy
  · intro b hb
    rw [rdown_testBit' _ ps b hb]
    unfold upM
    rw [movedTo_testBit, Bool.eq_iff_iff, decide_eq_true_eq]
    have hg := hp.get (k := ps.length - 1 - b) (by omega)
    constructor
    · rintro ⟨j, h1, h2, h3⟩
      have hgj := hp.get (k := ps.length - 1 - j) (by omega)
      have := hp.inj (i := ps.length - 1 - j) (j := ps.length - 1 - b) (by omega) (by omega) (by omega)
      have e : j = b := by omega
      rw [← e]; exact h2
    · intro h2
      exact ⟨b, hb, h2, rfl⟩
theorem rdown_inj {ps : List Int} (hp : IsPerm ps) {x y : Nat} (hx : x < 2 ^ ps.length) (hy : y < 2 ^ ps.length) (h : rdown x ps = rdown y ps) : x = y := by
  apply eq_of_bits hx hy
  intro j hj
  obtain ⟨k, hk, hke⟩ := mem_getD (hp.mem (j := (j : Int)) (by omega) (by omega))
  have h1 := rdown_testBit' x ps (ps.length - 1 - k) (by omega)
  have h2 := rdown_testBit' y ps (ps.length - 1 - k) (by omega)
  rw [show ps.length - 1 - (ps.length - 1 - k) = k by omega, hke, Int.toNat_natCast] at h1 h2
  rw [← h1, ← h2, h]
theorem up_rdown {ps : List Int} (hp : IsPerm ps) (x : Nat) (hx : x < 2 ^ ps.length) : upM ps ps.length (rdown x ps) = x :=
  rdown_inj hp (upM_lt hp _) hx (rdown_up hp _ (rdown_lt x ps))

set_option maxHeartbeats 1000000 in
theorem refDown_any (A : Option Addr) (n c : Nat) (ps : List Int) (x : Nat) (w : World) (hp : ps.length = n) (hP : IsPerm ps) (hx : x ≤ 9223372036854775807) (hr : Ints w w.heap.size A ps) :
    Calls Tryz.prog 30 #[.slice A n c, .int .i64 x] w fun e w' => e = .returned (.int .i64 (rdown x ps : Nat)) ∧ w = w' := by
  have hn16 : n ≤ 16 := by rw [← hp]; exact hP.1
  have Hp := Lib.hid hp
  have HP := Lib.hid hP
  clear hp hP
  go_enter Tryz.func30, Tryz.ntmps30
  go_wp2_with fail
  go_loop [5, 6] (fun y i => ∃ k : Nat, k ≤ n ∧ i = .int .i64 k ∧ y = .int .i64 (rdown x (ps.take k) : Nat)) (fun _ i => n - (intOf i).toNat)
  case atStart => exact ⟨0, Nat.zero_le _, rfl, rfl⟩
  case round =>
    obtain ⟨k, hk, rfl, rfl⟩ := hrel
    by_cases hlt : k < n
    · obtain ⟨b, off, rfl, hb, hc⟩ := hr (by rw [Hp.out]; omega)
      have hck := hc k (by rw [Hp.out]; exact hlt)
      have hg := HP.out.get (k := k) (by rw [Hp.out]; exact hlt)
      rw [Hp.out] at hg
      have hs : rdown x (ps.take (k + 1)) = 2 * rdown x (ps.take k) + x / pow2 (ps[k]?.getD 0).toNat % 2 := by
        rw [take_succ_getD ps k (by rw [Hp.out]; exact hlt), rdown_snoc]
      have HS := Lib.hid hs
      have hl := rdown_lt x (ps.take k)
      rw [List.length_take, Hp.out] at hl
      have hl2 : pow2 (min k n) ≤ 65536 := Nat.le_trans (Nat.pow_le_pow_right (by omega) (by omega : min k n ≤ 16)) (by decide)
      have hl3 : rdown x (ps.take k) < 65536 := by omega
      clear hc hs hl hl2
      generalize hv : ps[k]?.getD 0 = v at *
      clear hv
      generalize hy : rdown x (ps.take k) = y at *
      clear hy
      go_wp2_with fail
      refine (value_any (x : Int) v _ (by omega) (by omega) (by omega)).mono ?_
      rintro e w' ⟨rfl, rfl⟩
      rw [Int.toNat_natCast]
      have hm : x / pow2 v.toNat % 2 < 2 := by omega
      generalize hq : x / pow2 v.toNat % 2 = q at *
      clear hq
      go_wp2_with fail
      go_round
      case rel => exact ⟨k + 1, by omega, by go_num, by rw [HS.out]; go_num⟩
      case measure => simp [intOf]; omega
    · have he : Hid (ps.take k = ps) := Lib.hid (List.take_of_length_le (by rw [Hp.out]; omega))
      go_wp2_with fail
      go_ret
      exact ⟨by rw [← he.out, he.out]; show Ending.returned (.int .i64 ((rdown x (ps.take k) : Nat) : Int)) = _; rw [he.out], rfl⟩

set_option maxHeartbeats 1000000 in
theorem refUp_any (A : Option Addr) (n c : Nat) (ps : List Int) (y : Nat) (w : World) (hp : ps.length = n) (hP : IsPerm ps) (hy : y < 2 ^ n) (hr : Ints w w.heap.size A ps) :
    Calls Tryz.prog 28 #[.slice A n c, .int .i64 y] w fun e w' => e = .returned (.int .i64 (upM ps n y : Nat)) ∧ w = w' := by
  have hn16 : n ≤ 16 := by rw [← hp]; exact hP.1
  have Hp := Lib.hid hp
  have HP := Lib.hid hP
  have HY := Lib.hid hy
  have hU : Hid (upM ps n y < pow2 n ∧ rdown (upM ps n y) ps = y) := Lib.hid (by
    have h1 := upM_lt hP y
    have h2 := rdown_up hP y (by rw [hp]; exact hy)
    rw [hp] at h1 h2
    exact ⟨h1, h2⟩)
  have hun : Hid (∀ x, x < pow2 n → rdown x ps = y → x = upM ps n y) := Lib.hid (fun x hx he => rdown_inj hP (by rw [hp]; exact hx) (by rw [hp]; exact hU.out.1) (by rw [he, hU.out.2]))
  have hpn : pow2 n ≤ 65536 := Nat.le_trans (Nat.pow_le_pow_right (by omega) hn16) (by decide)
  have hU1 := hU.out.1
  generalize hu : upM ps n y = u at *
  clear hp hP hy hu
  go_enter Tryz.func28, Tryz.ntmps28
  go_wp2_with fail
  go_loop [5] (fun i => ∃ k : Nat, k ≤ u ∧ i = .int .i64 k) (fun i => u - (intOf i).toNat)
  case atStart => exact ⟨0, Nat.zero_le _, rfl⟩
  case round =>
    obtain ⟨k, hk, rfl⟩ := hrel
    go_wp2_with fail
    refine (size_any (n : Int) _ (by omega)).mono ?_
    rintro e w' ⟨rfl, rfl⟩
    rw [Int.toNat_natCast]
    have hkp : (k : Int) < (pow2 n : Nat) := by omega
    go_wp2_with fail
    refine (refDown_any A n c ps k _ Hp.out HP.out (by omega) hr).mono ?_
    rintro e w' ⟨rfl, rfl⟩
    by_cases he : rdown k ps = y
    · have hku : k = u := hun.out k (by omega) he
      have HE : ((((rdown k ps : Nat) : Int)) == (y : Int)) = true := by rw [beq_iff_eq, he]
      have HK := Lib.hid hku
      clear he hku
      go_wp2_with fail
      go_ret
      exact ⟨by rw [← HK.out]; rfl, rfl⟩
    · have HE : ((((rdown k ps : Nat) : Int)) == (y : Int)) = false := by rw [beq_eq_false_iff_ne]; omega
      have hku : k ≠ u := fun e => he (by rw [e]; exact hU.out.2)
      clear he
      go_wp2_with fail
      go_round
      case rel => exact ⟨k + 1, by omega, by go_num⟩
      case measure => simp [intOf]; omega
end Go.Proofs.YtpjciaomhfeeeaaGreat
end
