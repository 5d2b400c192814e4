/- The library's sort of uint32: what it leaves is a permutation (6): patterns broken. -/
import Derived.Test.YtciokbngjfeihaaGreatSrtB
import Derived.Test.YtciokbngjfeihaaGreatShelf
import Derived.Lib.BitFns
import Derived.Deep.DeepCutAuto
namespace Go.Proofs.YtciokbngjfeihaaGreat
open Go Go.RowKit
set_option linter.unusedSimpArgs false
set_option linter.unusedVariables false

theorem wrap_u64n (x : Nat) (h : x < 18446744073709551616) : IntKind.u64.wrap (x : Int) = (x : Int) := by
  simp [IntKind.wrap, IntKind.signed, IntKind.bits]
  omega
/-- y & (1<<n - 1) of any number -/
theorem and_lowU (y : Int) (n : Nat) (hn : n ≤ 32) : bits .and .u64 y (((2 ^ n : Nat) : Int) - 1) = y % ((2 ^ n : Nat) : Int) := by
  have hp : 2 ^ n ≤ 4294967296 := Nat.pow_le_pow_right (n := 2) (by omega) (show n ≤ 32 from hn)
  have hp1 := Nat.two_pow_pos n
  show IntKind.u64.wrap ((BitVec.ofInt 64 y &&& BitVec.ofInt 64 (((2 ^ n : Nat) : Int) - 1)).toNat : Int) = _
  have e1 : (((2 ^ n : Nat) : Int) - 1) = ((2 ^ n - 1 : Nat) : Int) := by omega
  have e2 : (BitVec.ofInt 64 ((2 ^ n - 1 : Nat) : Int)).toNat = 2 ^ n - 1 := by
    rw [BitVec.toNat_ofInt]
    have : (((2 ^ n - 1 : Nat) : Int) % ((2 ^ 64 : Nat) : Int)) = ((2 ^ n - 1 : Nat) : Int) := Int.emod_eq_of_lt (by omega) (by omega)
    rw [this]
    rfl
  rw [BitVec.toNat_and, e1, e2, Nat.and_two_pow_sub_one_eq_mod, BitVec.toNat_ofInt]
  have h1 : (y % ((2 ^ 64 : Nat) : Int)).toNat % 2 ^ n = (y % ((2 ^ n : Nat) : Int)).toNat := by
    have a1 : 0 ≤ y % ((2 ^ 64 : Nat) : Int) := Int.emod_nonneg _ (by decide)
    have a2 : 0 ≤ y % ((2 ^ n : Nat) : Int) := Int.emod_nonneg _ (by omega)
    apply Int.ofNat.inj
    show (((y % ((2 ^ 64 : Nat) : Int)).toNat % 2 ^ n : Nat) : Int) = ((y % ((2 ^ n : Nat) : Int)).toNat : Int)
    rw [Int.natCast_emod, Int.toNat_of_nonneg a1, Int.toNat_of_nonneg a2]
    exact Int.emod_emod_of_dvd y (Int.natCast_dvd_natCast.2 (Nat.pow_dvd_pow 2 (by omega)))
  have h2 : (y % ((2 ^ n : Nat) : Int)).toNat < 2 ^ n := by
    have := Int.emod_lt_of_pos y (show (0 : Int) < ((2 ^ n : Nat) : Int) by omega)
    omega
  rw [h1, wrap_u64n _ (by omega), Int.toNat_of_nonneg (Int.emod_nonneg _ (by omega))]
/-- a world under a name, by what is known of it -/
theorem wp_genS {P : Program} {c : Code} {Q : Exit → Act → World → Prop} {a : Act} {w : World} (R : World → Prop) (h : R w) (k : ∀ W, R W → c.wp P Q a W) : c.wp P Q a w := k w h
/-- a number of the generator -/
def RndAt (w : World) (p : Nat) : Prop := ∃ v : Int, w.cell? ⟨p, 0, none⟩ = some (.int .u64 v) ∧ w.frozen? ⟨p, 0, none⟩ = false
def SomeU (e : Ending) : Prop := ∃ r : Int, e = .returned (.int .u64 r)
set_option maxRecDepth 100000 in
set_option maxHeartbeats 8000000 in
theorem xor_any (p : Nat) (w : World) (h : RndAt w p) : Calls Tryz.prog 110 #[.pointer (some ⟨p, 0, none⟩)] w fun e w' => SomeU e ∧ RndAt w' p ∧ Chg [p] w w' := by
  obtain ⟨v, c0, f0⟩ := h
  go_enter Tryz.func110, Tryz.ntmps110
  go_wp2_with fail
  go_region
  all_goals
    go_wp2_with fail
    refine wp_genS (fun W => RndAt W p ∧ Chg [p] w W) ?_ ?_
    · exact ⟨⟨_, World.cell?_setCell_same _ _ _ c0, by simp [f0]⟩, ((Chg.refl _ _).setCell (.inl (by simp)) _).drewN 1⟩
    rintro W1 ⟨⟨v1, c1, f1⟩, hc1⟩
    clear c0 f0
    go_wp2_with fail
    go_region
    all_goals
      go_wp2_with fail
      refine wp_genS (fun W => RndAt W p ∧ Chg [p] w W) ?_ ?_
      · exact ⟨⟨_, World.cell?_setCell_same _ _ _ c1, by simp [f1]⟩, (hc1.setCell (.inl (by simp)) _).drewN 1⟩
      rintro W2 ⟨⟨v2, c2, f2⟩, hc2⟩
      clear c1 f1 hc1
      go_wp2_with fail
      go_region
      all_goals
        go_wp2_with fail
        go_ret
        exact ⟨⟨_, rfl⟩, ⟨_, World.cell?_setCell_same _ _ _ c2, by simp [f2]⟩, (hc2.setCell (.inl (by simp)) _).drewN 1⟩
theorem bitLen_low (l : Nat) (h : 1 ≤ l) (hl : l < 2 ^ 32) : l < 2 ^ Lib.bitLen l ∧ 2 ^ Lib.bitLen l ≤ 2 * l ∧ Lib.bitLen l ≤ 32 := by
  have h32 : Lib.bitLen l ≤ 32 := Lib.bitLen_le l 32 (by omega) hl
  have up : l < 2 ^ Lib.bitLen l := by
    have : ∀ (f x : Nat), x < 2 ^ f → x < 2 ^ (Lib.bitLenAux f x) := by
      intro f
      induction f with
      | zero => intro x hx; simpa [Lib.bitLenAux] using hx
      | succ f ih =>
        intro x hx
        rw [Lib.bitLenAux]
        split
        · rename_i h0; simp_all
        · have := ih (x / 2) (by rw [Nat.pow_succ] at hx; omega)
          rw [Nat.add_comm, Nat.pow_succ]
          omega
    exact this 64 l (Nat.lt_of_lt_of_le hl (Nat.pow_le_pow_right (by omega) (by omega)))
  refine ⟨up, ?_, h32⟩
  rcases Nat.eq_zero_or_pos (Lib.bitLen l) with h0 | h0
  · rw [h0] at up; simp at up; omega
  · rcases Nat.lt_or_ge l (2 ^ (Lib.bitLen l - 1)) with h1 | h1
    · have := Lib.bitLen_le l (Lib.bitLen l - 1) (by omega) h1
      omega
    · have : 2 ^ Lib.bitLen l = 2 * 2 ^ (Lib.bitLen l - 1) := by
        conv => lhs; rw [show Lib.bitLen l = (Lib.bitLen l - 1) + 1 by omega]
        rw [Nat.pow_succ, Nat.mul_comm]
      omega
set_option maxRecDepth 100000 in
set_option maxHeartbeats 8000000 in
theorem npot_any (l : Nat) (h : 1 ≤ l) (hl : l ≤ 1000000000) (w : World) : Calls Tryz.prog 109 #[.int .i64 (l : Nat)] w fun e w' => e = .returned (.int .u64 (2 ^ Lib.bitLen l : Nat)) ∧ w = w' := by
  have HL := Lib.hid (fun W => Tryz.bits_Len (l : Nat) W (by omega) (by omega))
  rw [show ((l : Nat) : Int).toNat = l from rfl] at HL
  obtain ⟨h1, h2, h3⟩ := bitLen_low l h (by omega)
  generalize Lib.bitLen l = k at *
  have hm : min k 64 = k := by omega
  have hw : IntKind.u64.wrap ((2 : Int) ^ k) = ((2 ^ k : Nat) : Int) := by
    rw [show ((2 : Int) ^ k) = ((2 ^ k : Nat) : Int) by simp]
    exact wrap_u64n _ (by omega)
  have hc : IntKind.u64.wrap (l : Int) = (l : Int) := wrap_u64n _ (by omega)
  go_enter Tryz.func109, Tryz.ntmps109
  go_wp2_with fail
  refine (HL.out _).mono ?_
  rintro e w1 ⟨rfl, rfl⟩
  go_wp2_with fail
  go_ret
  exact ⟨by simp, rfl⟩
set_option maxRecDepth 100000 in
set_option maxHeartbeats 16000000 in
theorem break_any (g n c a b : Nat) (xs : List Int) (w : World) (h : U32At w g n c xs) (hab : a + 12 < b) (hb : b ≤ n) (hn : n ≤ 1000000000) (hg : g < w.heap.size) :
    Calls Tryz.prog 99 #[.slice (some ⟨g, 0, none⟩) n c, .int .i64 (a : Nat), .int .i64 (b : Nat)] w fun e w' => e = .returned (.tuple #[]) ∧ Srt w g n c xs w' := by
  obtain ⟨l, hl⟩ : ∃ l, l = b - a := ⟨_, rfl⟩
  have l1 : (b : Int) - (a : Int) = (l : Int) := by omega
  have l2 : a + l ≤ b := by omega
  have l3 : b ≤ a + l := by omega
  have l4 : 12 < l := by omega
  have l5 : l ≤ 1000000000 := by omega
  clear hl
  obtain ⟨d, hd⟩ : ∃ d, d = l / 4 := ⟨_, rfl⟩
  have d1 : (l : Int) / 4 = (d : Int) := by omega
  have d2 : 4 * d ≤ l := by omega
  have d3 : l < 4 * d + 4 := by omega
  clear hd
  obtain ⟨m1, m2, m3⟩ := bitLen_low l (by omega) (by omega)
  have HN := Lib.hid (fun W => npot_any l (by omega) l5 W)
  have HAND := Lib.hid (fun y => and_lowU y (Lib.bitLen l) m3)
  obtain ⟨M, hM⟩ : ∃ M : Nat, M = 2 ^ Lib.bitLen l := ⟨_, rfl⟩
  rw [← hM] at HN HAND m1 m2
  clear m3 hM
  have hw1 : IntKind.u64.wrap ((M : Int) - 1) = (M : Int) - 1 := by
    rw [show (M : Int) - 1 = ((M - 1 : Nat) : Int) by omega]
    exact wrap_u64n _ (by omega)
  have hcl : IntKind.u64.wrap (l : Int) = (l : Int) := wrap_u64n _ (by omega)
  have e1 := wrapN ((d : Int) * 2) (by omega) (by omega)
  have e2 := wrapN ((a : Int) + (d : Int) * 2) (by omega) (by omega)
  have e3 := wrapN ((a : Int) + (d : Int) * 2 - 1) (by omega) (by omega)
  have e4 := wrapN ((a : Int) + (d : Int) * 2 + 1) (by omega) (by omega)
  have h8 : (8 : Int) ≤ (l : Int) := by omega
  obtain ⟨W, hW⟩ : ∃ W, W = w.alloc (.cells #[.int .u64 (l : Nat)] 164) := ⟨_, rfl⟩
  have hr0 : RndAt W w.heap.size := ⟨l, by rw [hW]; simp, by rw [hW]; simp⟩
  have hu0 : U32At W g n c xs := by rw [hW]; exact OwnF.alloc h _
  have hc0 : Chg [g] w W := by rw [hW]; exact (Chg.refl _ _).alloc _
  have hne : g ≠ w.heap.size := by omega
  have HU := Lib.hid (And.intro hu0 (And.intro hr0 hc0))
  have HWW := Lib.hid hW
  have HX := Lib.hid (fun W (hr : RndAt W w.heap.size) => xor_any w.heap.size W hr)
  clear h hr0 hu0 hc0
  go_enter Tryz.func99, Tryz.ntmps99
  go_wp2_with fail
  rw [← HWW.out]
  clear hW
  refine (HN.out _).mono ?_
  rintro e w1 ⟨rfl, rfl⟩
  go_wp2_with fail
  go_loopw [9] (fun vi wr => ∃ i : Nat, a + d * 2 ≤ i + 1 ∧ i ≤ a + d * 2 + 2 ∧ vi = .int .i64 (i : Nat) ∧ RndAt wr w.heap.size ∧ Srt w g n c xs wr) (fun vi _ => a + d * 2 + 2 - (intOf vi).toNat)
  case atStart => exact ⟨a + d * 2 - 1, by omega, by omega, by go_num, HU.out.2.1, xs, .refl _, HU.out.1, HU.out.2.2⟩
  case round =>
    obtain ⟨i, i1, i2, rfl, hr, ys, hp, hu, hc⟩ := hrel
    have HP := Lib.hid (And.intro hp (And.intro hu hc))
    have HXR := Lib.hid (HX.out wr hr)
    have HR := Lib.hid hr
    clear hp hc hr
    by_cases hi : i ≤ a + d * 2 + 1
    · have hii : (i : Int) ≤ (a : Int) + (d : Int) * 2 + 1 := by omega
      clear hu
      go_wp2_with fail
      refine HXR.out.mono ?_
      rintro e w2 ⟨⟨r, rfl⟩, hr2, hc2⟩
      have hand := HAND.out r
      obtain ⟨o, ho⟩ : ∃ o : Nat, r % (M : Int) = (o : Int) := ⟨(r % (M : Int)).toNat, by have := Int.emod_nonneg r (show (M : Int) ≠ 0 by omega); omega⟩
      have hoM : o < M := by have := Int.emod_lt_of_pos r (show (0 : Int) < (M : Int) by omega); omega
      rw [ho] at hand
      have hco : IntKind.i64.wrap (o : Int) = (o : Int) := IntWalk.i64_in _ ⟨by omega, by omega⟩
      have hu2 : U32At w2 g n c ys := OwnF.chg HP.out.2.1 hc2 (fun k hk => by
        have : k = g := by
          have := mem_blk.1 hk
          simp [Value.ownBlock] at this
          exact this.symm
        subst this
        simpa using hne)
      have hc02 : Chg [g] w w2 := HP.out.2.2.trans hc2 (fun x hx => .inr (by simp at hx; omega))
      have HP2 := Lib.hid (And.intro HP.out.1 (And.intro hu2 hc02))
      have HR2 := Lib.hid hr2
      clear ho hr2 hc2 hc02
      by_cases hol : l ≤ o
      · obtain ⟨o2, ho2⟩ : ∃ o2, o2 = o - l := ⟨_, rfl⟩
        have t0 : (l : Int) ≤ (o : Int) := by omega
        have t1 : (o : Int) - (l : Int) = (o2 : Int) := by omega
        have t2 : o2 < l := by omega
        clear ho2
        have s1 : (i : Int) < (n : Int) := by omega
        have s2 : (a : Int) + (o2 : Int) < (n : Int) := by omega
        have s3 : i < n := by omega
        have s4 : a + o2 < n := by omega
        have s5 : ((a : Int) + (o2 : Int)).toNat = a + o2 := by omega
        have s6 : (0 : Int) ≤ (a : Int) + (o2 : Int) := by omega
        have s7 := wrapN ((a : Int) + (o2 : Int)) (by omega) (by omega)
        obtain ⟨c0, f0⟩ := hu2.cell (k := i) (by omega)
        obtain ⟨c1, f1⟩ := hu2.cell (k := a + o2) (by omega)
        have SW := Lib.hid (hu2.swap (i := i) (j := a + o2) (by omega) (by omega))
        obtain ⟨x, hx⟩ : ∃ x, x = ys[i]?.getD 0 := ⟨_, rfl⟩
        obtain ⟨y, hy⟩ : ∃ y, y = ys[a + o2]?.getD 0 := ⟨_, rfl⟩
        rw [← hx] at c0 SW
        rw [← hy] at c1 SW
        obtain ⟨z, hz⟩ := cell?_setCell_some (w := w2) (p := ⟨g, i, none⟩) (x := .int .u32 y) (q := ⟨g, a + o2, none⟩) (v := .int .u32 y) c1
        have RN : ∀ (p q : Addr) (u v : Value), p.block = g → q.block = g → RndAt ((w2.setCell p u).setCell q v) w.heap.size := fun p q u v hp hq => by
          obtain ⟨rv, r1, r2⟩ := HR2.out
          refine ⟨rv, ?_, by simp [r2]⟩
          rw [World.cell?_setCell_other _ _ _ _ (fun e => hne (by rw [← hq, e])), World.cell?_setCell_other _ _ _ _ (fun e => hne (by rw [← hp, e]))]
          exact r1
        have HRN := Lib.hid RN
        clear hu2 hx hy RN
        go_wp2_with fail
        go_region
        all_goals
          go_wp2_with fail
          go_roundw
          case rel => exact ⟨i + 1, by omega, by omega, by go_num, HRN.out ⟨g, i, none⟩ ⟨g, a + o2, none⟩ _ _ rfl rfl, Srt.trans HP2.out.1 HP2.out.2.2 (SW.out.drewN 1)⟩
          case measure => simp [intOf] <;> omega
      · have t0 : ¬ (l : Int) ≤ (o : Int) := by omega
        have t2 : o < l := by omega
        have s1 : (i : Int) < (n : Int) := by omega
        have s2 : (a : Int) + (o : Int) < (n : Int) := by omega
        have s3 : i < n := by omega
        have s4 : a + o < n := by omega
        have s5 : ((a : Int) + (o : Int)).toNat = a + o := by omega
        have s6 : (0 : Int) ≤ (a : Int) + (o : Int) := by omega
        have s7 := wrapN ((a : Int) + (o : Int)) (by omega) (by omega)
        obtain ⟨c0, f0⟩ := hu2.cell (k := i) (by omega)
        obtain ⟨c1, f1⟩ := hu2.cell (k := a + o) (by omega)
        have SW := Lib.hid (hu2.swap (i := i) (j := a + o) (by omega) (by omega))
        obtain ⟨x, hx⟩ : ∃ x, x = ys[i]?.getD 0 := ⟨_, rfl⟩
        obtain ⟨y, hy⟩ : ∃ y, y = ys[a + o]?.getD 0 := ⟨_, rfl⟩
        rw [← hx] at c0 SW
        rw [← hy] at c1 SW
        obtain ⟨z, hz⟩ := cell?_setCell_some (w := w2) (p := ⟨g, i, none⟩) (x := .int .u32 y) (q := ⟨g, a + o, none⟩) (v := .int .u32 y) c1
        have RN : ∀ (p q : Addr) (u v : Value), p.block = g → q.block = g → RndAt ((w2.setCell p u).setCell q v) w.heap.size := fun p q u v hp hq => by
          obtain ⟨rv, r1, r2⟩ := HR2.out
          refine ⟨rv, ?_, by simp [r2]⟩
          rw [World.cell?_setCell_other _ _ _ _ (fun e => hne (by rw [← hq, e])), World.cell?_setCell_other _ _ _ _ (fun e => hne (by rw [← hp, e]))]
          exact r1
        have HRN := Lib.hid RN
        clear hu2 hx hy RN
        go_wp2_with fail
        go_region
        all_goals
          go_wp2_with fail
          go_roundw
          case rel => exact ⟨i + 1, by omega, by omega, by go_num, HRN.out ⟨g, i, none⟩ ⟨g, a + o, none⟩ _ _ rfl rfl, Srt.trans HP2.out.1 HP2.out.2.2 (SW.out.drewN 1)⟩
          case measure => simp [intOf] <;> omega
    · have hii : ¬ (i : Int) ≤ (a : Int) + (d : Int) * 2 + 1 := by omega
      clear hu
      go_wp2_with fail
      go_end0
      exact ⟨rfl, ys, HP.out.1, HP.out.2.1, HP.out.2.2⟩
end Go.Proofs.YtciokbngjfeihaaGreat
