/- Contract: expr.Holds. -/
import Derived.Test.YtbhbhfplpbcfiaaGreatDoorExU
import Derived.Test.YtbhbhfplpbcfiaaGreatDoorMi
import Derived.Lib.BitFns
namespace Go.Proofs.YtbhbhfplpbcfiaaGreatDoor
open Go.RowKit Go.Sort
set_option linter.unusedSimpArgs false
set_option linter.unusedVariables false

theorem lt_bitLenAux : ∀ (f x : Nat), x < 2 ^ f → x < 2 ^ (Lib.bitLenAux f x)
  | 0, x, h => h
  | f + 1, x, h => by
    unfold Lib.bitLenAux
    split
    · rename_i h0; rw [h0]; exact Nat.two_pow_pos _
    · have := lt_bitLenAux f (x / 2) (by rw [Nat.pow_succ] at h; omega)
      rw [Nat.add_comm, Nat.pow_succ]
      omega
theorem lt_bitLen {x : Nat} (h : x < 65536) : x < 2 ^ Lib.bitLen x := lt_bitLenAux 64 x (Nat.lt_of_lt_of_le h (by decide))
theorem bitLen_iff {x n : Nat} (h : x < 65536) : Lib.bitLen x ≤ n ↔ x < 2 ^ n := by
  constructor
  · intro h1
    exact Nat.lt_of_lt_of_le (lt_bitLen h) (Nat.pow_le_pow_right (by omega) h1)
  · intro h1
    by_cases hn : n ≤ 64
    · exact Lib.bitLen_le x n hn h1
    · exact Nat.le_trans (Lib.bitLen_le x 16 (by omega) h) (by omega)
theorem bitLen16 {x : Nat} (h : x < 65536) : Lib.bitLen x ≤ 16 := Lib.bitLen_le x 16 (by omega) h
/-- y & (1<<n - 1) of any int -/
theorem and_low (y : Int) (n : Nat) (hn : n ≤ 16) : bits .and .i64 y (((2 ^ n : Nat) : Int) - 1) = y % ((2 ^ n : Nat) : Int) := by
  have hp : 2 ^ n ≤ 65536 := Nat.pow_le_pow_right (by omega) (show n ≤ 16 from hn)
  have hp1 := Nat.two_pow_pos n
  show IntKind.i64.wrap ((BitVec.ofInt 64 y &&& BitVec.ofInt 64 (((2 ^ n : Nat) : Int) - 1)).toNat : Int) = _
  have e1 : (((2 ^ n : Nat) : Int) - 1) = ((2 ^ n - 1 : Nat) : Int) := by omega
  rw [BitVec.toNat_and, e1, ofInt_i64 _ (by omega), Nat.and_two_pow_sub_one_eq_mod, BitVec.toNat_ofInt]
  have h1 : (y % ((2 ^ 64 : Nat) : Int)).toNat % 2 ^ n = (y % ((2 ^ n : Nat) : Int)).toNat := by
    have a1 : 0 ≤ y % ((2 ^ 64 : Nat) : Int) := Int.emod_nonneg _ (by decide)
    have a2 : 0 ≤ y % ((2 ^ n : Nat) : Int) := Int.emod_nonneg _ (by omega)
    apply Int.ofNat.inj
    show (((y % ((2 ^ 64 : Nat) : Int)).toNat % 2 ^ n : Nat) : Int) = ((y % ((2 ^ n : Nat) : Int)).toNat : Int)
    rw [Int.natCast_emod, Int.toNat_of_nonneg a1, Int.toNat_of_nonneg a2]
    exact Int.emod_emod_of_dvd y (Int.natCast_dvd_natCast.2 (Nat.pow_dvd_pow 2 (by omega)))
  have h2 : (y % ((2 ^ n : Nat) : Int)).toNat < 2 ^ n := by
    have := Int.emod_lt_of_pos y (show (0 : Int) < ((2 ^ n : Nat) : Int) by omega)
    omega
  rw [h1, wrap_i64_nat _ (by omega), Int.toNat_of_nonneg (Int.emod_nonneg _ (by omega))]
theorem wrap_low (P : Nat) (h : P ≤ 65536) (h0 : 0 < P) : IntKind.i64.wrap ((P : Int) - 1) = (P : Int) - 1 := IntWalk.i64_in _ ⟨by omega, by omega⟩
theorem wrap_pow (n : Nat) (h : n < 63) : IntKind.i64.wrap ((2 : Int) ^ n) = ((2 ^ n : Nat) : Int) := by
  have h1 : (2 : Nat) ^ n < 2 ^ 63 := Nat.pow_lt_pow_right (by omega) h
  rw [show ((2 : Int) ^ n) = ((2 ^ n : Nat) : Int) by simp]
  exact wrap_i64_nat _ h1
/-- how many variables an expression's own table has -/
def Ex.own (x : Ex) : Nat := Lib.bitLen x.varsN
/-- does it hold of the assignment y? -/
def Ex.holdsI (x : Ex) (y : Int) : Bool := tat (x.tabE x.own) (y % ((2 ^ x.own : Nat) : Int)).toNat
theorem has_tab {n : Nat} {t : List Bool} (hn : n ≤ 16) (ht : t.length = 2 ^ n) {k : Int} (h0 : 0 ≤ k) (h1 : k < ((2 ^ n : Nat) : Int)) : hasB (n : Int) (packT t) k = tat t k.toNat := by
  have hok := SOk.pack hn ht
  unfold hasB
  rw [(sright_iff hok.lt).2 ⟨by omega, by simpa using hok⟩, Int.toNat_natCast, decide_eq_true ⟨h0, h1⟩, Bool.true_and, Bool.true_and, bitAt_pack]
  rfl
set_option maxRecDepth 100000 in
set_option maxHeartbeats 8000000 in
theorem exprHolds_any (g : Nat) (x : Ex) (y : Int) (w : World) (h : ExprIs w g x) (hs : x.Small) (hy : -9223372036854775808 ≤ y ∧ y ≤ 9223372036854775807) :
    Calls Tryz.prog 20 #[.pointer (some ⟨g, 0, none⟩), .int .i64 y] w fun e w' => e = .returned (.bool (x.holdsI y)) ∧ Below w.heap.size w w' := by
  have h0 := h
  obtain ⟨v, hb, he⟩ := h
  have hg := hb.lt
  have hvl := vars_lt x hs
  have hn16 := bitLen16 hvl
  have HV := Lib.hid (exprVars_any g x w h0 hs)
  have HL := Lib.hid (fun W => Tryz.bits_Len16 (x.varsN : Nat) W (by omega) (by omega))
  obtain ⟨n, hn⟩ : ∃ n, n = x.own := ⟨_, rfl⟩
  have hn1 : Lib.bitLen ((x.varsN : Nat) : Int).toNat = n := by rw [hn]; rfl
  rw [hn1] at HL
  have hnn : n ≤ 16 := by rw [hn]; exact hn16
  have hp : 2 ^ n ≤ 65536 := Nat.pow_le_pow_right (by omega) (show n ≤ 16 from hnn)
  have hp1 := Nat.two_pow_pos n
  have HT := Lib.hid (fun W (hW : Below w.heap.size w W) => table_all x v W n hnn hs (by rw [hn]; exact lt_bitLen hvl) (he.on hW))
  have HM1 := fun n W => meth_table he n W
  have HC1 := fun W => call_table x v.2 (.int .i64 (n : Nat)) W
  have HE : Hid (x.holdsI y = hasB (n : Int) (packT (x.tabE n)) (y % ((2 ^ n : Nat) : Int))) := Lib.hid (by
    rw [has_tab hnn (tabE_length n x) (Int.emod_nonneg _ (by omega)) (Int.emod_lt_of_pos y (by omega)), hn]
    rfl)
  have hand := and_low y n hnn
  have HB := Lib.hid hb
  have hm : min n 64 = n := by omega
  have hw1 : IntKind.i64.wrap ((2 : Int) ^ n) = ((2 ^ n : Nat) : Int) := wrap_pow n (by omega)
  have hw2 : IntKind.i64.wrap (((2 ^ n : Nat) : Int) - 1) = ((2 ^ n : Nat) : Int) - 1 := wrap_low _ hp hp1
  have HHS := Lib.hid (fun A l c W (ha : SetArg W n A l c (packT (x.tabE n))) => shas_any (n : Int) (y % ((2 ^ n : Nat) : Int)) A l c _ W ha)
  obtain ⟨P, hP⟩ : ∃ P : Nat, P = 2 ^ n := ⟨_, rfl⟩
  rw [← hP] at hand hw1 hw2 HE HHS hp hp1
  clear hP
  clear h0 hb he hn1 hn hs hvl hn16
  go_enter Tryz.func20, Tryz.ntmps20
  go_wp2_with fail
  refine HV.out.mono ?_
  rintro e w1 ⟨rfl, h1⟩
  have c0 : w1.cell? ⟨g, 0, none⟩ = some (ifV v) := (HB.out.onB h1).cell 0
  have H1 := Lib.hid h1
  clear h1
  go_wp2_with fail
  refine (HL.out _).mono ?_
  rintro e w2 ⟨rfl, rfl⟩
  go_wp2_with fail
  have FACTS : Hid (∀ W', Below w.heap.size w W' → W'.cell? ⟨g, 0, none⟩ = some (ifV v)) := Lib.hid (fun W' hW => (HB.out.onB hW).cell 0)
  clear c0
  go_region_held3 (fun w' => w'.cell? ⟨g, 0, none⟩ = some (ifV v)) ((refine FACTS.out _ ?_; with_reducible (first | exact HB4.out | exact HB4.out.drew | exact hb3.out | exact hb3.out.drew | exact H1.out | exact H1.out.drew))) (first
    | ((with_reducible show Calls _ (fTable x) _ _ _); refine (HT.out _ (by first | exact H1.out.drew | exact H1.out)).mono ?_; rintro e w3 ⟨A, l, c, rfl, ha, hb⟩; have HA := Lib.hid ha; have hb3 : Hid (Below w.heap.size w w3) := Lib.hid (Below.trans H1.out ((Below.trans ((Below.refl _ _).drew) hb).mono H1.out.size)); clear ha hb)
    | ((with_reducible show Calls _ 44 _ _ _); (try rw [hw1, hw2, hand]); refine (HHS.out A l c _ HA.out).mono ?_; rintro e w4 ⟨rfl, hb4⟩; have HB4 := Lib.hid (hb3.out.trans (hb4.mono hb3.out.size)); clear hb4)
    | fail)
  all_goals
    go_wp2_with fail
    go_ret
    exact ⟨by rw [HE.out]; rfl, HB4.out⟩
end Go.Proofs.YtbhbhfplpbcfiaaGreatDoor
