/- perm.Of: the permutation of a rank. -/
import Derived.Test.YtfnhknbofllhcaaPermC
import Derived.Test.YtfnhknbofllhcaaDel
namespace Go.Proofs.Ytfnhknbofllhcaa
open Go.RowKit
set_option linter.unusedSimpArgs false
set_option linter.unusedVariables false

/-- the numbers of left in the order of a rank -/
def unrank : Nat → List Int → Nat → List Int
  | 0, _, _ => []
  | k + 1, left, r => left[r / fact k]?.getD 0 :: unrank k (left.eraseIdx (r / fact k)) (r % fact k)
theorem unrank_length : ∀ k left r, (unrank k left r).length = k
  | 0, _, _ => rfl
  | k + 1, left, r => by unfold unrank; rw [List.length_cons, unrank_length]

theorem OwnF.of_grown {α : Type} {f : α → Value} {E : TypeId} {w w' : World} {base : Nat} {v : Value} {xs : List α} {g : Nat} (h : OwnF f E w base v xs) (hg : w.grownBy w' (some g)) (hlt : g < base) : OwnF f E w' base v xs :=
  h.kept hg (by
    by_cases hv : v.ownBlock = none
    · exact .inl hv
    · right
      intro e
      have := (h.lt g e).1
      omega)

set_option maxHeartbeats 1000000 in
theorem of_any (n rank : Int) (w : World) (h0 : 0 ≤ n) (hn : n ≤ 16) (hr0 : 0 ≤ rank) (hr : rank < (fact n.toNat : Nat)) :
    Calls Try.prog 17 #[.int .i64 n, .int .i64 rank] w fun e w' => ∃ v, e = .returned (.tuple #[v, .bool true]) ∧ OwnI w' w.heap.size v (unrank n.toNat (iota n.toNat) rank.toNat) ∧ Below w.heap.size w w' := by
  obtain ⟨m, rfl⟩ := Int.eq_ofNat_of_zero_le h0
  obtain ⟨r0, rfl⟩ := Int.eq_ofNat_of_zero_le hr0
  rw [Int.toNat_natCast] at *
  rw [Int.toNat_natCast]
  have hm : m ≤ 16 := by omega
  have hrr : r0 < fact m := by omega
  clear h0 hn hr0
  obtain ⟨i0, hi, hz0, hz1, hz2⟩ := info_parts info_int
  go_enter Try.func17, Try.ntmps17
  go_wp2_with fail
  refine (permSame_any (m : Int) _ (by omega) (by omega)).mono ?_
  rintro e w1 ⟨rfl, hown1, hb1, hs1⟩
  rw [Int.toNat_natCast] at hown1 ⊢
  go_wp2_with fail
  refine (factorial_any (m : Int) _ (by omega) (by omega)).mono ?_
  rintro e w1' ⟨rfl, rfl⟩
  rw [Int.toNat_natCast]
  go_wp2_with (at_make; refine wp_make0 (f := Value.int .i64) Try.underlying22 hi hz0 hz1 hz2 _ rfl _ _ rfl (m : Int) m rfl rfl rfl (by omega) (by unfold maxLen; omega) ?_; intro w2 hown2 hb2 hs2)
  have HR := Lib.hid hr
  clear hr
  go_loopw [1, 6, 8, 9] (fun rk left p k wr => ∃ (j r : Nat) (q : Int) (ls pre : List Int), rk = .int .i64 r ∧ k = .int .i64 q ∧ q = (j : Int) - 1 ∧ j ≤ m ∧ r < fact j ∧ left = .slice (some ⟨w.heap.size, 0, none⟩) j m ∧
      OwnI wr w.heap.size (.slice (some ⟨w.heap.size, 0, none⟩) j m) ls ∧ ls.length = j ∧ OwnI wr w1.heap.size p pre ∧ pre.length ≤ m - j ∧ pre ++ unrank j ls r = unrank m (iota m) r0 ∧ Below w.heap.size w wr ∧ w1.heap.size ≤ wr.heap.size) (fun _ _ _ k _ => (intOf k + 1).toNat)
  case atStart => exact ⟨m, r0, (m : Int) - 1, iota m, [], rfl, rfl, rfl, Nat.le_refl _, hrr, rfl, (hown1.belowB hb2 (fun k hk => by simp [Value.ownBlock] at hk; omega)), iota_length m, hown2, by simp, rfl, hb1.trans (hb2.mono (by omega)), by omega⟩
  case round =>
    obtain ⟨j, r, q, ls, pre, rfl, rfl, hq, hj, hrj, rfl, hownL, hlen, hownP, hpl, hun, hb, hsz⟩ := hrel
    have HU := Lib.hid hun
    have HL := Lib.hid hlen
    clear hun hlen
    rcases Nat.eq_zero_or_pos j with h0 | h0
    · have hq0 : q < 0 := by omega
      have HJ := Lib.hid h0
      clear h0 hq
      go_wp2_with fail
      go_ret2
      refine ⟨_, rfl, ?_, hb⟩
      have := HU.out
      rw [HJ.out] at this
      simp only [unrank, List.append_nil] at this
      rw [← this]
      exact OwnF.mono hownP (by omega)
    · obtain ⟨k, rfl⟩ : ∃ k, j = k + 1 := ⟨j - 1, by omega⟩
      obtain rfl : q = (k : Int) := by omega
      clear hq h0
      go_wp2_with fail
      refine (factorial_any (k : Int) _ (by omega) (by omega)).mono ?_
      rintro e wr' ⟨rfl, rfl⟩
      rw [Int.toNat_natCast]
      have hF1 := fact_pos k
      have hF2 := fact_le16 (n := k) (by omega)
      have hFs : r < (k + 1) * fact k := hrj
      have hdiv : r / fact k < k + 1 := (Nat.div_lt_iff_lt_mul (by omega)).2 hFs
      have hmod : r % fact k < fact k := Nat.mod_lt _ (by omega)
      have hr16 : r < 20922789888000 := Nat.lt_of_lt_of_le hrj (fact_le16 (by omega))
      have HUE : Hid (ls[r / fact k]?.getD 0 :: unrank k (ls.eraseIdx (r / fact k)) (r % fact k) = unrank (k + 1) ls r) := Lib.hid rfl
      clear hrj hFs
      generalize hFk : fact k = F at *
      have HF := Lib.hid hFk
      clear hFk
      have hdI : (r : Int) / (F : Int) = ((r / F : Nat) : Int) := by simp
      have hmI : (r : Int) % (F : Int) = ((r % F : Nat) : Int) := by simp
      have hd0 : 0 ≤ (r : Int) / (F : Int) := by rw [hdI]; exact Int.natCast_nonneg _
      have hd1 : (r : Int) / (F : Int) < ((k + 1 : Nat) : Int) := by rw [hdI]; exact Int.ofNat_lt.2 hdiv
      have hd2 : ((r : Int) / (F : Int)).toNat = r / F := by rw [hdI, Int.toNat_natCast]
      have HMI := Lib.hid hmI
      have hF0 : (1 : Int) ≤ (F : Int) := by omega
      clear hdI hmI
      have hcell := (OwnF.at_ hownL (r / F) (by rw [HL.out]; exact hdiv)).1
      rw [List.getElem?_eq_getElem (by rw [HL.out]; exact hdiv)] at hcell
      have HG : Hid (ls[r / F]?.getD 0 = ls[r / F]'(by rw [HL.out]; exact hdiv)) := by
        show _ = _
        rw [List.getElem?_eq_getElem]; rfl
      generalize hx : ls[r / F]'(by rw [HL.out]; exact hdiv) = x at *
      clear hx
      go_wp2_with (at_builtin; go_loud (refine wp_app1 (f := Value.int .i64) Try.underlying22 hi hz0 hz1 hz2 rfl (by omega) wr rfl _ _ rfl w1.heap.size _ pre x 1 rfl hownP hsz (by omega) rfl rfl (by first | rfl | simp [World.setCell]) ?_); intro v3 w3 hown3 hb3 hs3 hg3 hv3)
      have hownL3 := hownL.belowB hb3 (fun k hk => by simp [Value.ownBlock] at hk; omega)
      refine (delete_any w.heap.size (k + 1) m ((r : Int) / (F : Int)) w.heap.size ls _ (by omega) hd0 hd1 hownL3).mono ?_
      rintro e w4 ⟨rfl, hownL4, hg4, hs4⟩
      have hownP4 : OwnI w4 w1.heap.size v3 (pre ++ [x]) := OwnF.of_grown hown3 hg4 hs1
      have hb4 : Below w.heap.size w w4 := (hb.trans (hb3.mono (by omega))).grown hg4 (by omega) (by intro k hk; injection hk; omega)
      have hsz4 : w1.heap.size ≤ w4.heap.size := by omega
      rw [hd2] at hownL4
      clear hownL hownL3 hownP hown3 hg4 hb3 hs3 hg3 hs4
      simp only [Nat.add_sub_cancel] at hownL4 ⊢
      go_wp2_with fail
      go_roundw
      case rel => exact ⟨k, r % F, (k : Int) - 1, ls.eraseIdx (r / F), pre ++ [x], by rw [HMI.out], by go_num, rfl, by omega, by rw [HF.out]; exact hmod, rfl, hownL4, by rw [List.length_eraseIdx, if_pos (by rw [HL.out]; exact hdiv), HL.out]; rfl, hownP4, by rw [List.length_append]; simp; omega, by rw [List.append_assoc, ← HU.out, ← HUE.out, HG.out]; rfl, hb4, hsz4⟩
      case measure => simp [intOf]
end Go.Proofs.Ytfnhknbofllhcaa
