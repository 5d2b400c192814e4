/- Plain: texts read byte by byte. -/
import Derived.Test.YtdhfpnbpkbelmaaDoorTermP
namespace Go.Proofs.YtdhfpnbpkbelmaaDoor
set_option linter.unusedSimpArgs false
set_option linter.unusedVariables false

theorem drop_head {α : Type} (s : List α) (d : α) (i : Nat) (h : i < s.length) : s.drop i = (s[i]?.getD d) :: s.drop (i + 1) := by
  rw [List.drop_eq_getElem_cons h, List.getElem?_eq_getElem h]; rfl
theorem close_drop (s : List UInt8) (k d : Nat) (h : k < s.length) : close (s.drop k) (d + 1) = 1 + close (s.drop (k + 1)) (if s[k]?.getD 0 = 40 then d + 2 else if s[k]?.getD 0 = 41 then d else d + 1) := by
  rw [drop_head s 0 k h, close]
theorem spots_drop (s : List UInt8) (i : Nat) (h : i < s.length) : spots (s.drop i) = if s[i]?.getD 0 = 40 then ((s.drop i).take (1 + close (s.drop (i + 1)) 1)) :: spots (s.drop (i + 1)) else spots (s.drop (i + 1)) := by
  rw [drop_head s 0 i h, spots]
  by_cases h1 : s[i]?.getD 0 = 40
  · rw [if_pos h1, if_pos h1, Nat.add_comm 1, List.take_succ_cons]
  · rw [if_neg h1, if_neg h1]
theorem spots_end (s : List UInt8) (i : Nat) (h : s.length ≤ i) : spots (s.drop i) = [] := by
  rw [List.drop_eq_nil_of_le h, spots]
theorem close_end (s : List UInt8) (i d : Nat) (h : s.length ≤ i) : close (s.drop i) d = 0 := by
  rw [List.drop_eq_nil_of_le h, close]
theorem extract_list (s : List UInt8) (i k : Nat) : (⟨s.toArray⟩ : ByteArray).extract i k = ⟨((s.drop i).take (k - i)).toArray⟩ := by
  apply ByteArray.ext
  simp [ByteArray.extract, ByteArray.copySlice, List.take_drop]
/-- one step of gathering -/
def gather {α : Type} [DecidableEq α] (out : List α) (x : α) : List α := if x ∈ out then out else out ++ [x]
theorem dd_gather {α : Type} [DecidableEq α] (l : List α) : l.foldl gather [] = dd l := rfl
theorem mem_take_succ {α : Type} [DecidableEq α] (l : List α) (x d : α) (j : Nat) (h : j < l.length) : (decide (x ∈ l.take j) || decide (l[j]?.getD d = x)) = decide (x ∈ l.take (j + 1)) := by
  have e : l.take (j + 1) = l.take j ++ [l[j]] := by rw [List.take_add_one, List.getElem?_eq_getElem h]; rfl
  have e2 : l[j]?.getD d = l[j] := by rw [List.getElem?_eq_getElem h]; rfl
  rw [e, e2, Bool.eq_iff_iff, Bool.or_eq_true, decide_eq_true_eq, decide_eq_true_eq, decide_eq_true_eq, List.mem_append, List.mem_singleton]
  exact ⟨fun h => h.imp id Eq.symm, fun h => h.imp id Eq.symm⟩
theorem gather_len {α : Type} [DecidableEq α] (out : List α) (x : α) : (gather out x).length ≤ out.length + 1 := by
  unfold gather; split
  · omega
  · simp
theorem byte_at (s : List UInt8) (k : Nat) (h : k < s.length) (h' : k < (ByteArray.mk s.toArray).size) : (ByteArray.mk s.toArray)[k]'h' = s[k]?.getD 0 := by
  rw [List.getElem?_eq_getElem h]
  rfl
theorem byte_is {s : List UInt8} {k : Nat} {c : UInt8} (h : k < s.length) (h' : k < (ByteArray.mk s.toArray).size) (hc : s[k]?.getD 0 = c) : ((ByteArray.mk s.toArray)[k]'h').toNat = c.toNat := by
  rw [byte_at s k h h', hc]
theorem byte_isnt {s : List UInt8} {k : Nat} {c : UInt8} {i : Int} (h : k < s.length) (h' : k < (ByteArray.mk s.toArray).size) (hc : ¬ s[k]?.getD 0 = c) (hi : i = (c.toNat : Int)) : ((((ByteArray.mk s.toArray)[k]'h').toNat : Nat) : Int) ≠ i := by
  rw [byte_at s k h h', hi]
  intro e
  apply hc
  apply UInt8.toNat_inj.1
  omega
theorem strV_node (dg : UInt8) (x y : List UInt8) : Value.string ((⟨#[40]⟩ : ByteArray) ++ ⟨#[dg]⟩ ++ ⟨#[32]⟩ ++ ⟨x.toArray⟩ ++ ⟨#[32]⟩ ++ ⟨y.toArray⟩ ++ ⟨#[41]⟩) = strV (40 :: dg :: 32 :: (x ++ 32 :: (y ++ [41]))) := by
  unfold strV
  congr 1
  apply ByteArray.ext
  simp [ByteArray.data_append]
end Go.Proofs.YtdhfpnbpkbelmaaDoor
