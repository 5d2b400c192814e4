/- Decimal numerals: FormatUint, Itoa, the document's Num. -/
import Derived.Test.YtpjciaomhfeeeaaGreatDoorMa
import Derived.Test.YtpjciaomhfeeeaaGreatDoorShelf
import Derived.Lib.ItoaLen
import Derived.Laws.IdiomStrings
namespace Go.Proofs.YtpjciaomhfeeeaaGreatDoor
open Go.RowKit Go.Sort
set_option linter.unusedSimpArgs false
set_option linter.unusedVariables false

/-- a text -/
def txt (l : List UInt8) : Value := .string ⟨l.toArray⟩
/-- the table of powers stands -/
def Pow (w : World) : Prop := Lib.TabIs Tryz.prog w "internal/strconv.uint64pow10" .u64 Lib.pow10Tab
theorem Pow.chg {w w' : World} {B : Nat} (h : Pow w) (hb : Below B w w') (hB : w.heap.size ≤ B) : Pow w' := by
  unfold Pow Lib.TabIs World.var? at *
  cases hg : Tryz.prog.globalNamed "internal/strconv.uint64pow10" with
  | none => simp [hg] at h
  | some g =>
    simp only [hg, Option.bind_some] at h ⊢
    have hlt : g < w.heap.size := by
      rcases Nat.lt_or_ge g w.heap.size with h' | h'
      · exact h'
      · rw [Array.getElem?_eq_none h'] at h; simp at h
    rw [hb.block g (by omega)]
    exact h
theorem Pow.on {w w' : World} (h : Pow w) (hb : Below w.heap.size w w') : Pow w' := h.chg hb (Nat.le_refl _)
theorem digs_len (u : Nat) (h : u < 18446744073709551616) : (Lib.decDigits u).length ≤ 20 := by rw [Lib.decDigits_length]; exact Lib.nDigits_le20 u h
theorem below_growN (w : World) (k : Nat) (os : Array Obj) : Below w.heap.size w (grow (w.drewN k) os) :=
  ⟨rfl, rfl, rfl, by simp [grow, World.drewN], fun i hi => by simp [grow, World.drewN, Array.getElem?_append, hi]⟩
theorem itoa_nat (n : Nat) (w : World) (hn : n ≤ 9223372036854775807) (ht : Pow w) : Calls Tryz.prog 67 #[.int .i64 (n : Nat)] w fun e w' => e = .returned (txt (Lib.decDigits n)) ∧ Below w.heap.size w w' :=
  (Tryz.strconv_Itoa n (by omega) (by omega) w ht).mono fun e w' ⟨he, k, os, hw⟩ => ⟨by rw [he, Lib.itoa_nonneg]; rfl, by rw [hw]; exact below_growN w k os⟩
theorem itoa_sm (n : Nat) (w : World) (hn : n < 100) : Calls Tryz.prog 67 #[.int .i64 (n : Nat)] w fun e w' => e = .returned (txt (Lib.decDigits n)) ∧ Below w.heap.size w w' :=
  (Tryz.strconv_Itoa_small n hn w).mono fun e w' ⟨he, hw⟩ => ⟨he, by rw [hw]; exact Below.refl _ _⟩
theorem putRow_below (w : World) (o : Obj) (dk : Array UInt8) (k off : Nat) : Below w.heap.size w ((putRow (fun (b : UInt8) => Value.int .u8 (b.toNat : Int)) (w.alloc o) w.heap.size off dk).drewN k) := by
  rw [alloc_eq_grow]
  obtain ⟨os', _, e⟩ := putRow_grow_new (fun (b : UInt8) => Value.int .u8 (b.toNat : Int)) w #[o] w.heap.size off dk (Nat.le_refl _)
  rw [e]
  exact below_growN w k os'
theorem holds_zero0 (w : World) (T : TypeId) (nd : Nat) (hs : nd ≤ 24) : Holds (fun (b : UInt8) => Value.int .u8 (b.toNat : Int)) (w.alloc (.cells Lib.zeros24 T)) w.heap.size 0 (Array.replicate nd (0 : UInt8)) := fun j hj => by
  have hj' : j < nd := by simpa using hj
  refine ⟨?_, World.frozen?_alloc_new _ _ _ _⟩
  rw [World.cell?_alloc_new, Lib.zeros24_at _ (by omega), getElem!_pos _ j hj]
  simp
theorem txt_append (l m : List UInt8) : ((⟨l.toArray⟩ : ByteArray) ++ ⟨m.toArray⟩) = ⟨(l ++ m).toArray⟩ := by
  apply ByteArray.ext
  simp [ByteArray.data_append]
end Go.Proofs.YtpjciaomhfeeeaaGreatDoor
