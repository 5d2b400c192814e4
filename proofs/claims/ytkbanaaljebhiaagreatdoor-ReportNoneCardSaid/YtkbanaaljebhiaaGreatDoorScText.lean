/- Contracts: the text of a step, the program's and the document's. -/
import Derived.Test.YtkbanaaljebhiaaGreatDoorScP
import Derived.Test.YtkbanaaljebhiaaGreatDoorMa
namespace Go.Proofs.YtkbanaaljebhiaaGreatDoor
open Go.RowKit Go.Sort
set_option linter.unusedSimpArgs false
set_option linter.unusedVariables false

theorem kind_cell (W : World) (T : TypeId) (i : Nat) (hi : i < 30) : (W.alloc (.cells (kindL.map fun l => Value.string ⟨l.toArray⟩).toArray T)).cell? ⟨W.heap.size, i, none⟩ = some (txt (nameOf (i : Nat))) := by
  rw [World.cell?_alloc_new]
  have h : i < kindL.length := by rw [kind_len]; exact hi
  unfold nameOf txt
  simp [h]
theorem kind_lits : (kindL.map fun l => Value.string ⟨l.toArray⟩).toArray = #[Value.string { data := #[99, 111, 110, 115, 116] }, Value.string { data := #[118, 97, 114] }, Value.string { data := #[99, 117, 98, 101] }, Value.string { data := #[111, 102] }, Value.string { data := #[101, 120, 112, 114] }, Value.string { data := #[99, 111, 112, 121] }, Value.string { data := #[99, 111, 110, 118, 101, 114, 116] }, Value.string { data := #[110, 111, 116] }, Value.string { data := #[97, 112, 112, 108, 121] }, Value.string { data := #[105, 116, 101] }, Value.string { data := #[119, 105, 116, 104] }, Value.string { data := #[99, 111, 109, 112, 111, 115, 101] }, Value.string { data := #[101, 120, 105, 115, 116, 115] }, Value.string { data := #[102, 111, 114, 97, 108, 108] }, Value.string { data := #[97, 110, 100, 101, 120, 105, 115, 116, 115] }, Value.string { data := #[99, 104, 97, 110, 103, 101] }, Value.string { data := #[102, 97, 109, 105, 108, 121] }, Value.string { data := #[100, 114, 111, 112] }, Value.string { data := #[115, 119, 97, 112] }, Value.string { data := #[112, 101, 114, 109, 117, 116, 101] }, Value.string { data := #[115, 105, 102, 116] }, Value.string { data := #[99, 111, 108, 108, 101, 99, 116] }, Value.string { data := #[102, 111, 114, 109] }, Value.string { data := #[99, 111, 117, 110, 116] }, Value.string { data := #[115, 105, 122, 101] }, Value.string { data := #[115, 117, 112, 112, 111, 114, 116] }, Value.string { data := #[104, 111, 108, 100, 115] }, Value.string { data := #[115, 97, 109, 101] }, Value.string { data := #[101, 113, 117, 97, 108] }, Value.string { data := #[114, 101, 110, 101, 119] }] := by kernel_rfl
theorem kind_get (i : Nat) (hi : i < 30) (h : i < ([Value.string { data := #[99, 111, 110, 115, 116] }, Value.string { data := #[118, 97, 114] }, Value.string { data := #[99, 117, 98, 101] }, Value.string { data := #[111, 102] }, Value.string { data := #[101, 120, 112, 114] }, Value.string { data := #[99, 111, 112, 121] }, Value.string { data := #[99, 111, 110, 118, 101, 114, 116] }, Value.string { data := #[110, 111, 116] }, Value.string { data := #[97, 112, 112, 108, 121] }, Value.string { data := #[105, 116, 101] }, Value.string { data := #[119, 105, 116, 104] }, Value.string { data := #[99, 111, 109, 112, 111, 115, 101] }, Value.string { data := #[101, 120, 105, 115, 116, 115] }, Value.string { data := #[102, 111, 114, 97, 108, 108] }, Value.string { data := #[97, 110, 100, 101, 120, 105, 115, 116, 115] }, Value.string { data := #[99, 104, 97, 110, 103, 101] }, Value.string { data := #[102, 97, 109, 105, 108, 121] }, Value.string { data := #[100, 114, 111, 112] }, Value.string { data := #[115, 119, 97, 112] }, Value.string { data := #[112, 101, 114, 109, 117, 116, 101] }, Value.string { data := #[115, 105, 102, 116] }, Value.string { data := #[99, 111, 108, 108, 101, 99, 116] }, Value.string { data := #[102, 111, 114, 109] }, Value.string { data := #[99, 111, 117, 110, 116] }, Value.string { data := #[115, 105, 122, 101] }, Value.string { data := #[115, 117, 112, 112, 111, 114, 116] }, Value.string { data := #[104, 111, 108, 100, 115] }, Value.string { data := #[115, 97, 109, 101] }, Value.string { data := #[101, 113, 117, 97, 108] }, Value.string { data := #[114, 101, 110, 101, 119] }] : List Value).length) : ([Value.string { data := #[99, 111, 110, 115, 116] }, Value.string { data := #[118, 97, 114] }, Value.string { data := #[99, 117, 98, 101] }, Value.string { data := #[111, 102] }, Value.string { data := #[101, 120, 112, 114] }, Value.string { data := #[99, 111, 112, 121] }, Value.string { data := #[99, 111, 110, 118, 101, 114, 116] }, Value.string { data := #[110, 111, 116] }, Value.string { data := #[97, 112, 112, 108, 121] }, Value.string { data := #[105, 116, 101] }, Value.string { data := #[119, 105, 116, 104] }, Value.string { data := #[99, 111, 109, 112, 111, 115, 101] }, Value.string { data := #[101, 120, 105, 115, 116, 115] }, Value.string { data := #[102, 111, 114, 97, 108, 108] }, Value.string { data := #[97, 110, 100, 101, 120, 105, 115, 116, 115] }, Value.string { data := #[99, 104, 97, 110, 103, 101] }, Value.string { data := #[102, 97, 109, 105, 108, 121] }, Value.string { data := #[100, 114, 111, 112] }, Value.string { data := #[115, 119, 97, 112] }, Value.string { data := #[112, 101, 114, 109, 117, 116, 101] }, Value.string { data := #[115, 105, 102, 116] }, Value.string { data := #[99, 111, 108, 108, 101, 99, 116] }, Value.string { data := #[102, 111, 114, 109] }, Value.string { data := #[99, 111, 117, 110, 116] }, Value.string { data := #[115, 105, 122, 101] }, Value.string { data := #[115, 117, 112, 112, 111, 114, 116] }, Value.string { data := #[104, 111, 108, 100, 115] }, Value.string { data := #[115, 97, 109, 101] }, Value.string { data := #[101, 113, 117, 97, 108] }, Value.string { data := #[114, 101, 110, 101, 119] }] : List Value)[i]'h = txt (nameOf (i : Nat)) := by
  have e : kindL.map (fun l => Value.string ⟨l.toArray⟩) = [Value.string { data := #[99, 111, 110, 115, 116] }, Value.string { data := #[118, 97, 114] }, Value.string { data := #[99, 117, 98, 101] }, Value.string { data := #[111, 102] }, Value.string { data := #[101, 120, 112, 114] }, Value.string { data := #[99, 111, 112, 121] }, Value.string { data := #[99, 111, 110, 118, 101, 114, 116] }, Value.string { data := #[110, 111, 116] }, Value.string { data := #[97, 112, 112, 108, 121] }, Value.string { data := #[105, 116, 101] }, Value.string { data := #[119, 105, 116, 104] }, Value.string { data := #[99, 111, 109, 112, 111, 115, 101] }, Value.string { data := #[101, 120, 105, 115, 116, 115] }, Value.string { data := #[102, 111, 114, 97, 108, 108] }, Value.string { data := #[97, 110, 100, 101, 120, 105, 115, 116, 115] }, Value.string { data := #[99, 104, 97, 110, 103, 101] }, Value.string { data := #[102, 97, 109, 105, 108, 121] }, Value.string { data := #[100, 114, 111, 112] }, Value.string { data := #[115, 119, 97, 112] }, Value.string { data := #[112, 101, 114, 109, 117, 116, 101] }, Value.string { data := #[115, 105, 102, 116] }, Value.string { data := #[99, 111, 108, 108, 101, 99, 116] }, Value.string { data := #[102, 111, 114, 109] }, Value.string { data := #[99, 111, 117, 110, 116] }, Value.string { data := #[115, 105, 122, 101] }, Value.string { data := #[115, 117, 112, 112, 111, 114, 116] }, Value.string { data := #[104, 111, 108, 100, 115] }, Value.string { data := #[115, 97, 109, 101] }, Value.string { data := #[101, 113, 117, 97, 108] }, Value.string { data := #[114, 101, 110, 101, 119] }] := by kernel_rfl
  have h2 : ([Value.string { data := #[99, 111, 110, 115, 116] }, Value.string { data := #[118, 97, 114] }, Value.string { data := #[99, 117, 98, 101] }, Value.string { data := #[111, 102] }, Value.string { data := #[101, 120, 112, 114] }, Value.string { data := #[99, 111, 112, 121] }, Value.string { data := #[99, 111, 110, 118, 101, 114, 116] }, Value.string { data := #[110, 111, 116] }, Value.string { data := #[97, 112, 112, 108, 121] }, Value.string { data := #[105, 116, 101] }, Value.string { data := #[119, 105, 116, 104] }, Value.string { data := #[99, 111, 109, 112, 111, 115, 101] }, Value.string { data := #[101, 120, 105, 115, 116, 115] }, Value.string { data := #[102, 111, 114, 97, 108, 108] }, Value.string { data := #[97, 110, 100, 101, 120, 105, 115, 116, 115] }, Value.string { data := #[99, 104, 97, 110, 103, 101] }, Value.string { data := #[102, 97, 109, 105, 108, 121] }, Value.string { data := #[100, 114, 111, 112] }, Value.string { data := #[115, 119, 97, 112] }, Value.string { data := #[112, 101, 114, 109, 117, 116, 101] }, Value.string { data := #[115, 105, 102, 116] }, Value.string { data := #[99, 111, 108, 108, 101, 99, 116] }, Value.string { data := #[102, 111, 114, 109] }, Value.string { data := #[99, 111, 117, 110, 116] }, Value.string { data := #[115, 105, 122, 101] }, Value.string { data := #[115, 117, 112, 112, 111, 114, 116] }, Value.string { data := #[104, 111, 108, 100, 115] }, Value.string { data := #[115, 97, 109, 101] }, Value.string { data := #[101, 113, 117, 97, 108] }, Value.string { data := #[114, 101, 110, 101, 119] }] : List Value)[i]? = some (txt (nameOf (i : Nat))) := by
    rw [← e]
    have h : i < kindL.length := by rw [kind_len]; exact hi
    unfold nameOf txt
    simp [h]
  rw [List.getElem?_eq_getElem h] at h2
  exact Option.some.inj h2
theorem name_len (i : Int) : (nameOf i).length ≤ 9 := by
  unfold nameOf
  rcases Nat.lt_or_ge i.toNat kindL.length with h | h
  · rw [List.getElem?_eq_getElem h, Option.getD_some]
    have h9 : ∀ l ∈ kindL, l.length ≤ 9 := by decide +kernel
    exact h9 _ (List.getElem_mem h)
  · rw [List.getElem?_eq_none h]
    decide
theorem name_none (i : Int) (h : 30 ≤ i) : nameOf i = [110, 111, 110, 101] := by
  unfold nameOf
  rw [List.getElem?_eq_none (by rw [kind_len]; omega)]
  rfl
theorem nine_wf (s : Stp) (h : s.Wf) : ∀ n ∈ s.nums, (Lit.int .i64 n).wf = true := by
  obtain ⟨h1, h2, h3, h4, h5, h6, h7⟩ := h
  intro n hn
  have sm : ∀ x : Int, 0 ≤ x ∧ x ≤ 65535 → (Lit.int .i64 x).wf = true := fun x hx => by
    simp [Lit.wf, IntKind.min, IntKind.max, IntKind.signed, IntKind.bits]
    omega
  simp only [Stp.nums, List.mem_cons, List.not_mem_nil, or_false] at hn
  rcases hn with rfl | rfl | rfl | rfl | rfl | rfl | rfl
  · exact sm _ ⟨h2.1, by omega⟩
  · exact h3
  · exact h4
  · exact h5
  · exact h6
  · exact sm _ h7
  · split <;> exact sm _ (by omega)
theorem rtext_bytes (n a b c d e f : List UInt8) (g : List UInt8) :
    ((⟨n.toArray⟩ : ByteArray) ++ ⟨#[32]⟩ ++ ⟨a.toArray⟩ ++ ⟨#[32]⟩ ++ ⟨b.toArray⟩ ++ ⟨#[32]⟩ ++ ⟨c.toArray⟩ ++ ⟨#[32]⟩ ++ ⟨d.toArray⟩ ++ ⟨#[32]⟩ ++ ⟨e.toArray⟩ ++ ⟨#[32]⟩ ++ ⟨f.toArray⟩ ++ ⟨g.toArray⟩) = ⟨(n ++ 32 :: (a ++ 32 :: (b ++ 32 :: (c ++ 32 :: (d ++ 32 :: (e ++ 32 :: (f ++ g))))))).toArray⟩ := by
  apply ByteArray.ext
  simp [ByteArray.data_append]
theorem text_eq (k f a b c v kk : Int) (one : Bool) : (⟨k, f, a, b, c, v, kk, one⟩ : Stp).text = nameOf k ++ 32 :: (Lib.itoa f ++ 32 :: (Lib.itoa a ++ 32 :: (Lib.itoa b ++ 32 :: (Lib.itoa c ++ 32 :: (Lib.itoa v ++ 32 :: (Lib.itoa kk ++ (if one then [32, 49] else [32, 48]))))))) := by
  have h1 : Lib.itoa 1 = [49] := by decide +kernel
  have h0 : Lib.itoa 0 = [48] := by decide +kernel
  cases one <;> simp [Stp.text, Stp.nums, tailOf, h0, h1]
end Go.Proofs.YtkbanaaljebhiaaGreatDoor
