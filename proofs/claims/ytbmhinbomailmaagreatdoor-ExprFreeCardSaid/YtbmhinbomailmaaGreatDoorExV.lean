/- Expressions: their variables, as bits. -/
import Derived.Test.YtbmhinbomailmaaGreatDoorExL
namespace Go.Proofs.YtbmhinbomailmaaGreatDoor
set_option linter.unusedSimpArgs false
set_option linter.unusedVariables false

/-- the bits of variables -/
def maskL (l : List Nat) : Nat := l.foldl (fun m v => m ||| 2 ^ v) 0
def Ex.varsN : Ex → Nat
  | .const _ => 0
  | .var n => 2 ^ n
  | .not x => x.varsN
  | .pair _ a b => a.varsN ||| b.varsN
  | .bound _ l x => x.varsN ||| maskL l
/-- a without the bits of m -/
def cutN (a m : Nat) : Nat := a ^^^ (a &&& m)
def Ex.freeN : Ex → Nat
  | .const _ => 0
  | .var n => 2 ^ n
  | .not x => x.freeN
  | .pair _ a b => a.freeN ||| b.freeN
  | .bound _ l x => cutN x.freeN (maskL l)
def Ex.Small : Ex → Prop
  | .const _ => True
  | .var n => n ≤ 15
  | .not x => x.Small
  | .pair op a b => rk op ≠ 0 ∧ a.Small ∧ b.Small
  | .bound _ l x => (∀ v ∈ l, v ≤ 15) ∧ x.Small
/-- the bits of the variables among tokens -/
def bitsT (C : List Tok) : Nat := C.foldl (fun m t => if t.kind = 118 then m ||| 2 ^ t.n else m) 0
theorem bits_go (C : List Tok) : ∀ m, C.foldl (fun m t => if t.kind = 118 then m ||| 2 ^ t.n else m) m = m ||| bitsT C := by
  unfold bitsT
  induction C with
  | nil => intro m; simp
  | cons t C ih =>
    intro m
    simp only [List.foldl_cons]
    rw [ih, ih (if t.kind = 118 then 0 ||| 2 ^ t.n else 0)]
    split
    · rw [Nat.zero_or, Nat.or_assoc]
    · rw [Nat.zero_or]
theorem bits_app (C D : List Tok) : bitsT (C ++ D) = bitsT C ||| bitsT D := by
  conv => lhs; unfold bitsT
  rw [List.foldl_append, bits_go D]
  rfl
theorem bits_cons (t : Tok) (D : List Tok) : bitsT (t :: D) = (if t.kind = 118 then 2 ^ t.n else 0) ||| bitsT D := by
  rw [show t :: D = [t] ++ D from rfl, bits_app]
  unfold bitsT
  simp
theorem mask_go (l : List Nat) : ∀ m, l.foldl (fun m v => m ||| 2 ^ v) m = m ||| maskL l := by
  unfold maskL
  induction l with
  | nil => intro m; simp
  | cons v l ih =>
    intro m
    simp only [List.foldl_cons]
    rw [ih, ih (0 ||| 2 ^ v), Nat.zero_or, Nat.or_assoc]
theorem mask_cons (v : Nat) (l : List Nat) : maskL (v :: l) = 2 ^ v ||| maskL l := by
  conv => lhs; unfold maskL
  rw [List.foldl_cons, Nat.zero_or, mask_go]
theorem mask_snoc (v : Nat) (l : List Nat) : maskL (l ++ [v]) = maskL l ||| 2 ^ v := by
  unfold maskL
  rw [List.foldl_append]
  rfl
theorem bits_vars : ∀ (vs : List Tok), (∀ y ∈ vs, y.kind = 118) → bitsT vs = maskL (vs.map (·.n))
  | [], _ => rfl
  | t :: vs, h => by
    rw [bits_cons, if_pos (h t (by simp)), List.map_cons, mask_cons, bits_vars vs fun y hy => h y (by simp [hy])]
theorem pow_lt16 {n : Nat} (h : n ≤ 15) : 2 ^ n < 65536 := by
  have : 2 ^ n ≤ 2 ^ 15 := Nat.pow_le_pow_right (by omega) h
  omega
theorem or_lt16 {a b : Nat} (h : a < 65536) (h2 : b < 65536) : a ||| b < 65536 := Nat.or_lt_two_pow (n := 16) h h2
theorem mask_lt : ∀ (l : List Nat), (∀ v ∈ l, v ≤ 15) → maskL l < 65536
  | [], _ => by decide
  | v :: l, h => by
    rw [mask_cons]
    exact or_lt16 (pow_lt16 (h v (by simp))) (mask_lt l fun y hy => h y (by simp [hy]))
theorem vars_lt : ∀ (x : Ex), x.Small → x.varsN < 65536
  | .const _, _ => by show 0 < 65536; omega
  | .var n, h => pow_lt16 h
  | .not x, h => vars_lt x h
  | .pair _ a b, h => or_lt16 (vars_lt a h.2.1) (vars_lt b h.2.2)
  | .bound _ l x, h => or_lt16 (vars_lt x h.2) (mask_lt l h.1)
theorem cut_lt {a m : Nat} (h : a < 65536) : cutN a m < 65536 := Nat.xor_lt_two_pow (n := 16) h (Nat.lt_of_le_of_lt Nat.and_le_left h)
theorem free_lt : ∀ (x : Ex), x.Small → x.freeN < 65536
  | .const _, _ => by show 0 < 65536; omega
  | .var n, h => pow_lt16 h
  | .not x, h => free_lt x h
  | .pair _ a b, h => or_lt16 (free_lt a h.2.1) (free_lt b h.2.2)
  | .bound _ l x, h => cut_lt (free_lt x h.2)
theorem rk_118 {k : Nat} (h : rk k ≠ 0) : k ≠ 118 := by rintro rfl; exact h rfl
theorem take_drop_mid {α : Type} {C : List α} {i : Nat} {t : α} (h : C[i]? = some t) : C = C.take i ++ t :: C.drop (i + 1) := by
  have hi : i < C.length := by
    rcases Nat.lt_or_ge i C.length with h' | h'
    · exact h'
    · rw [List.getElem?_eq_none h'] at h; cases h
  rw [List.getElem?_eq_getElem hi] at h
  injection h with h
  rw [← h, ← List.drop_eq_getElem_cons hi, List.take_append_drop]
/-- the variables that stand in tokens are those of the expression -/
theorem rt_vars {C x} (h : RT C x) : bitsT C = x.varsN := by
  induction h with
  | @op C i t a b hsp hi hrk _ _ ih1 ih2 =>
    conv => lhs; rw [take_drop_mid hi]
    rw [bits_app, bits_cons, if_neg (rk_118 hrk), Nat.zero_or, ih1, ih2]
    rfl
  | not _ ht _ ih => rw [bits_cons, if_neg (by omega), Nat.zero_or, ih]; rfl
  | par _ ht hu _ ih => rw [bits_cons, if_neg (by omega), Nat.zero_or, bits_app, ih, bits_cons, if_neg (by omega)]; simp [bitsT]
  | bnd _ ht hvs hu _ ih => rw [bits_cons, if_neg (by omega), Nat.zero_or, bits_app, bits_vars _ hvs, bits_cons, if_neg (by omega), Nat.zero_or, ih, Nat.or_comm]; rfl
  | var _ ht => rw [bits_cons, if_pos ht]; simp [bitsT, Ex.varsN]
  | const _ ht => rw [bits_cons, if_neg (by omega)]; simp [bitsT, Ex.varsN]
theorem rt_small {C x} (h : RT C x) : (∀ t ∈ C, t.n ≤ 15) → x.Small := by
  induction h with
  | @op C i t a b hsp hi hrk _ _ ih1 ih2 => exact fun hC => ⟨hrk, ih1 fun t ht => hC t (List.mem_of_mem_take ht), ih2 fun t ht => hC t (List.mem_of_mem_drop ht)⟩
  | not _ ht _ ih => exact fun hC => ih fun t ht => hC t (by simp [ht])
  | par _ ht hu _ ih => exact fun hC => ih fun t ht => hC t (by simp [ht])
  | bnd _ ht hvs hu _ ih =>
    exact fun hC => ⟨fun v hv => by
      obtain ⟨t, h1, rfl⟩ := List.mem_map.1 hv
      exact hC t (by simp [h1]), ih fun t ht => hC t (by simp [ht])⟩
  | var _ ht => exact fun hC => hC _ (by simp)
  | const _ ht => exact fun _ => trivial
end Go.Proofs.YtbmhinbomailmaaGreatDoor
