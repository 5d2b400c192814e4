/- Plain: the texts of diagrams: how a term is written, what its parts are. -/
import Derived.Test.YtdhfpnbpkbelmaaDoorDia
namespace Go.Proofs.YtdhfpnbpkbelmaaDoor
set_option linter.unusedSimpArgs false
set_option linter.unusedVariables false

/-- a term's text (its levels are single digits) -/
def render : Tm → List UInt8
  | .leaf b => [if b then 49 else 48]
  | .node l a b => 40 :: UInt8.ofNat (48 + l) :: 32 :: (render a ++ 32 :: (render b ++ [41]))
/-- all levels are single digits -/
def low : Tm → Prop
  | .leaf _ => True
  | .node l a b => l < 10 ∧ low a ∧ low b
/-- how deep a term is -/
def deep : Tm → Nat
  | .leaf _ => 0
  | .node _ a b => 1 + max (deep a) (deep b)
theorem digit_nat {i : Nat} (hi : i < 10) : (UInt8.ofNat (48 + i)).toNat = 48 + i := by
  rw [UInt8.toNat_ofNat']; omega
theorem digit_inj {i j : Nat} (hi : i < 10) (hj : j < 10) (h : UInt8.ofNat (48 + i) = UInt8.ofNat (48 + j)) : i = j := by
  have := congrArg UInt8.toNat h
  rw [digit_nat hi, digit_nat hj] at this
  omega
theorem digit_ne {i : Nat} (hi : i < 10) : UInt8.ofNat (48 + i) ≠ 40 ∧ UInt8.ofNat (48 + i) ≠ 41 := by
  constructor <;> (intro h; have := congrArg UInt8.toNat h; rw [digit_nat hi] at this; simp at this; omega)
theorem render_inj : ∀ (T U : Tm) (s s' : List UInt8), low T → low U → render T ++ s = render U ++ s' → T = U ∧ s = s'
  | .leaf b, .leaf c, s, s', _, _, h => by
    simp only [render, List.cons_append, List.nil_append] at h
    injection h with h1 h2
    refine ⟨?_, h2⟩
    cases b <;> cases c <;> simp at h1 ⊢
  | .leaf b, .node l x y, s, s', _, _, h => by
    simp only [render, List.cons_append, List.nil_append] at h
    injection h with h1 h2
    cases b <;> simp at h1
  | .node l x y, .leaf b, s, s', _, _, h => by
    simp only [render, List.cons_append, List.nil_append] at h
    injection h with h1 h2
    cases b <;> simp at h1
  | .node l x y, .node l' x' y', s, s', h1, h2, h => by
    simp only [render, List.cons_append, List.append_assoc, List.nil_append] at h
    injection h with _ h
    injection h with e1 h
    injection h with _ h
    obtain ⟨e2, h3⟩ := render_inj x x' _ _ h1.2.1 h2.2.1 h
    injection h3 with _ h3
    obtain ⟨e4, h5⟩ := render_inj y y' _ _ h1.2.2 h2.2.2 h3
    injection h5 with _ h5
    exact ⟨by rw [digit_inj h1.1 h2.1 e1, e2, e4], h5⟩
theorem render_inj0 {T U : Tm} (h1 : low T) (h2 : low U) (h : render T = render U) : T = U :=
  (render_inj T U [] [] h1 h2 (by rw [h])).1

/-- how many bytes there are up to where so many brackets are shut -/
def close : List UInt8 → Nat → Nat
  | [], _ => 0
  | _ :: _, 0 => 0
  | c :: r, d + 1 => 1 + close r (if c = 40 then d + 2 else if c = 41 then d else d + 1)
theorem close_zero (s : List UInt8) : close s 0 = 0 := by cases s <;> rfl
theorem close_le : ∀ (s : List UInt8) (d : Nat), close s d ≤ s.length
  | [], _ => Nat.zero_le _
  | c :: r, 0 => Nat.zero_le _
  | c :: r, d + 1 => by
    rw [close, List.length_cons]
    have := close_le r (if c = 40 then d + 2 else if c = 41 then d else d + 1)
    omega
theorem close_plain {c : UInt8} (r : List UInt8) (d : Nat) (h : c ≠ 40 ∧ c ≠ 41) : close (c :: r) (d + 1) = 1 + close r (d + 1) := by
  rw [close, if_neg h.1, if_neg h.2]
theorem close_render : ∀ (T : Tm) (s : List UInt8) (d : Nat), low T → close (render T ++ s) (d + 1) = (render T).length + close s (d + 1)
  | .leaf b, s, d, _ => by
    simp only [render, List.cons_append, List.nil_append, List.length_cons, List.length_nil]
    rw [close_plain _ _ (by cases b <;> decide)]
  | .node l x y, s, d, h => by
    simp only [render, List.cons_append, List.append_assoc, List.nil_append, List.length_cons, List.length_append, List.length_nil]
    rw [close, if_pos rfl, close_plain _ _ (digit_ne h.1), close_plain _ _ (by decide), close_render x _ _ h.2.1, close_plain _ _ (by decide), close_render y _ _ h.2.2, close]
    simp only [show ¬ (41 : UInt8) = 40 from by decide, if_false, if_true]
    omega
/-- the texts that begin at some bracket -/
def spots : List UInt8 → List (List UInt8)
  | [] => []
  | c :: r => if c = 40 then (c :: r.take (close r 1)) :: spots r else spots r
theorem spots_plain {c : UInt8} (r : List UInt8) (h : c ≠ 40) : spots (c :: r) = spots r := by rw [spots, if_neg h]
theorem spots_render : ∀ (T : Tm) (s : List UInt8), low T → spots (render T ++ s) = (subs T).map render ++ spots s
  | .leaf b, s, _ => by
    simp only [render, List.cons_append, List.nil_append, subs, List.map_nil]
    rw [spots_plain _ (by cases b <;> decide)]
  | .node l x y, s, h => by
    have hb : ∀ s' : List UInt8, render (.node l x y) ++ s' = 40 :: ((UInt8.ofNat (48 + l) :: 32 :: (render x ++ 32 :: (render y ++ [41]))) ++ s') := fun s' => by simp [render]
    have hc : close ((UInt8.ofNat (48 + l) :: 32 :: (render x ++ 32 :: (render y ++ [41]))) ++ s) 1 = (UInt8.ofNat (48 + l) :: 32 :: (render x ++ 32 :: (render y ++ [41]))).length := by
      simp only [List.cons_append, List.append_assoc, List.nil_append, List.length_cons, List.length_append, List.length_nil]
      rw [close_plain _ 0 (digit_ne h.1), close_plain _ 0 (by decide), close_render x _ 0 h.2.1, close_plain _ 0 (by decide), close_render y _ 0 h.2.2, close]
      simp only [show ¬ (41 : UInt8) = 40 from by decide, if_false, if_true, close_zero]
      omega
    rw [hb, spots, if_pos rfl, hc, List.take_left']
    · simp only [subs, List.map_cons, List.map_append, List.cons_append, List.append_assoc, List.nil_append]
      rw [spots_plain _ (digit_ne h.1).1, spots_plain _ (by decide), spots_render x _ h.2.1, spots_plain _ (by decide), spots_render y _ h.2.2, spots_plain _ (by decide)]
      simp [render]
    · rfl

section
variable {α β : Type} [DecidableEq α] [DecidableEq β]
theorem foldl_map_inj {f : α → β} {P : α → Prop} (hf : ∀ x y, P x → P y → f x = f y → x = y) : ∀ (l out : List α), (∀ x ∈ l, P x) → (∀ x ∈ out, P x) →
    (l.map f).foldl (fun out x => if x ∈ out then out else out ++ [x]) (out.map f) = (l.foldl (fun out x => if x ∈ out then out else out ++ [x]) out).map f
  | [], _, _, _ => rfl
  | y :: r, out, hl, ho => by
    have hy := hl y (List.mem_cons_self ..)
    have hm : f y ∈ out.map f ↔ y ∈ out := by
      rw [List.mem_map]
      constructor
      · rintro ⟨x, hx, e⟩
        rw [← hf x y (ho x hx) hy e]
        exact hx
      · intro h
        exact ⟨y, h, rfl⟩
    rw [List.map_cons, List.foldl_cons, List.foldl_cons]
    by_cases h : y ∈ out
    · rw [if_pos h, if_pos (hm.2 h)]
      exact foldl_map_inj hf r out (fun x hx => hl x (List.mem_cons_of_mem _ hx)) ho
    · rw [if_neg h, if_neg (fun h' => h (hm.1 h'))]
      have := foldl_map_inj hf r (out ++ [y]) (fun x hx => hl x (List.mem_cons_of_mem _ hx)) (fun x hx => by
        rcases List.mem_append.1 hx with hx | hx
        · exact ho x hx
        · simp at hx; subst hx; exact hy)
      rw [List.map_append] at this
      exact this
theorem dd_map {f : α → β} {P : α → Prop} (hf : ∀ x y, P x → P y → f x = f y → x = y) (l : List α) (h : ∀ x ∈ l, P x) : dd (l.map f) = (dd l).map f :=
  foldl_map_inj hf l [] h (by simp)
end
theorem low_subs : ∀ (T : Tm), low T → ∀ U ∈ subs T, low U
  | .leaf _, _, U, h => by simp [subs] at h
  | .node l x y, hT, U, h => by
    simp only [subs, List.mem_cons, List.mem_append] at h
    rcases h with rfl | h | h
    · exact hT
    · exact low_subs x hT.2.1 U h
    · exact low_subs y hT.2.2 U h
/-- how many different parts a term's text has -/
theorem parts_count (T : Tm) (h : low T) : (dd (spots (render T))).length = (dd (subs T)).length := by
  have := spots_render T [] h
  rw [List.append_nil, spots, List.append_nil] at this
  rw [this, dd_map (P := low) (fun x y hx hy e => render_inj0 hx hy e) _ (low_subs T h), List.length_map]
theorem low_tmOf (z : Bool) : ∀ (k : Nat) (t : List Bool) (l : Nat), l + k ≤ 10 → low (tmOf z k t l)
  | 0, t, l, _ => trivial
  | k + 1, t, l, h => by
    rw [tmOf]
    split
    · exact low_tmOf z k _ (l + 1) (by omega)
    · exact ⟨by omega, low_tmOf z k _ (l + 1) (by omega), low_tmOf z k _ (l + 1) (by omega)⟩
theorem deep_tmOf (z : Bool) : ∀ (k : Nat) (t : List Bool) (l : Nat), deep (tmOf z k t l) ≤ k
  | 0, t, l => Nat.le_refl _
  | k + 1, t, l => by
    rw [tmOf]
    split
    · have := deep_tmOf z k (t.take (2 ^ k)) (l + 1); omega
    · have h1 := deep_tmOf z k (t.take (2 ^ k)) (l + 1)
      have h2 := deep_tmOf z k (t.drop (2 ^ k)) (l + 1)
      unfold deep
      omega
theorem render_len : ∀ (T : Tm), (render T).length + 5 ≤ 6 * 2 ^ deep T
  | .leaf b => by simp [render, deep]
  | .node l x y => by
    have h1 := render_len x
    have h2 := render_len y
    have e1 : 2 ^ deep x ≤ 2 ^ max (deep x) (deep y) := Nat.pow_le_pow_right (by omega) (by omega)
    have e2 : 2 ^ deep y ≤ 2 ^ max (deep x) (deep y) := Nat.pow_le_pow_right (by omega) (by omega)
    simp only [render, deep, List.length_cons, List.length_append, List.length_nil]
    rw [Nat.pow_add, Nat.pow_one]
    omega
theorem render_short {T : Tm} (h : deep T ≤ 6) : (render T).length ≤ 379 := by
  have h1 := render_len T
  have : 2 ^ deep T ≤ 2 ^ 6 := Nat.pow_le_pow_right (by omega) h
  omega

/-- a string -/
def strV (l : List UInt8) : Value := .string ⟨l.toArray⟩
theorem str_append (l m : List UInt8) : ((⟨l.toArray⟩ : ByteArray) ++ ⟨m.toArray⟩) = ⟨(l ++ m).toArray⟩ := by
  apply ByteArray.ext
  simp [ByteArray.data_append]
end Go.Proofs.YtdhfpnbpkbelmaaDoor
