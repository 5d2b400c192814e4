/- Expressions: tokens, how the program parses them, how the document does; they agree. Expressions: the tokens of a text. Expressions: their variables, as bits. Expressions as values in memory. -/
import Derived.Test.YtpjciaomhfeeeaaGreatDoorMa
section
namespace Go.Proofs.YtpjciaomhfeeeaaGreatDoor
set_option linter.unusedSimpArgs false
set_option linter.unusedVariables false

/-- a token: its kind, number and place -/
structure Tok where
  kind : Nat
  n : Nat
  at_ : Nat
deriving DecidableEq
/-- an expression -/
inductive Ex where
  | const (b : Bool)
  | var (n : Nat)
  | not (x : Ex)
  | pair (op : Nat) (a b : Ex)
  | bound (each : Bool) (l : List Nat) (x : Ex)
/-- the rank of an operator; 0: none -/
def rk (k : Nat) : Nat := if k = 61 then 1 else if k = 62 then 2 else if k = 94 then 3 else if k = 124 then 4 else if k = 38 then 5 else 0
/-- the operator of a rank -/
def sgn (r : Nat) : Nat := if r = 1 then 61 else if r = 2 then 62 else if r = 3 then 94 else if r = 4 then 124 else 38
/-- an expression may begin so -/
def begins (k : Nat) : Bool := k == 48 || k == 49 || k == 118 || k == 115 || k == 101 || k == 33 || k == 40
theorem rk_le (k : Nat) : rk k ≤ 5 := by unfold rk; (repeat' split) <;> omega
theorem rk_sgn {k r : Nat} (h : rk k = r) (h0 : r ≠ 0) : k = sgn r := by
  unfold rk at h
  unfold sgn
  repeat' split at h
  all_goals (subst h; simp_all)
def foldL (op : Nat) : List Ex → Ex | [] => .const false | x :: l => l.foldl (.pair op) x
def foldR (op : Nat) : List Ex → Ex | [] => .const false | [x] => x | x :: y :: l => .pair op x (foldR op (y :: l))
/-- sides of operators of one rank, put together -/
def foldX (r : Nat) (l : List Ex) : Ex := if r = 2 then foldR 62 l else foldL (sgn r) l
inductive Res where
  | err (c p : Nat)
  | ok (l : List Ex) (L : List Tok)
inductive Job where
  | not
  | lev (r : Nat)
  | parts (r : Nat)
/-- what the parser makes of the tokens that are left, at a depth -/
inductive Run : Job → Nat → List Tok → Res → Prop
  | const {d t L} : t.kind = 48 ∨ t.kind = 49 → Run .not d (t :: L) (.ok [.const (t.kind == 49)] L)
  | var {d t L} : t.kind = 118 → Run .not d (t :: L) (.ok [.var t.n] L)
  | deep {d t u L} : t.kind = 33 ∨ t.kind = 40 → begins u.kind = true → 200 < d + 1 → Run .not d (t :: u :: L) (.err 12 u.at_)
  | bangE {d t u L c p} : t.kind = 33 → ¬ (begins u.kind = true ∧ 200 < d + 1) → Run .not (d + 1) (u :: L) (.err c p) → Run .not d (t :: u :: L) (.err c p)
  | bang {d t u L x L'} : t.kind = 33 → ¬ (begins u.kind = true ∧ 200 < d + 1) → Run .not (d + 1) (u :: L) (.ok [x] L') → Run .not d (t :: u :: L) (.ok [.not x] L')
  | parE {d t u L c p} : t.kind = 40 → ¬ (begins u.kind = true ∧ 200 < d + 1) → Run (.lev 1) (d + 1) (u :: L) (.err c p) → Run .not d (t :: u :: L) (.err c p)
  | parW {d t u L l v L'} : t.kind = 40 → ¬ (begins u.kind = true ∧ 200 < d + 1) → Run (.lev 1) (d + 1) (u :: L) (.ok l (v :: L')) → v.kind ≠ 41 → Run .not d (t :: u :: L) (.err 10 v.at_)
  | par {d t u L x v L'} : t.kind = 40 → ¬ (begins u.kind = true ∧ 200 < d + 1) → Run (.lev 1) (d + 1) (u :: L) (.ok [x] (v :: L')) → v.kind = 41 → Run .not d (t :: u :: L) (.ok [x] L')
  | bndW {d t u L} : t.kind = 115 ∨ t.kind = 101 → u.kind ≠ 118 → Run .not d (t :: u :: L) (.err 10 u.at_)
  | bndD {d t u L} : t.kind = 115 ∨ t.kind = 101 → u.kind = 118 → 200 < d + 1 → Run .not d (t :: u :: L) (.err 12 u.at_)
  | bndS {d t u vs v L'} : t.kind = 115 ∨ t.kind = 101 → u.kind = 118 → d + 1 ≤ 200 → (∀ y ∈ vs, y.kind = 118) → v.kind ≠ 118 → v.kind ≠ 46 → Run .not d (t :: u :: (vs ++ v :: L')) (.err 10 v.at_)
  | bndE {d t u vs v L' c p} : t.kind = 115 ∨ t.kind = 101 → u.kind = 118 → d + 1 ≤ 200 → (∀ y ∈ vs, y.kind = 118) → v.kind = 46 → Run .not (d + 1) L' (.err c p) → Run .not d (t :: u :: (vs ++ v :: L')) (.err c p)
  | bnd {d t u vs v L' x L''} : t.kind = 115 ∨ t.kind = 101 → u.kind = 118 → d + 1 ≤ 200 → (∀ y ∈ vs, y.kind = 118) → v.kind = 46 → Run .not (d + 1) L' (.ok [x] L'') → Run .not d (t :: u :: (vs ++ v :: L')) (.ok [.bound (t.kind == 101) ((u :: vs).map (·.n)) x] L'')
  | bad {d t L} : begins t.kind = false → Run .not d (t :: L) (.err 10 t.at_)
  | levN {r d L res} : 5 < r → Run .not d L res → Run (.lev r) d L res
  | parts1 {r d L res} : r ≤ 5 → Run (.lev (r + 1)) d L res → Run (.parts r) d L res
  | partsE {r d L l t L1 c p} : Run (.parts r) d L (.ok l (t :: L1)) → rk t.kind = r → Run (.lev (r + 1)) d L1 (.err c p) → Run (.parts r) d L (.err c p)
  | partsS {r d L l t L1 x L2} : Run (.parts r) d L (.ok l (t :: L1)) → rk t.kind = r → Run (.lev (r + 1)) d L1 (.ok [x] L2) → Run (.parts r) d L (.ok (l ++ [x]) L2)
  | levE {r d L c p} : r ≤ 5 → Run (.parts r) d L (.err c p) → Run (.lev r) d L (.err c p)
  | levD {r d L l t L1} : r ≤ 5 → Run (.parts r) d L (.ok l (t :: L1)) → rk t.kind ≠ r → Run (.lev r) d L (.ok [foldX r l] (t :: L1))

/-- what stands around, behind something whole -/
def whole : List Nat → List Nat | [] => [] | k :: l => if k = 33 then whole l else k :: l
/-- the document's look at tokens: what stands around (the nearest first), the state -/
def wrongGo : List Nat → Nat → List Tok → Nat × Nat
  | _, _, [] => (0, 0)
  | A, st, t :: L =>
    if ((st = 0 ∧ begins t.kind = true) ∨ (st = 2 ∧ t.kind = 118)) ∧ 200 < A.length then (t.at_, 12)
    else if st = 0 ∧ (t.kind = 33 ∨ t.kind = 40) then wrongGo (t.kind :: A) 0 L
    else if st = 0 ∧ (t.kind = 115 ∨ t.kind = 101) then wrongGo (33 :: A) 2 L
    else if st = 0 ∧ begins t.kind = true then wrongGo (whole A) 1 L
    else if st = 2 ∧ t.kind = 118 then wrongGo A 3 L
    else if st = 3 ∧ t.kind = 118 then wrongGo A 3 L
    else if st = 3 ∧ t.kind = 46 then wrongGo A 0 L
    else if st = 1 ∧ rk t.kind ≠ 0 then wrongGo A 0 L
    else if st = 1 ∧ t.kind = 41 ∧ 0 < A.length then wrongGo (whole A.tail) 1 L
    else if st = 1 ∧ t.kind = 122 ∧ A.length = 0 then (0, 0)
    else (t.at_, 10)
def hdk : List Tok → Nat | [] => 0 | t :: _ => t.kind
theorem begins_iff (k : Nat) : begins k = true ↔ k = 48 ∨ k = 49 ∨ k = 118 ∨ k = 115 ∨ k = 101 ∨ k = 33 ∨ k = 40 := by
  unfold begins
  simp only [Bool.or_eq_true, beq_iff_eq]
  omega
theorem whole_whole (A : List Nat) : whole (whole A) = whole A := by
  induction A with
  | nil => rfl
  | cons k l ih =>
    by_cases h : k = 33
    · rw [whole, if_pos h, ih]
    · rw [whole, if_neg h, whole, if_neg h]
theorem more_vars (A : List Nat) : ∀ (vs : List Tok) (L : List Tok), (∀ y ∈ vs, y.kind = 118) → wrongGo A 3 (vs ++ L) = wrongGo A 3 L
  | [], _, _ => rfl
  | t :: vs, L, h => by
    have ht : t.kind = 118 := h t (by simp)
    rw [List.cons_append, wrongGo]
    simp [ht]
    exact more_vars A vs L (fun y hy => h y (by simp [hy]))
/-- what is to be shown of a run -/
def Agree (j : Job) (d : Nat) (L : List Tok) (res : Res) : Prop :=
  ∀ A : List Nat, A.length = d → (begins (hdk L) = true → d ≤ 200) → (j ≠ .not → whole A = A) →
  match res with
  | .err c p => wrongGo A 0 L = (p, c) ∧ (c = 10 ∨ c = 12)
  | .ok _ L' => wrongGo A 0 L = wrongGo (whole A) 1 L' ∧ d ≤ 200 ∧ (match j with | .lev r => rk (hdk L') < r | .parts r => rk (hdk L') < r + 1 | .not => True)
theorem run_agree {j d L res} (h : Run j d L res) (hr : match j with | .lev r => 0 < r | .parts r => 0 < r | .not => True) : Agree j d L res := by
  induction h with
  | const hk =>
    intro A hA hd _
    have hb := hd (by rw [hdk, begins_iff]; omega)
    refine ⟨?_, hb, trivial⟩
    rw [wrongGo, if_neg (by omega), if_neg (by omega), if_neg (by omega), if_pos ⟨rfl, by rw [begins_iff]; omega⟩]
  | var hk =>
    intro A hA hd _
    have hb := hd (by rw [hdk, begins_iff]; omega)
    refine ⟨?_, hb, trivial⟩
    rw [wrongGo, if_neg (by omega), if_neg (by omega), if_neg (by omega), if_pos ⟨rfl, by rw [begins_iff]; omega⟩]
  | deep hk hu h2 =>
    intro A hA hd _
    have hb := hd (by rw [hdk, begins_iff]; omega)
    refine ⟨?_, by omega⟩
    rw [wrongGo, if_neg (by omega), if_pos ⟨rfl, hk⟩, wrongGo, if_pos ⟨.inl ⟨rfl, hu⟩, by simp; omega⟩]
  | bangE hk hu _ ih =>
    intro A hA hd _
    have hb := hd (by rw [hdk, begins_iff]; omega)
    obtain ⟨h1, h2⟩ := ih trivial (33 :: A) (by simp [hA]) (fun h => by rw [hdk] at h; rcases Nat.lt_or_ge 200 (_ + 1) with h' | h'; exact absurd ⟨h, h'⟩ hu; exact h') (fun h => absurd rfl h)
    refine ⟨?_, h2⟩
    rw [wrongGo, if_neg (by omega), if_pos ⟨rfl, .inl hk⟩, hk, h1]
  | bang hk hu _ ih =>
    intro A hA hd _
    have hb := hd (by rw [hdk, begins_iff]; omega)
    obtain ⟨h1, h2, _⟩ := ih trivial (33 :: A) (by simp [hA]) (fun h => by rw [hdk] at h; rcases Nat.lt_or_ge 200 (_ + 1) with h' | h'; exact absurd ⟨h, h'⟩ hu; exact h') (fun h => absurd rfl h)
    refine ⟨?_, hb, trivial⟩
    rw [wrongGo, if_neg (by omega), if_pos ⟨rfl, .inl hk⟩, hk, h1, whole, if_pos rfl]
  | parE hk hu _ ih =>
    intro A hA hd _
    have hb := hd (by rw [hdk, begins_iff]; omega)
    obtain ⟨h1, h2⟩ := ih (Nat.succ_pos _) (40 :: A) (by simp [hA]) (fun h => by rw [hdk] at h; rcases Nat.lt_or_ge 200 (_ + 1) with h' | h'; exact absurd ⟨h, h'⟩ hu; exact h') (fun h => by rw [whole, if_neg (by decide)])
    refine ⟨?_, h2⟩
    rw [wrongGo, if_neg (by omega), if_pos ⟨rfl, .inr hk⟩, hk, h1]
  | parW hk hu _ hv ih =>
    intro A hA hd _
    have hb := hd (by rw [hdk, begins_iff]; omega)
    obtain ⟨h1, _, h3⟩ := ih (Nat.succ_pos _) (40 :: A) (by simp [hA]) (fun h => by rw [hdk] at h; rcases Nat.lt_or_ge 200 (_ + 1) with h' | h'; exact absurd ⟨h, h'⟩ hu; exact h') (fun h => by rw [whole, if_neg (by decide)])
    refine ⟨?_, by omega⟩
    simp only [hdk] at h3
    rw [wrongGo, if_neg (by omega), if_pos ⟨rfl, .inr hk⟩, hk, h1, whole, if_neg (by decide), wrongGo, if_neg (by omega), if_neg (by omega), if_neg (by omega), if_neg (by omega), if_neg (by omega), if_neg (by omega), if_neg (by omega), if_neg (by omega), if_neg (by omega), if_neg (by simp)]
  | par hk hu _ hv ih =>
    intro A hA hd _
    have hb := hd (by rw [hdk, begins_iff]; omega)
    obtain ⟨h1, _, h3⟩ := ih (Nat.succ_pos _) (40 :: A) (by simp [hA]) (fun h => by rw [hdk] at h; rcases Nat.lt_or_ge 200 (_ + 1) with h' | h'; exact absurd ⟨h, h'⟩ hu; exact h') (fun h => by rw [whole, if_neg (by decide)])
    refine ⟨?_, hb, trivial⟩
    simp only [hdk] at h3
    rw [wrongGo, if_neg (by omega), if_pos ⟨rfl, .inr hk⟩, hk, h1, whole, if_neg (by decide), wrongGo, if_neg (by omega), if_neg (by omega), if_neg (by omega), if_neg (by omega), if_neg (by omega), if_neg (by omega), if_neg (by omega), if_neg (by omega), if_pos ⟨rfl, hv, by simp⟩]
    rfl
  | bndW hk hu =>
    intro A hA hd _
    have hb := hd (by rw [hdk, begins_iff]; omega)
    refine ⟨?_, by omega⟩
    rw [wrongGo, if_neg (by omega), if_neg (by omega), if_pos ⟨rfl, hk⟩, wrongGo, if_neg (by omega), if_neg (by omega), if_neg (by omega), if_neg (by omega), if_neg (by omega), if_neg (by omega), if_neg (by omega), if_neg (by omega), if_neg (by omega), if_neg (by omega)]
  | bndD hk hu h2 =>
    intro A hA hd _
    have hb := hd (by rw [hdk, begins_iff]; omega)
    refine ⟨?_, by omega⟩
    rw [wrongGo, if_neg (by omega), if_neg (by omega), if_pos ⟨rfl, hk⟩, wrongGo, if_pos ⟨.inr ⟨rfl, hu⟩, by simp; omega⟩]
  | bndS hk hu h2 hvs h3 h4 =>
    intro A hA hd _
    have hb := hd (by rw [hdk, begins_iff]; omega)
    refine ⟨?_, by omega⟩
    rw [wrongGo, if_neg (by omega), if_neg (by omega), if_pos ⟨rfl, hk⟩, wrongGo, if_neg (by simp; omega), if_neg (by omega), if_neg (by omega), if_neg (by omega), if_pos ⟨rfl, hu⟩, more_vars _ _ _ hvs, wrongGo, if_neg (by omega), if_neg (by omega), if_neg (by omega), if_neg (by omega), if_neg (by omega), if_neg (by omega), if_neg (by omega), if_neg (by omega), if_neg (by omega), if_neg (by omega)]
  | bndE hk hu h2 hvs h3 _ ih =>
    intro A hA hd _
    have hb := hd (by rw [hdk, begins_iff]; omega)
    obtain ⟨h4, h5⟩ := ih trivial (33 :: A) (by simp [hA]) (fun h => h2) (fun h => absurd rfl h)
    refine ⟨?_, h5⟩
    rw [wrongGo, if_neg (by omega), if_neg (by omega), if_pos ⟨rfl, hk⟩, wrongGo, if_neg (by simp; omega), if_neg (by omega), if_neg (by omega), if_neg (by omega), if_pos ⟨rfl, hu⟩, more_vars _ _ _ hvs, wrongGo, if_neg (by omega), if_neg (by omega), if_neg (by omega), if_neg (by omega), if_neg (by omega), if_neg (by omega), if_pos ⟨rfl, h3⟩, h4]
  | bnd hk hu h2 hvs h3 _ ih =>
    intro A hA hd _
    have hb := hd (by rw [hdk, begins_iff]; omega)
    obtain ⟨h4, h5, _⟩ := ih trivial (33 :: A) (by simp [hA]) (fun h => h2) (fun h => absurd rfl h)
    refine ⟨?_, hb, trivial⟩
    rw [wrongGo, if_neg (by omega), if_neg (by omega), if_pos ⟨rfl, hk⟩, wrongGo, if_neg (by simp; omega), if_neg (by omega), if_neg (by omega), if_neg (by omega), if_pos ⟨rfl, hu⟩, more_vars _ _ _ hvs, wrongGo, if_neg (by omega), if_neg (by omega), if_neg (by omega), if_neg (by omega), if_neg (by omega), if_neg (by omega), if_pos ⟨rfl, h3⟩, h4, whole, if_pos rfl]
  | @bad d t L hb =>
    intro A hA hd _
    refine ⟨?_, by omega⟩
    have hn := begins_iff t.kind
    rw [hb] at hn
    rw [wrongGo, if_neg (by rw [hb]; simp), if_neg (by simp at hn; omega), if_neg (by simp at hn; omega), if_neg (by rw [hb]; simp), if_neg (by omega), if_neg (by omega), if_neg (by omega), if_neg (by omega), if_neg (by omega), if_neg (by omega)]
  | @levN r d L res h5 _ ih =>
    intro A hA hd hw
    have := ih trivial A hA hd (fun h => absurd rfl h)
    cases res with
    | err c p => exact this
    | ok l L' => exact ⟨this.1, this.2.1, by have := rk_le (hdk L'); omega⟩
  | @parts1 r d L res h5 _ ih =>
    intro A hA hd hw
    have := ih (Nat.succ_pos _) A hA hd (fun _ => hw (by simp))
    cases res with
    | err c p => exact this
    | ok l L' => exact this
  | partsE _ hrk _ ih1 ih2 =>
    intro A hA hd hw
    obtain ⟨h1, h2, _⟩ := ih1 hr A hA hd hw
    have hwA := hw (by simp)
    obtain ⟨h3, h4⟩ := ih2 (Nat.succ_pos _) A hA (fun _ => h2) (fun _ => hwA)
    refine ⟨?_, h4⟩
    simp only at hr
    rw [h1, hwA, wrongGo, if_neg (by omega), if_neg (by omega), if_neg (by omega), if_neg (by omega), if_neg (by omega), if_neg (by omega), if_neg (by omega), if_pos ⟨rfl, by omega⟩, h3]
  | partsS _ hrk _ ih1 ih2 =>
    intro A hA hd hw
    obtain ⟨h1, h2, _⟩ := ih1 hr A hA hd hw
    have hwA := hw (by simp)
    obtain ⟨h3, h4, h5⟩ := ih2 (Nat.succ_pos _) A hA (fun _ => h2) (fun _ => hwA)
    refine ⟨?_, h4, h5⟩
    simp only at hr
    rw [h1, hwA, wrongGo, if_neg (by omega), if_neg (by omega), if_neg (by omega), if_neg (by omega), if_neg (by omega), if_neg (by omega), if_neg (by omega), if_pos ⟨rfl, by omega⟩, h3, hwA]
  | levE h5 _ ih =>
    intro A hA hd hw
    exact ih hr A hA hd (fun _ => hw (by simp))
  | levD h5 _ hne ih =>
    intro A hA hd hw
    obtain ⟨h1, h2, h3⟩ := ih hr A hA hd (fun _ => hw (by simp))
    exact ⟨h1, h2, by simp only [hdk] at h3 ⊢; omega⟩
/-- the document's search for an operator: its place, and the depth behind -/
def scan (k : Nat) : List Tok → Nat → Int → Option Nat → Option Nat × Int
  | [], _, d, a => (a, d)
  | t :: l, i, d, a =>
    if t.kind = 40 then scan k l (i + 1) (d + 1) a
    else if t.kind = 41 then scan k l (i + 1) (d - 1) a
    else if t.kind = k ∧ d = 0 ∧ (a = none ∨ k ≠ 62) then scan k l (i + 1) d (some i)
    else scan k l (i + 1) d a
/-- the place of the operator that is done last -/
def splitT (C : List Tok) : Option Nat :=
  match (scan 61 C 0 0 none).1 with
  | some a => some a
  | none => match (scan 62 C 0 0 none).1 with
    | some a => some a
    | none => match (scan 94 C 0 0 none).1 with
      | some a => some a
      | none => match (scan 124 C 0 0 none).1 with
        | some a => some a
        | none => (scan 38 C 0 0 none).1
/-- the expression that tokens are, by the document -/
inductive RT : List Tok → Ex → Prop
  | op {C : List Tok} {i t a b} : splitT C = some i → C[i]? = some t → rk t.kind ≠ 0 → RT (C.take i) a → RT (C.drop (i + 1)) b → RT C (.pair t.kind a b)
  | not {C t x} : splitT (t :: C) = none → t.kind = 33 → RT C x → RT (t :: C) (.not x)
  | par {C t u x} : splitT (t :: (C ++ [u])) = none → t.kind = 40 → u.kind = 41 → RT C x → RT (t :: (C ++ [u])) x
  | bnd {C t vs u x} : splitT (t :: (vs ++ u :: C)) = none → t.kind = 115 ∨ t.kind = 101 → (∀ y ∈ vs, y.kind = 118) → u.kind = 46 → RT C x → RT (t :: (vs ++ u :: C)) (.bound (t.kind == 101) (vs.map (·.n)) x)
  | var {t} : splitT [t] = none → t.kind = 118 → RT [t] (.var t.n)
  | const {t} : splitT [t] = none → t.kind = 48 ∨ t.kind = 49 → RT [t] (.const (t.kind == 49))
theorem scan_append (k : Nat) : ∀ (C D : List Tok) (i : Nat) (d : Int) (a : Option Nat), scan k (C ++ D) i d a = scan k D (i + C.length) (scan k C i d a).2 (scan k C i d a).1
  | [], D, i, d, a => by simp [scan]
  | t :: C, D, i, d, a => by
    simp only [List.cons_append, scan, List.length_cons]
    split
    · rw [scan_append k C D, show i + 1 + C.length = i + (C.length + 1) by omega]
    · split
      · rw [scan_append k C D, show i + 1 + C.length = i + (C.length + 1) by omega]
      · split
        · rw [scan_append k C D, show i + 1 + C.length = i + (C.length + 1) by omega]
        · rw [scan_append k C D, show i + 1 + C.length = i + (C.length + 1) by omega]
/-- inside brackets nothing is found -/
def Deep (C : List Tok) : Prop := ∀ (k i : Nat) (d : Int) (a : Option Nat), 1 ≤ d → scan k C i d a = (a, d)
/-- no operator of a rank below r stands free -/
def Clean (r : Nat) (C : List Tok) : Prop := ∀ (k i : Nat) (a : Option Nat), rk k ≠ 0 → rk k < r → scan k C i 0 a = (a, 0)
structure Seg (r : Nat) (C : List Tok) (x : Ex) : Prop where
  deep : Deep C
  clean : Clean r C
  rt : RT C x
  ne : C ≠ []
inductive Segs (r : Nat) : List Tok → List Ex → Prop
  | one {C x} : Seg (r + 1) C x → Segs r C [x]
  | snoc {C l t D x} : Segs r C l → rk t.kind = r → Seg (r + 1) D x → Segs r (C ++ t :: D) (l ++ [x])
inductive SegsR (r : Nat) : List Tok → List Ex → Prop
  | one {C x} : Seg (r + 1) C x → SegsR r C [x]
  | cons {C x t D l} : Seg (r + 1) C x → rk t.kind = r → SegsR r D l → SegsR r (C ++ t :: D) (x :: l)
theorem SegsR.snoc {r C l t D x} (h : SegsR r C l) (ht : rk t.kind = r) (hD : Seg (r + 1) D x) : SegsR r (C ++ t :: D) (l ++ [x]) := by
  induction h with
  | one h => exact .cons h ht (.one hD)
  | cons h1 h2 _ ih => rw [List.append_assoc, List.cons_append, List.cons_append]; exact .cons h1 h2 ih
theorem Segs.right {r C l} (h : Segs r C l) : SegsR r C l := by
  induction h with
  | one h => exact .one h
  | snoc _ h2 h3 ih => exact ih.snoc h2 h3
theorem rk_40 : rk 40 = 0 := rfl
theorem rk_pos_sgn {r : Nat} (h0 : 0 < r) (h5 : r ≤ 5) : rk (sgn r) = r ∧ sgn r ≠ 40 ∧ sgn r ≠ 41 := by
  rcases (show r = 1 ∨ r = 2 ∨ r = 3 ∨ r = 4 ∨ r = 5 by omega) with rfl | rfl | rfl | rfl | rfl <;> decide
theorem Clean.mono {r s C} (h : Clean s C) (hrs : r ≤ s) : Clean r C := fun k i a h0 h1 => h k i a h0 (by omega)
theorem Clean.six {r C} (h : Clean 6 C) : Clean r C := fun k i a h0 h1 => h k i a h0 (by have := rk_le k; omega)
/-- one token that is neither a bracket nor an operator -/
theorem scan_plain {k : Nat} {t : Tok} {l : List Tok} {i : Nat} {d : Int} {a : Option Nat} (h40 : t.kind ≠ 40) (h41 : t.kind ≠ 41) (h : t.kind ≠ k ∨ d ≠ 0) : scan k (t :: l) i d a = scan k l (i + 1) d a := by
  rw [scan, if_neg h40, if_neg h41, if_neg (by omega)]
theorem deep_cons {t : Tok} {C : List Tok} (h40 : t.kind ≠ 40) (h41 : t.kind ≠ 41) (h : Deep C) : Deep (t :: C) := fun k i d a hd => by
  rw [scan_plain h40 h41 (.inr (by omega)), h k _ d a hd]
theorem clean_cons {r : Nat} {t : Tok} {C : List Tok} (h40 : t.kind ≠ 40) (h41 : t.kind ≠ 41) (hrk : rk t.kind = 0 ∨ r ≤ rk t.kind) (h : Clean r C) : Clean r (t :: C) := fun k i a h0 h1 => by
  rw [scan_plain h40 h41 (.inl fun e => by rw [e] at hrk; omega), h k _ a h0 h1]
theorem deep_nil : Deep [] := fun k i d a _ => rfl
theorem clean_nil {r} : Clean r [] := fun k i a _ _ => rfl
theorem deep_app {C D : List Tok} (h : Deep C) (h2 : Deep D) : Deep (C ++ D) := fun k i d a hd => by rw [scan_append, h k i d a hd, h2 k _ d a hd]
theorem clean_app {r : Nat} {C D : List Tok} (h : Clean r C) (h2 : Clean r D) : Clean r (C ++ D) := fun k i a h0 h1 => by rw [scan_append, h k i a h0 h1, h2 k _ a h0 h1]
theorem deep_par {t u : Tok} {C : List Tok} (ht : t.kind = 40) (hu : u.kind = 41) (h : Deep C) : Deep (t :: (C ++ [u])) := fun k i d a hd => by
  rw [scan, if_pos ht, scan_append, h k _ _ _ (by omega), scan, if_neg (by omega), if_pos hu]
  simp [scan]
theorem clean_par {r : Nat} {t u : Tok} {C : List Tok} (ht : t.kind = 40) (hu : u.kind = 41) (h : Deep C) : Clean r (t :: (C ++ [u])) := fun k i a h0 h1 => by
  rw [scan, if_pos ht, scan_append, h k _ _ _ (by omega), scan, if_neg (by omega), if_pos hu]
  simp [scan]
/-- no operator stands free: nothing is split -/
theorem split_none {C : List Tok} (h : Clean 6 C) : splitT C = none := by
  unfold splitT
  rw [h 61 0 none (by decide) (by decide), h 62 0 none (by decide) (by decide), h 94 0 none (by decide) (by decide), h 124 0 none (by decide) (by decide), h 38 0 none (by decide) (by decide)]
/-- the least rank with a free operator: there is split -/
theorem split_some {r i : Nat} {C : List Tok} (h0 : 0 < r) (h5 : r ≤ 5) (hc : Clean r C) (h : (scan (sgn r) C 0 0 none).1 = some i) : splitT C = some i := by
  unfold splitT
  rcases (show r = 1 ∨ r = 2 ∨ r = 3 ∨ r = 4 ∨ r = 5 by omega) with rfl | rfl | rfl | rfl | rfl
  · rw [show scan 61 C 0 0 none = scan (sgn 1) C 0 0 none from rfl, h]
  · rw [hc 61 0 none (by decide) (by decide), show scan 62 C 0 0 none = scan (sgn 2) C 0 0 none from rfl, h]
  · rw [hc 61 0 none (by decide) (by decide), hc 62 0 none (by decide) (by decide), show scan 94 C 0 0 none = scan (sgn 3) C 0 0 none from rfl, h]
  · rw [hc 61 0 none (by decide) (by decide), hc 62 0 none (by decide) (by decide), hc 94 0 none (by decide) (by decide), show scan 124 C 0 0 none = scan (sgn 4) C 0 0 none from rfl, h]
  · rw [hc 61 0 none (by decide) (by decide), hc 62 0 none (by decide) (by decide), hc 94 0 none (by decide) (by decide), hc 124 0 none (by decide) (by decide), show scan 38 C 0 0 none = scan (sgn 5) C 0 0 none from rfl, h]
theorem Seg.down {r C x} (h : Seg (r + 1) C x) : Seg r C x := ⟨h.deep, h.clean.mono (by omega), h.rt, h.ne⟩
/-- the depth behind a segment that starts free -/
theorem seg_scan {r : Nat} (h0 : 0 < r) (h5 : r ≤ 5) {C : List Tok} (h : Clean (r + 1) C) (i : Nat) (a : Option Nat) : scan (sgn r) C i 0 a = (a, 0) := h _ i a (by rw [(rk_pos_sgn h0 h5).1]; omega) (by rw [(rk_pos_sgn h0 h5).1]; omega)
theorem tok_op {r : Nat} {t : Tok} (h0 : 0 < r) (ht : rk t.kind = r) : t.kind = sgn r ∧ t.kind ≠ 40 ∧ t.kind ≠ 41 := by
  have h5 := rk_le t.kind
  have := rk_sgn ht (by omega)
  have h := rk_pos_sgn h0 (by omega)
  rw [← this] at h
  exact ⟨this, h.2⟩
theorem take_mid {α : Type} (C : List α) (t : α) (D : List α) : (C ++ t :: D).take C.length = C ∧ (C ++ t :: D).drop (C.length + 1) = D ∧ (C ++ t :: D)[C.length]? = some t := by
  refine ⟨by simp, ?_, by simp⟩
  rw [List.drop_append, show C.length + 1 - C.length = 1 by omega]
  simp
theorem Segs.left {r C l} (h : Segs r C l) (h0 : 0 < r) (h5 : r ≤ 5) (hr : r ≠ 2) : l ≠ [] ∧ Deep C ∧ C ≠ [] ∧ Clean r C ∧ (∀ i a, (scan (sgn r) C i 0 a).2 = 0) ∧ RT C (foldL (sgn r) l) := by
  induction h with
  | one h => exact ⟨by simp, h.deep, h.ne, h.clean.mono (by omega), fun i a => by rw [seg_scan h0 h5 h.clean], h.rt⟩
  | @snoc C l t D x h1 h2 h3 ih =>
    obtain ⟨hl, hd, hne, hc, hs, hrt⟩ := ih
    obtain ⟨k1, k2, k3⟩ := tok_op h0 h2
    have hc2 : Clean r (C ++ t :: D) := clean_app hc (clean_cons k2 k3 (.inr (by omega)) (h3.clean.mono (by omega)))
    have hsc : ∀ i a, scan (sgn r) (C ++ t :: D) i 0 a = (some (i + C.length), 0) := fun i a => by
      rw [scan_append, hs, scan, if_neg k2, if_neg k3, if_pos ⟨k1, rfl, .inr (by
        intro e
        have := (rk_pos_sgn h0 h5).1
        rw [e] at this
        exact hr this.symm)⟩, seg_scan h0 h5 h3.clean]
    refine ⟨by simp, deep_app hd (deep_cons k2 k3 h3.deep), by simp, hc2, fun i a => by rw [hsc], ?_⟩
    have hsp : splitT (C ++ t :: D) = some C.length := split_some h0 h5 hc2 (by rw [hsc, Nat.zero_add])
    obtain ⟨m1, m2, m3⟩ := take_mid C t D
    have := RT.op hsp m3 (by omega) (m1.symm ▸ hrt) (m2.symm ▸ h3.rt)
    rw [k1] at this
    cases l with
    | nil => exact absurd rfl hl
    | cons y l => simpa [foldL, List.foldl_append] using this
theorem scan_first (C : List Tok) : ∀ (i : Nat) (d : Int) (j : Nat), (scan 62 C i d (some j)).1 = some j := by
  induction C with
  | nil => intro i d j; rfl
  | cons t C ih =>
    intro i d j
    rw [scan]
    split
    · exact ih _ _ _
    · split
      · exact ih _ _ _
      · rw [if_neg (by simp)]; exact ih _ _ _
theorem SegsR.rt {C l} (h : SegsR 2 C l) : l ≠ [] ∧ Deep C ∧ C ≠ [] ∧ Clean 2 C ∧ RT C (foldR 62 l) := by
  induction h with
  | one h => exact ⟨by simp, h.deep, h.ne, h.clean.mono (by omega), h.rt⟩
  | @cons C x t D l h1 h2 h3 ih =>
    obtain ⟨hl, hd, hne, hc, hrt⟩ := ih
    obtain ⟨k1, k2, k3⟩ := tok_op (by omega) h2
    have hc2 : Clean 2 (C ++ t :: D) := clean_app (h1.clean.mono (by omega)) (clean_cons k2 k3 (.inr (by omega)) hc)
    refine ⟨by simp, deep_app h1.deep (deep_cons k2 k3 hd), by simp, hc2, ?_⟩
    have hsc : (scan (sgn 2) (C ++ t :: D) 0 0 none).1 = some C.length := by
      rw [scan_append, seg_scan (by omega) (by omega) h1.clean, scan, if_neg k2, if_neg k3, if_pos ⟨k1, rfl, .inl rfl⟩, Nat.zero_add]
      exact scan_first D _ _ _
    have hsp : splitT (C ++ t :: D) = some C.length := split_some (by omega) (by omega) hc2 hsc
    obtain ⟨m1, m2, m3⟩ := take_mid C t D
    have := RT.op hsp m3 (by omega) (m1.symm ▸ h1.rt) (m2.symm ▸ hrt)
    rw [k1] at this
    cases l with
    | nil => exact absurd rfl hl
    | cons y l => exact this
theorem Segs.seg {r C l} (h : Segs r C l) (h0 : 0 < r) (h5 : r ≤ 5) : Seg r C (foldX r l) := by
  unfold foldX
  by_cases hr : r = 2
  · subst hr
    obtain ⟨_, h2, h3, h4, h5⟩ := h.right.rt
    rw [if_pos rfl]
    exact ⟨h2, h4, h5, h3⟩
  · obtain ⟨_, h2, h3, h4, _, h5⟩ := h.left h0 h5 hr
    rw [if_neg hr]
    exact ⟨h2, h4, h5, h3⟩
/-- what a run has taken -/
def Good : Job → List Tok → List Ex → Prop
  | .not, C, l => ∃ x, l = [x] ∧ Seg 6 C x
  | .lev r, C, l => ∃ x, l = [x] ∧ Seg r C x
  | .parts r, C, l => Segs r C l
theorem vars_seg : ∀ (vs : List Tok), (∀ y ∈ vs, y.kind = 118) → Deep vs ∧ Clean 6 vs
  | [], _ => ⟨deep_nil, clean_nil⟩
  | t :: vs, h => by
    have ht : t.kind = 118 := h t (by simp)
    obtain ⟨h1, h2⟩ := vars_seg vs (fun y hy => h y (by simp [hy]))
    exact ⟨deep_cons (by omega) (by omega) h1, clean_cons (by omega) (by omega) (.inl (by rw [ht]; rfl)) h2⟩
theorem run_good {j d L res} (h : Run j d L res) (hr : match j with | .lev r => 0 < r | .parts r => 0 < r ∧ r ≤ 5 | .not => True) : ∀ l L', res = .ok l L' → ∃ C, L = C ++ L' ∧ Good j C l := by
  induction h with
  | @const d t L hk =>
    rintro l L' e
    injection e with e1 e2
    subst e1 e2
    have h40 : t.kind ≠ 40 := by omega
    have h41 : t.kind ≠ 41 := by omega
    have hc : Clean 6 [t] := clean_cons h40 h41 (.inl (by rcases hk with h | h <;> rw [h] <;> rfl)) clean_nil
    exact ⟨[t], rfl, _, rfl, deep_cons h40 h41 deep_nil, hc, .const (split_none hc) hk, by simp⟩
  | @var d t L hk =>
    rintro l L' e
    injection e with e1 e2
    subst e1 e2
    have h40 : t.kind ≠ 40 := by omega
    have h41 : t.kind ≠ 41 := by omega
    have hc : Clean 6 [t] := clean_cons h40 h41 (.inl (by rw [hk]; rfl)) clean_nil
    exact ⟨[t], rfl, _, rfl, deep_cons h40 h41 deep_nil, hc, .var (split_none hc) hk, by simp⟩
  | deep => rintro l L' e; cases e
  | bangE => rintro l L' e; cases e
  | @bang d t u L x L' hk hu _ ih =>
    rintro l L1 e
    injection e with e1 e2
    subst e1 e2
    obtain ⟨C, hC, y, hy, hs⟩ := ih trivial _ _ rfl
    injection hy with hy
    subst hy
    have hc : Clean 6 (t :: C) := clean_cons (by omega) (by omega) (.inl (by rw [hk]; rfl)) hs.clean
    exact ⟨t :: C, by rw [hC]; rfl, _, rfl, deep_cons (by omega) (by omega) hs.deep, hc, .not (split_none hc) hk hs.rt, by simp⟩
  | parE => rintro l L' e; cases e
  | parW => rintro l L' e; cases e
  | @par d t u L x v L' hk hu _ hv ih =>
    rintro l L1 e
    injection e with e1 e2
    subst e1 e2
    obtain ⟨C, hC, y, hy, hs⟩ := ih (Nat.succ_pos _) _ _ rfl
    injection hy with hy
    subst hy
    have hc : Clean 6 (t :: (C ++ [v])) := clean_par hk hv hs.deep
    exact ⟨t :: (C ++ [v]), by rw [hC]; simp, _, rfl, deep_par hk hv hs.deep, hc, .par (split_none hc) hk hv hs.rt, by simp⟩
  | bndW => rintro l L' e; cases e
  | bndD => rintro l L' e; cases e
  | bndS => rintro l L' e; cases e
  | bndE => rintro l L' e; cases e
  | @bnd d t u vs v L' x L'' hk hu h2 hvs hv _ ih =>
    rintro l L1 e
    injection e with e1 e2
    subst e1 e2
    obtain ⟨C, hC, y, hy, hs⟩ := ih trivial _ _ rfl
    injection hy with hy
    subst hy
    have hvs' : ∀ y ∈ u :: vs, y.kind = 118 := fun y hy => by
      rcases List.mem_cons.1 hy with rfl | h
      · exact hu
      · exact hvs y h
    obtain ⟨v1, v2⟩ := vars_seg (u :: vs) hvs'
    have hrt : rk t.kind = 0 := by rcases hk with h | h <;> rw [h] <;> rfl
    have hrv : rk v.kind = 0 := by rw [hv]; rfl
    have hc : Clean 6 (t :: ((u :: vs) ++ v :: C)) := clean_cons (by omega) (by omega) (.inl hrt) (clean_app v2 (clean_cons (by omega) (by omega) (.inl hrv) hs.clean))
    exact ⟨t :: ((u :: vs) ++ v :: C), by rw [hC]; simp, _, rfl, deep_cons (by omega) (by omega) (deep_app v1 (deep_cons (by omega) (by omega) hs.deep)), hc, .bnd (split_none hc) hk hvs' hv hs.rt, by simp⟩
  | bad => rintro l L' e; cases e
  | @levN r d L res h5 _ ih =>
    rintro l L1 e
    obtain ⟨C, hC, y, hy, hs⟩ := ih trivial _ _ e
    exact ⟨C, hC, y, hy, hs.deep, hs.clean.six, hs.rt, hs.ne⟩
  | @parts1 r d L res h5 _ ih =>
    rintro l L1 e
    obtain ⟨C, hC, y, hy, hs⟩ := ih (Nat.succ_pos _) _ _ e
    exact ⟨C, hC, by rw [hy]; exact .one hs⟩
  | partsE => rintro l L' e; cases e
  | @partsS r d L l t L1 x L2 _ hrk _ ih1 ih2 =>
    rintro l' L' e
    injection e with e1 e2
    subst e1 e2
    obtain ⟨C, hC, hs⟩ := ih1 hr _ _ rfl
    obtain ⟨D, hD, y, hy, hs2⟩ := ih2 (Nat.succ_pos _) _ _ rfl
    injection hy with hy
    subst hy
    exact ⟨C ++ t :: D, by rw [hC, hD]; simp, .snoc hs hrk hs2⟩
  | levE => rintro l L' e; cases e
  | @levD r d L l t L1 h5 _ hne ih =>
    rintro l' L' e
    injection e with e1 e2
    subst e1 e2
    obtain ⟨C, hC, hs⟩ := ih ⟨hr, h5⟩ _ _ rfl
    exact ⟨C, hC, _, rfl, Segs.seg hs hr h5⟩

/-- tokens as a text has them: the end stands last, and nowhere else -/
def Ended (L : List Tok) : Prop := ∃ l z, L = l ++ [z] ∧ z.kind = 122 ∧ ∀ t ∈ l, t.kind ≠ 122
theorem ended_cut {l C L' : List Tok} {z u : Tok} (h : l ++ [z] = C ++ u :: L') (hl : ∀ t ∈ l, t.kind ≠ 122) (hu : u.kind = 122) : l = C ∧ L' = [] := by
  rcases List.append_eq_append_iff.1 h with ⟨a, h1, h2⟩ | ⟨a, h1, h2⟩
  · cases a with
    | nil => simp at h1 h2; exact ⟨h1.symm, h2.2⟩
    | cons y a =>
      simp only [List.cons_append, List.cons.injEq] at h2
      have := h2.2
      simp at this
  · cases a with
    | nil => simp at h1 h2; exact ⟨h1, h2.2⟩
    | cons y a =>
      simp only [List.cons_append, List.cons.injEq] at h2
      exact absurd hu (by rw [h2.1]; exact hl y (by rw [h1]; simp))
/-- the parser and the document agree on where tokens are wrong, and why -/
theorem parse_err {L c p} (h : Run (.lev 1) 0 L (.err c p)) : wrongGo [] 0 L = (p, c) ∧ (c = 10 ∨ c = 12) :=
  run_agree h (Nat.succ_pos _) [] rfl (fun _ => by omega) (fun _ => rfl)
theorem parse_tail {L l u L'} (h : Run (.lev 1) 0 L (.ok l (u :: L'))) (hu : u.kind ≠ 122) : wrongGo [] 0 L = (u.at_, 10) := by
  obtain ⟨h1, _, h3⟩ := run_agree h (Nat.succ_pos _) [] rfl (fun _ => by omega) (fun _ => rfl)
  simp only [hdk] at h3
  rw [h1, whole, wrongGo, if_neg (by omega), if_neg (by omega), if_neg (by omega), if_neg (by omega), if_neg (by omega), if_neg (by omega), if_neg (by omega), if_neg (by omega), if_neg (by simp), if_neg (by omega)]
/-- .. and on what they are -/
theorem parse_ok {l z x u L'} (h : Run (.lev 1) 0 (l ++ [z]) (.ok [x] (u :: L'))) (hl : ∀ t ∈ l, t.kind ≠ 122) (hu : u.kind = 122) : wrongGo [] 0 (l ++ [z]) = (0, 0) ∧ L' = [] ∧ RT l x ∧ l ≠ [] := by
  obtain ⟨h1, _, h3⟩ := run_agree h (Nat.succ_pos _) [] rfl (fun _ => by omega) (fun _ => rfl)
  obtain ⟨C, hC, y, hy, hs⟩ := run_good h (Nat.succ_pos _) _ _ rfl
  injection hy with hy
  subst hy
  obtain ⟨e1, e2⟩ := ended_cut hC hl hu
  subst e1
  simp only [hdk] at h3
  refine ⟨?_, e2, hs.rt, hs.ne⟩
  rw [h1, whole, wrongGo, if_neg (by omega), if_neg (by omega), if_neg (by omega), if_neg (by omega), if_neg (by omega), if_neg (by omega), if_neg (by omega), if_neg (by omega), if_neg (by omega), if_pos ⟨rfl, hu, rfl⟩]
end Go.Proofs.YtpjciaomhfeeeaaGreatDoor
end

section
namespace Go.Proofs.YtpjciaomhfeeeaaGreatDoor
set_option linter.unusedSimpArgs false
set_option linter.unusedVariables false

theorem dw_le {α : Type} (p : α → Bool) (l : List α) : (l.dropWhile p).length ≤ l.length := by
  have h : (l.takeWhile p).length + (l.dropWhile p).length = l.length := by rw [← List.length_append, List.takeWhile_append_dropWhile]
  omega
/-- a letter, or a digit -/
def letterN (c : Nat) : Bool := (decide (97 ≤ c) && decide (c ≤ 122)) || (decide (65 ≤ c) && decide (c ≤ 90)) || (decide (48 ≤ c) && decide (c ≤ 57))
/-- a sign -/
def signN (c : Nat) : Bool := c == 33 || c == 38 || c == 124 || c == 94 || c == 62 || c == 61 || c == 40 || c == 41 || c == 46
/-- the number of a variable -/
def varNum (w : List UInt8) : Option Nat :=
  match w.map (·.toNat) with
  | [x, a] => if x = 120 ∧ 48 ≤ a ∧ a ≤ 57 then some (a - 48) else none
  | [x, a, b] => if x = 120 ∧ a = 49 ∧ 48 ≤ b ∧ b ≤ 53 then some (b - 38) else none
  | _ => none
/-- the token of letters and digits -/
def wordTok (w : List UInt8) (a : Nat) : Tok :=
  if w = [48] then ⟨48, 0, a⟩ else if w = [49] then ⟨49, 0, a⟩ else if w = [115, 111, 109, 101] then ⟨115, 0, a⟩ else if w = [101, 97, 99, 104] then ⟨101, 0, a⟩
  else match varNum w with | some n => ⟨118, n, a⟩ | none => ⟨98, 0, a⟩
/-- the tokens of a text, from a place on -/
def lex (l : List UInt8) (a : Nat) : List Tok :=
  match l with
  | [] => [⟨122, 0, a⟩]
  | c :: l =>
    if c.toNat = 32 then lex l (a + 1)
    else if letterN c.toNat then wordTok (c :: l.takeWhile fun c => letterN c.toNat) a :: lex (l.dropWhile fun c => letterN c.toNat) (a + 1 + (l.takeWhile fun c => letterN c.toNat).length)
    else ⟨if signN c.toNat then c.toNat else 98, 0, a⟩ :: lex l (a + 1)
termination_by l.length
decreasing_by
  · simp
  · have := dw_le (fun c : UInt8 => letterN c.toNat) l
    simp
    omega
  · simp
theorem lex_nil (a : Nat) : lex [] a = [⟨122, 0, a⟩] := by rw [lex]
theorem lex_blank {c : UInt8} {l : List UInt8} (a : Nat) (h : c.toNat = 32) : lex (c :: l) a = lex l (a + 1) := by rw [lex, if_pos h]
theorem lex_sign {c : UInt8} {l : List UInt8} (a : Nat) (h : c.toNat ≠ 32) (hl : letterN c.toNat = false) : lex (c :: l) a = ⟨if signN c.toNat then c.toNat else 98, 0, a⟩ :: lex l (a + 1) := by
  rw [lex, if_neg h, hl, if_neg (by simp)]
theorem letter_32 : letterN 32 = false := by decide
theorem takeWhile_all {α : Type} (p : α → Bool) : ∀ (w l : List α), (∀ c ∈ w, p c = true) → (∀ c, l.head? = some c → p c = false) → (w ++ l).takeWhile p = w ∧ (w ++ l).dropWhile p = l
  | [], l, _, h => by
    cases l with
    | nil => exact ⟨rfl, rfl⟩
    | cons c l =>
      have := h c rfl
      simp [List.takeWhile_cons, List.dropWhile_cons, this]
  | c :: w, l, hw, h => by
    have hc := hw c (by simp)
    obtain ⟨h1, h2⟩ := takeWhile_all p w l (fun x hx => hw x (by simp [hx])) h
    simp [List.takeWhile_cons, List.dropWhile_cons, hc, h1, h2]
theorem lex_word {w l : List UInt8} (a : Nat) (hw : ∀ c ∈ w, letterN c.toNat = true) (h0 : w ≠ []) (hl : ∀ c, l.head? = some c → letterN c.toNat = false) : lex (w ++ l) a = wordTok w a :: lex l (a + w.length) := by
  cases w with
  | nil => exact absurd rfl h0
  | cons c w =>
    have hc := hw c (by simp)
    obtain ⟨h1, h2⟩ := takeWhile_all (fun c : UInt8 => letterN c.toNat) w l (fun x hx => hw x (by simp [hx])) hl
    rw [List.cons_append, lex, if_neg (by intro e; rw [e, letter_32] at hc; cases hc), if_pos hc, h1, h2, List.length_cons, show a + 1 + w.length = a + (w.length + 1) by omega]
theorem word_kind (w : List UInt8) (a : Nat) : (wordTok w a).kind ≠ 122 ∧ (wordTok w a).at_ = a ∧ (wordTok w a).n ≤ 15 ∧ ((wordTok w a).kind = 48 ∨ (wordTok w a).kind = 49 ∨ (wordTok w a).kind = 115 ∨ (wordTok w a).kind = 101 ∨ (wordTok w a).kind = 118 ∨ (wordTok w a).kind = 98) := by
  unfold wordTok
  split
  · simp
  · split
    · simp
    · split
      · simp
      · split
        · simp
        · split
          · rename_i n h
            unfold varNum at h
            split at h
            · split at h
              · injection h with h; subst h; simp; omega
              · cases h
            · split at h
              · injection h with h; subst h; simp; omega
              · cases h
            · cases h
          · simp
/-- tokens as a text has them -/
structure TokOk (m : Nat) (t : Tok) : Prop where
  n : t.n ≤ 15
  at_ : t.at_ ≤ m
  kind : t.kind ≤ 127
theorem sign_le {c : Nat} (h : signN c = true) : c ≤ 124 ∧ c ≠ 122 := by
  unfold signN at h
  simp only [Bool.or_eq_true, beq_iff_eq] at h
  omega
theorem lex_ended (l : List UInt8) : ∀ (a m : Nat), a + l.length ≤ m → Ended (lex l a) ∧ ∀ t ∈ lex l a, TokOk m t := by
  obtain ⟨n, hn⟩ : ∃ n, n = l.length := ⟨_, rfl⟩
  induction n using Nat.strongRecOn generalizing l with
  | ind n ih =>
    intro a m hm
    cases l with
    | nil =>
      rw [lex_nil]
      exact ⟨⟨[], _, rfl, rfl, by simp⟩, fun t ht => by
        rw [List.mem_singleton.1 ht]
        exact ⟨by simp, by simp at hm ⊢; omega, by simp⟩⟩
    | cons c l =>
      simp only [List.length_cons] at hn hm
      by_cases h32 : c.toNat = 32
      · rw [lex_blank a h32]
        exact ih l.length (by omega) l rfl (a + 1) m (by omega)
      · cases hl : letterN c.toNat with
        | true =>
          have h2 := dw_le (fun c : UInt8 => letterN c.toNat) l
          have h3 : (l.takeWhile fun c => letterN c.toNat).length + (l.dropWhile fun c => letterN c.toNat).length = l.length := by
            rw [← List.length_append, List.takeWhile_append_dropWhile]
          obtain ⟨h4, h5⟩ := ih _ (by omega) (l.dropWhile fun c => letterN c.toNat) rfl (a + 1 + (l.takeWhile fun c => letterN c.toNat).length) m (by omega)
          rw [lex, if_neg h32, if_pos hl]
          obtain ⟨w1, w2, w3, w4⟩ := word_kind (c :: l.takeWhile fun c => letterN c.toNat) a
          obtain ⟨x, z, hx, hz, hne⟩ := h4
          refine ⟨⟨_ :: x, z, by rw [hx]; rfl, hz, fun t ht => ?_⟩, fun t ht => ?_⟩
          · rcases List.mem_cons.1 ht with rfl | ht
            · exact w1
            · exact hne t ht
          · rcases List.mem_cons.1 ht with rfl | ht
            · exact ⟨w3, by omega, by omega⟩
            · exact h5 t ht
        | false =>
          rw [lex_sign a h32 hl]
          obtain ⟨⟨x, z, hx, hz, hne⟩, h5⟩ := ih l.length (by omega) l rfl (a + 1) m (by omega)
          have hk : (if signN c.toNat then c.toNat else 98) ≤ 127 ∧ (if signN c.toNat then c.toNat else 98) ≠ 122 := by
            split
            · have := sign_le ‹_›; omega
            · omega
          refine ⟨⟨_ :: x, z, by rw [hx]; rfl, hz, fun t ht => ?_⟩, fun t ht => ?_⟩
          · rcases List.mem_cons.1 ht with rfl | ht
            · exact hk.2
            · exact hne t ht
          · rcases List.mem_cons.1 ht with rfl | ht
            · exact ⟨by simp, by simp; omega, hk.1⟩
            · exact h5 t ht
theorem lex_len (l : List UInt8) : ∀ (a : Nat), (lex l a).length ≤ l.length + 1 := by
  obtain ⟨n, hn⟩ : ∃ n, n = l.length := ⟨_, rfl⟩
  induction n using Nat.strongRecOn generalizing l with
  | ind n ih =>
    intro a
    cases l with
    | nil => rw [lex_nil]; simp
    | cons c l =>
      simp only [List.length_cons] at hn ⊢
      by_cases h32 : c.toNat = 32
      · rw [lex_blank a h32]
        have := ih l.length (by omega) l rfl (a + 1)
        omega
      · cases hl : letterN c.toNat with
        | true =>
          have h2 := dw_le (fun c : UInt8 => letterN c.toNat) l
          rw [lex, if_neg h32, if_pos hl, List.length_cons]
          have := ih _ (by omega) (l.dropWhile fun c => letterN c.toNat) rfl (a + 1 + (l.takeWhile fun c => letterN c.toNat).length)
          omega
        | false =>
          rw [lex_sign a h32 hl, List.length_cons]
          have := ih l.length (by omega) l rfl (a + 1)
          omega
end Go.Proofs.YtpjciaomhfeeeaaGreatDoor
end

section
namespace Go.Proofs.YtpjciaomhfeeeaaGreatDoor
set_option linter.unusedSimpArgs false
set_option linter.unusedVariables false

/-- the bits of variables -/
def maskL (l : List Nat) : Nat := l.foldl (fun m v => m ||| 2 ^ v) 0
def Ex.varsN : Ex → Nat
  | .const _ => 0
  | .var n => 2 ^ n
  | .not x => x.varsN
  | .pair _ a b => a.varsN ||| b.varsN
  | .bound _ l x => x.varsN ||| maskL l
/-- a without the bits of m -/
def cutN (a m : Nat) : Nat := a ^^^ (a &&& m)
def Ex.freeN : Ex → Nat
  | .const _ => 0
  | .var n => 2 ^ n
  | .not x => x.freeN
  | .pair _ a b => a.freeN ||| b.freeN
  | .bound _ l x => cutN x.freeN (maskL l)
def Ex.Small : Ex → Prop
  | .const _ => True
  | .var n => n ≤ 15
  | .not x => x.Small
  | .pair op a b => rk op ≠ 0 ∧ a.Small ∧ b.Small
  | .bound _ l x => (∀ v ∈ l, v ≤ 15) ∧ x.Small
/-- the bits of the variables among tokens -/
def bitsT (C : List Tok) : Nat := C.foldl (fun m t => if t.kind = 118 then m ||| 2 ^ t.n else m) 0
theorem bits_go (C : List Tok) : ∀ m, C.foldl (fun m t => if t.kind = 118 then m ||| 2 ^ t.n else m) m = m ||| bitsT C := by
  unfold bitsT
  induction C with
  | nil => intro m; simp
  | cons t C ih =>
    intro m
    simp only [List.foldl_cons]
    rw [ih, ih (if t.kind = 118 then 0 ||| 2 ^ t.n else 0)]
    split
    · rw [Nat.zero_or, Nat.or_assoc]
    · rw [Nat.zero_or]
theorem bits_app (C D : List Tok) : bitsT (C ++ D) = bitsT C ||| bitsT D := by
  conv => lhs; unfold bitsT
  rw [List.foldl_append, bits_go D]
  rfl
theorem bits_cons (t : Tok) (D : List Tok) : bitsT (t :: D) = (if t.kind = 118 then 2 ^ t.n else 0) ||| bitsT D := by
  rw [show t :: D = [t] ++ D from rfl, bits_app]
  unfold bitsT
  simp
theorem mask_go (l : List Nat) : ∀ m, l.foldl (fun m v => m ||| 2 ^ v) m = m ||| maskL l := by
  unfold maskL
  induction l with
  | nil => intro m; simp
  | cons v l ih =>
    intro m
    simp only [List.foldl_cons]
    rw [ih, ih (0 ||| 2 ^ v), Nat.zero_or, Nat.or_assoc]
theorem mask_cons (v : Nat) (l : List Nat) : maskL (v :: l) = 2 ^ v ||| maskL l := by
  conv => lhs; unfold maskL
  rw [List.foldl_cons, Nat.zero_or, mask_go]
theorem mask_snoc (v : Nat) (l : List Nat) : maskL (l ++ [v]) = maskL l ||| 2 ^ v := by
  unfold maskL
  rw [List.foldl_append]
  rfl
theorem bits_vars : ∀ (vs : List Tok), (∀ y ∈ vs, y.kind = 118) → bitsT vs = maskL (vs.map (·.n))
  | [], _ => rfl
  | t :: vs, h => by
    rw [bits_cons, if_pos (h t (by simp)), List.map_cons, mask_cons, bits_vars vs fun y hy => h y (by simp [hy])]
theorem pow_lt16 {n : Nat} (h : n ≤ 15) : 2 ^ n < 65536 := by
  have : 2 ^ n ≤ 2 ^ 15 := Nat.pow_le_pow_right (by omega) h
  omega
theorem or_lt16 {a b : Nat} (h : a < 65536) (h2 : b < 65536) : a ||| b < 65536 := Nat.or_lt_two_pow (n := 16) h h2
theorem mask_lt : ∀ (l : List Nat), (∀ v ∈ l, v ≤ 15) → maskL l < 65536
  | [], _ => by decide
  | v :: l, h => by
    rw [mask_cons]
    exact or_lt16 (pow_lt16 (h v (by simp))) (mask_lt l fun y hy => h y (by simp [hy]))
theorem vars_lt : ∀ (x : Ex), x.Small → x.varsN < 65536
  | .const _, _ => by show 0 < 65536; omega
  | .var n, h => pow_lt16 h
  | .not x, h => vars_lt x h
  | .pair _ a b, h => or_lt16 (vars_lt a h.2.1) (vars_lt b h.2.2)
  | .bound _ l x, h => or_lt16 (vars_lt x h.2) (mask_lt l h.1)
theorem cut_lt {a m : Nat} (h : a < 65536) : cutN a m < 65536 := Nat.xor_lt_two_pow (n := 16) h (Nat.lt_of_le_of_lt Nat.and_le_left h)
theorem free_lt : ∀ (x : Ex), x.Small → x.freeN < 65536
  | .const _, _ => by show 0 < 65536; omega
  | .var n, h => pow_lt16 h
  | .not x, h => free_lt x h
  | .pair _ a b, h => or_lt16 (free_lt a h.2.1) (free_lt b h.2.2)
  | .bound _ l x, h => cut_lt (free_lt x h.2)
theorem rk_118 {k : Nat} (h : rk k ≠ 0) : k ≠ 118 := by rintro rfl; exact h rfl
theorem take_drop_mid {α : Type} {C : List α} {i : Nat} {t : α} (h : C[i]? = some t) : C = C.take i ++ t :: C.drop (i + 1) := by
  have hi : i < C.length := by
    rcases Nat.lt_or_ge i C.length with h' | h'
    · exact h'
    · rw [List.getElem?_eq_none h'] at h; cases h
  rw [List.getElem?_eq_getElem hi] at h
  injection h with h
  rw [← h, ← List.drop_eq_getElem_cons hi, List.take_append_drop]
/-- the variables that stand in tokens are those of the expression -/
theorem rt_vars {C x} (h : RT C x) : bitsT C = x.varsN := by
  induction h with
  | @op C i t a b hsp hi hrk _ _ ih1 ih2 =>
    conv => lhs; rw [take_drop_mid hi]
    rw [bits_app, bits_cons, if_neg (rk_118 hrk), Nat.zero_or, ih1, ih2]
    rfl
  | not _ ht _ ih => rw [bits_cons, if_neg (by omega), Nat.zero_or, ih]; rfl
  | par _ ht hu _ ih => rw [bits_cons, if_neg (by omega), Nat.zero_or, bits_app, ih, bits_cons, if_neg (by omega)]; simp [bitsT]
  | bnd _ ht hvs hu _ ih => rw [bits_cons, if_neg (by omega), Nat.zero_or, bits_app, bits_vars _ hvs, bits_cons, if_neg (by omega), Nat.zero_or, ih, Nat.or_comm]; rfl
  | var _ ht => rw [bits_cons, if_pos ht]; simp [bitsT, Ex.varsN]
  | const _ ht => rw [bits_cons, if_neg (by omega)]; simp [bitsT, Ex.varsN]
theorem rt_small {C x} (h : RT C x) : (∀ t ∈ C, t.n ≤ 15) → x.Small := by
  induction h with
  | @op C i t a b hsp hi hrk _ _ ih1 ih2 => exact fun hC => ⟨hrk, ih1 fun t ht => hC t (List.mem_of_mem_take ht), ih2 fun t ht => hC t (List.mem_of_mem_drop ht)⟩
  | not _ ht _ ih => exact fun hC => ih fun t ht => hC t (by simp [ht])
  | par _ ht hu _ ih => exact fun hC => ih fun t ht => hC t (by simp [ht])
  | bnd _ ht hvs hu _ ih =>
    exact fun hC => ⟨fun v hv => by
      obtain ⟨t, h1, rfl⟩ := List.mem_map.1 hv
      exact hC t (by simp [h1]), ih fun t ht => hC t (by simp [ht])⟩
  | var _ ht => exact fun hC => hC _ (by simp)
  | const _ ht => exact fun _ => trivial
end Go.Proofs.YtpjciaomhfeeeaaGreatDoor
end

section
namespace Go.Proofs.YtpjciaomhfeeeaaGreatDoor
open Go.RowKit
set_option linter.unusedSimpArgs false
set_option linter.unusedVariables false

/-- a part of an expression, its type and what it holds, as an interface value -/
abbrev ifV (v : TypeId × Value) : Value := .iface v.1 v.2
/-- the value v is the expression x; what it leads to lies below B -/
def ExAt (w : World) (B : Nat) : Ex → TypeId × Value → Prop
  | .const b, v => v = (139, .bool b)
  | .var n, v => v = (140, .int .i64 (n : Nat))
  | .not x, v => ∃ y, v = (142, .agg #[ifV y]) ∧ ExAt w B x y
  | .pair op a b, v => ∃ y z, v = (113, .agg #[.int .u8 (op : Nat), ifV y, ifV z]) ∧ ExAt w B a y ∧ ExAt w B b z
  | .bound each l x, v => ∃ A n c y, v = (156, .agg #[.bool each, .slice A n c, ifV y]) ∧ OwnI w 0 (.slice A n c) (l.map fun (k : Nat) => (k : Int)) ∧ (∀ k ∈ blk (.slice A n c), k < B) ∧ ExAt w B x y
theorem OwnI.keep {w w' : World} {B : Nat} {v : Value} {l : List Int} (h : OwnI w 0 v l) (hv : ∀ k ∈ blk v, k < B) (hk : ∀ k, k < B → (∃ cs, Blk w k 3 cs) → w'.heap[k]? = w.heap[k]?) : OwnI w' 0 v l := by
  rcases h with ⟨hl, h | ⟨g, cap, cur, rfl, hg, hh, hr⟩⟩
  · exact ⟨hl, .inl h⟩
  · exact ⟨hl, .inr ⟨g, cap, cur, rfl, hg, by rw [hk g (hv g (mem_blk.2 rfl)) ⟨_, hh⟩]; exact hh, hr⟩⟩
theorem ExAt.keep {w w' : World} {B B' : Nat} (hB : B ≤ B') (hk : ∀ k, k < B → (∃ cs, Blk w k 3 cs) → w'.heap[k]? = w.heap[k]?) : ∀ (x : Ex) (v : TypeId × Value), ExAt w B x v → ExAt w' B' x v
  | .const b, v, h => h
  | .var n, v, h => h
  | .not x, v, ⟨y, h, h1⟩ => ⟨y, h, ExAt.keep hB hk x y h1⟩
  | .pair op a b, v, ⟨y, z, h, h1, h2⟩ => ⟨y, z, h, ExAt.keep hB hk a y h1, ExAt.keep hB hk b z h2⟩
  | .bound each l x, v, ⟨A, n, c, y, h, h1, h2, h3⟩ => ⟨A, n, c, y, h, h1.keep h2 hk, fun k hm => Nat.lt_of_lt_of_le (h2 k hm) hB, ExAt.keep hB hk x y h3⟩
/-- .. where only blocks of other types have turned -/
theorem ExAt.chg {w w' : World} {x : Ex} {v : TypeId × Value} {g : Nat} {T : TypeId} {cs : Array Value} (h : ExAt w w.heap.size x v) (hb : Chg [g] w w') (hg : Blk w g T cs) (hT : 3 ≠ T) : ExAt w' w'.heap.size x v :=
  ExAt.keep hb.size (fun k hk ⟨cs', h'⟩ => hb.block k hk fun hm => by
    rw [List.mem_singleton] at hm
    subst hm
    exact Blk.ne_ h' hg hT rfl) x v h
theorem ExAt.below {w w' : World} {x : Ex} {v : TypeId × Value} {B : Nat} (h : ExAt w B x v) (hb : Below B w w') : ExAt w' B x v :=
  ExAt.keep (Nat.le_refl _) (fun k hk _ => hb.block k hk) x v h
theorem ExAt.more {w : World} {x : Ex} {v : TypeId × Value} {B B' : Nat} (h : ExAt w B x v) (hB : B ≤ B') : ExAt w B' x v :=
  ExAt.keep hB (fun k hk _ => rfl) x v h
theorem ExAt.on {w w' : World} {x : Ex} {v : TypeId × Value} (h : ExAt w w.heap.size x v) (hb : Below w.heap.size w w') : ExAt w' w'.heap.size x v := (h.below hb).more hb.size
/-- lists of them -/
def ExsAt (w : World) (B : Nat) : List Ex → List (TypeId × Value) → Prop
  | [], [] => True
  | x :: xs, v :: vs => ExAt w B x v ∧ ExsAt w B xs vs
  | _, _ => False
theorem ExsAt.keep {w w' : World} {B B' : Nat} (hk : ∀ x v, ExAt w B x v → ExAt w' B' x v) : ∀ {xs vs}, ExsAt w B xs vs → ExsAt w' B' xs vs
  | [], [], _ => trivial
  | x :: xs, v :: vs, ⟨h1, h2⟩ => ⟨hk x v h1, ExsAt.keep hk h2⟩
theorem ExsAt.snoc {w : World} {B : Nat} {x v} (h : ExAt w B x v) : ∀ {xs vs}, ExsAt w B xs vs → ExsAt w B (xs ++ [x]) (vs ++ [v])
  | [], [], _ => ⟨h, trivial⟩
  | x :: xs, v :: vs, ⟨h1, h2⟩ => ⟨h1, ExsAt.snoc h h2⟩
theorem ExsAt.length {w : World} {B : Nat} : ∀ {xs vs}, ExsAt w B xs vs → xs.length = vs.length
  | [], [], _ => rfl
  | x :: xs, v :: vs, ⟨_, h2⟩ => by simp [ExsAt.length h2]
/-- two sides with an operator, as a value -/
def pairV (op : Nat) (a b : TypeId × Value) : TypeId × Value := (113, .agg #[.int .u8 (op : Nat), ifV a, ifV b])
def foldLV (op : Nat) : List (TypeId × Value) → TypeId × Value | [] => (0, .bool false) | x :: l => l.foldl (pairV op) x
def foldRV (op : Nat) : List (TypeId × Value) → TypeId × Value | [] => (0, .bool false) | [x] => x | x :: y :: l => pairV op x (foldRV op (y :: l))
def foldXV (r : Nat) (l : List (TypeId × Value)) : TypeId × Value := if r = 2 then foldRV 62 l else foldLV (sgn r) l
theorem foldl_at {w : World} {B op : Nat} : ∀ {xs vs} {x : Ex} {v : TypeId × Value}, ExAt w B x v → ExsAt w B xs vs → ExAt w B (xs.foldl (.pair op) x) (vs.foldl (pairV op) v)
  | [], [], _, _, h, _ => h
  | x :: xs, v :: vs, _, _, h, ⟨h1, h2⟩ => foldl_at (xs := xs) (vs := vs) (⟨_, _, rfl, h, h1⟩) h2
theorem foldr_at {w : World} {B op : Nat} : ∀ {xs vs}, xs ≠ [] → ExsAt w B xs vs → ExAt w B (foldR op xs) (foldRV op vs)
  | [], _, h, _ => absurd rfl h
  | [x], [v], _, h => h.1
  | x :: y :: l, v :: u :: m, _, h => ⟨_, _, rfl, h.1, foldr_at (by simp) h.2⟩
  | [_], [], _, h => h.elim
  | [_], _ :: _ :: _, _, h => h.2.elim
  | _ :: _ :: _, [], _, h => h.elim
  | _ :: _ :: _, [_], _, h => h.2.elim
theorem foldX_at {w : World} {B r : Nat} {xs vs} (h0 : xs ≠ []) (h : ExsAt w B xs vs) : ExAt w B (foldX r xs) (foldXV r vs) := by
  unfold foldX foldXV
  split
  · exact foldr_at h0 h
  · match xs, vs, h with
    | [], _, _ => exact absurd rfl h0
    | x :: xs, v :: vs, h => exact foldl_at h.1 h.2
/-- the last ones of a list, folded to the right -/
theorem foldRV_drop {op : Nat} {l : List (TypeId × Value)} {k : Nat} {x : TypeId × Value} (h : l[k]? = some x) (hk : k + 1 < l.length) : foldRV op (l.drop k) = pairV op x (foldRV op (l.drop (k + 1))) := by
  have h1 : l.drop k = x :: l.drop (k + 1) := by
    rw [List.drop_eq_getElem_cons (by omega)]
    rw [List.getElem?_eq_getElem (by omega)] at h
    injection h with h
    rw [h]
  rw [h1]
  cases h2 : l.drop (k + 1) with
  | nil => have := congrArg List.length h2; simp at this; omega
  | cons y m => rfl
end Go.Proofs.YtpjciaomhfeeeaaGreatDoor
end
