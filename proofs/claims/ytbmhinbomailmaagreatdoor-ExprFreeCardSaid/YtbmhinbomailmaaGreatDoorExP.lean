/- Expressions: tokens, how the program parses them, how the document does; they agree. -/
namespace Go.Proofs.YtbmhinbomailmaaGreatDoor
set_option linter.unusedSimpArgs false
set_option linter.unusedVariables false

/-- a token: its kind, number and place -/
structure Tok where
  kind : Nat
  n : Nat
  at_ : Nat
deriving DecidableEq
/-- an expression -/
inductive Ex where
  | const (b : Bool)
  | var (n : Nat)
  | not (x : Ex)
  | pair (op : Nat) (a b : Ex)
  | bound (each : Bool) (l : List Nat) (x : Ex)
/-- the rank of an operator; 0: none -/
def rk (k : Nat) : Nat := if k = 61 then 1 else if k = 62 then 2 else if k = 94 then 3 else if k = 124 then 4 else if k = 38 then 5 else 0
/-- the operator of a rank -/
def sgn (r : Nat) : Nat := if r = 1 then 61 else if r = 2 then 62 else if r = 3 then 94 else if r = 4 then 124 else 38
/-- an expression may begin so -/
def begins (k : Nat) : Bool := k == 48 || k == 49 || k == 118 || k == 115 || k == 101 || k == 33 || k == 40
theorem rk_le (k : Nat) : rk k ≤ 5 := by unfold rk; (repeat' split) <;> omega
theorem rk_sgn {k r : Nat} (h : rk k = r) (h0 : r ≠ 0) : k = sgn r := by
  unfold rk at h
  unfold sgn
  repeat' split at h
  all_goals (subst h; simp_all)
def foldL (op : Nat) : List Ex → Ex | [] => .const false | x :: l => l.foldl (.pair op) x
def foldR (op : Nat) : List Ex → Ex | [] => .const false | [x] => x | x :: y :: l => .pair op x (foldR op (y :: l))
/-- sides of operators of one rank, put together -/
def foldX (r : Nat) (l : List Ex) : Ex := if r = 2 then foldR 62 l else foldL (sgn r) l
inductive Res where
  | err (c p : Nat)
  | ok (l : List Ex) (L : List Tok)
inductive Job where
  | not
  | lev (r : Nat)
  | parts (r : Nat)
/-- what the parser makes of the tokens that are left, at a depth -/
inductive Run : Job → Nat → List Tok → Res → Prop
  | const {d t L} : t.kind = 48 ∨ t.kind = 49 → Run .not d (t :: L) (.ok [.const (t.kind == 49)] L)
  | var {d t L} : t.kind = 118 → Run .not d (t :: L) (.ok [.var t.n] L)
  | deep {d t u L} : t.kind = 33 ∨ t.kind = 40 → begins u.kind = true → 200 < d + 1 → Run .not d (t :: u :: L) (.err 12 u.at_)
  | bangE {d t u L c p} : t.kind = 33 → ¬ (begins u.kind = true ∧ 200 < d + 1) → Run .not (d + 1) (u :: L) (.err c p) → Run .not d (t :: u :: L) (.err c p)
  | bang {d t u L x L'} : t.kind = 33 → ¬ (begins u.kind = true ∧ 200 < d + 1) → Run .not (d + 1) (u :: L) (.ok [x] L') → Run .not d (t :: u :: L) (.ok [.not x] L')
  | parE {d t u L c p} : t.kind = 40 → ¬ (begins u.kind = true ∧ 200 < d + 1) → Run (.lev 1) (d + 1) (u :: L) (.err c p) → Run .not d (t :: u :: L) (.err c p)
  | parW {d t u L l v L'} : t.kind = 40 → ¬ (begins u.kind = true ∧ 200 < d + 1) → Run (.lev 1) (d + 1) (u :: L) (.ok l (v :: L')) → v.kind ≠ 41 → Run .not d (t :: u :: L) (.err 10 v.at_)
  | par {d t u L x v L'} : t.kind = 40 → ¬ (begins u.kind = true ∧ 200 < d + 1) → Run (.lev 1) (d + 1) (u :: L) (.ok [x] (v :: L')) → v.kind = 41 → Run .not d (t :: u :: L) (.ok [x] L')
  | bndW {d t u L} : t.kind = 115 ∨ t.kind = 101 → u.kind ≠ 118 → Run .not d (t :: u :: L) (.err 10 u.at_)
  | bndD {d t u L} : t.kind = 115 ∨ t.kind = 101 → u.kind = 118 → 200 < d + 1 → Run .not d (t :: u :: L) (.err 12 u.at_)
  | bndS {d t u vs v L'} : t.kind = 115 ∨ t.kind = 101 → u.kind = 118 → d + 1 ≤ 200 → (∀ y ∈ vs, y.kind = 118) → v.kind ≠ 118 → v.kind ≠ 46 → Run .not d (t :: u :: (vs ++ v :: L')) (.err 10 v.at_)
  | bndE {d t u vs v L' c p} : t.kind = 115 ∨ t.kind = 101 → u.kind = 118 → d + 1 ≤ 200 → (∀ y ∈ vs, y.kind = 118) → v.kind = 46 → Run .not (d + 1) L' (.err c p) → Run .not d (t :: u :: (vs ++ v :: L')) (.err c p)
  | bnd {d t u vs v L' x L''} : t.kind = 115 ∨ t.kind = 101 → u.kind = 118 → d + 1 ≤ 200 → (∀ y ∈ vs, y.kind = 118) → v.kind = 46 → Run .not (d + 1) L' (.ok [x] L'') → Run .not d (t :: u :: (vs ++ v :: L')) (.ok [.bound (t.kind == 101) ((u :: vs).map (·.n)) x] L'')
  | bad {d t L} : begins t.kind = false → Run .not d (t :: L) (.err 10 t.at_)
  | levN {r d L res} : 5 < r → Run .not d L res → Run (.lev r) d L res
  | parts1 {r d L res} : r ≤ 5 → Run (.lev (r + 1)) d L res → Run (.parts r) d L res
  | partsE {r d L l t L1 c p} : Run (.parts r) d L (.ok l (t :: L1)) → rk t.kind = r → Run (.lev (r + 1)) d L1 (.err c p) → Run (.parts r) d L (.err c p)
  | partsS {r d L l t L1 x L2} : Run (.parts r) d L (.ok l (t :: L1)) → rk t.kind = r → Run (.lev (r + 1)) d L1 (.ok [x] L2) → Run (.parts r) d L (.ok (l ++ [x]) L2)
  | levE {r d L c p} : r ≤ 5 → Run (.parts r) d L (.err c p) → Run (.lev r) d L (.err c p)
  | levD {r d L l t L1} : r ≤ 5 → Run (.parts r) d L (.ok l (t :: L1)) → rk t.kind ≠ r → Run (.lev r) d L (.ok [foldX r l] (t :: L1))

/-- what stands around, behind something whole -/
def whole : List Nat → List Nat | [] => [] | k :: l => if k = 33 then whole l else k :: l
/-- the document's look at tokens: what stands around (the nearest first), the state -/
def wrongGo : List Nat → Nat → List Tok → Nat × Nat
  | _, _, [] => (0, 0)
  | A, st, t :: L =>
    if ((st = 0 ∧ begins t.kind = true) ∨ (st = 2 ∧ t.kind = 118)) ∧ 200 < A.length then (t.at_, 12)
    else if st = 0 ∧ (t.kind = 33 ∨ t.kind = 40) then wrongGo (t.kind :: A) 0 L
    else if st = 0 ∧ (t.kind = 115 ∨ t.kind = 101) then wrongGo (33 :: A) 2 L
    else if st = 0 ∧ begins t.kind = true then wrongGo (whole A) 1 L
    else if st = 2 ∧ t.kind = 118 then wrongGo A 3 L
    else if st = 3 ∧ t.kind = 118 then wrongGo A 3 L
    else if st = 3 ∧ t.kind = 46 then wrongGo A 0 L
    else if st = 1 ∧ rk t.kind ≠ 0 then wrongGo A 0 L
    else if st = 1 ∧ t.kind = 41 ∧ 0 < A.length then wrongGo (whole A.tail) 1 L
    else if st = 1 ∧ t.kind = 122 ∧ A.length = 0 then (0, 0)
    else (t.at_, 10)
def hdk : List Tok → Nat | [] => 0 | t :: _ => t.kind
theorem begins_iff (k : Nat) : begins k = true ↔ k = 48 ∨ k = 49 ∨ k = 118 ∨ k = 115 ∨ k = 101 ∨ k = 33 ∨ k = 40 := by
  unfold begins
  simp only [Bool.or_eq_true, beq_iff_eq]
  omega
theorem whole_whole (A : List Nat) : whole (whole A) = whole A := by
  induction A with
  | nil => rfl
  | cons k l ih =>
    by_cases h : k = 33
    · rw [whole, if_pos h, ih]
    · rw [whole, if_neg h, whole, if_neg h]
theorem more_vars (A : List Nat) : ∀ (vs : List Tok) (L : List Tok), (∀ y ∈ vs, y.kind = 118) → wrongGo A 3 (vs ++ L) = wrongGo A 3 L
  | [], _, _ => rfl
  | t :: vs, L, h => by
    have ht : t.kind = 118 := h t (by simp)
    rw [List.cons_append, wrongGo]
    simp [ht]
    exact more_vars A vs L (fun y hy => h y (by simp [hy]))
/-- what is to be shown of a run -/
def Agree (j : Job) (d : Nat) (L : List Tok) (res : Res) : Prop :=
  ∀ A : List Nat, A.length = d → (begins (hdk L) = true → d ≤ 200) → (j ≠ .not → whole A = A) →
  match res with
  | .err c p => wrongGo A 0 L = (p, c) ∧ (c = 10 ∨ c = 12)
  | .ok _ L' => wrongGo A 0 L = wrongGo (whole A) 1 L' ∧ d ≤ 200 ∧ (match j with | .lev r => rk (hdk L') < r | .parts r => rk (hdk L') < r + 1 | .not => True)
theorem run_agree {j d L res} (h : Run j d L res) (hr : match j with | .lev r => 0 < r | .parts r => 0 < r | .not => True) : Agree j d L res := by
  induction h with
  | const hk =>
    intro A hA hd _
    have hb := hd (by rw [hdk, begins_iff]; omega)
    refine ⟨?_, hb, trivial⟩
    rw [wrongGo, if_neg (by omega), if_neg (by omega), if_neg (by omega), if_pos ⟨rfl, by rw [begins_iff]; omega⟩]
  | var hk =>
    intro A hA hd _
    have hb := hd (by rw [hdk, begins_iff]; omega)
    refine ⟨?_, hb, trivial⟩
    rw [wrongGo, if_neg (by omega), if_neg (by omega), if_neg (by omega), if_pos ⟨rfl, by rw [begins_iff]; omega⟩]
  | deep hk hu h2 =>
    intro A hA hd _
    have hb := hd (by rw [hdk, begins_iff]; omega)
    refine ⟨?_, by omega⟩
    rw [wrongGo, if_neg (by omega), if_pos ⟨rfl, hk⟩, wrongGo, if_pos ⟨.inl ⟨rfl, hu⟩, by simp; omega⟩]
  | bangE hk hu _ ih =>
    intro A hA hd _
    have hb := hd (by rw [hdk, begins_iff]; omega)
    obtain ⟨h1, h2⟩ := ih trivial (33 :: A) (by simp [hA]) (fun h => by rw [hdk] at h; rcases Nat.lt_or_ge 200 (_ + 1) with h' | h'; exact absurd ⟨h, h'⟩ hu; exact h') (fun h => absurd rfl h)
    refine ⟨?_, h2⟩
    rw [wrongGo, if_neg (by omega), if_pos ⟨rfl, .inl hk⟩, hk, h1]
  | bang hk hu _ ih =>
    intro A hA hd _
    have hb := hd (by rw [hdk, begins_iff]; omega)
    obtain ⟨h1, h2, _⟩ := ih trivial (33 :: A) (by simp [hA]) (fun h => by rw [hdk] at h; rcases Nat.lt_or_ge 200 (_ + 1) with h' | h'; exact absurd ⟨h, h'⟩ hu; exact h') (fun h => absurd rfl h)
    refine ⟨?_, hb, trivial⟩
    rw [wrongGo, if_neg (by omega), if_pos ⟨rfl, .inl hk⟩, hk, h1, whole, if_pos rfl]
  | parE hk hu _ ih =>
    intro A hA hd _
    have hb := hd (by rw [hdk, begins_iff]; omega)
    obtain ⟨h1, h2⟩ := ih (Nat.succ_pos _) (40 :: A) (by simp [hA]) (fun h => by rw [hdk] at h; rcases Nat.lt_or_ge 200 (_ + 1) with h' | h'; exact absurd ⟨h, h'⟩ hu; exact h') (fun h => by rw [whole, if_neg (by decide)])
    refine ⟨?_, h2⟩
    rw [wrongGo, if_neg (by omega), if_pos ⟨rfl, .inr hk⟩, hk, h1]
  | parW hk hu _ hv ih =>
    intro A hA hd _
    have hb := hd (by rw [hdk, begins_iff]; omega)
    obtain ⟨h1, _, h3⟩ := ih (Nat.succ_pos _) (40 :: A) (by simp [hA]) (fun h => by rw [hdk] at h; rcases Nat.lt_or_ge 200 (_ + 1) with h' | h'; exact absurd ⟨h, h'⟩ hu; exact h') (fun h => by rw [whole, if_neg (by decide)])
    refine ⟨?_, by omega⟩
    simp only [hdk] at h3
    rw [wrongGo, if_neg (by omega), if_pos ⟨rfl, .inr hk⟩, hk, h1, whole, if_neg (by decide), wrongGo, if_neg (by omega), if_neg (by omega), if_neg (by omega), if_neg (by omega), if_neg (by omega), if_neg (by omega), if_neg (by omega), if_neg (by omega), if_neg (by omega), if_neg (by simp)]
  | par hk hu _ hv ih =>
    intro A hA hd _
    have hb := hd (by rw [hdk, begins_iff]; omega)
    obtain ⟨h1, _, h3⟩ := ih (Nat.succ_pos _) (40 :: A) (by simp [hA]) (fun h => by rw [hdk] at h; rcases Nat.lt_or_ge 200 (_ + 1) with h' | h'; exact absurd ⟨h, h'⟩ hu; exact h') (fun h => by rw [whole, if_neg (by decide)])
    refine ⟨?_, hb, trivial⟩
    simp only [hdk] at h3
    rw [wrongGo, if_neg (by omega), if_pos ⟨rfl, .inr hk⟩, hk, h1, whole, if_neg (by decide), wrongGo, if_neg (by omega), if_neg (by omega), if_neg (by omega), if_neg (by omega), if_neg (by omega), if_neg (by omega), if_neg (by omega), if_neg (by omega), if_pos ⟨rfl, hv, by simp⟩]
    rfl
  | bndW hk hu =>
    intro A hA hd _
    have hb := hd (by rw [hdk, begins_iff]; omega)
    refine ⟨?_, by omega⟩
    rw [wrongGo, if_neg (by omega), if_neg (by omega), if_pos ⟨rfl, hk⟩, wrongGo, if_neg (by omega), if_neg (by omega), if_neg (by omega), if_neg (by omega), if_neg (by omega), if_neg (by omega), if_neg (by omega), if_neg (by omega), if_neg (by omega), if_neg (by omega)]
  | bndD hk hu h2 =>
    intro A hA hd _
    have hb := hd (by rw [hdk, begins_iff]; omega)
    refine ⟨?_, by omega⟩
    rw [wrongGo, if_neg (by omega), if_neg (by omega), if_pos ⟨rfl, hk⟩, wrongGo, if_pos ⟨.inr ⟨rfl, hu⟩, by simp; omega⟩]
  | bndS hk hu h2 hvs h3 h4 =>
    intro A hA hd _
    have hb := hd (by rw [hdk, begins_iff]; omega)
    refine ⟨?_, by omega⟩
    rw [wrongGo, if_neg (by omega), if_neg (by omega), if_pos ⟨rfl, hk⟩, wrongGo, if_neg (by simp; omega), if_neg (by omega), if_neg (by omega), if_neg (by omega), if_pos ⟨rfl, hu⟩, more_vars _ _ _ hvs, wrongGo, if_neg (by omega), if_neg (by omega), if_neg (by omega), if_neg (by omega), if_neg (by omega), if_neg (by omega), if_neg (by omega), if_neg (by omega), if_neg (by omega), if_neg (by omega)]
  | bndE hk hu h2 hvs h3 _ ih =>
    intro A hA hd _
    have hb := hd (by rw [hdk, begins_iff]; omega)
    obtain ⟨h4, h5⟩ := ih trivial (33 :: A) (by simp [hA]) (fun h => h2) (fun h => absurd rfl h)
    refine ⟨?_, h5⟩
    rw [wrongGo, if_neg (by omega), if_neg (by omega), if_pos ⟨rfl, hk⟩, wrongGo, if_neg (by simp; omega), if_neg (by omega), if_neg (by omega), if_neg (by omega), if_pos ⟨rfl, hu⟩, more_vars _ _ _ hvs, wrongGo, if_neg (by omega), if_neg (by omega), if_neg (by omega), if_neg (by omega), if_neg (by omega), if_neg (by omega), if_pos ⟨rfl, h3⟩, h4]
  | bnd hk hu h2 hvs h3 _ ih =>
    intro A hA hd _
    have hb := hd (by rw [hdk, begins_iff]; omega)
    obtain ⟨h4, h5, _⟩ := ih trivial (33 :: A) (by simp [hA]) (fun h => h2) (fun h => absurd rfl h)
    refine ⟨?_, hb, trivial⟩
    rw [wrongGo, if_neg (by omega), if_neg (by omega), if_pos ⟨rfl, hk⟩, wrongGo, if_neg (by simp; omega), if_neg (by omega), if_neg (by omega), if_neg (by omega), if_pos ⟨rfl, hu⟩, more_vars _ _ _ hvs, wrongGo, if_neg (by omega), if_neg (by omega), if_neg (by omega), if_neg (by omega), if_neg (by omega), if_neg (by omega), if_pos ⟨rfl, h3⟩, h4, whole, if_pos rfl]
  | @bad d t L hb =>
    intro A hA hd _
    refine ⟨?_, by omega⟩
    have hn := begins_iff t.kind
    rw [hb] at hn
    rw [wrongGo, if_neg (by rw [hb]; simp), if_neg (by simp at hn; omega), if_neg (by simp at hn; omega), if_neg (by rw [hb]; simp), if_neg (by omega), if_neg (by omega), if_neg (by omega), if_neg (by omega), if_neg (by omega), if_neg (by omega)]
  | @levN r d L res h5 _ ih =>
    intro A hA hd hw
    have := ih trivial A hA hd (fun h => absurd rfl h)
    cases res with
    | err c p => exact this
    | ok l L' => exact ⟨this.1, this.2.1, by have := rk_le (hdk L'); omega⟩
  | @parts1 r d L res h5 _ ih =>
    intro A hA hd hw
    have := ih (Nat.succ_pos _) A hA hd (fun _ => hw (by simp))
    cases res with
    | err c p => exact this
    | ok l L' => exact this
  | partsE _ hrk _ ih1 ih2 =>
    intro A hA hd hw
    obtain ⟨h1, h2, _⟩ := ih1 hr A hA hd hw
    have hwA := hw (by simp)
    obtain ⟨h3, h4⟩ := ih2 (Nat.succ_pos _) A hA (fun _ => h2) (fun _ => hwA)
    refine ⟨?_, h4⟩
    simp only at hr
    rw [h1, hwA, wrongGo, if_neg (by omega), if_neg (by omega), if_neg (by omega), if_neg (by omega), if_neg (by omega), if_neg (by omega), if_neg (by omega), if_pos ⟨rfl, by omega⟩, h3]
  | partsS _ hrk _ ih1 ih2 =>
    intro A hA hd hw
    obtain ⟨h1, h2, _⟩ := ih1 hr A hA hd hw
    have hwA := hw (by simp)
    obtain ⟨h3, h4, h5⟩ := ih2 (Nat.succ_pos _) A hA (fun _ => h2) (fun _ => hwA)
    refine ⟨?_, h4, h5⟩
    simp only at hr
    rw [h1, hwA, wrongGo, if_neg (by omega), if_neg (by omega), if_neg (by omega), if_neg (by omega), if_neg (by omega), if_neg (by omega), if_neg (by omega), if_pos ⟨rfl, by omega⟩, h3, hwA]
  | levE h5 _ ih =>
    intro A hA hd hw
    exact ih hr A hA hd (fun _ => hw (by simp))
  | levD h5 _ hne ih =>
    intro A hA hd hw
    obtain ⟨h1, h2, h3⟩ := ih hr A hA hd (fun _ => hw (by simp))
    exact ⟨h1, h2, by simp only [hdk] at h3 ⊢; omega⟩
/-- the document's search for an operator: its place, and the depth behind -/
def scan (k : Nat) : List Tok → Nat → Int → Option Nat → Option Nat × Int
  | [], _, d, a => (a, d)
  | t :: l, i, d, a =>
    if t.kind = 40 then scan k l (i + 1) (d + 1) a
    else if t.kind = 41 then scan k l (i + 1) (d - 1) a
    else if t.kind = k ∧ d = 0 ∧ (a = none ∨ k ≠ 62) then scan k l (i + 1) d (some i)
    else scan k l (i + 1) d a
/-- the place of the operator that is done last -/
def splitT (C : List Tok) : Option Nat :=
  match (scan 61 C 0 0 none).1 with
  | some a => some a
  | none => match (scan 62 C 0 0 none).1 with
    | some a => some a
    | none => match (scan 94 C 0 0 none).1 with
      | some a => some a
      | none => match (scan 124 C 0 0 none).1 with
        | some a => some a
        | none => (scan 38 C 0 0 none).1
/-- the expression that tokens are, by the document -/
inductive RT : List Tok → Ex → Prop
  | op {C : List Tok} {i t a b} : splitT C = some i → C[i]? = some t → rk t.kind ≠ 0 → RT (C.take i) a → RT (C.drop (i + 1)) b → RT C (.pair t.kind a b)
  | not {C t x} : splitT (t :: C) = none → t.kind = 33 → RT C x → RT (t :: C) (.not x)
  | par {C t u x} : splitT (t :: (C ++ [u])) = none → t.kind = 40 → u.kind = 41 → RT C x → RT (t :: (C ++ [u])) x
  | bnd {C t vs u x} : splitT (t :: (vs ++ u :: C)) = none → t.kind = 115 ∨ t.kind = 101 → (∀ y ∈ vs, y.kind = 118) → u.kind = 46 → RT C x → RT (t :: (vs ++ u :: C)) (.bound (t.kind == 101) (vs.map (·.n)) x)
  | var {t} : splitT [t] = none → t.kind = 118 → RT [t] (.var t.n)
  | const {t} : splitT [t] = none → t.kind = 48 ∨ t.kind = 49 → RT [t] (.const (t.kind == 49))
theorem scan_append (k : Nat) : ∀ (C D : List Tok) (i : Nat) (d : Int) (a : Option Nat), scan k (C ++ D) i d a = scan k D (i + C.length) (scan k C i d a).2 (scan k C i d a).1
  | [], D, i, d, a => by simp [scan]
  | t :: C, D, i, d, a => by
    simp only [List.cons_append, scan, List.length_cons]
    split
    · rw [scan_append k C D, show i + 1 + C.length = i + (C.length + 1) by omega]
    · split
      · rw [scan_append k C D, show i + 1 + C.length = i + (C.length + 1) by omega]
      · split
        · rw [scan_append k C D, show i + 1 + C.length = i + (C.length + 1) by omega]
        · rw [scan_append k C D, show i + 1 + C.length = i + (C.length + 1) by omega]
/-- inside brackets nothing is found -/
def Deep (C : List Tok) : Prop := ∀ (k i : Nat) (d : Int) (a : Option Nat), 1 ≤ d → scan k C i d a = (a, d)
/-- no operator of a rank below r stands free -/
def Clean (r : Nat) (C : List Tok) : Prop := ∀ (k i : Nat) (a : Option Nat), rk k ≠ 0 → rk k < r → scan k C i 0 a = (a, 0)
structure Seg (r : Nat) (C : List Tok) (x : Ex) : Prop where
  deep : Deep C
  clean : Clean r C
  rt : RT C x
  ne : C ≠ []
inductive Segs (r : Nat) : List Tok → List Ex → Prop
  | one {C x} : Seg (r + 1) C x → Segs r C [x]
  | snoc {C l t D x} : Segs r C l → rk t.kind = r → Seg (r + 1) D x → Segs r (C ++ t :: D) (l ++ [x])
inductive SegsR (r : Nat) : List Tok → List Ex → Prop
  | one {C x} : Seg (r + 1) C x → SegsR r C [x]
  | cons {C x t D l} : Seg (r + 1) C x → rk t.kind = r → SegsR r D l → SegsR r (C ++ t :: D) (x :: l)
theorem SegsR.snoc {r C l t D x} (h : SegsR r C l) (ht : rk t.kind = r) (hD : Seg (r + 1) D x) : SegsR r (C ++ t :: D) (l ++ [x]) := by
  induction h with
  | one h => exact .cons h ht (.one hD)
  | cons h1 h2 _ ih => rw [List.append_assoc, List.cons_append, List.cons_append]; exact .cons h1 h2 ih
theorem Segs.right {r C l} (h : Segs r C l) : SegsR r C l := by
  induction h with
  | one h => exact .one h
  | snoc _ h2 h3 ih => exact ih.snoc h2 h3
theorem rk_40 : rk 40 = 0 := rfl
theorem rk_pos_sgn {r : Nat} (h0 : 0 < r) (h5 : r ≤ 5) : rk (sgn r) = r ∧ sgn r ≠ 40 ∧ sgn r ≠ 41 := by
  rcases (show r = 1 ∨ r = 2 ∨ r = 3 ∨ r = 4 ∨ r = 5 by omega) with rfl | rfl | rfl | rfl | rfl <;> decide
theorem Clean.mono {r s C} (h : Clean s C) (hrs : r ≤ s) : Clean r C := fun k i a h0 h1 => h k i a h0 (by omega)
theorem Clean.six {r C} (h : Clean 6 C) : Clean r C := fun k i a h0 h1 => h k i a h0 (by have := rk_le k; omega)
/-- one token that is neither a bracket nor an operator -/
theorem scan_plain {k : Nat} {t : Tok} {l : List Tok} {i : Nat} {d : Int} {a : Option Nat} (h40 : t.kind ≠ 40) (h41 : t.kind ≠ 41) (h : t.kind ≠ k ∨ d ≠ 0) : scan k (t :: l) i d a = scan k l (i + 1) d a := by
  rw [scan, if_neg h40, if_neg h41, if_neg (by omega)]
theorem deep_cons {t : Tok} {C : List Tok} (h40 : t.kind ≠ 40) (h41 : t.kind ≠ 41) (h : Deep C) : Deep (t :: C) := fun k i d a hd => by
  rw [scan_plain h40 h41 (.inr (by omega)), h k _ d a hd]
theorem clean_cons {r : Nat} {t : Tok} {C : List Tok} (h40 : t.kind ≠ 40) (h41 : t.kind ≠ 41) (hrk : rk t.kind = 0 ∨ r ≤ rk t.kind) (h : Clean r C) : Clean r (t :: C) := fun k i a h0 h1 => by
  rw [scan_plain h40 h41 (.inl fun e => by rw [e] at hrk; omega), h k _ a h0 h1]
theorem deep_nil : Deep [] := fun k i d a _ => rfl
theorem clean_nil {r} : Clean r [] := fun k i a _ _ => rfl
theorem deep_app {C D : List Tok} (h : Deep C) (h2 : Deep D) : Deep (C ++ D) := fun k i d a hd => by rw [scan_append, h k i d a hd, h2 k _ d a hd]
theorem clean_app {r : Nat} {C D : List Tok} (h : Clean r C) (h2 : Clean r D) : Clean r (C ++ D) := fun k i a h0 h1 => by rw [scan_append, h k i a h0 h1, h2 k _ a h0 h1]
theorem deep_par {t u : Tok} {C : List Tok} (ht : t.kind = 40) (hu : u.kind = 41) (h : Deep C) : Deep (t :: (C ++ [u])) := fun k i d a hd => by
  rw [scan, if_pos ht, scan_append, h k _ _ _ (by omega), scan, if_neg (by omega), if_pos hu]
  simp [scan]
theorem clean_par {r : Nat} {t u : Tok} {C : List Tok} (ht : t.kind = 40) (hu : u.kind = 41) (h : Deep C) : Clean r (t :: (C ++ [u])) := fun k i a h0 h1 => by
  rw [scan, if_pos ht, scan_append, h k _ _ _ (by omega), scan, if_neg (by omega), if_pos hu]
  simp [scan]
/-- no operator stands free: nothing is split -/
theorem split_none {C : List Tok} (h : Clean 6 C) : splitT C = none := by
  unfold splitT
  rw [h 61 0 none (by decide) (by decide), h 62 0 none (by decide) (by decide), h 94 0 none (by decide) (by decide), h 124 0 none (by decide) (by decide), h 38 0 none (by decide) (by decide)]
/-- the least rank with a free operator: there is split -/
theorem split_some {r i : Nat} {C : List Tok} (h0 : 0 < r) (h5 : r ≤ 5) (hc : Clean r C) (h : (scan (sgn r) C 0 0 none).1 = some i) : splitT C = some i := by
  unfold splitT
  rcases (show r = 1 ∨ r = 2 ∨ r = 3 ∨ r = 4 ∨ r = 5 by omega) with rfl | rfl | rfl | rfl | rfl
  · rw [show scan 61 C 0 0 none = scan (sgn 1) C 0 0 none from rfl, h]
  · rw [hc 61 0 none (by decide) (by decide), show scan 62 C 0 0 none = scan (sgn 2) C 0 0 none from rfl, h]
  · rw [hc 61 0 none (by decide) (by decide), hc 62 0 none (by decide) (by decide), show scan 94 C 0 0 none = scan (sgn 3) C 0 0 none from rfl, h]
  · rw [hc 61 0 none (by decide) (by decide), hc 62 0 none (by decide) (by decide), hc 94 0 none (by decide) (by decide), show scan 124 C 0 0 none = scan (sgn 4) C 0 0 none from rfl, h]
  · rw [hc 61 0 none (by decide) (by decide), hc 62 0 none (by decide) (by decide), hc 94 0 none (by decide) (by decide), hc 124 0 none (by decide) (by decide), show scan 38 C 0 0 none = scan (sgn 5) C 0 0 none from rfl, h]
theorem Seg.down {r C x} (h : Seg (r + 1) C x) : Seg r C x := ⟨h.deep, h.clean.mono (by omega), h.rt, h.ne⟩
/-- the depth behind a segment that starts free -/
theorem seg_scan {r : Nat} (h0 : 0 < r) (h5 : r ≤ 5) {C : List Tok} (h : Clean (r + 1) C) (i : Nat) (a : Option Nat) : scan (sgn r) C i 0 a = (a, 0) := h _ i a (by rw [(rk_pos_sgn h0 h5).1]; omega) (by rw [(rk_pos_sgn h0 h5).1]; omega)
theorem tok_op {r : Nat} {t : Tok} (h0 : 0 < r) (ht : rk t.kind = r) : t.kind = sgn r ∧ t.kind ≠ 40 ∧ t.kind ≠ 41 := by
  have h5 := rk_le t.kind
  have := rk_sgn ht (by omega)
  have h := rk_pos_sgn h0 (by omega)
  rw [← this] at h
  exact ⟨this, h.2⟩
theorem take_mid {α : Type} (C : List α) (t : α) (D : List α) : (C ++ t :: D).take C.length = C ∧ (C ++ t :: D).drop (C.length + 1) = D ∧ (C ++ t :: D)[C.length]? = some t := by
  refine ⟨by simp, ?_, by simp⟩
  rw [List.drop_append, show C.length + 1 - C.length = 1 by omega]
  simp
theorem Segs.left {r C l} (h : Segs r C l) (h0 : 0 < r) (h5 : r ≤ 5) (hr : r ≠ 2) : l ≠ [] ∧ Deep C ∧ C ≠ [] ∧ Clean r C ∧ (∀ i a, (scan (sgn r) C i 0 a).2 = 0) ∧ RT C (foldL (sgn r) l) := by
  induction h with
  | one h => exact ⟨by simp, h.deep, h.ne, h.clean.mono (by omega), fun i a => by rw [seg_scan h0 h5 h.clean], h.rt⟩
  | @snoc C l t D x h1 h2 h3 ih =>
    obtain ⟨hl, hd, hne, hc, hs, hrt⟩ := ih
    obtain ⟨k1, k2, k3⟩ := tok_op h0 h2
    have hc2 : Clean r (C ++ t :: D) := clean_app hc (clean_cons k2 k3 (.inr (by omega)) (h3.clean.mono (by omega)))
    have hsc : ∀ i a, scan (sgn r) (C ++ t :: D) i 0 a = (some (i + C.length), 0) := fun i a => by
      rw [scan_append, hs, scan, if_neg k2, if_neg k3, if_pos ⟨k1, rfl, .inr (by
        intro e
        have := (rk_pos_sgn h0 h5).1
        rw [e] at this
        exact hr this.symm)⟩, seg_scan h0 h5 h3.clean]
    refine ⟨by simp, deep_app hd (deep_cons k2 k3 h3.deep), by simp, hc2, fun i a => by rw [hsc], ?_⟩
    have hsp : splitT (C ++ t :: D) = some C.length := split_some h0 h5 hc2 (by rw [hsc, Nat.zero_add])
    obtain ⟨m1, m2, m3⟩ := take_mid C t D
    have := RT.op hsp m3 (by omega) (m1.symm ▸ hrt) (m2.symm ▸ h3.rt)
    rw [k1] at this
    cases l with
    | nil => exact absurd rfl hl
    | cons y l => simpa [foldL, List.foldl_append] using this
theorem scan_first (C : List Tok) : ∀ (i : Nat) (d : Int) (j : Nat), (scan 62 C i d (some j)).1 = some j := by
  induction C with
  | nil => intro i d j; rfl
  | cons t C ih =>
    intro i d j
    rw [scan]
    split
    · exact ih _ _ _
    · split
      · exact ih _ _ _
      · rw [if_neg (by simp)]; exact ih _ _ _
theorem SegsR.rt {C l} (h : SegsR 2 C l) : l ≠ [] ∧ Deep C ∧ C ≠ [] ∧ Clean 2 C ∧ RT C (foldR 62 l) := by
  induction h with
  | one h => exact ⟨by simp, h.deep, h.ne, h.clean.mono (by omega), h.rt⟩
  | @cons C x t D l h1 h2 h3 ih =>
    obtain ⟨hl, hd, hne, hc, hrt⟩ := ih
    obtain ⟨k1, k2, k3⟩ := tok_op (by omega) h2
    have hc2 : Clean 2 (C ++ t :: D) := clean_app (h1.clean.mono (by omega)) (clean_cons k2 k3 (.inr (by omega)) hc)
    refine ⟨by simp, deep_app h1.deep (deep_cons k2 k3 hd), by simp, hc2, ?_⟩
    have hsc : (scan (sgn 2) (C ++ t :: D) 0 0 none).1 = some C.length := by
      rw [scan_append, seg_scan (by omega) (by omega) h1.clean, scan, if_neg k2, if_neg k3, if_pos ⟨k1, rfl, .inl rfl⟩, Nat.zero_add]
      exact scan_first D _ _ _
    have hsp : splitT (C ++ t :: D) = some C.length := split_some (by omega) (by omega) hc2 hsc
    obtain ⟨m1, m2, m3⟩ := take_mid C t D
    have := RT.op hsp m3 (by omega) (m1.symm ▸ h1.rt) (m2.symm ▸ hrt)
    rw [k1] at this
    cases l with
    | nil => exact absurd rfl hl
    | cons y l => exact this
theorem Segs.seg {r C l} (h : Segs r C l) (h0 : 0 < r) (h5 : r ≤ 5) : Seg r C (foldX r l) := by
  unfold foldX
  by_cases hr : r = 2
  · subst hr
    obtain ⟨_, h2, h3, h4, h5⟩ := h.right.rt
    rw [if_pos rfl]
    exact ⟨h2, h4, h5, h3⟩
  · obtain ⟨_, h2, h3, h4, _, h5⟩ := h.left h0 h5 hr
    rw [if_neg hr]
    exact ⟨h2, h4, h5, h3⟩
/-- what a run has taken -/
def Good : Job → List Tok → List Ex → Prop
  | .not, C, l => ∃ x, l = [x] ∧ Seg 6 C x
  | .lev r, C, l => ∃ x, l = [x] ∧ Seg r C x
  | .parts r, C, l => Segs r C l
theorem vars_seg : ∀ (vs : List Tok), (∀ y ∈ vs, y.kind = 118) → Deep vs ∧ Clean 6 vs
  | [], _ => ⟨deep_nil, clean_nil⟩
  | t :: vs, h => by
    have ht : t.kind = 118 := h t (by simp)
    obtain ⟨h1, h2⟩ := vars_seg vs (fun y hy => h y (by simp [hy]))
    exact ⟨deep_cons (by omega) (by omega) h1, clean_cons (by omega) (by omega) (.inl (by rw [ht]; rfl)) h2⟩
theorem run_good {j d L res} (h : Run j d L res) (hr : match j with | .lev r => 0 < r | .parts r => 0 < r ∧ r ≤ 5 | .not => True) : ∀ l L', res = .ok l L' → ∃ C, L = C ++ L' ∧ Good j C l := by
  induction h with
  | @const d t L hk =>
    rintro l L' e
    injection e with e1 e2
    subst e1 e2
    have h40 : t.kind ≠ 40 := by omega
    have h41 : t.kind ≠ 41 := by omega
    have hc : Clean 6 [t] := clean_cons h40 h41 (.inl (by rcases hk with h | h <;> rw [h] <;> rfl)) clean_nil
    exact ⟨[t], rfl, _, rfl, deep_cons h40 h41 deep_nil, hc, .const (split_none hc) hk, by simp⟩
  | @var d t L hk =>
    rintro l L' e
    injection e with e1 e2
    subst e1 e2
    have h40 : t.kind ≠ 40 := by omega
    have h41 : t.kind ≠ 41 := by omega
    have hc : Clean 6 [t] := clean_cons h40 h41 (.inl (by rw [hk]; rfl)) clean_nil
    exact ⟨[t], rfl, _, rfl, deep_cons h40 h41 deep_nil, hc, .var (split_none hc) hk, by simp⟩
  | deep => rintro l L' e; cases e
  | bangE => rintro l L' e; cases e
  | @bang d t u L x L' hk hu _ ih =>
    rintro l L1 e
    injection e with e1 e2
    subst e1 e2
    obtain ⟨C, hC, y, hy, hs⟩ := ih trivial _ _ rfl
    injection hy with hy
    subst hy
    have hc : Clean 6 (t :: C) := clean_cons (by omega) (by omega) (.inl (by rw [hk]; rfl)) hs.clean
    exact ⟨t :: C, by rw [hC]; rfl, _, rfl, deep_cons (by omega) (by omega) hs.deep, hc, .not (split_none hc) hk hs.rt, by simp⟩
  | parE => rintro l L' e; cases e
  | parW => rintro l L' e; cases e
  | @par d t u L x v L' hk hu _ hv ih =>
    rintro l L1 e
    injection e with e1 e2
    subst e1 e2
    obtain ⟨C, hC, y, hy, hs⟩ := ih (Nat.succ_pos _) _ _ rfl
    injection hy with hy
    subst hy
    have hc : Clean 6 (t :: (C ++ [v])) := clean_par hk hv hs.deep
    exact ⟨t :: (C ++ [v]), by rw [hC]; simp, _, rfl, deep_par hk hv hs.deep, hc, .par (split_none hc) hk hv hs.rt, by simp⟩
  | bndW => rintro l L' e; cases e
  | bndD => rintro l L' e; cases e
  | bndS => rintro l L' e; cases e
  | bndE => rintro l L' e; cases e
  | @bnd d t u vs v L' x L'' hk hu h2 hvs hv _ ih =>
    rintro l L1 e
    injection e with e1 e2
    subst e1 e2
    obtain ⟨C, hC, y, hy, hs⟩ := ih trivial _ _ rfl
    injection hy with hy
    subst hy
    have hvs' : ∀ y ∈ u :: vs, y.kind = 118 := fun y hy => by
      rcases List.mem_cons.1 hy with rfl | h
      · exact hu
      · exact hvs y h
    obtain ⟨v1, v2⟩ := vars_seg (u :: vs) hvs'
    have hrt : rk t.kind = 0 := by rcases hk with h | h <;> rw [h] <;> rfl
    have hrv : rk v.kind = 0 := by rw [hv]; rfl
    have hc : Clean 6 (t :: ((u :: vs) ++ v :: C)) := clean_cons (by omega) (by omega) (.inl hrt) (clean_app v2 (clean_cons (by omega) (by omega) (.inl hrv) hs.clean))
    exact ⟨t :: ((u :: vs) ++ v :: C), by rw [hC]; simp, _, rfl, deep_cons (by omega) (by omega) (deep_app v1 (deep_cons (by omega) (by omega) hs.deep)), hc, .bnd (split_none hc) hk hvs' hv hs.rt, by simp⟩
  | bad => rintro l L' e; cases e
  | @levN r d L res h5 _ ih =>
    rintro l L1 e
    obtain ⟨C, hC, y, hy, hs⟩ := ih trivial _ _ e
    exact ⟨C, hC, y, hy, hs.deep, hs.clean.six, hs.rt, hs.ne⟩
  | @parts1 r d L res h5 _ ih =>
    rintro l L1 e
    obtain ⟨C, hC, y, hy, hs⟩ := ih (Nat.succ_pos _) _ _ e
    exact ⟨C, hC, by rw [hy]; exact .one hs⟩
  | partsE => rintro l L' e; cases e
  | @partsS r d L l t L1 x L2 _ hrk _ ih1 ih2 =>
    rintro l' L' e
    injection e with e1 e2
    subst e1 e2
    obtain ⟨C, hC, hs⟩ := ih1 hr _ _ rfl
    obtain ⟨D, hD, y, hy, hs2⟩ := ih2 (Nat.succ_pos _) _ _ rfl
    injection hy with hy
    subst hy
    exact ⟨C ++ t :: D, by rw [hC, hD]; simp, .snoc hs hrk hs2⟩
  | levE => rintro l L' e; cases e
  | @levD r d L l t L1 h5 _ hne ih =>
    rintro l' L' e
    injection e with e1 e2
    subst e1 e2
    obtain ⟨C, hC, hs⟩ := ih ⟨hr, h5⟩ _ _ rfl
    exact ⟨C, hC, _, rfl, Segs.seg hs hr h5⟩

/-- tokens as a text has them: the end stands last, and nowhere else -/
def Ended (L : List Tok) : Prop := ∃ l z, L = l ++ [z] ∧ z.kind = 122 ∧ ∀ t ∈ l, t.kind ≠ 122
theorem ended_cut {l C L' : List Tok} {z u : Tok} (h : l ++ [z] = C ++ u :: L') (hl : ∀ t ∈ l, t.kind ≠ 122) (hu : u.kind = 122) : l = C ∧ L' = [] := by
  rcases List.append_eq_append_iff.1 h with ⟨a, h1, h2⟩ | ⟨a, h1, h2⟩
  · cases a with
    | nil => simp at h1 h2; exact ⟨h1.symm, h2.2⟩
    | cons y a =>
      simp only [List.cons_append, List.cons.injEq] at h2
      have := h2.2
      simp at this
  · cases a with
    | nil => simp at h1 h2; exact ⟨h1, h2.2⟩
    | cons y a =>
      simp only [List.cons_append, List.cons.injEq] at h2
      exact absurd hu (by rw [h2.1]; exact hl y (by rw [h1]; simp))
/-- the parser and the document agree on where tokens are wrong, and why -/
theorem parse_err {L c p} (h : Run (.lev 1) 0 L (.err c p)) : wrongGo [] 0 L = (p, c) ∧ (c = 10 ∨ c = 12) :=
  run_agree h (Nat.succ_pos _) [] rfl (fun _ => by omega) (fun _ => rfl)
theorem parse_tail {L l u L'} (h : Run (.lev 1) 0 L (.ok l (u :: L'))) (hu : u.kind ≠ 122) : wrongGo [] 0 L = (u.at_, 10) := by
  obtain ⟨h1, _, h3⟩ := run_agree h (Nat.succ_pos _) [] rfl (fun _ => by omega) (fun _ => rfl)
  simp only [hdk] at h3
  rw [h1, whole, wrongGo, if_neg (by omega), if_neg (by omega), if_neg (by omega), if_neg (by omega), if_neg (by omega), if_neg (by omega), if_neg (by omega), if_neg (by omega), if_neg (by simp), if_neg (by omega)]
/-- .. and on what they are -/
theorem parse_ok {l z x u L'} (h : Run (.lev 1) 0 (l ++ [z]) (.ok [x] (u :: L'))) (hl : ∀ t ∈ l, t.kind ≠ 122) (hu : u.kind = 122) : wrongGo [] 0 (l ++ [z]) = (0, 0) ∧ L' = [] ∧ RT l x ∧ l ≠ [] := by
  obtain ⟨h1, _, h3⟩ := run_agree h (Nat.succ_pos _) [] rfl (fun _ => by omega) (fun _ => rfl)
  obtain ⟨C, hC, y, hy, hs⟩ := run_good h (Nat.succ_pos _) _ _ rfl
  injection hy with hy
  subst hy
  obtain ⟨e1, e2⟩ := ended_cut hC hl hu
  subst e1
  simp only [hdk] at h3
  refine ⟨?_, e2, hs.rt, hs.ne⟩
  rw [h1, whole, wrongGo, if_neg (by omega), if_neg (by omega), if_neg (by omega), if_neg (by omega), if_neg (by omega), if_neg (by omega), if_neg (by omega), if_neg (by omega), if_neg (by omega), if_pos ⟨rfl, hu, rfl⟩]
end Go.Proofs.YtbmhinbomailmaaGreatDoor
