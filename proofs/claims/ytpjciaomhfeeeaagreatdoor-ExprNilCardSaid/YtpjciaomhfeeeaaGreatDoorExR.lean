/- Expressions: their texts are read again. -/
import Derived.Test.YtpjciaomhfeeeaaGreatDoorExG
namespace Go.Proofs.YtpjciaomhfeeeaaGreatDoor
set_option linter.unusedSimpArgs false
set_option linter.unusedVariables false

theorem dig_two {n : Nat} (h : n ≤ 15) : (Lib.decDigits n).length ≤ 2 := by
  by_cases h1 : n < 10
  · rw [Lib.decDigits_one h1]; simp
  · rw [Lib.decDigits_two h1 (by omega)]; simp
/-- a whole operand, behind which no operator of rank r or above stands, is a level -/
theorem lev_up {d L x t L1} (h : Run .not d L (.ok [x] (t :: L1))) : ∀ (k r : Nat), r + k = 6 → (∀ s, r ≤ s → s ≤ 5 → rk t.kind ≠ s) → Run (.lev r) d L (.ok [x] (t :: L1)) := by
  intro k
  induction k with
  | zero => intro r hr _; exact .levN (by omega) h
  | succ k ih =>
    intro r hr hs
    have h1 := ih (r + 1) (by omega) (fun s h1 h2 => hs s (by omega) h2)
    have h2 : Run (.lev r) d L (.ok [foldX r [x]] (t :: L1)) := .levD (by omega) (.parts1 (by omega) h1) (hs r (Nat.le_refl _) (by omega))
    have h3 : foldX r [x] = x := by
      unfold foldX
      split <;> rfl
    rw [h3] at h2
    exact h2
theorem lev_down {d L x t L1} {q : Nat} (h : Run (.lev q) d L (.ok [x] (t :: L1))) (hq : q ≤ 6) (h0 : rk t.kind = 0) : ∀ (k r : Nat), r + k = q → 0 < r → Run (.lev r) d L (.ok [x] (t :: L1)) := by
  intro k
  induction k with
  | zero => intro r hr _; have : r = q := by omega
            subst this; exact h
  | succ k ih =>
    intro r hr hr0
    have h1 := ih (r + 1) (by omega) (by omega)
    have h2 : Run (.lev r) d L (.ok [foldX r [x]] (t :: L1)) := .levD (by omega) (.parts1 (by omega) h1) (by omega)
    have h3 : foldX r [x] = x := by
      unfold foldX
      split <;> rfl
    rw [h3] at h2
    exact h2
theorem lev_errUp {d L c p} (h : Run .not d L (.err c p)) : ∀ (k r : Nat), r + k = 6 → Run (.lev r) d L (.err c p) := by
  intro k
  induction k with
  | zero => intro r hr; exact .levN (by omega) h
  | succ k ih =>
    intro r hr
    exact .levE (by omega) (.parts1 (by omega) (ih (r + 1) (by omega)))
theorem lev_errDown {d L c p} {q : Nat} (h : Run (.lev q) d L (.err c p)) (hq : q ≤ 6) : ∀ (k r : Nat), r + k = q → Run (.lev r) d L (.err c p) := by
  intro k
  induction k with
  | zero => intro r hr; have : r = q := by omega
            subst this; exact h
  | succ k ih =>
    intro r hr
    exact .levE (by omega) (.parts1 (by omega) (ih (r + 1) (by omega)))
/-- a level is taken: r, its head -/
theorem shape_ne {x C} (h : Shape x C) : ∃ t C', C = t :: C' ∧ begins t.kind = true := by
  cases h with
  | const h => rename_i b t; exact ⟨_, _, rfl, by rw [begins_iff]; cases b <;> simp_all⟩
  | var h => exact ⟨_, _, rfl, by rw [begins_iff]; omega⟩
  | not h _ => exact ⟨_, _, rfl, by rw [begins_iff]; omega⟩
  | pair h _ _ _ _ => exact ⟨_, _, rfl, by rw [begins_iff]; omega⟩
  | @bound each x t vs u C h _ _ _ _ => exact ⟨_, _, rfl, by rw [begins_iff, h]; cases each <;> decide⟩
/-- tokens that are written as x is are read as x, if it isn't too deep -/
theorem shape_run {x C} (h : Shape x C) : ∀ (d : Nat) (L : List Tok), d ≤ 200 → Run .not d (C ++ L) (.ok [x] L) ∨ ∃ p, Run .not d (C ++ L) (.err 12 p) ∧ 200 < d + x.depthE := by
  induction h with
  | @const b t h =>
    intro d L hd
    left
    have h1 : Run .not d (t :: L) (.ok [.const (t.kind == 49)] L) := .const (by cases b <;> simp_all)
    have h2 : (t.kind == 49) = b := by cases b <;> simp_all
    rw [h2] at h1
    exact h1
  | var h => intro d L hd; exact .inl (.var h)
  | @not x t C ht hs ih =>
    intro d L hd
    obtain ⟨u, C', hC, hb⟩ := shape_ne hs
    subst hC
    by_cases hdd : 200 < d + 1
    · exact .inr ⟨_, .deep (.inl ht) hb hdd, by simp only [Ex.depthE]; omega⟩
    · rcases ih (d + 1) L (by omega) with h1 | ⟨p, h1, h2⟩
      · exact .inl (.bang ht (fun h => hdd h.2) h1)
      · exact .inr ⟨p, .bangE ht (fun h => hdd h.2) h1, by simp only [Ex.depthE]; omega⟩
  | @pair a b A B t o u ht ho hu hA hB ih1 ih2 =>
    intro d L hd
    obtain ⟨v, A', hC, hbv⟩ := shape_ne hA
    obtain ⟨v2, B', hC2, hbv2⟩ := shape_ne hB
    have e : (t :: (A ++ o :: (B ++ [u]))) ++ L = t :: (A ++ o :: (B ++ u :: L)) := by simp
    rw [e]
    by_cases hdd : 200 < d + 1
    · subst hC
      exact .inr ⟨_, .deep (.inr ht) hbv hdd, by simp only [Ex.depthE]; omega⟩
    · have hdep : (Ex.pair o.kind a b).depthE = max a.depthE b.depthE + 1 := rfl
      have h5 := rk_le o.kind
      have hru : rk u.kind = 0 := by rw [hu]; rfl
      have hou : sgn (rk o.kind) = o.kind := (rk_sgn rfl ho).symm
      have hfold : foldX (rk o.kind) [a, b] = .pair o.kind a b := by
        unfold foldX
        split
        · rename_i h2
          rw [show o.kind = 62 by rw [← hou, h2]; rfl]
          rfl
        · rw [hou]
          rfl
      have key : ∀ res : Res, Run (.lev 1) (d + 1) (A ++ o :: (B ++ u :: L)) res → (∃ c p, res = .err c p ∧ Run .not d (t :: (A ++ o :: (B ++ u :: L))) (.err c p)) ∨ ∀ y, res = .ok [y] (u :: L) → Run .not d (t :: (A ++ o :: (B ++ u :: L))) (.ok [y] L) := by
        intro res hres
        subst hC
        cases res with
        | err c p => exact .inl ⟨c, p, rfl, .parE ht (fun h => hdd h.2) hres⟩
        | ok l M =>
          refine .inr fun y hy => ?_
          rw [hy] at hres
          exact .par ht (fun h => hdd h.2) hres hu
      rcases ih1 (d + 1) (o :: (B ++ u :: L)) (by omega) with h1 | ⟨p, h1, h2⟩
      · have h3 := lev_up h1 (5 - rk o.kind) (rk o.kind + 1) (by omega) (fun s hs _ => by omega)
        have h4 : Run (.parts (rk o.kind)) (d + 1) (A ++ o :: (B ++ u :: L)) (.ok [a] (o :: (B ++ u :: L))) := .parts1 h5 h3
        rcases ih2 (d + 1) (u :: L) (by omega) with g1 | ⟨p, g1, g2⟩
        · have g3 := lev_up g1 (5 - rk o.kind) (rk o.kind + 1) (by omega) (fun s hs _ => by omega)
          have g4 := Run.partsS h4 rfl g3
          have g5 : Run (.lev (rk o.kind)) (d + 1) (A ++ o :: (B ++ u :: L)) (.ok [foldX (rk o.kind) [a, b]] (u :: L)) := .levD h5 g4 (by omega)
          rw [hfold] at g5
          have g6 := lev_down g5 (by omega) hru (rk o.kind - 1) 1 (by omega) (by omega)
          rcases key _ g6 with ⟨c, p, h, _⟩ | h
          · cases h
          · exact .inl (h _ rfl)
        · have g3 := lev_errUp g1 (5 - rk o.kind) (rk o.kind + 1) (by omega)
          have g4 := Run.partsE h4 rfl g3
          have g6 := lev_errDown (Run.levE h5 g4) (by omega) (rk o.kind - 1) 1 (by omega)
          rcases key _ g6 with ⟨c, p', h, h'⟩ | h
          · injection h with e1 e2
            subst e1 e2
            exact .inr ⟨_, h', by omega⟩
          · exact .inr ⟨_, by subst hC; exact .parE ht (fun h => hdd h.2) g6, by omega⟩
      · have g6 := lev_errUp h1 5 1 (by omega)
        exact .inr ⟨_, by subst hC; exact .parE ht (fun h => hdd h.2) g6, by omega⟩
  | @bound e x t vs u C ht hvs hne hu hs ih =>
    intro d L hd
    cases vs with
    | nil => exact absurd rfl hne
    | cons v vs =>
      have ht2 : t.kind = 115 ∨ t.kind = 101 := by cases e <;> simp_all
      have hv : v.kind = 118 := hvs v (by simp)
      have hk : (t.kind == 101) = e := by cases e <;> simp_all
      have eq : (t :: ((v :: vs) ++ u :: C)) ++ L = t :: v :: (vs ++ u :: (C ++ L)) := by simp
      rw [eq]
      by_cases hdd : 200 < d + 1
      · exact .inr ⟨_, .bndD ht2 hv hdd, by simp only [Ex.depthE]; omega⟩
      · rcases ih (d + 1) L (by omega) with h1 | ⟨p, h1, h2⟩
        · left
          have := Run.bnd (vs := vs) ht2 hv (by omega) (fun y hy => hvs y (by simp [hy])) hu h1
          rw [hk] at this
          exact this
        · exact .inr ⟨p, .bndE ht2 hv (by omega) (fun y hy => hvs y (by simp [hy])) hu h1, by simp only [Ex.depthE]; omega⟩
/-- tokens are one expression -/
theorem rt_det {C x} (h : RT C x) : ∀ y, RT C y → x = y := by
  induction h with
  | @op C i t a b hsp hi hrk _ _ ih1 ih2 =>
    intro y hy
    cases hy with
    | @op _ j t' a' b' hsp' hi' hrk' ha hb =>
      rw [hsp] at hsp'
      injection hsp' with e
      subst e
      rw [hi] at hi'
      injection hi' with e
      subst e
      rw [ih1 _ ha, ih2 _ hb]
    | not h => rw [hsp] at h; cases h
    | par h => rw [hsp] at h; cases h
    | bnd h => rw [hsp] at h; cases h
    | var h => rw [hsp] at h; cases h
    | const h => rw [hsp] at h; cases h
  | @not C t x hn ht _ ih =>
    intro y hy
    generalize hD : t :: C = D at hy
    cases hy with
    | op h => rw [← hD, hn] at h; cases h
    | not _ _ hx => injection hD with e1 e2; subst e1 e2; rw [ih _ hx]
    | par _ h => injection hD with e1 e2; subst e1; omega
    | bnd _ h => injection hD with e1 e2; subst e1; omega
    | var _ h => injection hD with e1 e2; subst e1; omega
    | const _ h => injection hD with e1 e2; subst e1; omega
  | @par C t u x hn ht hu _ ih =>
    intro y hy
    generalize hD : t :: (C ++ [u]) = D at hy
    cases hy with
    | op h => rw [← hD, hn] at h; cases h
    | not _ h => injection hD with e1 e2; subst e1; omega
    | par _ _ _ hx =>
      injection hD with e1 e2
      obtain ⟨e3, e4⟩ := List.append_inj' e2 rfl
      subst e3
      exact ih _ hx
    | bnd _ h => injection hD with e1 e2; subst e1; omega
    | var _ h => injection hD with e1 e2; subst e1; omega
    | const _ h => injection hD with e1 e2; subst e1; omega
  | @bnd C t vs u x hn ht hvs hu _ ih =>
    intro y hy
    generalize hD : t :: (vs ++ u :: C) = D at hy
    cases hy with
    | op h => rw [← hD, hn] at h; cases h
    | not _ h => injection hD with e1 e2; subst e1; omega
    | par _ h => injection hD with e1 e2; subst e1; omega
    | @bnd C' t' vs' u' x' _ _ hvs' hu' hx =>
      injection hD with e1 e2
      subst e1
      have key : ∀ (a b : List Tok) (D E : List Tok), (∀ y ∈ a, y.kind = 118) → (∀ y ∈ b, y.kind = 118) → a ++ u :: D = b ++ u' :: E → a = b ∧ D = E := by
        intro a
        induction a with
        | nil =>
          intro b D E _ hb h
          cases b with
          | nil => injection h with h1 h2; exact ⟨rfl, h2⟩
          | cons z b => injection h with h1 h2; have := hb z (by simp); rw [← h1] at this; omega
        | cons z a ih =>
          intro b D E ha hb h
          cases b with
          | nil => injection h with h1 h2; have := ha z (by simp); rw [h1] at this; omega
          | cons w b =>
            injection h with h1 h2
            obtain ⟨h3, h4⟩ := ih b D E (fun y hy => ha y (by simp [hy])) (fun y hy => hb y (by simp [hy])) h2
            exact ⟨by rw [h1, h3], h4⟩
      obtain ⟨e3, e4⟩ := key _ _ _ _ hvs hvs' e2
      subst e3 e4
      rw [ih _ hx]
    | var _ h => injection hD with e1 e2; subst e1; omega
    | const _ h => injection hD with e1 e2; subst e1; omega
  | @var t hn ht =>
    intro y hy
    generalize hD : [t] = D at hy
    cases hy with
    | op h => rw [← hD, hn] at h; cases h
    | not _ h => injection hD with e1 e2; subst e1; omega
    | par _ h => injection hD with e1 e2; subst e1; omega
    | bnd _ h => injection hD with e1 e2; subst e1; omega
    | var _ h => injection hD with e1 e2; subst e1; rfl
    | const _ h => injection hD with e1 e2; subst e1; omega
  | @const t hn ht =>
    intro y hy
    generalize hD : [t] = D at hy
    cases hy with
    | op h => rw [← hD, hn] at h; cases h
    | not _ h => injection hD with e1 e2; subst e1; omega
    | par _ h => injection hD with e1 e2; subst e1; omega
    | bnd _ h => injection hD with e1 e2; subst e1; omega
    | var _ h => injection hD with e1 e2; subst e1; omega
    | const _ h => injection hD with e1 e2; subst e1; rfl
theorem rt_depth {C x} (h : RT C x) : x.depthE < C.length := by
  induction h with
  | @op C i t a b hsp hi hrk _ _ ih1 ih2 =>
    have := congrArg List.length (take_drop_mid hi)
    rw [List.length_append, List.length_cons] at this
    simp only [Ex.depthE]
    omega
  | not _ _ _ ih => simp only [Ex.depthE, List.length_cons]; omega
  | par _ _ _ _ ih => simp only [List.length_cons, List.length_append]; omega
  | bnd _ _ _ _ _ ih => simp only [Ex.depthE, List.length_cons, List.length_append]; omega
  | var => simp [Ex.depthE]
  | const => simp [Ex.depthE]
/-- bound variables there are: an own look at a run -/
theorem rt_len {C x} (h : RT C x) : (∀ t ∈ C, t.n ≤ 15) → x.textE.length ≤ 4 * C.length := by
  induction h with
  | @op C i t a b hsp hi hrk _ _ ih1 ih2 =>
    intro hC
    have := congrArg List.length (take_drop_mid hi)
    rw [List.length_append, List.length_cons] at this
    have h1 := ih1 fun t ht => hC t (List.mem_of_mem_take ht)
    have h2 := ih2 fun t ht => hC t (List.mem_of_mem_drop ht)
    simp only [Ex.textE, List.length_append, List.length_cons, List.length_nil]
    omega
  | not _ _ _ ih => intro hC; have := ih fun t ht => hC t (by simp [ht]); simp only [Ex.textE, List.length_cons]; omega
  | par _ _ _ _ ih => intro hC; have := ih fun t ht => hC t (by simp [ht]); simp only [List.length_cons, List.length_append]; omega
  | @bnd C t vs u x _ _ _ _ _ ih =>
    intro hC
    have h1 := ih fun t ht => hC t (by simp [ht])
    have h2 : ∀ vs : List Tok, (∀ t ∈ vs, t.n ≤ 15) → ((vs.map (·.n)).flatMap fun v => 32 :: 120 :: Lib.decDigits v).length ≤ 4 * vs.length := by
      intro vs
      induction vs with
      | nil => intro _; simp
      | cons t vs ih =>
        intro h
        have := ih fun y hy => h y (by simp [hy])
        have h3 := dig_two (h t (by simp))
        simp only [List.map_cons, List.flatMap_cons, List.length_append, List.length_cons]
        omega
    have h3 := h2 vs fun y hy => hC y (by simp [hy])
    have h4 : (if (t.kind == 101) = true then [101, 97, 99, 104] else [115, 111, 109, 101] : List UInt8).length = 4 := by split <;> rfl
    simp only [Ex.textE, List.length_cons, List.length_append, h4]
    omega
  | var => intro hC; have := dig_two (hC _ (List.mem_singleton.2 rfl)); simp only [Ex.textE, List.length_cons, List.length_nil]; omega
  | const => intro hC; simp [Ex.textE]
theorem foldL_full (op : Nat) (l : List Ex) (h : ∀ x ∈ l, x.Full) : (foldL op l).Full := by
  cases l with
  | nil => trivial
  | cons x l =>
    have : ∀ (l : List Ex) (x : Ex), x.Full → (∀ y ∈ l, y.Full) → (l.foldl (Ex.pair op) x).Full := by
      intro l
      induction l with
      | nil => intro x hx _; exact hx
      | cons y l ih => intro x hx hl; exact ih _ ⟨hx, hl y (by simp)⟩ fun z hz => hl z (by simp [hz])
    exact this l x (h x (by simp)) fun y hy => h y (by simp [hy])
theorem foldR_full (op : Nat) : ∀ (l : List Ex), (∀ x ∈ l, x.Full) → (foldR op l).Full
  | [], _ => trivial
  | [x], h => h x (by simp)
  | x :: y :: l, h => ⟨h x (by simp), foldR_full op (y :: l) fun z hz => h z (by simp only [List.mem_cons] at hz ⊢; exact .inr hz)⟩
theorem foldX_full (r : Nat) (l : List Ex) (h : ∀ x ∈ l, x.Full) : (foldX r l).Full := by
  unfold foldX
  split
  · exact foldR_full _ l h
  · exact foldL_full _ l h
theorem run_full {j d L res} (h : Run j d L res) : ∀ l L', res = .ok l L' → ∀ x ∈ l, x.Full := by
  induction h with
  | const => rintro l L' e x hx; injection e with e1 e2; subst e1; rw [List.mem_singleton.1 hx]; trivial
  | var => rintro l L' e x hx; injection e with e1 e2; subst e1; rw [List.mem_singleton.1 hx]; trivial
  | @bang d t u L y L1 _ _ _ ih => rintro l L' e x hx; injection e with e1 e2; subst e1; rw [List.mem_singleton.1 hx]; exact ih _ _ rfl y (by simp)
  | par _ _ _ _ ih => rintro l L' e x hx; injection e with e1 e2; subst e1; rw [List.mem_singleton.1 hx]; exact ih _ _ rfl _ (by simp)
  | bnd _ _ _ _ _ _ ih => rintro l L' e x hx; injection e with e1 e2; subst e1; rw [List.mem_singleton.1 hx]; exact ⟨by simp, ih _ _ rfl _ (by simp)⟩
  | levN _ _ ih => exact ih
  | parts1 _ _ ih => exact ih
  | partsS _ _ _ ih1 ih2 =>
    rintro l L' e x hx
    injection e with e1 e2
    subst e1
    rcases List.mem_append.1 hx with h | h
    · exact ih1 _ _ rfl x h
    · exact ih2 _ _ rfl x h
  | levD _ _ _ ih => rintro l L' e x hx; injection e with e1 e2; subst e1; rw [List.mem_singleton.1 hx]; exact foldX_full _ _ (ih _ _ rfl)
  | deep => rintro l L' e; cases e
  | bangE => rintro l L' e; cases e
  | parE => rintro l L' e; cases e
  | parW => rintro l L' e; cases e
  | bndW => rintro l L' e; cases e
  | bndD => rintro l L' e; cases e
  | bndS => rintro l L' e; cases e
  | bndE => rintro l L' e; cases e
  | bad => rintro l L' e; cases e
  | partsE => rintro l L' e; cases e
  | levE => rintro l L' e; cases e
/-- what the text of an expression, blanks around it, is read as -/
theorem again_ok {x : Ex} (hs : x.Small) (hf : x.Full) {l : List Tok} {z : Tok} (hL : lex (32 :: (x.textE ++ [32, 32])) 0 = l ++ [z]) (hz : z.kind = 122) (hl : ∀ t ∈ l, t.kind ≠ 122) :
    RT l x ∧ wrongGo [] 0 (l ++ [z]) = (0, 0) ∨ 200 < x.depthE ∧ ∃ p, wrongGo [] 0 (l ++ [z]) = (p, 12) := by
  obtain ⟨C, b, h1, h2⟩ := lex_text x hs hf [32, 32] 1 (by simp [letter_32])
  rw [lex_blank 0 rfl, Nat.zero_add, h1, lex_blank b rfl, lex_blank (b + 1) rfl, lex_nil] at hL
  obtain ⟨h3, h4⟩ := List.append_inj' hL rfl
  subst h3
  rcases shape_run h2 0 [z] (by omega) with h5 | ⟨p, h5, h6⟩
  · left
    have h6 := lev_up h5 5 1 (by omega) (fun s hs1 _ => by rw [hz]; show 0 ≠ s; omega)
    obtain ⟨w1, _, w2, _⟩ := parse_ok h6 hl hz
    exact ⟨w2, w1⟩
  · right
    have h7 := lev_errUp h5 5 1 (by omega)
    exact ⟨by omega, p, (parse_err h7).1⟩
end Go.Proofs.YtpjciaomhfeeeaaGreatDoor
