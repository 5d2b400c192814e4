/- The chapter's examples (29): alive. -/
import Derived.Test.YtpjciaomhfeeeaaGreatDoorExS
namespace Go.Proofs.YtpjciaomhfeeeaaGreatDoor
open Go.RowKit Go.Sort
set_option linter.unusedSimpArgs false
set_option linter.unusedVariables false

def ex1 : List UInt8 := [120, 48, 32, 62, 32, 120, 49, 32, 62, 32, 120, 50]
def ex2 : List UInt8 := [115, 111, 109, 101, 32, 120, 48, 32, 46, 32, 120, 48, 32, 38, 32, 120, 49]
def ex3 : List UInt8 := [120, 48, 32, 38]
theorem word_x (c : UInt8) (hc : 48 ≤ c.toNat ∧ c.toNat ≤ 57) (l : List UInt8) (a : Nat) (hl : ∀ d, l.head? = some d → letterN d.toNat = false) : lex (120 :: c :: l) a = ⟨118, c.toNat - 48, a⟩ :: lex l (a + 2) := by
  have h := lex_word (w := [120, c]) (l := l) a (by
    intro d hd
    simp at hd
    rcases hd with rfl | rfl
    · rfl
    · unfold letterN; simp; omega) (by simp) hl
  have e : wordTok [120, c] a = ⟨118, c.toNat - 48, a⟩ := by
    have hv : varNum [120, c] = some (c.toNat - 48) := by
      unfold varNum
      simp only [List.map_cons, List.map_nil]
      rw [if_pos ⟨rfl, hc⟩]
    unfold wordTok
    rw [if_neg (by simp), if_neg (by simp), if_neg (by simp), if_neg (by simp), hv]
  rw [e] at h
  exact h
theorem lex1 : lex ex1 0 = [⟨118, 0, 0⟩, ⟨62, 0, 3⟩, ⟨118, 1, 5⟩, ⟨62, 0, 8⟩, ⟨118, 2, 10⟩, ⟨122, 0, 12⟩] := by
  unfold ex1
  rw [word_x 48 (by decide) _ _ (by simp; decide), lex_blank _ rfl, lex_sign _ (by decide) (by decide), lex_blank _ rfl, word_x 49 (by decide) _ _ (by simp; decide), lex_blank _ rfl, lex_sign _ (by decide) (by decide), lex_blank _ rfl, word_x 50 (by decide) _ _ (by simp), lex_nil]
  rfl
theorem lex2 : lex ex2 0 = [⟨115, 0, 0⟩, ⟨118, 0, 5⟩, ⟨46, 0, 8⟩, ⟨118, 0, 10⟩, ⟨38, 0, 13⟩, ⟨118, 1, 15⟩, ⟨122, 0, 17⟩] := by
  unfold ex2
  have h := lex_word (w := [115, 111, 109, 101]) (l := [32, 120, 48, 32, 46, 32, 120, 48, 32, 38, 32, 120, 49]) 0 (by decide) (by simp) (by simp; decide)
  simp only [List.cons_append, List.nil_append] at h
  rw [h, lex_blank _ rfl, word_x 48 (by decide) _ _ (by simp; decide), lex_blank _ rfl, lex_sign _ (by decide) (by decide), lex_blank _ rfl, word_x 48 (by decide) _ _ (by simp; decide), lex_blank _ rfl, lex_sign _ (by decide) (by decide), lex_blank _ rfl, word_x 49 (by decide) _ _ (by simp), lex_nil]
  rfl
theorem lex3 : lex ex3 0 = [⟨118, 0, 0⟩, ⟨38, 0, 3⟩, ⟨122, 0, 4⟩] := by
  unfold ex3
  rw [word_x 48 (by decide) _ _ (by simp; decide), lex_blank _ rfl, lex_sign _ (by decide) (by decide), lex_nil]
  rfl
theorem last_eq {l m : List Tok} {z u : Tok} (h : l ++ [u] = m ++ [z]) : m = l := ((List.append_inj' h rfl).1).symm
theorem tree1 {L : List Tok} {z : Tok} {x : Ex} (h : lex ex1 0 = L ++ [z]) (hx : RT L x) : x = .pair 62 (.var 0) (.pair 62 (.var 1) (.var 2)) := by
  rw [lex1] at h
  have hL := last_eq (l := [⟨118, 0, 0⟩, ⟨62, 0, 3⟩, ⟨118, 1, 5⟩, ⟨62, 0, 8⟩, ⟨118, 2, 10⟩]) h
  subst hL
  refine rt_det hx _ ?_
  refine RT.op (i := 1) (t := ⟨62, 0, 3⟩) (by decide) rfl (by decide) ?_ ?_
  · exact RT.var (t := ⟨118, 0, 0⟩) (by decide) rfl
  · refine RT.op (C := [⟨118, 1, 5⟩, ⟨62, 0, 8⟩, ⟨118, 2, 10⟩]) (i := 1) (t := ⟨62, 0, 8⟩) (by decide) rfl (by decide) ?_ ?_
    · exact RT.var (t := ⟨118, 1, 5⟩) (by decide) rfl
    · exact RT.var (t := ⟨118, 2, 10⟩) (by decide) rfl
theorem tree2 {L : List Tok} {z : Tok} {x : Ex} (h : lex ex2 0 = L ++ [z]) (hx : RT L x) : x = .pair 38 (.bound false [0] (.var 0)) (.var 1) := by
  rw [lex2] at h
  have hL := last_eq (l := [⟨115, 0, 0⟩, ⟨118, 0, 5⟩, ⟨46, 0, 8⟩, ⟨118, 0, 10⟩, ⟨38, 0, 13⟩, ⟨118, 1, 15⟩]) h
  subst hL
  refine rt_det hx _ ?_
  refine RT.op (i := 4) (t := ⟨38, 0, 13⟩) (by decide) rfl (by decide) ?_ ?_
  · exact RT.bnd (t := ⟨115, 0, 0⟩) (vs := [⟨118, 0, 5⟩]) (u := ⟨46, 0, 8⟩) (C := [⟨118, 0, 10⟩]) (by decide) (.inl rfl) (by simp) rfl (RT.var (t := ⟨118, 0, 10⟩) (by decide) rfl)
  · exact RT.var (t := ⟨118, 1, 15⟩) (by decide) rfl
theorem text1 : Ex.textE (.pair 62 (.var 0) (.pair 62 (.var 1) (.var 2))) = [40, 120, 48, 62, 40, 120, 49, 62, 120, 50, 41, 41] := by
  simp only [Ex.textE, Lib.decDigits_one (show 0 < 10 by decide), Lib.decDigits_one (show 1 < 10 by decide), Lib.decDigits_one (show 2 < 10 by decide)]
  rfl
theorem text2 : Ex.textE (.pair 38 (.bound false [0] (.var 0)) (.var 1)) = [40, 115, 111, 109, 101, 32, 120, 48, 46, 120, 48, 38, 120, 49, 41] := by
  simp only [Ex.textE, List.flatMap_cons, List.flatMap_nil, Lib.decDigits_one (show 0 < 10 by decide), Lib.decDigits_one (show 1 < 10 by decide)]
  rfl
/-- what Parse makes of the examples -/
theorem parse1 (w : World) (hV : PV w) : Calls Tryz.prog 7 #[.string ⟨#[120, 48, 32, 62, 32, 120, 49, 32, 62, 32, 120, 50]⟩] w fun e w' => ∃ g x, e = .returned (.tuple #[.pointer (some ⟨g, 0, none⟩), .int .i64 0, .int .u8 0]) ∧ ExprIs w' g x ∧ x.Small ∧ x.textE = [40, 120, 48, 62, 40, 120, 49, 62, 120, 50, 41, 41] ∧ Below w.heap.size w w' := by
  refine (parse_any ex1 w (by decide) hV).mono ?_
  rintro e w' ⟨hb, ⟨h, _⟩ | ⟨_, c, p, hw, hc, _⟩ | ⟨_, _, L, z, x, g, h1, h2, h3, h4, h5, h6, h7, h8, h9, h10, h11⟩⟩
  · exact absurd h (by decide)
  · rw [lex1, show wrongGo [] 0 [⟨118, 0, 0⟩, ⟨62, 0, 3⟩, ⟨118, 1, 5⟩, ⟨62, 0, 8⟩, ⟨118, 2, 10⟩, ⟨122, 0, 12⟩] = (0, 0) by decide] at hw
    injection hw with e1 e2
    omega
  · exact ⟨g, x, h9, h11, h6, by rw [tree1 h1 h5]; exact text1, hb⟩
theorem parse2 (w : World) (hV : PV w) : Calls Tryz.prog 7 #[.string ⟨#[115, 111, 109, 101, 32, 120, 48, 32, 46, 32, 120, 48, 32, 38, 32, 120, 49]⟩] w fun e w' => ∃ g x, e = .returned (.tuple #[.pointer (some ⟨g, 0, none⟩), .int .i64 0, .int .u8 0]) ∧ ExprIs w' g x ∧ x.Small ∧ x.textE = [40, 115, 111, 109, 101, 32, 120, 48, 46, 120, 48, 38, 120, 49, 41] ∧ Below w.heap.size w w' := by
  refine (parse_any ex2 w (by decide) hV).mono ?_
  rintro e w' ⟨hb, ⟨h, _⟩ | ⟨_, c, p, hw, hc, _⟩ | ⟨_, _, L, z, x, g, h1, h2, h3, h4, h5, h6, h7, h8, h9, h10, h11⟩⟩
  · exact absurd h (by decide)
  · rw [lex2, show wrongGo [] 0 [⟨115, 0, 0⟩, ⟨118, 0, 5⟩, ⟨46, 0, 8⟩, ⟨118, 0, 10⟩, ⟨38, 0, 13⟩, ⟨118, 1, 15⟩, ⟨122, 0, 17⟩] = (0, 0) by decide] at hw
    injection hw with e1 e2
    omega
  · exact ⟨g, x, h9, h11, h6, by rw [tree2 h1 h5]; exact text2, hb⟩
theorem parse3 (w : World) (hV : PV w) : Calls Tryz.prog 7 #[.string ⟨#[120, 48, 32, 38]⟩] w fun e w' => e = .returned (.tuple #[.pointer none, .int .i64 4, .int .u8 10]) ∧ Below w.heap.size w w' := by
  refine (parse_any ex3 w (by decide) hV).mono ?_
  rintro e w' ⟨hb, ⟨h, _⟩ | ⟨_, c, p, hw, hc, he⟩ | ⟨_, hw, _⟩⟩
  · exact absurd h (by decide)
  · rw [lex3, show wrongGo [] 0 [⟨118, 0, 0⟩, ⟨38, 0, 3⟩, ⟨122, 0, 4⟩] = (4, 10) by decide] at hw
    injection hw with e1 e2
    subst e1 e2
    exact ⟨he, hb⟩
  · rw [lex3, show wrongGo [] 0 [⟨118, 0, 0⟩, ⟨38, 0, 3⟩, ⟨122, 0, 4⟩] = (4, 10) by decide] at hw
    injection hw with e1 e2
    omega
theorem ExprIs.on {w w' : World} {g : Nat} {x : Ex} (h : ExprIs w g x) (hb : Below w.heap.size w w') : ExprIs w' g x := by
  obtain ⟨v, h1, h2⟩ := h
  exact ⟨v, h1.onB hb, h2.on hb⟩
set_option maxRecDepth 100000 in
set_option maxHeartbeats 8000000 in
theorem alive29_any (w : World) (hV : PV w) : Calls Tryz.prog 4 #[] w fun e w' => e = .returned (.bool true) ∧ Below w.heap.size w w' := by
  have HV := Lib.hid hV
  clear hV
  go_enter Tryz.func4, Tryz.ntmps4
  go_wp2_with fail
  refine (parse1 w HV.out).mono ?_
  rintro e w1 ⟨g1, x1, rfl, h1, s1, t1, b1⟩
  have H1 := Lib.hid (And.intro h1 (And.intro s1 (And.intro t1 b1)))
  clear h1 s1 t1 b1
  go_wp2_with fail
  refine (parse2 w1 (HV.out.on H1.out.2.2.2)).mono ?_
  rintro e w2 ⟨g2, x2, rfl, h2, s2, t2, b2⟩
  have hb2 := H1.out.2.2.2.trans (b2.mono H1.out.2.2.2.size)
  have H2 := Lib.hid (And.intro h2 (And.intro s2 (And.intro t2 (And.intro (H1.out.1.on b2) hb2))))
  clear h2 s2 t2 b2 hb2
  go_wp2_with fail
  refine (parse3 w2 (HV.out.on H2.out.2.2.2.2)).mono ?_
  rintro e w3 ⟨rfl, b3⟩
  have HT1 := Lib.hid (exprText_any g1 x1 w3 (H2.out.2.2.2.1.on b3) H1.out.2.1 (by rw [H1.out.2.2.1]; decide))
  rw [H1.out.2.2.1] at HT1
  have HT2 := Lib.hid (fun W (hb : Below w3.heap.size w3 W) => exprText_any g2 x2 W ((H2.out.1.on b3).on hb) H2.out.2.1 (by rw [H2.out.2.2.1]; decide))
  rw [H2.out.2.2.1] at HT2
  have HB3 := Lib.hid (H2.out.2.2.2.2.trans (b3.mono H2.out.2.2.2.2.size))
  clear b3
  go_wp2_with fail
  refine HT1.out.mono ?_
  rintro e w4 ⟨rfl, b4⟩
  have B4 := Lib.hid b4
  clear b4
  go_wp2_with fail
  refine (HT2.out _ B4.out).mono ?_
  rintro e w5 ⟨rfl, b5⟩
  have hb5 := (HB3.out.trans (B4.out.mono HB3.out.size))
  have B5 := Lib.hid (hb5.trans (b5.mono hb5.size))
  clear b5 hb5
  go_wp2_with fail
  go_ret
  exact ⟨rfl, B5.out⟩
end Go.Proofs.YtpjciaomhfeeeaaGreatDoor
