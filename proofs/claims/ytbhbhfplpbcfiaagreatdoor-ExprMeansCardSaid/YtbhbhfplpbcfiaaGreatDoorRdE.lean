/- Contract: the document's Wrong (29). -/
import Derived.Test.YtbhbhfplpbcfiaaGreatDoorMv
import Derived.Test.YtbhbhfplpbcfiaaGreatDoorExH
namespace Go.Proofs.YtbhbhfplpbcfiaaGreatDoor
open Go.RowKit Go.Sort
set_option linter.unusedSimpArgs false
set_option linter.unusedVariables false

theorem info_u8w : (Tryz.prog.info? 5).map (fun i => (i.zero, i.size, i.bytes)) = some (some (.int .u8 0), 1, 1) := by kernel_rfl
theorem OwnF.cutW {α : Type} {f : α → Value} {E : TypeId} {w : World} {base n c m : Nat} {A : Option Addr} {xs : List α} (h : OwnF f E w base (.slice A n c) xs) (hm : m ≤ n) : OwnF f E w base (.slice A m c) (xs.take m) := by
  cases A with
  | some a => exact h.cutT hm (by simp)
  | none =>
    have h0 := h
    rcases h with ⟨hl, ⟨h1, h2⟩ | ⟨g, cap, cur, h1, _⟩⟩
    · injection h1 with _ h3 h4
      subst h3 h4
      obtain rfl : m = 0 := by omega
      simpa using OwnF.nil_
    · cases h1
section
variable {A : List Nat} {t : Tok} {L : List Tok}
theorem wg_deep0 (hb : begins t.kind = true) (h : 200 < A.length) : wrongGo A 0 (t :: L) = (t.at_, 12) := by rw [wrongGo, if_pos ⟨.inl ⟨rfl, hb⟩, h⟩]
theorem wg_push (hk : t.kind = 33 ∨ t.kind = 40) (h : ¬ 200 < A.length) : wrongGo A 0 (t :: L) = wrongGo (t.kind :: A) 0 L := by rw [wrongGo, if_neg (fun x => h x.2), if_pos ⟨rfl, hk⟩]
theorem wg_quant (hk : t.kind = 115 ∨ t.kind = 101) (h : ¬ 200 < A.length) : wrongGo A 0 (t :: L) = wrongGo (33 :: A) 2 L := by rw [wrongGo, if_neg (fun x => h x.2), if_neg (by omega), if_pos ⟨rfl, hk⟩]
theorem wg_atom (hk : t.kind = 48 ∨ t.kind = 49 ∨ t.kind = 118) (h : ¬ 200 < A.length) : wrongGo A 0 (t :: L) = wrongGo (whole A) 1 L := by
  rw [wrongGo, if_neg (fun x => h x.2), if_neg (by omega), if_neg (by omega), if_pos ⟨rfl, by rw [begins_iff]; omega⟩]
theorem wg_bad0 (hb : begins t.kind = false) : wrongGo A 0 (t :: L) = (t.at_, 10) := by
  have hn := begins_iff t.kind
  rw [hb] at hn
  simp only [Bool.false_eq_true, false_iff] at hn
  rw [wrongGo, if_neg (by rw [hb]; simp), if_neg (by omega), if_neg (by omega), if_neg (by rw [hb]; simp), if_neg (by omega), if_neg (by omega), if_neg (by omega), if_neg (by omega), if_neg (by omega), if_neg (by omega)]
theorem wg_op (hk : rk t.kind ≠ 0) : wrongGo A 1 (t :: L) = wrongGo A 0 L := by
  rw [wrongGo, if_neg (by omega), if_neg (by omega), if_neg (by omega), if_neg (by omega), if_neg (by omega), if_neg (by omega), if_neg (by omega), if_pos ⟨rfl, hk⟩]
theorem wg_close (hk : t.kind = 41) (h : 0 < A.length) : wrongGo A 1 (t :: L) = wrongGo (whole A.tail) 1 L := by
  rw [wrongGo, if_neg (by omega), if_neg (by omega), if_neg (by omega), if_neg (by omega), if_neg (by omega), if_neg (by omega), if_neg (by omega), if_neg (by rw [hk]; simp [rk]), if_pos ⟨rfl, hk, h⟩]
theorem wg_end (hk : t.kind = 122) (h : A.length = 0) : wrongGo A 1 (t :: L) = (0, 0) := by
  rw [wrongGo, if_neg (by omega), if_neg (by omega), if_neg (by omega), if_neg (by omega), if_neg (by omega), if_neg (by omega), if_neg (by omega), if_neg (by rw [hk]; simp [rk]), if_neg (by omega), if_pos ⟨rfl, hk, h⟩]
theorem wg_bad1 (hr : rk t.kind = 0) (h1 : ¬ (t.kind = 41 ∧ 0 < A.length)) (h2 : ¬ (t.kind = 122 ∧ A.length = 0)) : wrongGo A 1 (t :: L) = (t.at_, 10) := by
  rw [wrongGo, if_neg (by omega), if_neg (by omega), if_neg (by omega), if_neg (by omega), if_neg (by omega), if_neg (by omega), if_neg (by omega), if_neg (by omega), if_neg (fun x => h1 x.2), if_neg (fun x => h2 x.2)]
theorem wg_deep2 (hk : t.kind = 118) (h : 200 < A.length) : wrongGo A 2 (t :: L) = (t.at_, 12) := by rw [wrongGo, if_pos ⟨.inr ⟨rfl, hk⟩, h⟩]
theorem wg_first (hk : t.kind = 118) (h : ¬ 200 < A.length) : wrongGo A 2 (t :: L) = wrongGo A 3 L := by rw [wrongGo, if_neg (fun x => h x.2), if_neg (by omega), if_neg (by omega), if_neg (by omega), if_pos ⟨rfl, hk⟩]
theorem wg_bad2 (hk : t.kind ≠ 118) : wrongGo A 2 (t :: L) = (t.at_, 10) := by
  rw [wrongGo, if_neg (by omega), if_neg (by omega), if_neg (by omega), if_neg (by omega), if_neg (by omega), if_neg (by omega), if_neg (by omega), if_neg (by omega), if_neg (by omega), if_neg (by omega)]
theorem wg_more (hk : t.kind = 118) : wrongGo A 3 (t :: L) = wrongGo A 3 L := by rw [wrongGo, if_neg (by omega), if_neg (by omega), if_neg (by omega), if_neg (by omega), if_neg (by omega), if_pos ⟨rfl, hk⟩]
theorem wg_dot (hk : t.kind = 46) : wrongGo A 3 (t :: L) = wrongGo A 0 L := by rw [wrongGo, if_neg (by omega), if_neg (by omega), if_neg (by omega), if_neg (by omega), if_neg (by omega), if_neg (by omega), if_pos ⟨rfl, hk⟩]
theorem wg_bad3 (hk : t.kind ≠ 118) (hk2 : t.kind ≠ 46) : wrongGo A 3 (t :: L) = (t.at_, 10) := by
  rw [wrongGo, if_neg (by omega), if_neg (by omega), if_neg (by omega), if_neg (by omega), if_neg (by omega), if_neg (by omega), if_neg (by omega), if_neg (by omega), if_neg (by omega), if_neg (by omega)]
end
set_option maxRecDepth 100000 in
set_option maxHeartbeats 64000000 in
theorem rwrong_any (A : Option Addr) (n c : Nat) (L : List Tok) (w : World) (h : TkArg w A n c L) : Calls Tryz.prog 29 #[.slice A n c] w fun e w' => e = .returned (.tuple #[.int .i64 ((wrongGo [] 0 L).1 : Nat), .int .i64 ((wrongGo [] 0 L).2 : Nat)]) ∧ Below w.heap.size w w' := by
  have hn := h.max
  have hl := h.len
  have H := Lib.hid h
  obtain ⟨i0, hi, hz0, hz1, hz2⟩ := info_parts info_u8w
  clear h
  go_enter Tryz.func29, Tryz.ntmps29
  go_wp2_with fail
  go_loopw [4, 5, 6] (fun v s ix wr => ∃ (i st : Nat) (C : List Nat) (g : Option Addr) (m cc : Nat), i ≤ n ∧ ix = .int .i64 (i : Nat) ∧ st ≤ 3 ∧ s = .int .i64 (st : Nat) ∧ v = .slice g m cc ∧ OwnB wr w.heap.size (.slice g m cc) C.reverse ∧ C.length = m ∧ m ≤ i ∧ Below w.heap.size w wr ∧ wrongGo [] 0 L = wrongGo C st (L.drop i)) (fun _ _ ix _ => n - (intOf ix).toNat)
  case atStart => exact ⟨0, 0, [], none, 0, 0, Nat.zero_le _, rfl, by omega, rfl, rfl, OwnF.nil_, rfl, by omega, Below.refl _ _, by simp⟩
  case round =>
    obtain ⟨i, st, C, g, m, cc, hin, rfl, hst, rfl, rfl, hown, hcm, hmi, hb, hw⟩ := hrel
    have HO := Lib.hid hown
    have HB := Lib.hid hb
    have HW := Lib.hid hw
    have HCM := Lib.hid hcm
    clear hown hb hw hcm
    by_cases hi2 : i < n
    · obtain ⟨t, ht⟩ : ∃ t, L[i]? = some t := ⟨_, List.getElem?_eq_getElem (by omega)⟩
      obtain ⟨b, off, rfl, hbl, q0', q1', q2'⟩ := (H.out.on (HB.out.mono (Nat.le_refl _))).cells ht
      have q0 := q0'
      have q2 := q2'
      clear q0' q1' q2'
      have hii : (i : Int) < (n : Int) := by omega
      have HD : Hid (wrongGo [] 0 L = wrongGo C st (t :: L.drop (i + 1))) := Lib.hid (by
        have e : L.drop i = t :: L.drop (i + 1) := by
          rw [List.drop_eq_getElem_cons (by omega)]
          rw [List.getElem?_eq_getElem (by omega)] at ht
          injection ht with ht
          rw [ht]
        rw [HW.out, e])
      clear ht
      obtain ⟨tk, tn, ta⟩ := t
      simp only at q0 q2
      have HS := HB.out.size
      have hmc : (m : Int) ≤ 100000 := by omega
      rcases (show st = 0 ∨ st = 1 ∨ st = 2 ∨ st = 3 by omega) with rfl | rfl | rfl | rfl
      · by_cases hb0 : begins tk = true
        · have hk := (begins_iff tk).1 hb0
          by_cases h200 : 200 < m
          · have hx : (200 : Int) < (m : Int) := by omega
            have HBG := Lib.hid hb0
            clear hb0
            rcases hk with rfl | rfl | rfl | rfl | rfl | rfl | rfl
            all_goals as_aux_lemma =>
              have HR : Hid (wrongGo [] 0 L = (ta, 12)) := Lib.hid (by rw [HD.out]; exact wg_deep0 HBG.out (by have := HCM.out; omega))
              go_wp2_with fail
              refine bodyPost_ret (v := .tuple #[.int .i64 (ta : Nat), .int .i64 12]) (by simp [results, Tryz.results29, go_sem, *]) rfl ⟨by rw [HR.out]; rfl, HB.out⟩
          · have hx : ¬ (200 : Int) < (m : Int) := by omega
            have hC : ¬ 200 < C.length := by have := HCM.out; omega
            have HC2 := Lib.hid hC
            clear hb0 hC
            rcases hk with rfl | rfl | rfl | rfl | rfl | rfl | rfl
            · as_aux_lemma =>
                have HWH := Lib.hid (fun W (h : OwnB W w.heap.size (.slice g m cc) C.reverse) => rwhole_any g m cc w.heap.size C.reverse W h)
                go_wp2_with fail
                refine (HWH.out _ HO.out).mono ?_
                rintro e w1 ⟨⟨m2, hm2, rfl, hwh⟩, rfl⟩
                have hwh2 : C.reverse.take m2 = (whole C).reverse := by rw [List.reverse_reverse] at hwh; rw [← hwh, List.reverse_reverse]
                have hO2 : OwnB wr w.heap.size (.slice g m2 cc) (whole C).reverse := by rw [← hwh2]; exact HO.out.cutW hm2
                have hl2 : (whole C).length = m2 := by have e := congrArg List.length hwh2; have := HCM.out; simp at e; omega
                have HO2 := Lib.hid (And.intro hO2 hl2)
                clear hwh hwh2 hO2 hl2
                go_wp2_with fail
                go_roundw
                case rel => exact ⟨i + 1, 1, whole C, _, _, _, by omega, by go_num, by omega, rfl, rfl, HO2.out.1, HO2.out.2, by omega, HB.out, by rw [HD.out]; exact wg_atom (.inl rfl) HC2.out⟩
                case measure => simp [intOf]; omega
            · as_aux_lemma =>
                have HWH := Lib.hid (fun W (h : OwnB W w.heap.size (.slice g m cc) C.reverse) => rwhole_any g m cc w.heap.size C.reverse W h)
                go_wp2_with fail
                refine (HWH.out _ HO.out).mono ?_
                rintro e w1 ⟨⟨m2, hm2, rfl, hwh⟩, rfl⟩
                have hwh2 : C.reverse.take m2 = (whole C).reverse := by rw [List.reverse_reverse] at hwh; rw [← hwh, List.reverse_reverse]
                have hO2 : OwnB wr w.heap.size (.slice g m2 cc) (whole C).reverse := by rw [← hwh2]; exact HO.out.cutW hm2
                have hl2 : (whole C).length = m2 := by have e := congrArg List.length hwh2; have := HCM.out; simp at e; omega
                have HO2 := Lib.hid (And.intro hO2 hl2)
                clear hwh hwh2 hO2 hl2
                go_wp2_with fail
                go_roundw
                case rel => exact ⟨i + 1, 1, whole C, _, _, _, by omega, by go_num, by omega, rfl, rfl, HO2.out.1, HO2.out.2, by omega, HB.out, by rw [HD.out]; exact wg_atom (.inr (.inl rfl)) HC2.out⟩
                case measure => simp [intOf]; omega
            · as_aux_lemma =>
                have HWH := Lib.hid (fun W (h : OwnB W w.heap.size (.slice g m cc) C.reverse) => rwhole_any g m cc w.heap.size C.reverse W h)
                go_wp2_with fail
                refine (HWH.out _ HO.out).mono ?_
                rintro e w1 ⟨⟨m2, hm2, rfl, hwh⟩, rfl⟩
                have hwh2 : C.reverse.take m2 = (whole C).reverse := by rw [List.reverse_reverse] at hwh; rw [← hwh, List.reverse_reverse]
                have hO2 : OwnB wr w.heap.size (.slice g m2 cc) (whole C).reverse := by rw [← hwh2]; exact HO.out.cutW hm2
                have hl2 : (whole C).length = m2 := by have e := congrArg List.length hwh2; have := HCM.out; simp at e; omega
                have HO2 := Lib.hid (And.intro hO2 hl2)
                clear hwh hwh2 hO2 hl2
                go_wp2_with fail
                go_roundw
                case rel => exact ⟨i + 1, 1, whole C, _, _, _, by omega, by go_num, by omega, rfl, rfl, HO2.out.1, HO2.out.2, by omega, HB.out, by rw [HD.out]; exact wg_atom (.inr (.inr rfl)) HC2.out⟩
                case measure => simp [intOf]; omega
            · as_aux_lemma =>
                go_wp2_with (at_builtin; refine wp_app1 (f := u8V) Tryz.underlying81 hi hz0 hz1 hz2 rfl (by omega) wr rfl _ _ rfl w.heap.size _ C.reverse 33 1 rfl HO.out HS (by have := HCM.out; simp; omega) rfl rfl rfl ?_; intro v1 w5 hown1 hb1 hs1 hg1 hv1)
                obtain ⟨g5, m5, c5, hA5, h5a, h5b⟩ := hown1.form
                subst hA5
                have HREL := Lib.hid (And.intro (show OwnB w5 w.heap.size (.slice g5 m5 c5) (33 :: C).reverse by simpa using hown1) (And.intro (HB.out.trans hb1) (show (33 :: C).length = m5 by simpa using h5a)))
                have hm5 : m5 ≤ i + 1 := by have := HREL.out.2.2; have := HCM.out; simp at *; omega
                clear hown1 hb1 hs1 hg1 hv1 h5a h5b
                go_roundw
                case rel => exact ⟨i + 1, 2, 33 :: C, _, _, _, by omega, by go_num, by omega, rfl, rfl, HREL.out.1, HREL.out.2.2, hm5, HREL.out.2.1, by rw [HD.out]; exact wg_quant (.inl rfl) HC2.out⟩
                case measure => simp [intOf]; omega
            · as_aux_lemma =>
                go_wp2_with (at_builtin; refine wp_app1 (f := u8V) Tryz.underlying81 hi hz0 hz1 hz2 rfl (by omega) wr rfl _ _ rfl w.heap.size _ C.reverse 33 1 rfl HO.out HS (by have := HCM.out; simp; omega) rfl rfl rfl ?_; intro v1 w5 hown1 hb1 hs1 hg1 hv1)
                obtain ⟨g5, m5, c5, hA5, h5a, h5b⟩ := hown1.form
                subst hA5
                have HREL := Lib.hid (And.intro (show OwnB w5 w.heap.size (.slice g5 m5 c5) (33 :: C).reverse by simpa using hown1) (And.intro (HB.out.trans hb1) (show (33 :: C).length = m5 by simpa using h5a)))
                have hm5 : m5 ≤ i + 1 := by have := HREL.out.2.2; have := HCM.out; simp at *; omega
                clear hown1 hb1 hs1 hg1 hv1 h5a h5b
                go_roundw
                case rel => exact ⟨i + 1, 2, 33 :: C, _, _, _, by omega, by go_num, by omega, rfl, rfl, HREL.out.1, HREL.out.2.2, hm5, HREL.out.2.1, by rw [HD.out]; exact wg_quant (.inr rfl) HC2.out⟩
                case measure => simp [intOf]; omega
            · as_aux_lemma =>
                go_wp2_with (at_builtin; refine wp_app1 (f := u8V) Tryz.underlying81 hi hz0 hz1 hz2 rfl (by omega) wr rfl _ _ rfl w.heap.size _ C.reverse 33 1 rfl HO.out HS (by have := HCM.out; simp; omega) rfl rfl rfl ?_; intro v1 w5 hown1 hb1 hs1 hg1 hv1)
                obtain ⟨g5, m5, c5, hA5, h5a, h5b⟩ := hown1.form
                subst hA5
                have HREL := Lib.hid (And.intro (show OwnB w5 w.heap.size (.slice g5 m5 c5) (33 :: C).reverse by simpa using hown1) (And.intro (HB.out.trans hb1) (show (33 :: C).length = m5 by simpa using h5a)))
                have hm5 : m5 ≤ i + 1 := by have := HREL.out.2.2; have := HCM.out; simp at *; omega
                clear hown1 hb1 hs1 hg1 hv1 h5a h5b
                go_roundw
                case rel => exact ⟨i + 1, 0, 33 :: C, _, _, _, by omega, by go_num, by omega, rfl, rfl, HREL.out.1, HREL.out.2.2, hm5, HREL.out.2.1, by rw [HD.out]; exact wg_push (.inl rfl) HC2.out⟩
                case measure => simp [intOf]; omega
            · as_aux_lemma =>
                go_wp2_with (at_builtin; refine wp_app1 (f := u8V) Tryz.underlying81 hi hz0 hz1 hz2 rfl (by omega) wr rfl _ _ rfl w.heap.size _ C.reverse 40 1 rfl HO.out HS (by have := HCM.out; simp; omega) rfl rfl rfl ?_; intro v1 w5 hown1 hb1 hs1 hg1 hv1)
                obtain ⟨g5, m5, c5, hA5, h5a, h5b⟩ := hown1.form
                subst hA5
                have HREL := Lib.hid (And.intro (show OwnB w5 w.heap.size (.slice g5 m5 c5) (40 :: C).reverse by simpa using hown1) (And.intro (HB.out.trans hb1) (show (40 :: C).length = m5 by simpa using h5a)))
                have hm5 : m5 ≤ i + 1 := by have := HREL.out.2.2; have := HCM.out; simp at *; omega
                clear hown1 hb1 hs1 hg1 hv1 h5a h5b
                go_roundw
                case rel => exact ⟨i + 1, 0, 40 :: C, _, _, _, by omega, by go_num, by omega, rfl, rfl, HREL.out.1, HREL.out.2.2, hm5, HREL.out.2.1, by rw [HD.out]; exact wg_push (.inr rfl) HC2.out⟩
                case measure => simp [intOf]; omega
        · have hb1 : begins tk = false := by simpa using hb0
          as_aux_lemma =>
            obtain ⟨e1, e2, e3, e4, e5, e6, e7⟩ := begins_no hb1
            have HBG := Lib.hid hb1
            clear hb0 hb1
            have HR : Hid (wrongGo [] 0 L = (ta, 10)) := Lib.hid (by rw [HD.out]; exact wg_bad0 HBG.out)
            go_wp2_with fail
            refine bodyPost_ret (v := .tuple #[.int .i64 (ta : Nat), .int .i64 10]) (by simp [results, Tryz.results29, go_sem, *]) rfl ⟨by rw [HR.out]; rfl, HB.out⟩
      · by_cases hr : rk tk = 0
        · by_cases h41 : tk = 41
          · subst h41
            by_cases hm0 : m = 0
            · subst hm0
              as_aux_lemma =>
                have HR : Hid (wrongGo [] 0 L = (ta, 10)) := Lib.hid (by rw [HD.out]; exact wg_bad1 rfl (fun x => by have := HCM.out; omega) (fun x => by have := x.1; simp only at this; omega))
                go_wp2_with fail
                refine bodyPost_ret (v := .tuple #[.int .i64 (ta : Nat), .int .i64 10]) (by simp [results, Tryz.results29, go_sem, *]) rfl ⟨by rw [HR.out]; rfl, HB.out⟩
            · have hx : (0 : Int) < (m : Int) := by omega
              as_aux_lemma =>
                obtain ⟨m1, rfl⟩ : ∃ m1, m = m1 + 1 := ⟨m - 1, by omega⟩
                have hO1 : OwnB wr w.heap.size (.slice g m1 cc) C.tail.reverse := by
                  have h := HO.out.cutW (m := m1) (by omega)
                  have e : C.reverse.take m1 = C.tail.reverse := by
                    have hc := HCM.out
                    cases C with
                    | nil => simp at hc
                    | cons x C => simp at hc ⊢; rw [← hc]; simp
                  rw [e] at h
                  exact h
                have HO1 := Lib.hid hO1
                clear hO1
                have HWH := Lib.hid (fun W (h : OwnB W w.heap.size (.slice g m1 cc) C.tail.reverse) => rwhole_any g m1 cc w.heap.size C.tail.reverse W h)
                have hcap : ¬ cc < m1 := by have h := HO.out.form; obtain ⟨_, _, _, he, _, hh⟩ := h; injection he with _ e2 e3; omega
                go_wp2_with fail
                refine (HWH.out _ HO1.out).mono ?_
                rintro e w1 ⟨⟨m2, hm2, rfl, hwh⟩, rfl⟩
                have hwh2 : C.tail.reverse.take m2 = (whole C.tail).reverse := by rw [List.reverse_reverse] at hwh; rw [← hwh, List.reverse_reverse]
                have hO2 : OwnB wr w.heap.size (.slice g m2 cc) (whole C.tail).reverse := by rw [← hwh2]; exact HO1.out.cutW hm2
                have hl2 : (whole C.tail).length = m2 := by have e := congrArg List.length hwh2; have := HCM.out; simp at e; omega
                have HO2 := Lib.hid (And.intro hO2 hl2)
                clear hwh hwh2 hO2 hl2
                go_wp2_with fail
                go_roundw
                case rel => exact ⟨i + 1, 1, whole C.tail, _, _, _, by omega, by go_num, by omega, rfl, rfl, HO2.out.1, HO2.out.2, by omega, HB.out, by rw [HD.out]; exact wg_close rfl (by have := HCM.out; omega)⟩
                case measure => simp [intOf]; omega
          · by_cases h122 : tk = 122
            · subst h122
              by_cases hm0 : m = 0
              · subst hm0
                as_aux_lemma =>
                  have HR : Hid (wrongGo [] 0 L = (0, 0)) := Lib.hid (by rw [HD.out]; exact wg_end rfl HCM.out)
                  go_wp2_with fail
                  refine bodyPost_ret (v := .tuple #[.int .i64 0, .int .i64 0]) (by simp [results, Tryz.results29, go_sem, *]) rfl ⟨by rw [HR.out]; rfl, HB.out⟩
              · have hx : ((m : Int) == 0) = false := by simp; omega
                as_aux_lemma =>
                  have HR : Hid (wrongGo [] 0 L = (ta, 10)) := Lib.hid (by rw [HD.out]; exact wg_bad1 rfl (fun x => by have := x.1; simp only at this; omega) (fun x => by have := HCM.out; omega))
                  go_wp2_with fail
                  refine bodyPost_ret (v := .tuple #[.int .i64 (ta : Nat), .int .i64 10]) (by simp [results, Tryz.results29, go_sem, *]) rfl ⟨by rw [HR.out]; rfl, HB.out⟩
            · have hop : tk ≠ 38 ∧ tk ≠ 124 ∧ tk ≠ 94 ∧ tk ≠ 62 ∧ tk ≠ 61 := by refine ⟨?_, ?_, ?_, ?_, ?_⟩ <;> (rintro rfl; revert hr; decide)
              as_aux_lemma =>
                obtain ⟨p1, p2, p3, p4, p5⟩ := hop
                have n38 : ((tk : Int) == 38) = false := by simp; omega
                have n124 : ((tk : Int) == 124) = false := by simp; omega
                have n94 : ((tk : Int) == 94) = false := by simp; omega
                have n62 : ((tk : Int) == 62) = false := by simp; omega
                have n61 : ((tk : Int) == 61) = false := by simp; omega
                have n41 : ((tk : Int) == 41) = false := by simp; omega
                have n122 : ((tk : Int) == 122) = false := by simp; omega
                have HRR := Lib.hid hr
                have HT := Lib.hid (And.intro h41 h122)
                clear hr
                have HR : Hid (wrongGo [] 0 L = (ta, 10)) := Lib.hid (by rw [HD.out]; exact wg_bad1 HRR.out (fun x => HT.out.1 x.1) (fun x => HT.out.2 x.1))
                go_wp2_with fail
                refine bodyPost_ret (v := .tuple #[.int .i64 (ta : Nat), .int .i64 10]) (by simp [results, Tryz.results29, go_sem, *]) rfl ⟨by rw [HR.out]; rfl, HB.out⟩
        · have HRR := Lib.hid hr
          rcases rk_mem hr with rfl | rfl | rfl | rfl | rfl
          all_goals as_aux_lemma =>
            clear hr
            go_wp2_with fail
            go_roundw
            case rel => exact ⟨i + 1, 0, C, _, _, _, by omega, by go_num, by omega, rfl, rfl, HO.out, HCM.out, by omega, HB.out, by rw [HD.out]; exact wg_op HRR.out⟩
            case measure => simp [intOf]; omega
      · by_cases h118 : tk = 118
        · subst h118
          by_cases h200 : 200 < m
          · have hx : (200 : Int) < (m : Int) := by omega
            as_aux_lemma =>
              have HR : Hid (wrongGo [] 0 L = (ta, 12)) := Lib.hid (by rw [HD.out]; exact wg_deep2 rfl (by have := HCM.out; omega))
              go_wp2_with fail
              refine bodyPost_ret (v := .tuple #[.int .i64 (ta : Nat), .int .i64 12]) (by simp [results, Tryz.results29, go_sem, *]) rfl ⟨by rw [HR.out]; rfl, HB.out⟩
          · have hx : ¬ (200 : Int) < (m : Int) := by omega
            as_aux_lemma =>
              go_wp2_with fail
              go_roundw
              case rel => exact ⟨i + 1, 3, C, _, _, _, by omega, by go_num, by omega, rfl, rfl, HO.out, HCM.out, by omega, HB.out, by rw [HD.out]; exact wg_first rfl (by have := HCM.out; omega)⟩
              case measure => simp [intOf]; omega
        · have n118 : ((tk : Int) == 118) = false := by simp; omega
          as_aux_lemma =>
            have HR : Hid (wrongGo [] 0 L = (ta, 10)) := Lib.hid (by rw [HD.out]; exact wg_bad2 h118)
            go_wp2_with fail
            refine bodyPost_ret (v := .tuple #[.int .i64 (ta : Nat), .int .i64 10]) (by simp [results, Tryz.results29, go_sem, *]) rfl ⟨by rw [HR.out]; rfl, HB.out⟩
      · by_cases h118 : tk = 118
        · subst h118
          as_aux_lemma =>
            go_wp2_with fail
            go_roundw
            case rel => exact ⟨i + 1, 3, C, _, _, _, by omega, by go_num, by omega, rfl, rfl, HO.out, HCM.out, by omega, HB.out, by rw [HD.out]; exact wg_more rfl⟩
            case measure => simp [intOf]; omega
        · have n118 : ((tk : Int) == 118) = false := by simp; omega
          by_cases h46 : tk = 46
          · subst h46
            as_aux_lemma =>
              go_wp2_with fail
              go_roundw
              case rel => exact ⟨i + 1, 0, C, _, _, _, by omega, by go_num, by omega, rfl, rfl, HO.out, HCM.out, by omega, HB.out, by rw [HD.out]; exact wg_dot rfl⟩
              case measure => simp [intOf]; omega
          · have n46 : ((tk : Int) == 46) = false := by simp; omega
            as_aux_lemma =>
              have HR : Hid (wrongGo [] 0 L = (ta, 10)) := Lib.hid (by rw [HD.out]; exact wg_bad3 h118 h46)
              go_wp2_with fail
              refine bodyPost_ret (v := .tuple #[.int .i64 (ta : Nat), .int .i64 10]) (by simp [results, Tryz.results29, go_sem, *]) rfl ⟨by rw [HR.out]; rfl, HB.out⟩
    · have hii : ¬ (i : Int) < (n : Int) := by omega
      have HR : Hid (wrongGo [] 0 L = (0, 0)) := Lib.hid (by rw [HW.out, List.drop_eq_nil_of_le (by omega)]; rfl)
      go_wp2_with fail
      refine bodyPost_ret (v := .tuple #[.int .i64 0, .int .i64 0]) (by simp [results, Tryz.results29, go_sem, *]) rfl ⟨by rw [HR.out]; rfl, HB.out⟩
end Go.Proofs.YtbhbhfplpbcfiaaGreatDoor
