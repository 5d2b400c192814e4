/- The parser: '!' and brackets. -/
import Derived.Test.YtpjciaomhfeeeaaGreatDoorExH
namespace Go.Proofs.YtpjciaomhfeeeaaGreatDoor
open Go.RowKit Go.Sort
set_option linter.unusedSimpArgs false
set_option linter.unusedVariables false

theorem St.deepc {w : World} {g : Nat} {l : List UInt8} {L : List Tok} {d : Nat} {bad e : Int} (h : St w g l L d bad e) : w.cell? ⟨g, 5, none⟩ = some (.int .i64 (d : Nat)) ∧ w.frozen? ⟨g, 5, none⟩ = false := by
  obtain ⟨⟨a, t1, a0, hp, hn, hL⟩, hV, hl⟩ := h
  exact ⟨hp.c5, Blk.frozen hp 5⟩
/-- what 'not' leaves at once, where something failed -/
theorem not_failed_st (g : Nat) (l : List UInt8) (L : List Tok) (d : Nat) (bad e : Int) (w : World) (h : St w g l L d bad e) (he : e ≠ 0) :
    Calls Tryz.prog 34 #[.pointer (some ⟨g, 0, none⟩)] w fun e1 w' => e1 = .returned noE ∧ w = w' := not_failed g l L d bad e w h he
/-- the end of '!': the block of the side, one less deep -/
theorem bang_end {w w2 : World} {g : Nat} {l : List UInt8} {t u : Tok} {M : List Tok} {d : Nat} {bad : Int} {v : TypeId × Value} (ht : t.kind = 33) (hnd : ¬ (begins u.kind = true ∧ 200 < d + 1))
    (hC : Chg [g] w w2) (h : ((∃ (c p d' : Nat) (L' : List Tok), Run .not (d + 1) (u :: M) (.err c p) ∧ (c = 10 ∨ c = 12) ∧ d + 1 ≤ d' ∧ d' ≤ d + 1 + (u :: M).length ∧ St w2 g l L' d' p c) ∨
     (∃ x L', Run .not (d + 1) (u :: M) (.ok [x] L') ∧ L'.length ≤ (u :: M).length ∧ St w2 g l L' (d + 1) bad 0 ∧ ExAt w2 w2.heap.size x v))) :
    ∃ d2 : Nat, w2.cell? ⟨g, 5, none⟩ = some (.int .i64 ((d2 : Int) + 1)) ∧ w2.frozen? ⟨g, 5, none⟩ = false ∧ g < w2.heap.size ∧ d2 ≤ d + 1 + (u :: M).length ∧
      ∀ o, Out .not g l (t :: u :: M) d bad w (.returned (.iface 142 (.agg #[ifV v]))) ((w2.setCell ⟨g, 5, none⟩ (.int .i64 (d2 : Nat))).alloc o) := by
  rcases h with ⟨c, p, d', L', h1, h2, h3, h4, h5⟩ | ⟨x, L', h1, h2, h3, h4⟩
  · obtain ⟨d2, rfl⟩ : ∃ d2, d' = d2 + 1 := ⟨d' - 1, by omega⟩
    refine ⟨d2, h5.deepc.1, h5.deepc.2, h5.lt, by omega, fun o => ⟨(_, _), rfl, (hC.setCell (.inl (by simp)) _).alloc o, .inl ⟨c, p, d2, L', .bangE ht hnd h1, h2, by omega, by simp at h4 ⊢; omega, (h5.setDeep d2).alloc o⟩⟩⟩
  · refine ⟨d, h3.deepc.1, h3.deepc.2, h3.lt, by omega, fun o => ⟨(_, _), rfl, (hC.setCell (.inl (by simp)) _).alloc o, .inr ⟨_, L', .bang ht hnd h1, by simp at h2 ⊢; omega, (h3.setDeep d).alloc o, ⟨_, rfl, ?_⟩⟩⟩⟩
    obtain ⟨⟨a, t1, a0, hp, _, _⟩, _, _⟩ := h3
    exact ExAt.chg (g := g) h4 (((Chg.refl _ _).setCell (.inl (by simp)) _).alloc o) hp (by decide)
set_option maxRecDepth 100000 in
set_option maxHeartbeats 8000000 in
theorem not_bang (g : Nat) (l : List UInt8) (n0 a0 : Nat) (M : List Tok) (d : Nat) (bad : Int) (w : World) (h : St w g l (⟨33, n0, a0⟩ :: M) d bad 0) (hd : d + (M.length + 1) ≤ 5000) (hn : NotC M.length) :
    Calls Tryz.prog 34 #[.pointer (some ⟨g, 0, none⟩)] w (Out .not g l (⟨33, n0, a0⟩ :: M) d bad w) := by
  obtain ⟨t, M', he, _, _, hmore, _⟩ := h.head
  injection he with he1 he2
  subst he1 he2
  obtain ⟨u, M', rfl⟩ := hmore (by simp only; omega)
  clear hmore
  obtain ⟨a, hp⟩ := h.cells
  have c7 := hp.c7
  have c2 := hp.c2
  have c3 := hp.c3
  have c4 := hp.c4
  have hg := hp.lt
  have HD := Lib.hid (down_st g l ⟨33, n0, a0⟩ u M' d bad _ (h.alloc (tokBlk ⟨33, n0, a0⟩)) (by omega))
  have HC : Hid (Chg [g] w (w.alloc (tokBlk ⟨33, n0, a0⟩))) := Lib.hid ((Chg.refl _ _).alloc _)
  have HN := Lib.hid (fun W => hn g l (u :: M') (d + 1) bad W rfl (by simp at hd ⊢; omega))
  have HDD := Lib.hid hd
  clear hp h hn hd
  go_enter Tryz.func34, Tryz.ntmps34
  go_wp2_with fail
  refine HD.out.mono ?_
  rintro x w1 ⟨rfl, h1, h2⟩
  have hC1 : Chg [g] w w1 := HC.out.trans h1 (by simp)
  clear h1
  rcases h2 with ⟨k1, k2, k3⟩ | ⟨k1, k2⟩
  · have HF := Lib.hid (not_failed g l _ _ _ _ w1 k3 (by decide))
    obtain ⟨c5, f5⟩ := k3.deepc
    have hg1 := k3.lt
    have c5 : w1.cell? ⟨g, 5, none⟩ = some (.int .i64 ((d : Int) + 1)) := c5
    have hdb : d ≤ 5000 := by have := HDD.out; omega
    have FIN := Lib.hid (fun (o : Obj) => show Out .not g l (⟨33, n0, a0⟩ :: u :: M') d bad w (.returned (.iface 142 (.agg #[noE]))) ((w1.setCell ⟨g, 5, none⟩ (.int .i64 (d : Nat))).alloc o) from
      Out.other ⟨(_, _), rfl, (hC1.setCell (.inl (by simp)) _).alloc o, 12, u.at_, d, _, .deep (.inl rfl) k1 k2, .inr rfl, Nat.le_refl _, by omega, (k3.setDeep d).alloc o⟩)
    clear k1 k2 k3 hC1
    go_wp2_with fail
    refine HF.out.mono ?_
    rintro x w2 ⟨rfl, rfl⟩
    go_wp2_with fail
    refine bodyPost_ret (v := .iface 142 (.agg #[noE])) (by simp [results, Tryz.results34, go_sem, *]) rfl (FIN.out _)
  · have HR := Lib.hid (HN.out w1 k2)
    have HK := Lib.hid k1
    have HC1 := Lib.hid hC1
    clear k1 k2 hC1
    go_wp2_with fail
    refine HR.out.mono ?_
    rintro x w2 ⟨v, rfl, h3, h4⟩
    obtain ⟨d2, c5, f5, hg2, hd2, hfin⟩ := bang_end (t := ⟨33, n0, a0⟩) rfl HK.out (HC1.out.trans h3 (by simp)) h4
    have hd3 : d2 ≤ 10000 := by have := HDD.out; simp at this hd2; omega
    have FIN := Lib.hid hfin
    clear h3 h4 hfin hd2
    go_wp2_with fail
    refine bodyPost_ret (v := .iface 142 (.agg #[ifV v])) (by simp [results, Tryz.results34, go_sem, *]) rfl (FIN.out _)
/-- contract of 'level' where something failed -/
def LevF (r : Nat) : Prop := ∀ (g : Nat) (l : List UInt8) (L : List Tok) (d : Nat) (bad e : Int) (w : World), St w g l L d bad e → e ≠ 0 →
  Calls Tryz.prog 22 #[.pointer (some ⟨g, 0, none⟩), .int .i64 (r : Nat)] w fun e1 w' => ∃ v : TypeId × Value, e1 = .returned (ifV v) ∧ Below w.heap.size w w'
/-- the end of a bracket that holds what is whole, or not -/
theorem par_end {w w2 : World} {g : Nat} {l : List UInt8} {t u : Tok} {M : List Tok} {d : Nat} {bad : Int} {v : TypeId × Value} (ht : t.kind = 40) (hnd : ¬ (begins u.kind = true ∧ 200 < d + 1))
    (hC : Chg [g] w w2) (h : ((∃ (c p d' : Nat) (L' : List Tok), Run (.lev 1) (d + 1) (u :: M) (.err c p) ∧ (c = 10 ∨ c = 12) ∧ d + 1 ≤ d' ∧ d' ≤ d + 1 + (u :: M).length ∧ St w2 g l L' d' p c) ∨
     (∃ x L', Run (.lev 1) (d + 1) (u :: M) (.ok [x] L') ∧ L'.length ≤ (u :: M).length ∧ St w2 g l L' (d + 1) bad 0 ∧ ExAt w2 w2.heap.size x v))) :
    Calls Tryz.prog 23 #[.pointer (some ⟨g, 0, none⟩), .int .u8 41] w2 fun e1 w3 => e1 = .returned (.tuple #[]) ∧
    ∃ d2 : Nat, w3.cell? ⟨g, 5, none⟩ = some (.int .i64 ((d2 : Int) + 1)) ∧ w3.frozen? ⟨g, 5, none⟩ = false ∧ g < w3.heap.size ∧ d2 ≤ d + 1 + (u :: M).length ∧
      Out .not g l (t :: u :: M) d bad w (.returned (ifV v)) (w3.setCell ⟨g, 5, none⟩ (.int .i64 (d2 : Nat))) := by
  rcases h with ⟨c, p, d', L', h1, h2, h3, h4, h5⟩ | ⟨x, L', h1, h2, h3, h4⟩
  · obtain ⟨d2, rfl⟩ : ∃ d2, d' = d2 + 1 := ⟨d' - 1, by omega⟩
    refine (want_err_st g l L' _ p c 41 w2 h5 (by omega)).mono ?_
    rintro e1 w3 ⟨rfl, rfl⟩
    exact ⟨rfl, d2, h5.deepc.1, h5.deepc.2, h5.lt, by omega, ⟨(_, _), rfl, hC.setCell (.inl (by simp)) _, .inl ⟨c, p, d2, L', .parE ht hnd h1, h2, by omega, by simp at h4 ⊢; omega, h5.setDeep d2⟩⟩⟩
  · obtain ⟨v1, M1, rfl, _, _, hmore, _⟩ := h3.head
    by_cases hv : v1.kind = 41
    · obtain ⟨u1, M2, rfl⟩ := hmore (by omega)
      refine (want_hit_st g l v1 u1 M2 (d + 1) bad 41 w2 h3 hv).mono ?_
      rintro e1 w3 ⟨rfl, k1, k2⟩
      refine ⟨rfl, d, k2.deepc.1, k2.deepc.2, k2.lt, by omega, ⟨(_, _), rfl, (hC.trans k1 (by simp)).setCell (.inl (by simp)) _, .inr ⟨x, _, .par ht hnd h1 hv, by simp at h2 ⊢; omega, k2.setDeep d, ?_⟩⟩⟩
      obtain ⟨⟨a, t1, a0, hp, _, _⟩, _, _⟩ := h3
      exact ExAt.chg (g := g) h4 (k1.setCell (.inl (by simp)) _) hp (by decide)
    · refine (want_miss_st g l v1 M1 (d + 1) bad 41 w2 h3 hv).mono ?_
      rintro e1 w3 ⟨rfl, k1, k2⟩
      exact ⟨rfl, d, k2.deepc.1, k2.deepc.2, k2.lt, by omega, ⟨(_, _), rfl, (hC.trans k1 (by simp)).setCell (.inl (by simp)) _, .inl ⟨10, v1.at_, d, _, .parW ht hnd h1 hv, .inl rfl, Nat.le_refl _, by omega, k2.setDeep d⟩⟩⟩
set_option maxRecDepth 100000 in
set_option maxHeartbeats 8000000 in
theorem not_par (g : Nat) (l : List UInt8) (n0 a0 : Nat) (M : List Tok) (d : Nat) (bad : Int) (w : World) (h : St w g l (⟨40, n0, a0⟩ :: M) d bad 0) (hd : d + (M.length + 1) ≤ 5000) (hn : LevC 1 M.length) (hf : LevF 1) :
    Calls Tryz.prog 34 #[.pointer (some ⟨g, 0, none⟩)] w (Out .not g l (⟨40, n0, a0⟩ :: M) d bad w) := by
  obtain ⟨t, M', he, _, _, hmore, _⟩ := h.head
  injection he with he1 he2
  subst he1 he2
  obtain ⟨u, M', rfl⟩ := hmore (by simp only; omega)
  clear hmore
  obtain ⟨a, hp⟩ := h.cells
  have c7 := hp.c7
  have c2 := hp.c2
  have c3 := hp.c3
  have c4 := hp.c4
  have hg := hp.lt
  have HD := Lib.hid (down_st g l ⟨40, n0, a0⟩ u M' d bad _ (h.alloc (tokBlk ⟨40, n0, a0⟩)) (by omega))
  have HC : Hid (Chg [g] w (w.alloc (tokBlk ⟨40, n0, a0⟩))) := Lib.hid ((Chg.refl _ _).alloc _)
  have HN := Lib.hid (fun W => hn g l (u :: M') (d + 1) bad W rfl (by simp at hd ⊢; omega))
  have HDD := Lib.hid hd
  have HLF := Lib.hid hf
  clear hp h hn hd hf
  go_enter Tryz.func34, Tryz.ntmps34
  go_wp2_with fail
  refine HD.out.mono ?_
  rintro x w1 ⟨rfl, h1, h2⟩
  have hC1 : Chg [g] w w1 := HC.out.trans h1 (by simp)
  clear h1
  rcases h2 with ⟨k1, k2, k3⟩ | ⟨k1, k2⟩
  · have HF := Lib.hid (HLF.out g l _ _ _ _ w1 k3 (by decide))
    have K := Lib.hid (And.intro k1 (And.intro k2 k3))
    have HC1 := Lib.hid hC1
    have hdb : d ≤ 5000 := by have := HDD.out; omega
    clear k1 k2 k3 hC1
    go_wp2_with fail
    refine HF.out.mono ?_
    rintro x w2 ⟨v, rfl, hb⟩
    have k4 := K.out.2.2.chg0 hb
    have HW := Lib.hid (want_err_st g l _ _ _ _ 41 w2 k4 (by decide))
    obtain ⟨c5, f5⟩ := k4.deepc
    have hg1 := k4.lt
    have c5 : w2.cell? ⟨g, 5, none⟩ = some (.int .i64 ((d : Int) + 1)) := c5
    have FIN : Hid (Out .not g l (⟨40, n0, a0⟩ :: u :: M') d bad w (.returned (ifV v)) (w2.setCell ⟨g, 5, none⟩ (.int .i64 (d : Nat)))) := Lib.hid (
      Out.other ⟨v, rfl, (HC1.out.trans (chg_of_below (F := []) hb) (by simp)).setCell (.inl (by simp)) _, 12, u.at_, d, _, .deep (.inr rfl) K.out.1 K.out.2.1, .inr rfl, Nat.le_refl _, by omega, k4.setDeep d⟩)
    clear k4 hb
    go_wp2_with fail
    refine HW.out.mono ?_
    rintro x w3 ⟨rfl, rfl⟩
    go_wp2_with fail
    refine bodyPost_ret (v := ifV v) (by simp [results, Tryz.results34, go_sem, *]) rfl FIN.out
  · have HR := Lib.hid (HN.out w1 k2)
    have HK := Lib.hid k1
    have HC1 := Lib.hid hC1
    clear k1 k2 hC1
    go_wp2_with fail
    refine HR.out.mono ?_
    rintro x w2 ⟨v, rfl, h3, h4⟩
    have HE := Lib.hid (par_end (t := ⟨40, n0, a0⟩) rfl HK.out (HC1.out.trans h3 (by simp)) h4)
    clear h3 h4
    go_wp2_with fail
    refine HE.out.mono ?_
    rintro x w3 ⟨rfl, d2, c5, f5, hg2, hd2, hfin⟩
    have hd3 : d2 ≤ 10000 := by have := HDD.out; simp at this hd2; omega
    have FIN := Lib.hid hfin
    clear hfin hd2
    go_wp2_with fail
    refine bodyPost_ret (v := ifV v) (by simp [results, Tryz.results34, go_sem, *]) rfl FIN.out
/-- 'not', all of it -/
theorem not_any (n : Nat) (hb : BndC n) (hn : ∀ m, m < n → NotC m) (hl : ∀ m, m < n → LevC 1 m) (hf : LevF 1) : NotC n := by
  intro g l L d bad w hLn hd h
  obtain ⟨t, M, rfl, _⟩ := h.head
  obtain ⟨k, n0, a0⟩ := t
  subst hLn
  cases hbg : begins k with
  | false => exact not_bad g l _ M d bad w h hbg
  | true =>
    rcases (begins_iff k).1 hbg with rfl | rfl | rfl | rfl | rfl | rfl | rfl
    · exact not_const g l 48 n0 a0 M d bad w h (.inl rfl)
    · exact not_const g l 49 n0 a0 M d bad w h (.inr rfl)
    · exact not_var g l n0 a0 M d bad w h
    · exact not_bnd g l 115 n0 a0 M d bad w h (.inl rfl) hd hb
    · exact not_bnd g l 101 n0 a0 M d bad w h (.inr rfl) hd hb
    · exact not_bang g l n0 a0 M d bad w h hd (hn _ (by simp))
    · exact not_par g l n0 a0 M d bad w h hd (hl _ (by simp)) hf
end Go.Proofs.YtpjciaomhfeeeaaGreatDoor
