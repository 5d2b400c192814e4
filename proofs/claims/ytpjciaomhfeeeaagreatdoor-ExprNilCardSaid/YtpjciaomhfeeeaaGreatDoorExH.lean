/- The parser: not and all that binds closest, levels, bound variables, together. -/
import Derived.Test.YtpjciaomhfeeeaaGreatDoorExF
namespace Go.Proofs.YtpjciaomhfeeeaaGreatDoor
open Go.RowKit Go.Sort
set_option linter.unusedSimpArgs false
set_option linter.unusedVariables false

/-- contract of 'not' at n tokens -/
def NotC (n : Nat) : Prop := ∀ (g : Nat) (l : List UInt8) (L : List Tok) (d : Nat) (bad : Int) (w : World), L.length = n → d + n ≤ 5000 → St w g l L d bad 0 →
  Calls Tryz.prog 34 #[.pointer (some ⟨g, 0, none⟩)] w (Out .not g l L d bad w)
/-- contract of 'level' of rank r at n tokens -/
def LevC (r n : Nat) : Prop := ∀ (g : Nat) (l : List UInt8) (L : List Tok) (d : Nat) (bad : Int) (w : World), L.length = n → d + n ≤ 5000 → St w g l L d bad 0 →
  Calls Tryz.prog 22 #[.pointer (some ⟨g, 0, none⟩), .int .i64 (r : Nat)] w (Out (.lev r) g l L d bad w)
/-- contract of 'bound' at n tokens -/
def BndC (n : Nat) : Prop := ∀ (g : Nat) (l : List UInt8) (t : Tok) (L : List Tok) (d : Nat) (bad : Int) (w : World), (t :: L).length = n → d + n ≤ 5000 → St w g l (t :: L) d bad 0 → t.kind = 115 ∨ t.kind = 101 →
  Calls Tryz.prog 45 #[.pointer (some ⟨g, 0, none⟩), .bool (t.kind == 101)] w (Out .not g l (t :: L) d bad w)
set_option maxRecDepth 100000 in
set_option maxHeartbeats 4000000 in
theorem not_failed (g : Nat) (l : List UInt8) (L : List Tok) (d : Nat) (bad e : Int) (w : World) (h : St w g l L d bad e) (he : e ≠ 0) :
    Calls Tryz.prog 34 #[.pointer (some ⟨g, 0, none⟩)] w fun e1 w' => e1 = .returned noE ∧ w = w' := by
  obtain ⟨t, M, rfl, _⟩ := h.head
  obtain ⟨a, hp⟩ := h.cells
  have c7 := hp.c7
  clear hp h
  go_enter Tryz.func34, Tryz.ntmps34
  go_wp2_with fail
  exact bodyPost_ret (v := noE) (by simp [results, go_sem]) rfl ⟨rfl, rfl⟩
theorem Out.other {j g l L d bad w e w'} (h : ∃ v : TypeId × Value, e = .returned (ifV v) ∧ Chg [g] w w' ∧ ∃ (c p d' : Nat) (L' : List Tok), Run j d L (.err c p) ∧ (c = 10 ∨ c = 12) ∧ d ≤ d' ∧ d' ≤ d + L.length ∧ St w' g l L' d' p c) : Out j g l L d bad w e w' := by
  obtain ⟨v, h1, h2, h3⟩ := h
  exact ⟨v, h1, h2, .inl h3⟩
theorem begins_no {k : Nat} (h : begins k = false) : ((k : Int) == 48) = false ∧ ((k : Int) == 49) = false ∧ ((k : Int) == 118) = false ∧ ((k : Int) == 33) = false ∧ ((k : Int) == 40) = false ∧ ((k : Int) == 115) = false ∧ ((k : Int) == 101) = false := by
  have hk : ¬ (k = 48 ∨ k = 49 ∨ k = 118 ∨ k = 115 ∨ k = 101 ∨ k = 33 ∨ k = 40) := fun hk => by rw [(begins_iff _).2 hk] at h; cases h
  simp
  omega
/-- what stands when 'not' looks at its token -/
def tokBlk (t : Tok) : Obj := .cells #[.int .u8 (t.kind : Nat), .int .i64 (t.n : Nat), .int .i64 (t.at_ : Nat)] 70
set_option maxRecDepth 100000 in
set_option maxHeartbeats 8000000 in
theorem not_bad (g : Nat) (l : List UInt8) (t : Tok) (M : List Tok) (d : Nat) (bad : Int) (w : World) (h : St w g l (t :: M) d bad 0) (hbg : begins t.kind = false) :
    Calls Tryz.prog 34 #[.pointer (some ⟨g, 0, none⟩)] w (Out .not g l (t :: M) d bad w) := by
  obtain ⟨a, hp⟩ := h.cells
  have c7 := hp.c7
  have c2 := hp.c2
  have c3 := hp.c3
  have c4 := hp.c4
  have hg := hp.lt
  have HST := Lib.hid (h.alloc (tokBlk t))
  have HC : Hid (Chg [g] w (w.alloc (tokBlk t))) := Lib.hid ((Chg.refl _ _).alloc _)
  clear hp h
  obtain ⟨e1, e2, e3, e4, e5, e6, e7⟩ := begins_no hbg
  have HB := Lib.hid hbg
  clear hbg
  go_enter Tryz.func34, Tryz.ntmps34
  go_wp2_with fail
  refine (fail_st g l t M d bad 10 _ HST.out).mono ?_
  rintro x w1 ⟨rfl, h1, h2⟩
  go_wp2_with fail
  refine bodyPost_ret (v := noE) (by simp [results, Tryz.results34, go_sem, *]) rfl (Out.other ⟨(_, _), rfl, HC.out.trans h1 (by simp), 10, t.at_, d, _, .bad HB.out, .inl rfl, Nat.le_refl _, by omega, h2⟩)
set_option maxRecDepth 100000 in
set_option maxHeartbeats 8000000 in
theorem not_const (g : Nat) (l : List UInt8) (k n0 a0 : Nat) (M : List Tok) (d : Nat) (bad : Int) (w : World) (h : St w g l (⟨k, n0, a0⟩ :: M) d bad 0) (hk : k = 48 ∨ k = 49) :
    Calls Tryz.prog 34 #[.pointer (some ⟨g, 0, none⟩)] w (Out .not g l (⟨k, n0, a0⟩ :: M) d bad w) := by
  obtain ⟨t, M', he, _, _, hmore, _⟩ := h.head
  injection he with he1 he2
  subst he1 he2
  obtain ⟨u, M', rfl⟩ := hmore (by simp only; omega)
  clear hmore
  obtain ⟨a, hp⟩ := h.cells
  have HST := Lib.hid (h.alloc (tokBlk ⟨k, n0, a0⟩))
  have HC : Hid (Chg [g] w (w.alloc (tokBlk ⟨k, n0, a0⟩))) := Lib.hid ((Chg.refl _ _).alloc _)
  have HBL : Hid (Blk (w.alloc (tokBlk ⟨k, n0, a0⟩)) w.heap.size _ _) := Lib.hid (Blk.new w _ _)
  have c7 := hp.c7
  have c2 := hp.c2
  have c3 := hp.c3
  have c4 := hp.c4
  have hg := hp.lt
  clear hp h
  rcases hk with rfl | rfl
  all_goals
    go_enter Tryz.func34, Tryz.ntmps34
    go_wp2_with fail
    refine (step_st g l _ u M' d bad 0 _ HST.out).mono ?_
    rintro x w1 ⟨rfl, h1, h2⟩
    have k0 := (HBL.out.chg h1 (by simp; omega)).cell 0
    have H1 := Lib.hid h1
    have H2 := Lib.hid h2
    clear h1 h2
    go_wp2_with fail
  · refine bodyPost_ret (v := .iface 139 (.bool false)) (by simp [results, Tryz.results34, go_sem, *]) rfl ⟨(_, _), rfl, HC.out.trans H1.out (by simp), .inr ⟨_, _, .const (.inl rfl), by simp, H2.out, rfl⟩⟩
  · refine bodyPost_ret (v := .iface 139 (.bool true)) (by simp [results, Tryz.results34, go_sem, *]) rfl ⟨(_, _), rfl, HC.out.trans H1.out (by simp), .inr ⟨_, _, .const (.inr rfl), by simp, H2.out, rfl⟩⟩
set_option maxRecDepth 100000 in
set_option maxHeartbeats 8000000 in
theorem not_var (g : Nat) (l : List UInt8) (n0 a0 : Nat) (M : List Tok) (d : Nat) (bad : Int) (w : World) (h : St w g l (⟨118, n0, a0⟩ :: M) d bad 0) :
    Calls Tryz.prog 34 #[.pointer (some ⟨g, 0, none⟩)] w (Out .not g l (⟨118, n0, a0⟩ :: M) d bad w) := by
  obtain ⟨t, M', he, _, _, hmore, _⟩ := h.head
  injection he with he1 he2
  subst he1 he2
  obtain ⟨u, M', rfl⟩ := hmore (by simp only; omega)
  clear hmore
  obtain ⟨a, hp⟩ := h.cells
  have c7 := hp.c7
  have c2 := hp.c2
  have c3 := hp.c3
  have c4 := hp.c4
  have hg := hp.lt
  have HST := Lib.hid (h.alloc (tokBlk ⟨118, n0, a0⟩))
  have HC : Hid (Chg [g] w (w.alloc (tokBlk ⟨118, n0, a0⟩))) := Lib.hid ((Chg.refl _ _).alloc _)
  have HBL : Hid (Blk (w.alloc (tokBlk ⟨118, n0, a0⟩)) w.heap.size _ _) := Lib.hid (Blk.new w _ _)
  clear hp h
  go_enter Tryz.func34, Tryz.ntmps34
  go_wp2_with fail
  refine (step_st g l _ u M' d bad 0 _ HST.out).mono ?_
  rintro x w1 ⟨rfl, h1, h2⟩
  have k0 := (HBL.out.chg h1 (by simp; omega)).cell 0
  have k1 := (HBL.out.chg h1 (by simp; omega)).cell 1
  have H1 := Lib.hid h1
  have H2 := Lib.hid h2
  clear h1 h2
  go_wp2_with fail
  refine bodyPost_ret (v := .iface 140 (.int .i64 (n0 : Nat))) (by simp [results, Tryz.results34, go_sem, *]) rfl ⟨(_, _), rfl, HC.out.trans H1.out (by simp), .inr ⟨_, _, .var rfl, by simp, H2.out, rfl⟩⟩
set_option maxRecDepth 100000 in
set_option maxHeartbeats 8000000 in
theorem not_bnd (g : Nat) (l : List UInt8) (k n0 a0 : Nat) (M : List Tok) (d : Nat) (bad : Int) (w : World) (h : St w g l (⟨k, n0, a0⟩ :: M) d bad 0) (hk : k = 115 ∨ k = 101) (hd : d + (M.length + 1) ≤ 5000) (hb : BndC (M.length + 1)) :
    Calls Tryz.prog 34 #[.pointer (some ⟨g, 0, none⟩)] w (Out .not g l (⟨k, n0, a0⟩ :: M) d bad w) := by
  obtain ⟨a, hp⟩ := h.cells
  have HB := Lib.hid (hb g l ⟨k, n0, a0⟩ M d bad (w.alloc (tokBlk ⟨k, n0, a0⟩)) rfl hd (h.alloc _) hk)
  clear hb
  have c7 := hp.c7
  have c2 := hp.c2
  have c3 := hp.c3
  have c4 := hp.c4
  have hg := hp.lt
  have HC : Hid (Chg [g] w (w.alloc (tokBlk ⟨k, n0, a0⟩))) := Lib.hid ((Chg.refl _ _).alloc _)
  clear hp h
  rcases hk with rfl | rfl
  all_goals
    go_enter Tryz.func34, Tryz.ntmps34
    go_wp2_with fail
    refine HB.out.mono ?_
    rintro x w1 ⟨v, rfl, h1, h2⟩
    have H1 := Lib.hid h1
    have H2 := Lib.hid h2
    clear h1 h2
    go_wp2_with fail
    refine bodyPost_ret (v := ifV v) (by simp [results, Tryz.results34, go_sem, *]) rfl ⟨v, rfl, HC.out.trans H1.out (by simp), H2.out⟩
end Go.Proofs.YtpjciaomhfeeeaaGreatDoor
