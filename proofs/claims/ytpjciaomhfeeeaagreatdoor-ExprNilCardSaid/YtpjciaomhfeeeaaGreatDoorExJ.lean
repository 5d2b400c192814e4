/- The parser: levels of operators. -/
import Derived.Test.YtpjciaomhfeeeaaGreatDoorExI
namespace Go.Proofs.YtpjciaomhfeeeaaGreatDoor
open Go.RowKit Go.Sort
set_option linter.unusedSimpArgs false
set_option linter.unusedVariables false

theorem info_part : (Tryz.prog.info? 57).map (fun i => (i.zero, i.size, i.bytes)) = some (some .nilIface, 1, 16) := by kernel_rfl
abbrev OwnP := OwnF ifV 57
theorem OwnP.lit {w : World} (v : TypeId × Value) : OwnP (w.alloc (.cells #[ifV v] 57)) w.heap.size (.slice (some ⟨w.heap.size, 0, none⟩) 1 1) [v] :=
  ⟨rfl, .inr ⟨w.heap.size, 1, _, rfl, Nat.le_refl _, heap_alloc_new w _, Nat.le_refl _, by unfold maxLen; omega, rfl, rfl⟩⟩
set_option maxRecDepth 100000 in
set_option maxHeartbeats 8000000 in
theorem lev_six (n : Nat) (hn : NotC n) : LevC 6 n := by
  intro g l L d bad w hLn hd h
  have HN := Lib.hid (hn g l L d bad w hLn hd h)
  have HR := Lib.hid (fun W => rank_any 38 W (by omega))
  clear h hn
  go_enter Tryz.func22, Tryz.ntmps22
  go_wp2_with fail
  refine (HR.out _).mono ?_
  rintro x w1 ⟨rfl, rfl⟩
  have hr : rkI 38 = 5 := rfl
  go_wp2_with fail
  refine HN.out.mono ?_
  rintro x w1 ⟨v, rfl, h1, h2⟩
  have H1 := Lib.hid h1
  have H2 := Lib.hid h2
  clear h1 h2
  go_wp2_with fail
  refine bodyPost_ret (v := ifV v) (by simp [results, Tryz.results22, go_sem, *]) rfl ⟨v, rfl, H1.out, ?_⟩
  rcases H2.out with ⟨c, p, d', L', h1, h2⟩ | ⟨x, L', h1, h2⟩
  · exact .inl ⟨c, p, d', L', .levN (by omega) h1, h2⟩
  · exact .inr ⟨x, L', .levN (by omega) h1, h2⟩
set_option maxRecDepth 100000 in
set_option maxHeartbeats 8000000 in
theorem levf_six : LevF 6 := by
  intro g l L d bad e w h he
  have HN := Lib.hid (not_failed g l L d bad e w h he)
  have HR := Lib.hid (fun W => rank_any 38 W (by omega))
  clear h he
  go_enter Tryz.func22, Tryz.ntmps22
  go_wp2_with fail
  refine (HR.out _).mono ?_
  rintro x w1 ⟨rfl, rfl⟩
  have hr : rkI 38 = 5 := rfl
  go_wp2_with fail
  refine HN.out.mono ?_
  rintro x w1 ⟨rfl, rfl⟩
  go_wp2_with fail
  exact bodyPost_ret (v := noE) (by simp [results, Tryz.results22, go_sem, *]) rfl ⟨(_, _), rfl, Below.refl _ _⟩
theorem PV.low {w w3 w4 : World} (h : PV w) (h3 : PV w3) (hb : Below w.heap.size w3 w4) : PV w4 := by
  obtain ⟨⟨m, h1⟩, ⟨a, b, h2⟩, ⟨c, d, h4⟩⟩ := h
  obtain ⟨⟨m', k1⟩, ⟨a', b', k2⟩, ⟨c', d', k4⟩⟩ := h3
  exact ⟨⟨m', (hb.cell (p := ⟨0, 0, none⟩) (Lib.lt_of_cell h1)).trans k1⟩, ⟨a', b', (hb.cell (p := ⟨1, 0, none⟩) (Lib.lt_of_cell h2)).trans k2⟩, ⟨c', d', (hb.cell (p := ⟨2, 0, none⟩) (Lib.lt_of_cell h4)).trans k4⟩⟩
theorem St.grow {w w3 w4 : World} {g : Nat} {l : List UInt8} {L : List Tok} {d : Nat} {bad e : Int} (h : St w3 g l L d bad e) (hp : PV w) (hb : Below w.heap.size w3 w4) (hg : g < w.heap.size) : St w4 g l L d bad e := by
  obtain ⟨⟨a, t, a0, h1, h2, h3⟩, h4, h5⟩ := h
  exact ⟨⟨a, t, a0, (hb.block g hg).trans h1, h2, h3⟩, hp.low h4 hb, h5⟩
/-- what the loop over the sides of one rank keeps -/
def Sides (r : Nat) (g : Nat) (l : List UInt8) (L : List Tok) (d : Nat) (bad : Int) (w : World) (gk : Nat) (s5 : Value) (wr : World) : Prop :=
  ∃ A n c vs, s5 = .slice A n c ∧ OwnP wr w.heap.size (.slice A n c) vs ∧ vs ≠ [] ∧ Chg [g] w wr ∧
    ((∃ (c p d' : Nat) (L' : List Tok), gk = 0 ∧ Run (.parts r) d L (.err c p) ∧ (c = 10 ∨ c = 12) ∧ d ≤ d' ∧ d' ≤ d + L.length ∧ St wr g l L' d' p c) ∨
     (∃ xs L1, gk = L1.length ∧ Run (.parts r) d L (.ok xs L1) ∧ L1.length + vs.length ≤ L.length + 1 ∧ St wr g l L1 d bad 0 ∧ ExsAt wr wr.heap.size xs vs))
theorem Run.parts_ne {j d L res} (h : Run j d L res) : ∀ l L', res = .ok l L' → l ≠ [] := by
  induction h with
  | levN _ _ ih => exact ih
  | parts1 _ _ ih => exact ih
  | levE => rintro l L' e; cases e
  | partsE => rintro l L' e; cases e
  | bad => rintro l L' e; cases e
  | deep => rintro l L' e; cases e
  | bangE => rintro l L' e; cases e
  | parE => rintro l L' e; cases e
  | parW => rintro l L' e; cases e
  | bndW => rintro l L' e; cases e
  | bndD => rintro l L' e; cases e
  | bndS => rintro l L' e; cases e
  | bndE => rintro l L' e; cases e
  | _ => rintro l L' e; injection e with e1 e2; subst e1; simp
theorem ExAt.st {w w' : World} {x : Ex} {v : TypeId × Value} {g : Nat} {l : List UInt8} {L : List Tok} {d : Nat} {bad e : Int} (h : ExAt w w.heap.size x v) (hs : St w g l L d bad e) (hb : Chg [g] w w') : ExAt w' w'.heap.size x v := by
  obtain ⟨⟨a, t1, a0, hp, _, _⟩, _, _⟩ := hs
  exact ExAt.chg (g := g) h hb hp (by decide)
theorem ExsAt.st {w w' : World} {xs : List Ex} {vs : List (TypeId × Value)} {g : Nat} {l : List UInt8} {L : List Tok} {d : Nat} {bad e : Int} (h : ExsAt w w.heap.size xs vs) (hs : St w g l L d bad e) (hb : Chg [g] w w') : ExsAt w' w'.heap.size xs vs :=
  ExsAt.keep (fun x v hx => ExAt.st hx hs hb) h
/-- the sides are found: what is told -/
theorem sides_out {r g l L d bad w gk s5 wr} (h1 : 1 ≤ r) (h5 : r ≤ 5) (h : Sides r g l L d bad w gk s5 wr) (hgo : ∀ t M, St wr g l (t :: M) d bad 0 → rk t.kind ≠ r) :
    ∃ A n c vs, s5 = .slice A n c ∧ OwnP wr w.heap.size (.slice A n c) vs ∧ vs ≠ [] ∧ vs.length = n ∧ n ≤ c ∧ Out (.lev r) g l L d bad w (.returned (ifV (foldXV r vs))) wr := by
  obtain ⟨A, n, c, vs, h1', h2, h3, h4, h⟩ := h
  obtain ⟨A', n', c', e, e1, e2⟩ := h2.form
  injection e with ea eb ec
  subst ea eb ec
  refine ⟨A, n, c, vs, h1', h2, h3, e1, e2, ⟨_, rfl, h4, ?_⟩⟩
  rcases h with ⟨c, p, d', L', _, k1, k2⟩ | ⟨xs, L1, _, k1, k2, k3, k4⟩
  · exact .inl ⟨c, p, d', L', .levE h5 k1, k2⟩
  · obtain ⟨t, M, rfl, _⟩ := k3.head
    exact .inr ⟨_, _, .levD h5 k1 (hgo t M k3), by have := List.length_pos_iff.2 h3; omega, k3, foldX_at (k1.parts_ne _ _ rfl) k4⟩

set_option maxRecDepth 100000 in
set_option maxHeartbeats 16000000 in
theorem lev_1 (n : Nat) (hn : ∀ m, m ≤ n → LevC 2 m) : LevC 1 n := by
  intro g l L d bad w hLn hd h
  have HN0 := Lib.hid (hn n (Nat.le_refl _) g l L d bad w hLn hd h)
  have HN := Lib.hid hn
  have HR := Lib.hid (fun k W hk => rank_any k W hk)
  obtain ⟨i0, hi, hz0, hz1, hz2⟩ := info_parts info_part
  have hg := h.lt
  have HPV := Lib.hid h.pv
  have hr : rkI 38 = 5 := rfl
  have hix : ((⟨#[32, 61, 62, 94, 124, 38]⟩ : ByteArray)[1]'(by decide)).toNat = 61 := rfl
  clear h hn
  go_enter Tryz.func22, Tryz.ntmps22
  go_wp2_with fail
  refine (HR.out 38 _ (by omega)).mono ?_
  rintro x w1 ⟨rfl, rfl⟩
  go_wp2_with fail
  refine HN0.out.mono ?_
  rintro x w1 ⟨v, rfl, h1, h2⟩
  have hS : ∃ gk, gk ≤ L.length ∧ Sides 1 g l L d bad w gk (.slice (some ⟨w1.heap.size, 0, none⟩) 1 1) (w1.alloc (.cells #[ifV v] 57)) := by
    rcases h2 with ⟨c, p, d', L', k1, k2, k3, k4, k5⟩ | ⟨x, L', k1, k2, k3, k4⟩
    · exact ⟨0, Nat.zero_le _, _, _, _, [v], rfl, (OwnP.lit v).mono h1.size, by simp, h1.alloc _, .inl ⟨c, p, d', L', rfl, .parts1 (by omega) k1, k2, k3, k4, k5.alloc _⟩⟩
    · exact ⟨L'.length, k2, _, _, _, [v], rfl, (OwnP.lit v).mono h1.size, by simp, h1.alloc _, .inr ⟨[x], L', rfl, .parts1 (by omega) k1, by simp; omega, k3.alloc _, ⟨ExAt.st k4 k3 ((Chg.refl _ _).alloc _), trivial⟩⟩⟩
  clear h1 h2
  obtain ⟨gk0, hgk0, hS⟩ := hS
  have HS := Lib.hid hS
  clear hS
  go_wp2_with fail
  go_loopg [5] gk0 (fun gk s5 wr => gk ≤ L.length ∧ Sides 1 g l L d bad w gk s5 wr)
  case atStart => exact ⟨hgk0, HS.out⟩
  case round =>
    obtain ⟨hgk, A, n0, c0, vs0, rfl, k1', k2', k3', k4'⟩ := hrel
    have hS : Sides 1 g l L d bad w gk (.slice A n0 c0) wr := ⟨A, n0, c0, vs0, rfl, k1', k2', k3', k4'⟩
    have key : (∃ (c p d' : Nat) (L' : List Tok), (c = 10 ∨ c = 12) ∧ St wr g l L' d' p c) ∨ (∃ t M, St wr g l (t :: M) d bad 0 ∧ rk t.kind ≠ 1) ∨
        (∃ vs xs t M, OwnP wr w.heap.size (.slice A n0 c0) vs ∧ vs ≠ [] ∧ Chg [g] w wr ∧ gk = M.length + 1 ∧ Run (.parts 1) d L (.ok xs (t :: M)) ∧ rk t.kind = 1 ∧ M.length + 1 + vs.length ≤ L.length + 1 ∧ St wr g l (t :: M) d bad 0 ∧ ExsAt wr wr.heap.size xs vs) := by
      clear hS
      rcases k4' with ⟨c, p, d', L', _, _, j2, _, _, j5⟩ | ⟨xs, L1, j1, j2, j3, j4, j5⟩
      · exact .inl ⟨c, p, d', L', j2, j5⟩
      · obtain ⟨t, M, rfl, _⟩ := j4.head
        by_cases hrk : rk t.kind = 1
        · exact .inr (.inr ⟨vs0, xs, t, M, k1', k2', k3', j1, j2, hrk, j3, j4, j5⟩)
        · exact .inr (.inl ⟨t, M, j4, hrk⟩)
    rcases key with ⟨c, p, d', L', hc, hst⟩ | ⟨t, M, hst, hrk⟩ | ⟨vs, xs, t, M, hown, hvs, hch, rfl, hrun, hrk, hlen, hst, hex⟩
    all_goals clear k1' k2' k3' k4' vs0

    · obtain ⟨A', n', c2', vs, e1, hown, hne, hvl, hnc, hout⟩ := sides_out (by omega) (by omega) hS (fun t M k => by
        obtain ⟨_, M2, hh, _⟩ := hst.head
        subst hh
        obtain ⟨_, q⟩ := hst.cells
        obtain ⟨_, q2⟩ := k.cells
        have e1 := q.c7
        rw [q2.c7] at e1
        injection e1 with e1
        injection e1 with _ e1
        omega)
      injection e1 with ea eb ec
      subst ea eb ec
      obtain ⟨gb, cap, hgb, hgb1, hgb2, hgb3⟩ := hown.head (List.length_pos_iff.2 hne)
      injection hgb with e1 e2 e3
      subst e1 e2 e3
      obtain ⟨tt, M2, rfl, _⟩ := hst.head
      obtain ⟨aa, hps⟩ := hst.cells
      have c7 := hps.c7
      have hc0 : ¬ (c : Int) = 0 := by omega
      have hc1 : ((c : Int) == 0) = false := by simp; omega
      have HO := Lib.hid hown
      have FIN := Lib.hid hout
      have hn0 : 0 < vs.length := List.length_pos_iff.2 hne
      have hnm := hown.len_le
      generalize hnn : vs.length = n at *
      clear hown hout hst hS hps hc hne
      obtain ⟨v0, hv0⟩ : ∃ v0, vs[0]? = some v0 := ⟨_, List.getElem?_eq_getElem (by omega)⟩
      have q0 : wr.cell? ⟨gb, 0, none⟩ = some (ifV v0) := by have := (OwnF.at_ HO.out 0 (by omega)).1; rw [hv0] at this; exact this
      have hvs : vs = v0 :: vs.drop 1 := by
        have h := hv0
        rw [List.getElem?_eq_getElem (by omega)] at h
        injection h with h
        have := List.drop_eq_getElem_cons (l := vs) (i := 0) (by omega)
        rw [List.drop_zero, h] at this
        exact this
      obtain ⟨tl, htl⟩ : ∃ tl, tl = vs.drop 1 := ⟨_, rfl⟩
      rw [← htl] at hvs
      have HVS := Lib.hid hvs
      have HTL := Lib.hid htl
      clear hv0 hvs htl
      by_cases hcap : c0 = 1
      · subst hcap
        go_wp2_with fail
        go_loop [9, 78] (fun x i => ∃ k : Nat, k + 1 ≤ n ∧ x = ifV ((tl.take k).foldl (pairV 61) v0) ∧ i = .int .i64 (k : Int)) (fun x i => n - (intOf i).toNat)
        case atStart => exact ⟨0, by omega, rfl, rfl⟩
        case round =>
          obtain ⟨k, hk, rfl, rfl⟩ := hrel
          have hk0 : k + 1 = n := by omega
          have hk1 : (k : Int) + 1 = n := by omega
          go_wp2_with fail
          refine bodyPost_ret (v := ifV ((tl.take k).foldl (pairV 61) v0)) (by simp [results, Tryz.results22, go_sem, *]) rfl ?_
          have e1 : (tl.take k).foldl (pairV 61) v0 = foldXV 1 vs := by
            rw [List.take_of_length_le (by rw [HTL.out]; simp; omega)]
            conv => rhs; rw [HVS.out]
            rfl
          rw [e1]
          exact FIN.out
      · have hcap2 : (c0 : Int) ≠ 1 := by omega
        go_wp2_with fail
        go_loop [9, 78] (fun x i => ∃ k : Nat, k + 1 ≤ n ∧ x = ifV ((tl.take k).foldl (pairV 61) v0) ∧ i = .int .i64 (k : Int)) (fun x i => n - (intOf i).toNat)
        case atStart => exact ⟨0, by omega, rfl, rfl⟩
        case round =>
          obtain ⟨k, hk, rfl, rfl⟩ := hrel
          by_cases hk0 : k + 1 = n
          · have hk1 : (k : Int) + 1 = n := by omega
            go_wp2_with fail
            refine bodyPost_ret (v := ifV ((tl.take k).foldl (pairV 61) v0)) (by simp [results, Tryz.results22, go_sem, *]) rfl ?_
            have e1 : (tl.take k).foldl (pairV 61) v0 = foldXV 1 vs := by
              rw [List.take_of_length_le (by rw [HTL.out]; simp; omega)]
              conv => rhs; rw [HVS.out]
              rfl
            rw [e1]
            exact FIN.out
          · obtain ⟨vk, hvk⟩ : ∃ v0, vs[k + 1]? = some v0 := ⟨_, List.getElem?_eq_getElem (by omega)⟩
            have q1 : wr.cell? ⟨gb, 1 + k, none⟩ = some (ifV vk) := by have := (OwnF.at_ HO.out (k + 1) (by omega)).1; rw [hvk] at this; rw [show 1 + k = k + 1 by omega]; exact this
            have hfd : Hid ((tl.take (k + 1)).foldl (pairV 61) v0 = pairV 61 ((tl.take k).foldl (pairV 61) v0) vk) := Lib.hid (by
              rw [List.take_add_one, HTL.out, List.getElem?_drop, show 1 + k = k + 1 by omega, hvk, List.foldl_append]
              rfl)
            clear hvk
            have hi : (k : Int) < (n : Int) - 1 := by omega
            go_wp2_with fail
            go_round
            case rel => exact ⟨k + 1, by omega, by rw [hfd.out]; rfl, by go_num⟩
            case measure => simp [intOf]; omega

    · obtain ⟨A', n', c2', vs, e1, hown, hne, hvl, hnc, hout⟩ := sides_out (by omega) (by omega) hS (fun t2 M2 k => by
        obtain ⟨_, q⟩ := hst.cells
        obtain ⟨_, q2⟩ := k.cells
        have e1 := q.c2
        rw [q2.c2] at e1
        injection e1 with e1
        injection e1 with _ e1
        rw [show t2.kind = t.kind by omega]
        exact hrk)
      injection e1 with ea eb ec
      subst ea eb ec
      obtain ⟨gb, cap, hgb, hgb1, hgb2, hgb3⟩ := hown.head (List.length_pos_iff.2 hne)
      injection hgb with e1 e2 e3
      subst e1 e2 e3
      obtain ⟨_, _, he, hk255, _⟩ := hst.head
      injection he with he1 he2
      subst he1 he2
      obtain ⟨aa, hps⟩ := hst.cells
      have c7 := hps.c7
      have c2' := hps.c2
      have HRK := Lib.hid (fun W => HR.out t.kind W (by omega))
      have hri : (rkI t.kind == 1) = false := by
        rw [beq_eq_false_iff_ne]
        exact fun e => hrk ((rkI_eq (r := 1) (by omega)).1 e)
      have HO := Lib.hid hown
      have FIN := Lib.hid hout
      have hn0 : 0 < vs.length := List.length_pos_iff.2 hne
      have hnm := hown.len_le
      generalize hnn : vs.length = n at *
      generalize hrv : rkI t.kind = rv at *
      clear hown hout hst hS hps hne hrk hrv
      go_wp2_with fail
      refine (HRK.out _).mono ?_
      rintro x w2 ⟨rfl, rfl⟩
      obtain ⟨v0, hv0⟩ : ∃ v0, vs[0]? = some v0 := ⟨_, List.getElem?_eq_getElem (by omega)⟩
      have q0 : wr.cell? ⟨gb, 0, none⟩ = some (ifV v0) := by have := (OwnF.at_ HO.out 0 (by omega)).1; rw [hv0] at this; exact this
      have hvs : vs = v0 :: vs.drop 1 := by
        have h := hv0
        rw [List.getElem?_eq_getElem (by omega)] at h
        injection h with h
        have := List.drop_eq_getElem_cons (l := vs) (i := 0) (by omega)
        rw [List.drop_zero, h] at this
        exact this
      obtain ⟨tl, htl⟩ : ∃ tl, tl = vs.drop 1 := ⟨_, rfl⟩
      rw [← htl] at hvs
      have HVS := Lib.hid hvs
      have HTL := Lib.hid htl
      clear hv0 hvs htl
      by_cases hcap : c0 = 1
      · subst hcap
        go_wp2_with fail
        go_loop [9, 78] (fun x i => ∃ k : Nat, k + 1 ≤ n ∧ x = ifV ((tl.take k).foldl (pairV 61) v0) ∧ i = .int .i64 (k : Int)) (fun x i => n - (intOf i).toNat)
        case atStart => exact ⟨0, by omega, rfl, rfl⟩
        case round =>
          obtain ⟨k, hk, rfl, rfl⟩ := hrel
          have hk0 : k + 1 = n := by omega
          have hk1 : (k : Int) + 1 = n := by omega
          go_wp2_with fail
          refine bodyPost_ret (v := ifV ((tl.take k).foldl (pairV 61) v0)) (by simp [results, Tryz.results22, go_sem, *]) rfl ?_
          have e1 : (tl.take k).foldl (pairV 61) v0 = foldXV 1 vs := by
            rw [List.take_of_length_le (by rw [HTL.out]; simp; omega)]
            conv => rhs; rw [HVS.out]
            rfl
          rw [e1]
          exact FIN.out
      · have hcap2 : (c0 : Int) ≠ 1 := by omega
        go_wp2_with fail
        go_loop [9, 78] (fun x i => ∃ k : Nat, k + 1 ≤ n ∧ x = ifV ((tl.take k).foldl (pairV 61) v0) ∧ i = .int .i64 (k : Int)) (fun x i => n - (intOf i).toNat)
        case atStart => exact ⟨0, by omega, rfl, rfl⟩
        case round =>
          obtain ⟨k, hk, rfl, rfl⟩ := hrel
          by_cases hk0 : k + 1 = n
          · have hk1 : (k : Int) + 1 = n := by omega
            go_wp2_with fail
            refine bodyPost_ret (v := ifV ((tl.take k).foldl (pairV 61) v0)) (by simp [results, Tryz.results22, go_sem, *]) rfl ?_
            have e1 : (tl.take k).foldl (pairV 61) v0 = foldXV 1 vs := by
              rw [List.take_of_length_le (by rw [HTL.out]; simp; omega)]
              conv => rhs; rw [HVS.out]
              rfl
            rw [e1]
            exact FIN.out
          · obtain ⟨vk, hvk⟩ : ∃ v0, vs[k + 1]? = some v0 := ⟨_, List.getElem?_eq_getElem (by omega)⟩
            have q1 : wr.cell? ⟨gb, 1 + k, none⟩ = some (ifV vk) := by have := (OwnF.at_ HO.out (k + 1) (by omega)).1; rw [hvk] at this; rw [show 1 + k = k + 1 by omega]; exact this
            have hfd : Hid ((tl.take (k + 1)).foldl (pairV 61) v0 = pairV 61 ((tl.take k).foldl (pairV 61) v0) vk) := Lib.hid (by
              rw [List.take_add_one, HTL.out, List.getElem?_drop, show 1 + k = k + 1 by omega, hvk, List.foldl_append]
              rfl)
            clear hvk
            have hi : (k : Int) < (n : Int) - 1 := by omega
            go_wp2_with fail
            go_round
            case rel => exact ⟨k + 1, by omega, by rw [hfd.out]; rfl, by go_num⟩
            case measure => simp [intOf]; omega

    · obtain ⟨_, _, he, hk255, _, hmore, _⟩ := hst.head
      injection he with he1 he2
      subst he1 he2
      obtain ⟨u, M, rfl⟩ := hmore (fun e => by rw [e] at hrk; revert hrk; decide)
      clear hmore
      obtain ⟨aa, hps⟩ := hst.cells
      have c7 := hps.c7
      have c2' := hps.c2
      have hri : (rkI t.kind == 1) = true := by
        rw [beq_iff_eq]
        exact (rkI_eq (r := 1) (by omega)).2 hrk
      have HRK := Lib.hid (fun W => HR.out t.kind W (by omega))
      have HSTEP := Lib.hid (step_st g l t u M d bad 0 wr hst)
      have HH := Lib.hid (And.intro hown (And.intro hvs (And.intro hch (And.intro hrun (And.intro hrk (And.intro hlen (And.intro hst hex)))))))
      clear hS hst hps hown hvs hch hrun hrk hlen hex
      generalize hrv : rkI t.kind = rv at *
      clear hrv
      go_wp2_with fail
      refine (HRK.out _).mono ?_
      rintro x w2 ⟨rfl, rfl⟩
      go_wp2_with fail
      refine HSTEP.out.mono ?_
      rintro x w2 ⟨rfl, h1, h2⟩
      obtain ⟨hown, hvs, hch, hrun, hrk, hlen, hst, hex⟩ := HH.out
      have hvpos := List.length_pos_iff.2 hvs
      have hown2 : OwnP w2 w.heap.size (.slice A n0 c0) vs := hown.chg h1 (fun k hk hm => by
        rw [List.mem_singleton] at hm
        subst hm
        have := hown.blk_ge _ hk
        omega)
      have hex2 := hex.st hst h1
      have HL := Lib.hid (HN.out (u :: M).length (by simp at hlen ⊢; omega) g l (u :: M) d bad w2 rfl (by simp at hlen ⊢; omega) h2)
      have HH2 := Lib.hid (And.intro hown2 (And.intro hex2 (And.intro h2 (hch.trans h1 (by simp)))))
      clear hown hvs hch hrun hrk hlen hst hex hown2 hex2 h1 h2 hvpos
      go_wp2_with fail
      refine HL.out.mono ?_
      rintro x w3 ⟨v3, rfl, h3, h4⟩
      obtain ⟨hown2, hex2, hst2, hch2⟩ := HH2.out
      have hown3 : OwnP w3 w.heap.size (.slice A n0 c0) vs := hown2.chg h3 (fun k hk hm => by
        rw [List.mem_singleton] at hm
        subst hm
        have := hown2.blk_ge _ hk
        omega)
      have hex3 := hex2.st hst2 h3
      have hch3 := hch2.trans h3 (by simp)
      have hvl : vs.length ≤ 5000 := by have := HH.out.2.2.2.2.2.1; simp at this; omega
      have HH3 := Lib.hid (And.intro hown3 (And.intro hex3 (And.intro h4 hch3)))
      have hsz3 := hch3.size
      clear hown2 hex2 hst2 hch2 hown3 hex3 h3 h4 hch3
      go_wp2_with (at_builtin; refine wp_app1 (f := ifV) Tryz.underlying111 hi hz0 hz1 hz2 rfl (by omega) w3 rfl _ _ rfl w.heap.size _ vs v3 1 rfl HH3.out.1 hsz3 (by omega) rfl rfl rfl ?_; intro v4 w4 hown4 hb4 hs4 hg4 hv4)
      obtain ⟨A4, n4, c4, hA4, _⟩ := hown4.form
      subst hA4
      obtain ⟨hown3, hex3, h4, hch3⟩ := HH3.out
      obtain ⟨hown, hvs, hch, hrun, hrk, hlen, hst, hex⟩ := HH.out
      have hown4' : OwnP w4 w.heap.size (.slice A4 n4 c4) (vs ++ [v3]) := hown4
      have hst4 : ∀ {L' d' p c}, St w3 g l L' d' p c → St w4 g l L' d' p c := fun hs => hs.grow HPV.out hb4 hg
      have hex4 : ∀ x v, ExAt w3 w3.heap.size x v → ExAt w4 w4.heap.size x v := ExAt.keep hg4.size (fun k hk ⟨cs, hcs⟩ => hg4.block k hk (fun e => OwnF.ne_blk hown3 hcs (by decide) (mem_blk.2 e.symm)))
      have hch4 : Chg [g] w w4 := ⟨hg4.os.trans hch3.os, hg4.tape.trans hch3.tape, hg4.output.trans hch3.output, Nat.le_trans hch3.size hg4.size, fun k hk hm => (hb4.block k hk).trans (hch3.block k hk hm)⟩
      obtain ⟨gk', hlt, hS⟩ : ∃ gk', gk' < (u :: M).length + 1 ∧ Sides 1 g l L d bad w gk' (.slice A4 n4 c4) w4 := by
        rcases h4 with ⟨c, p, d', L', k1, k2, k3, k4, k5⟩ | ⟨x, L', k1, k2, k3, k4⟩
        · exact ⟨0, by simp, _, _, _, _, rfl, hown4', by simp, hch4, .inl ⟨c, p, d', L', rfl, .partsE hrun hrk k1, k2, k3, by simp at k4 hlen ⊢; omega, hst4 k5⟩⟩
        · exact ⟨L'.length, by simp at k2 ⊢; omega, _, _, _, _, rfl, hown4', by simp, hch4, .inr ⟨xs ++ [x], L', rfl, .partsS hrun hrk k1, by simp at k2 hlen ⊢; omega, hst4 k3, ExsAt.snoc (hex4 _ _ k4) (ExsAt.keep hex4 hex3)⟩⟩
      have HS4 := Lib.hid hS
      have hgk2 : gk' ≤ L.length := by simp at hlen hlt; omega
      clear hown hvs hch hrun hrk hlen hst hex hown3 hex3 h4 hch3 hown4 hown4' hst4 hex4 hch4 hS hb4 hg4 hv4
      go_wp2_with fail
      go_roundg gk'
      case rel => exact ⟨hgk2, HS4.out⟩
      case measure => simp at hlt ⊢; omega

set_option maxRecDepth 100000 in
set_option maxHeartbeats 8000000 in
theorem levf_1 (hn : LevF 2) : LevF 1 := by
  intro g l L d bad e w h he
  have HN := Lib.hid (hn g l L d bad e w h he)
  have HST := Lib.hid h
  have HR := Lib.hid (fun W => rank_any 38 W (by omega))
  have hr : rkI 38 = 5 := rfl
  have hix : ((⟨#[32, 61, 62, 94, 124, 38]⟩ : ByteArray)[1]'(by decide)).toNat = 61 := rfl
  have he2 : (e == 0) = false := by simpa using he
  clear h hn
  go_enter Tryz.func22, Tryz.ntmps22
  go_wp2_with fail
  refine (HR.out _).mono ?_
  rintro x w1 ⟨rfl, rfl⟩
  go_wp2_with fail
  refine HN.out.mono ?_
  rintro x w1 ⟨v, rfl, hb⟩
  have hst := (HST.out.chg0 hb)
  obtain ⟨tt, M, hL, _⟩ := hst.head
  subst hL
  obtain ⟨aa, hps⟩ := hst.cells
  have c7 := hps.c7
  have hg := hps.lt
  have HB := Lib.hid hb
  clear hst hps hb
  go_wp2_with fail
  go_loopw [5] (fun s5 wr => s5 = .slice (some ⟨w1.heap.size, 0, none⟩) 1 1 ∧ wr = w1.alloc (.cells #[ifV v] 57)) (fun _ _ => 0)
  case atStart => exact ⟨rfl, rfl⟩
  case round =>
    obtain ⟨rfl, rfl⟩ := hrel
    go_wp2_with fail
    go_loop [9, 78] (fun x i => x = ifV v ∧ i = .int .i64 0) (fun x i => 0)
    case atStart => exact ⟨rfl, rfl⟩
    case round =>
      obtain ⟨rfl, rfl⟩ := hrel
      go_wp2_with fail
      exact bodyPost_ret (v := ifV v) (by simp [results, Tryz.results22, go_sem, *]) rfl ⟨⟨v.1, v.2, rfl⟩, HB.out.alloc HB.out.size _⟩

set_option maxRecDepth 100000 in
set_option maxHeartbeats 16000000 in
theorem lev_2 (n : Nat) (hn : ∀ m, m ≤ n → LevC 3 m) : LevC 2 n := by
  intro g l L d bad w hLn hd h
  have HN0 := Lib.hid (hn n (Nat.le_refl _) g l L d bad w hLn hd h)
  have HN := Lib.hid hn
  have HR := Lib.hid (fun k W hk => rank_any k W hk)
  obtain ⟨i0, hi, hz0, hz1, hz2⟩ := info_parts info_part
  have hg := h.lt
  have HPV := Lib.hid h.pv
  have hr : rkI 38 = 5 := rfl
  have hix : ((⟨#[32, 61, 62, 94, 124, 38]⟩ : ByteArray)[2]'(by decide)).toNat = 62 := rfl
  clear h hn
  go_enter Tryz.func22, Tryz.ntmps22
  go_wp2_with fail
  refine (HR.out 38 _ (by omega)).mono ?_
  rintro x w1 ⟨rfl, rfl⟩
  go_wp2_with fail
  refine HN0.out.mono ?_
  rintro x w1 ⟨v, rfl, h1, h2⟩
  have hS : ∃ gk, gk ≤ L.length ∧ Sides 2 g l L d bad w gk (.slice (some ⟨w1.heap.size, 0, none⟩) 1 1) (w1.alloc (.cells #[ifV v] 57)) := by
    rcases h2 with ⟨c, p, d', L', k1, k2, k3, k4, k5⟩ | ⟨x, L', k1, k2, k3, k4⟩
    · exact ⟨0, Nat.zero_le _, _, _, _, [v], rfl, (OwnP.lit v).mono h1.size, by simp, h1.alloc _, .inl ⟨c, p, d', L', rfl, .parts1 (by omega) k1, k2, k3, k4, k5.alloc _⟩⟩
    · exact ⟨L'.length, k2, _, _, _, [v], rfl, (OwnP.lit v).mono h1.size, by simp, h1.alloc _, .inr ⟨[x], L', rfl, .parts1 (by omega) k1, by simp; omega, k3.alloc _, ⟨ExAt.st k4 k3 ((Chg.refl _ _).alloc _), trivial⟩⟩⟩
  clear h1 h2
  obtain ⟨gk0, hgk0, hS⟩ := hS
  have HS := Lib.hid hS
  clear hS
  go_wp2_with fail
  go_loopg [5] gk0 (fun gk s5 wr => gk ≤ L.length ∧ Sides 2 g l L d bad w gk s5 wr)
  case atStart => exact ⟨hgk0, HS.out⟩
  case round =>
    obtain ⟨hgk, A, n0, c0, vs0, rfl, k1', k2', k3', k4'⟩ := hrel
    have hS : Sides 2 g l L d bad w gk (.slice A n0 c0) wr := ⟨A, n0, c0, vs0, rfl, k1', k2', k3', k4'⟩
    have key : (∃ (c p d' : Nat) (L' : List Tok), (c = 10 ∨ c = 12) ∧ St wr g l L' d' p c) ∨ (∃ t M, St wr g l (t :: M) d bad 0 ∧ rk t.kind ≠ 2) ∨
        (∃ vs xs t M, OwnP wr w.heap.size (.slice A n0 c0) vs ∧ vs ≠ [] ∧ Chg [g] w wr ∧ gk = M.length + 1 ∧ Run (.parts 2) d L (.ok xs (t :: M)) ∧ rk t.kind = 2 ∧ M.length + 1 + vs.length ≤ L.length + 1 ∧ St wr g l (t :: M) d bad 0 ∧ ExsAt wr wr.heap.size xs vs) := by
      clear hS
      rcases k4' with ⟨c, p, d', L', _, _, j2, _, _, j5⟩ | ⟨xs, L1, j1, j2, j3, j4, j5⟩
      · exact .inl ⟨c, p, d', L', j2, j5⟩
      · obtain ⟨t, M, rfl, _⟩ := j4.head
        by_cases hrk : rk t.kind = 2
        · exact .inr (.inr ⟨vs0, xs, t, M, k1', k2', k3', j1, j2, hrk, j3, j4, j5⟩)
        · exact .inr (.inl ⟨t, M, j4, hrk⟩)
    rcases key with ⟨c, p, d', L', hc, hst⟩ | ⟨t, M, hst, hrk⟩ | ⟨vs, xs, t, M, hown, hvs, hch, rfl, hrun, hrk, hlen, hst, hex⟩
    all_goals clear k1' k2' k3' k4' vs0

    · obtain ⟨A', n', c2', vs, e1, hown, hne, hvl, hnc, hout⟩ := sides_out (by omega) (by omega) hS (fun t M k => by
        obtain ⟨_, M2, hh, _⟩ := hst.head
        subst hh
        obtain ⟨_, q⟩ := hst.cells
        obtain ⟨_, q2⟩ := k.cells
        have e1 := q.c7
        rw [q2.c7] at e1
        injection e1 with e1
        injection e1 with _ e1
        omega)
      injection e1 with ea eb ec
      subst ea eb ec
      obtain ⟨gb, cap, hgb, hgb1, hgb2, hgb3⟩ := hown.head (List.length_pos_iff.2 hne)
      injection hgb with e1 e2 e3
      subst e1 e2 e3
      obtain ⟨tt, M2, rfl, _⟩ := hst.head
      obtain ⟨aa, hps⟩ := hst.cells
      have c7 := hps.c7
      have hc0 : ¬ (c : Int) = 0 := by omega
      have hc1 : ((c : Int) == 0) = false := by simp; omega
      have HO := Lib.hid hown
      have FIN := Lib.hid hout
      have hn0 : 0 < vs.length := List.length_pos_iff.2 hne
      have hnm := hown.len_le
      generalize hnn : vs.length = n at *
      clear hown hout hst hS hps hc hne
      obtain ⟨v0, hv0⟩ : ∃ v0, vs[n - 1]? = some v0 := ⟨_, List.getElem?_eq_getElem (by omega)⟩
      have q0 : wr.cell? ⟨gb, n - 1, none⟩ = some (ifV v0) := by have := (OwnF.at_ HO.out (n - 1) (by omega)).1; rw [hv0] at this; exact this
      have HV0 := Lib.hid hv0
      clear hv0
      go_wp2_with fail
      go_loop [7, 8] (fun x i => ∃ k : Nat, k + 1 ≤ n ∧ x = ifV (foldRV 62 (vs.drop k)) ∧ i = .int .i64 ((k : Int) - 1)) (fun x i => (intOf i + 1).toNat)
      case atStart =>
        refine ⟨n - 1, by omega, ?_, ?_⟩
        · have e1 : vs.drop (n - 1) = [v0] := by
            have h := HV0.out
            rw [List.getElem?_eq_getElem (by omega)] at h
            injection h with h
            rw [List.drop_eq_getElem_cons (by omega), h, List.drop_eq_nil_of_le (by omega)]
          rw [e1]
          rfl
        · go_num
      case round =>
        obtain ⟨k, hk, rfl, rfl⟩ := hrel
        by_cases hk0 : k = 0
        · subst hk0
          go_wp2_with fail
          refine bodyPost_ret (v := ifV (foldRV 62 vs)) (by simp [results, Tryz.results22, go_sem, *]) rfl ?_
          exact FIN.out
        · obtain ⟨k, rfl⟩ : ∃ k2, k = k2 + 1 := ⟨k - 1, by omega⟩
          obtain ⟨vk, hvk⟩ : ∃ v0, vs[k]? = some v0 := ⟨_, List.getElem?_eq_getElem (by omega)⟩
          have q0 : wr.cell? ⟨gb, k, none⟩ = some (ifV vk) := by have := (OwnF.at_ HO.out k (by omega)).1; rw [hvk] at this; exact this
          have hfd := Lib.hid (foldRV_drop (op := 62) hvk (by omega))
          clear hvk
          have hi : (0 : Int) ≤ ((k + 1 : Nat) : Int) - 1 := by omega
          go_wp2_with fail
          go_round
          case rel => exact ⟨k, by omega, by rw [hfd.out]; rfl, by go_num⟩
          case measure => simp [intOf] <;> omega

    · obtain ⟨A', n', c2', vs, e1, hown, hne, hvl, hnc, hout⟩ := sides_out (by omega) (by omega) hS (fun t2 M2 k => by
        obtain ⟨_, q⟩ := hst.cells
        obtain ⟨_, q2⟩ := k.cells
        have e1 := q.c2
        rw [q2.c2] at e1
        injection e1 with e1
        injection e1 with _ e1
        rw [show t2.kind = t.kind by omega]
        exact hrk)
      injection e1 with ea eb ec
      subst ea eb ec
      obtain ⟨gb, cap, hgb, hgb1, hgb2, hgb3⟩ := hown.head (List.length_pos_iff.2 hne)
      injection hgb with e1 e2 e3
      subst e1 e2 e3
      obtain ⟨_, _, he, hk255, _⟩ := hst.head
      injection he with he1 he2
      subst he1 he2
      obtain ⟨aa, hps⟩ := hst.cells
      have c7 := hps.c7
      have c2' := hps.c2
      have HRK := Lib.hid (fun W => HR.out t.kind W (by omega))
      have hri : (rkI t.kind == 2) = false := by
        rw [beq_eq_false_iff_ne]
        exact fun e => hrk ((rkI_eq (r := 2) (by omega)).1 e)
      have HO := Lib.hid hown
      have FIN := Lib.hid hout
      have hn0 : 0 < vs.length := List.length_pos_iff.2 hne
      have hnm := hown.len_le
      generalize hnn : vs.length = n at *
      generalize hrv : rkI t.kind = rv at *
      clear hown hout hst hS hps hne hrk hrv
      go_wp2_with fail
      refine (HRK.out _).mono ?_
      rintro x w2 ⟨rfl, rfl⟩
      obtain ⟨v0, hv0⟩ : ∃ v0, vs[n - 1]? = some v0 := ⟨_, List.getElem?_eq_getElem (by omega)⟩
      have q0 : wr.cell? ⟨gb, n - 1, none⟩ = some (ifV v0) := by have := (OwnF.at_ HO.out (n - 1) (by omega)).1; rw [hv0] at this; exact this
      have HV0 := Lib.hid hv0
      clear hv0
      go_wp2_with fail
      go_loop [7, 8] (fun x i => ∃ k : Nat, k + 1 ≤ n ∧ x = ifV (foldRV 62 (vs.drop k)) ∧ i = .int .i64 ((k : Int) - 1)) (fun x i => (intOf i + 1).toNat)
      case atStart =>
        refine ⟨n - 1, by omega, ?_, ?_⟩
        · have e1 : vs.drop (n - 1) = [v0] := by
            have h := HV0.out
            rw [List.getElem?_eq_getElem (by omega)] at h
            injection h with h
            rw [List.drop_eq_getElem_cons (by omega), h, List.drop_eq_nil_of_le (by omega)]
          rw [e1]
          rfl
        · go_num
      case round =>
        obtain ⟨k, hk, rfl, rfl⟩ := hrel
        by_cases hk0 : k = 0
        · subst hk0
          go_wp2_with fail
          refine bodyPost_ret (v := ifV (foldRV 62 vs)) (by simp [results, Tryz.results22, go_sem, *]) rfl ?_
          exact FIN.out
        · obtain ⟨k, rfl⟩ : ∃ k2, k = k2 + 1 := ⟨k - 1, by omega⟩
          obtain ⟨vk, hvk⟩ : ∃ v0, vs[k]? = some v0 := ⟨_, List.getElem?_eq_getElem (by omega)⟩
          have q0 : wr.cell? ⟨gb, k, none⟩ = some (ifV vk) := by have := (OwnF.at_ HO.out k (by omega)).1; rw [hvk] at this; exact this
          have hfd := Lib.hid (foldRV_drop (op := 62) hvk (by omega))
          clear hvk
          have hi : (0 : Int) ≤ ((k + 1 : Nat) : Int) - 1 := by omega
          go_wp2_with fail
          go_round
          case rel => exact ⟨k, by omega, by rw [hfd.out]; rfl, by go_num⟩
          case measure => simp [intOf] <;> omega

    · obtain ⟨_, _, he, hk255, _, hmore, _⟩ := hst.head
      injection he with he1 he2
      subst he1 he2
      obtain ⟨u, M, rfl⟩ := hmore (fun e => by rw [e] at hrk; revert hrk; decide)
      clear hmore
      obtain ⟨aa, hps⟩ := hst.cells
      have c7 := hps.c7
      have c2' := hps.c2
      have hri : (rkI t.kind == 2) = true := by
        rw [beq_iff_eq]
        exact (rkI_eq (r := 2) (by omega)).2 hrk
      have HRK := Lib.hid (fun W => HR.out t.kind W (by omega))
      have HSTEP := Lib.hid (step_st g l t u M d bad 0 wr hst)
      have HH := Lib.hid (And.intro hown (And.intro hvs (And.intro hch (And.intro hrun (And.intro hrk (And.intro hlen (And.intro hst hex)))))))
      clear hS hst hps hown hvs hch hrun hrk hlen hex
      generalize hrv : rkI t.kind = rv at *
      clear hrv
      go_wp2_with fail
      refine (HRK.out _).mono ?_
      rintro x w2 ⟨rfl, rfl⟩
      go_wp2_with fail
      refine HSTEP.out.mono ?_
      rintro x w2 ⟨rfl, h1, h2⟩
      obtain ⟨hown, hvs, hch, hrun, hrk, hlen, hst, hex⟩ := HH.out
      have hvpos := List.length_pos_iff.2 hvs
      have hown2 : OwnP w2 w.heap.size (.slice A n0 c0) vs := hown.chg h1 (fun k hk hm => by
        rw [List.mem_singleton] at hm
        subst hm
        have := hown.blk_ge _ hk
        omega)
      have hex2 := hex.st hst h1
      have HL := Lib.hid (HN.out (u :: M).length (by simp at hlen ⊢; omega) g l (u :: M) d bad w2 rfl (by simp at hlen ⊢; omega) h2)
      have HH2 := Lib.hid (And.intro hown2 (And.intro hex2 (And.intro h2 (hch.trans h1 (by simp)))))
      clear hown hvs hch hrun hrk hlen hst hex hown2 hex2 h1 h2 hvpos
      go_wp2_with fail
      refine HL.out.mono ?_
      rintro x w3 ⟨v3, rfl, h3, h4⟩
      obtain ⟨hown2, hex2, hst2, hch2⟩ := HH2.out
      have hown3 : OwnP w3 w.heap.size (.slice A n0 c0) vs := hown2.chg h3 (fun k hk hm => by
        rw [List.mem_singleton] at hm
        subst hm
        have := hown2.blk_ge _ hk
        omega)
      have hex3 := hex2.st hst2 h3
      have hch3 := hch2.trans h3 (by simp)
      have hvl : vs.length ≤ 5000 := by have := HH.out.2.2.2.2.2.1; simp at this; omega
      have HH3 := Lib.hid (And.intro hown3 (And.intro hex3 (And.intro h4 hch3)))
      have hsz3 := hch3.size
      clear hown2 hex2 hst2 hch2 hown3 hex3 h3 h4 hch3
      go_wp2_with (at_builtin; refine wp_app1 (f := ifV) Tryz.underlying111 hi hz0 hz1 hz2 rfl (by omega) w3 rfl _ _ rfl w.heap.size _ vs v3 1 rfl HH3.out.1 hsz3 (by omega) rfl rfl rfl ?_; intro v4 w4 hown4 hb4 hs4 hg4 hv4)
      obtain ⟨A4, n4, c4, hA4, _⟩ := hown4.form
      subst hA4
      obtain ⟨hown3, hex3, h4, hch3⟩ := HH3.out
      obtain ⟨hown, hvs, hch, hrun, hrk, hlen, hst, hex⟩ := HH.out
      have hown4' : OwnP w4 w.heap.size (.slice A4 n4 c4) (vs ++ [v3]) := hown4
      have hst4 : ∀ {L' d' p c}, St w3 g l L' d' p c → St w4 g l L' d' p c := fun hs => hs.grow HPV.out hb4 hg
      have hex4 : ∀ x v, ExAt w3 w3.heap.size x v → ExAt w4 w4.heap.size x v := ExAt.keep hg4.size (fun k hk ⟨cs, hcs⟩ => hg4.block k hk (fun e => OwnF.ne_blk hown3 hcs (by decide) (mem_blk.2 e.symm)))
      have hch4 : Chg [g] w w4 := ⟨hg4.os.trans hch3.os, hg4.tape.trans hch3.tape, hg4.output.trans hch3.output, Nat.le_trans hch3.size hg4.size, fun k hk hm => (hb4.block k hk).trans (hch3.block k hk hm)⟩
      obtain ⟨gk', hlt, hS⟩ : ∃ gk', gk' < (u :: M).length + 1 ∧ Sides 2 g l L d bad w gk' (.slice A4 n4 c4) w4 := by
        rcases h4 with ⟨c, p, d', L', k1, k2, k3, k4, k5⟩ | ⟨x, L', k1, k2, k3, k4⟩
        · exact ⟨0, by simp, _, _, _, _, rfl, hown4', by simp, hch4, .inl ⟨c, p, d', L', rfl, .partsE hrun hrk k1, k2, k3, by simp at k4 hlen ⊢; omega, hst4 k5⟩⟩
        · exact ⟨L'.length, by simp at k2 ⊢; omega, _, _, _, _, rfl, hown4', by simp, hch4, .inr ⟨xs ++ [x], L', rfl, .partsS hrun hrk k1, by simp at k2 hlen ⊢; omega, hst4 k3, ExsAt.snoc (hex4 _ _ k4) (ExsAt.keep hex4 hex3)⟩⟩
      have HS4 := Lib.hid hS
      have hgk2 : gk' ≤ L.length := by simp at hlen hlt; omega
      clear hown hvs hch hrun hrk hlen hst hex hown3 hex3 h4 hch3 hown4 hown4' hst4 hex4 hch4 hS hb4 hg4 hv4
      go_wp2_with fail
      go_roundg gk'
      case rel => exact ⟨hgk2, HS4.out⟩
      case measure => simp at hlt ⊢; omega

set_option maxRecDepth 100000 in
set_option maxHeartbeats 8000000 in
theorem levf_2 (hn : LevF 3) : LevF 2 := by
  intro g l L d bad e w h he
  have HN := Lib.hid (hn g l L d bad e w h he)
  have HST := Lib.hid h
  have HR := Lib.hid (fun W => rank_any 38 W (by omega))
  have hr : rkI 38 = 5 := rfl
  have hix : ((⟨#[32, 61, 62, 94, 124, 38]⟩ : ByteArray)[2]'(by decide)).toNat = 62 := rfl
  have he2 : (e == 0) = false := by simpa using he
  clear h hn
  go_enter Tryz.func22, Tryz.ntmps22
  go_wp2_with fail
  refine (HR.out _).mono ?_
  rintro x w1 ⟨rfl, rfl⟩
  go_wp2_with fail
  refine HN.out.mono ?_
  rintro x w1 ⟨v, rfl, hb⟩
  have hst := (HST.out.chg0 hb)
  obtain ⟨tt, M, hL, _⟩ := hst.head
  subst hL
  obtain ⟨aa, hps⟩ := hst.cells
  have c7 := hps.c7
  have hg := hps.lt
  have HB := Lib.hid hb
  clear hst hps hb
  go_wp2_with fail
  go_loopw [5] (fun s5 wr => s5 = .slice (some ⟨w1.heap.size, 0, none⟩) 1 1 ∧ wr = w1.alloc (.cells #[ifV v] 57)) (fun _ _ => 0)
  case atStart => exact ⟨rfl, rfl⟩
  case round =>
    obtain ⟨rfl, rfl⟩ := hrel
    go_wp2_with fail
    go_loop [7, 8] (fun x i => x = ifV v ∧ i = .int .i64 (-1)) (fun x i => 0)
    case atStart => exact ⟨rfl, rfl⟩
    case round =>
      obtain ⟨rfl, rfl⟩ := hrel
      go_wp2_with fail
      exact bodyPost_ret (v := ifV v) (by simp [results, Tryz.results22, go_sem, *]) rfl ⟨⟨v.1, v.2, rfl⟩, HB.out.alloc HB.out.size _⟩

set_option maxRecDepth 100000 in
set_option maxHeartbeats 16000000 in
theorem lev_3 (n : Nat) (hn : ∀ m, m ≤ n → LevC 4 m) : LevC 3 n := by
  intro g l L d bad w hLn hd h
  have HN0 := Lib.hid (hn n (Nat.le_refl _) g l L d bad w hLn hd h)
  have HN := Lib.hid hn
  have HR := Lib.hid (fun k W hk => rank_any k W hk)
  obtain ⟨i0, hi, hz0, hz1, hz2⟩ := info_parts info_part
  have hg := h.lt
  have HPV := Lib.hid h.pv
  have hr : rkI 38 = 5 := rfl
  have hix : ((⟨#[32, 61, 62, 94, 124, 38]⟩ : ByteArray)[3]'(by decide)).toNat = 94 := rfl
  clear h hn
  go_enter Tryz.func22, Tryz.ntmps22
  go_wp2_with fail
  refine (HR.out 38 _ (by omega)).mono ?_
  rintro x w1 ⟨rfl, rfl⟩
  go_wp2_with fail
  refine HN0.out.mono ?_
  rintro x w1 ⟨v, rfl, h1, h2⟩
  have hS : ∃ gk, gk ≤ L.length ∧ Sides 3 g l L d bad w gk (.slice (some ⟨w1.heap.size, 0, none⟩) 1 1) (w1.alloc (.cells #[ifV v] 57)) := by
    rcases h2 with ⟨c, p, d', L', k1, k2, k3, k4, k5⟩ | ⟨x, L', k1, k2, k3, k4⟩
    · exact ⟨0, Nat.zero_le _, _, _, _, [v], rfl, (OwnP.lit v).mono h1.size, by simp, h1.alloc _, .inl ⟨c, p, d', L', rfl, .parts1 (by omega) k1, k2, k3, k4, k5.alloc _⟩⟩
    · exact ⟨L'.length, k2, _, _, _, [v], rfl, (OwnP.lit v).mono h1.size, by simp, h1.alloc _, .inr ⟨[x], L', rfl, .parts1 (by omega) k1, by simp; omega, k3.alloc _, ⟨ExAt.st k4 k3 ((Chg.refl _ _).alloc _), trivial⟩⟩⟩
  clear h1 h2
  obtain ⟨gk0, hgk0, hS⟩ := hS
  have HS := Lib.hid hS
  clear hS
  go_wp2_with fail
  go_loopg [5] gk0 (fun gk s5 wr => gk ≤ L.length ∧ Sides 3 g l L d bad w gk s5 wr)
  case atStart => exact ⟨hgk0, HS.out⟩
  case round =>
    obtain ⟨hgk, A, n0, c0, vs0, rfl, k1', k2', k3', k4'⟩ := hrel
    have hS : Sides 3 g l L d bad w gk (.slice A n0 c0) wr := ⟨A, n0, c0, vs0, rfl, k1', k2', k3', k4'⟩
    have key : (∃ (c p d' : Nat) (L' : List Tok), (c = 10 ∨ c = 12) ∧ St wr g l L' d' p c) ∨ (∃ t M, St wr g l (t :: M) d bad 0 ∧ rk t.kind ≠ 3) ∨
        (∃ vs xs t M, OwnP wr w.heap.size (.slice A n0 c0) vs ∧ vs ≠ [] ∧ Chg [g] w wr ∧ gk = M.length + 1 ∧ Run (.parts 3) d L (.ok xs (t :: M)) ∧ rk t.kind = 3 ∧ M.length + 1 + vs.length ≤ L.length + 1 ∧ St wr g l (t :: M) d bad 0 ∧ ExsAt wr wr.heap.size xs vs) := by
      clear hS
      rcases k4' with ⟨c, p, d', L', _, _, j2, _, _, j5⟩ | ⟨xs, L1, j1, j2, j3, j4, j5⟩
      · exact .inl ⟨c, p, d', L', j2, j5⟩
      · obtain ⟨t, M, rfl, _⟩ := j4.head
        by_cases hrk : rk t.kind = 3
        · exact .inr (.inr ⟨vs0, xs, t, M, k1', k2', k3', j1, j2, hrk, j3, j4, j5⟩)
        · exact .inr (.inl ⟨t, M, j4, hrk⟩)
    rcases key with ⟨c, p, d', L', hc, hst⟩ | ⟨t, M, hst, hrk⟩ | ⟨vs, xs, t, M, hown, hvs, hch, rfl, hrun, hrk, hlen, hst, hex⟩
    all_goals clear k1' k2' k3' k4' vs0

    · obtain ⟨A', n', c2', vs, e1, hown, hne, hvl, hnc, hout⟩ := sides_out (by omega) (by omega) hS (fun t M k => by
        obtain ⟨_, M2, hh, _⟩ := hst.head
        subst hh
        obtain ⟨_, q⟩ := hst.cells
        obtain ⟨_, q2⟩ := k.cells
        have e1 := q.c7
        rw [q2.c7] at e1
        injection e1 with e1
        injection e1 with _ e1
        omega)
      injection e1 with ea eb ec
      subst ea eb ec
      obtain ⟨gb, cap, hgb, hgb1, hgb2, hgb3⟩ := hown.head (List.length_pos_iff.2 hne)
      injection hgb with e1 e2 e3
      subst e1 e2 e3
      obtain ⟨tt, M2, rfl, _⟩ := hst.head
      obtain ⟨aa, hps⟩ := hst.cells
      have c7 := hps.c7
      have hc0 : ¬ (c : Int) = 0 := by omega
      have hc1 : ((c : Int) == 0) = false := by simp; omega
      have HO := Lib.hid hown
      have FIN := Lib.hid hout
      have hn0 : 0 < vs.length := List.length_pos_iff.2 hne
      have hnm := hown.len_le
      generalize hnn : vs.length = n at *
      clear hown hout hst hS hps hc hne
      obtain ⟨v0, hv0⟩ : ∃ v0, vs[0]? = some v0 := ⟨_, List.getElem?_eq_getElem (by omega)⟩
      have q0 : wr.cell? ⟨gb, 0, none⟩ = some (ifV v0) := by have := (OwnF.at_ HO.out 0 (by omega)).1; rw [hv0] at this; exact this
      have hvs : vs = v0 :: vs.drop 1 := by
        have h := hv0
        rw [List.getElem?_eq_getElem (by omega)] at h
        injection h with h
        have := List.drop_eq_getElem_cons (l := vs) (i := 0) (by omega)
        rw [List.drop_zero, h] at this
        exact this
      obtain ⟨tl, htl⟩ : ∃ tl, tl = vs.drop 1 := ⟨_, rfl⟩
      rw [← htl] at hvs
      have HVS := Lib.hid hvs
      have HTL := Lib.hid htl
      clear hv0 hvs htl
      by_cases hcap : c0 = 1
      · subst hcap
        go_wp2_with fail
        go_loop [9, 78] (fun x i => ∃ k : Nat, k + 1 ≤ n ∧ x = ifV ((tl.take k).foldl (pairV 94) v0) ∧ i = .int .i64 (k : Int)) (fun x i => n - (intOf i).toNat)
        case atStart => exact ⟨0, by omega, rfl, rfl⟩
        case round =>
          obtain ⟨k, hk, rfl, rfl⟩ := hrel
          have hk0 : k + 1 = n := by omega
          have hk1 : (k : Int) + 1 = n := by omega
          go_wp2_with fail
          refine bodyPost_ret (v := ifV ((tl.take k).foldl (pairV 94) v0)) (by simp [results, Tryz.results22, go_sem, *]) rfl ?_
          have e1 : (tl.take k).foldl (pairV 94) v0 = foldXV 3 vs := by
            rw [List.take_of_length_le (by rw [HTL.out]; simp; omega)]
            conv => rhs; rw [HVS.out]
            rfl
          rw [e1]
          exact FIN.out
      · have hcap2 : (c0 : Int) ≠ 1 := by omega
        go_wp2_with fail
        go_loop [9, 78] (fun x i => ∃ k : Nat, k + 1 ≤ n ∧ x = ifV ((tl.take k).foldl (pairV 94) v0) ∧ i = .int .i64 (k : Int)) (fun x i => n - (intOf i).toNat)
        case atStart => exact ⟨0, by omega, rfl, rfl⟩
        case round =>
          obtain ⟨k, hk, rfl, rfl⟩ := hrel
          by_cases hk0 : k + 1 = n
          · have hk1 : (k : Int) + 1 = n := by omega
            go_wp2_with fail
            refine bodyPost_ret (v := ifV ((tl.take k).foldl (pairV 94) v0)) (by simp [results, Tryz.results22, go_sem, *]) rfl ?_
            have e1 : (tl.take k).foldl (pairV 94) v0 = foldXV 3 vs := by
              rw [List.take_of_length_le (by rw [HTL.out]; simp; omega)]
              conv => rhs; rw [HVS.out]
              rfl
            rw [e1]
            exact FIN.out
          · obtain ⟨vk, hvk⟩ : ∃ v0, vs[k + 1]? = some v0 := ⟨_, List.getElem?_eq_getElem (by omega)⟩
            have q1 : wr.cell? ⟨gb, 1 + k, none⟩ = some (ifV vk) := by have := (OwnF.at_ HO.out (k + 1) (by omega)).1; rw [hvk] at this; rw [show 1 + k = k + 1 by omega]; exact this
            have hfd : Hid ((tl.take (k + 1)).foldl (pairV 94) v0 = pairV 94 ((tl.take k).foldl (pairV 94) v0) vk) := Lib.hid (by
              rw [List.take_add_one, HTL.out, List.getElem?_drop, show 1 + k = k + 1 by omega, hvk, List.foldl_append]
              rfl)
            clear hvk
            have hi : (k : Int) < (n : Int) - 1 := by omega
            go_wp2_with fail
            go_round
            case rel => exact ⟨k + 1, by omega, by rw [hfd.out]; rfl, by go_num⟩
            case measure => simp [intOf]; omega

    · obtain ⟨A', n', c2', vs, e1, hown, hne, hvl, hnc, hout⟩ := sides_out (by omega) (by omega) hS (fun t2 M2 k => by
        obtain ⟨_, q⟩ := hst.cells
        obtain ⟨_, q2⟩ := k.cells
        have e1 := q.c2
        rw [q2.c2] at e1
        injection e1 with e1
        injection e1 with _ e1
        rw [show t2.kind = t.kind by omega]
        exact hrk)
      injection e1 with ea eb ec
      subst ea eb ec
      obtain ⟨gb, cap, hgb, hgb1, hgb2, hgb3⟩ := hown.head (List.length_pos_iff.2 hne)
      injection hgb with e1 e2 e3
      subst e1 e2 e3
      obtain ⟨_, _, he, hk255, _⟩ := hst.head
      injection he with he1 he2
      subst he1 he2
      obtain ⟨aa, hps⟩ := hst.cells
      have c7 := hps.c7
      have c2' := hps.c2
      have HRK := Lib.hid (fun W => HR.out t.kind W (by omega))
      have hri : (rkI t.kind == 3) = false := by
        rw [beq_eq_false_iff_ne]
        exact fun e => hrk ((rkI_eq (r := 3) (by omega)).1 e)
      have HO := Lib.hid hown
      have FIN := Lib.hid hout
      have hn0 : 0 < vs.length := List.length_pos_iff.2 hne
      have hnm := hown.len_le
      generalize hnn : vs.length = n at *
      generalize hrv : rkI t.kind = rv at *
      clear hown hout hst hS hps hne hrk hrv
      go_wp2_with fail
      refine (HRK.out _).mono ?_
      rintro x w2 ⟨rfl, rfl⟩
      obtain ⟨v0, hv0⟩ : ∃ v0, vs[0]? = some v0 := ⟨_, List.getElem?_eq_getElem (by omega)⟩
      have q0 : wr.cell? ⟨gb, 0, none⟩ = some (ifV v0) := by have := (OwnF.at_ HO.out 0 (by omega)).1; rw [hv0] at this; exact this
      have hvs : vs = v0 :: vs.drop 1 := by
        have h := hv0
        rw [List.getElem?_eq_getElem (by omega)] at h
        injection h with h
        have := List.drop_eq_getElem_cons (l := vs) (i := 0) (by omega)
        rw [List.drop_zero, h] at this
        exact this
      obtain ⟨tl, htl⟩ : ∃ tl, tl = vs.drop 1 := ⟨_, rfl⟩
      rw [← htl] at hvs
      have HVS := Lib.hid hvs
      have HTL := Lib.hid htl
      clear hv0 hvs htl
      by_cases hcap : c0 = 1
      · subst hcap
        go_wp2_with fail
        go_loop [9, 78] (fun x i => ∃ k : Nat, k + 1 ≤ n ∧ x = ifV ((tl.take k).foldl (pairV 94) v0) ∧ i = .int .i64 (k : Int)) (fun x i => n - (intOf i).toNat)
        case atStart => exact ⟨0, by omega, rfl, rfl⟩
        case round =>
          obtain ⟨k, hk, rfl, rfl⟩ := hrel
          have hk0 : k + 1 = n := by omega
          have hk1 : (k : Int) + 1 = n := by omega
          go_wp2_with fail
          refine bodyPost_ret (v := ifV ((tl.take k).foldl (pairV 94) v0)) (by simp [results, Tryz.results22, go_sem, *]) rfl ?_
          have e1 : (tl.take k).foldl (pairV 94) v0 = foldXV 3 vs := by
            rw [List.take_of_length_le (by rw [HTL.out]; simp; omega)]
            conv => rhs; rw [HVS.out]
            rfl
          rw [e1]
          exact FIN.out
      · have hcap2 : (c0 : Int) ≠ 1 := by omega
        go_wp2_with fail
        go_loop [9, 78] (fun x i => ∃ k : Nat, k + 1 ≤ n ∧ x = ifV ((tl.take k).foldl (pairV 94) v0) ∧ i = .int .i64 (k : Int)) (fun x i => n - (intOf i).toNat)
        case atStart => exact ⟨0, by omega, rfl, rfl⟩
        case round =>
          obtain ⟨k, hk, rfl, rfl⟩ := hrel
          by_cases hk0 : k + 1 = n
          · have hk1 : (k : Int) + 1 = n := by omega
            go_wp2_with fail
            refine bodyPost_ret (v := ifV ((tl.take k).foldl (pairV 94) v0)) (by simp [results, Tryz.results22, go_sem, *]) rfl ?_
            have e1 : (tl.take k).foldl (pairV 94) v0 = foldXV 3 vs := by
              rw [List.take_of_length_le (by rw [HTL.out]; simp; omega)]
              conv => rhs; rw [HVS.out]
              rfl
            rw [e1]
            exact FIN.out
          · obtain ⟨vk, hvk⟩ : ∃ v0, vs[k + 1]? = some v0 := ⟨_, List.getElem?_eq_getElem (by omega)⟩
            have q1 : wr.cell? ⟨gb, 1 + k, none⟩ = some (ifV vk) := by have := (OwnF.at_ HO.out (k + 1) (by omega)).1; rw [hvk] at this; rw [show 1 + k = k + 1 by omega]; exact this
            have hfd : Hid ((tl.take (k + 1)).foldl (pairV 94) v0 = pairV 94 ((tl.take k).foldl (pairV 94) v0) vk) := Lib.hid (by
              rw [List.take_add_one, HTL.out, List.getElem?_drop, show 1 + k = k + 1 by omega, hvk, List.foldl_append]
              rfl)
            clear hvk
            have hi : (k : Int) < (n : Int) - 1 := by omega
            go_wp2_with fail
            go_round
            case rel => exact ⟨k + 1, by omega, by rw [hfd.out]; rfl, by go_num⟩
            case measure => simp [intOf]; omega

    · obtain ⟨_, _, he, hk255, _, hmore, _⟩ := hst.head
      injection he with he1 he2
      subst he1 he2
      obtain ⟨u, M, rfl⟩ := hmore (fun e => by rw [e] at hrk; revert hrk; decide)
      clear hmore
      obtain ⟨aa, hps⟩ := hst.cells
      have c7 := hps.c7
      have c2' := hps.c2
      have hri : (rkI t.kind == 3) = true := by
        rw [beq_iff_eq]
        exact (rkI_eq (r := 3) (by omega)).2 hrk
      have HRK := Lib.hid (fun W => HR.out t.kind W (by omega))
      have HSTEP := Lib.hid (step_st g l t u M d bad 0 wr hst)
      have HH := Lib.hid (And.intro hown (And.intro hvs (And.intro hch (And.intro hrun (And.intro hrk (And.intro hlen (And.intro hst hex)))))))
      clear hS hst hps hown hvs hch hrun hrk hlen hex
      generalize hrv : rkI t.kind = rv at *
      clear hrv
      go_wp2_with fail
      refine (HRK.out _).mono ?_
      rintro x w2 ⟨rfl, rfl⟩
      go_wp2_with fail
      refine HSTEP.out.mono ?_
      rintro x w2 ⟨rfl, h1, h2⟩
      obtain ⟨hown, hvs, hch, hrun, hrk, hlen, hst, hex⟩ := HH.out
      have hvpos := List.length_pos_iff.2 hvs
      have hown2 : OwnP w2 w.heap.size (.slice A n0 c0) vs := hown.chg h1 (fun k hk hm => by
        rw [List.mem_singleton] at hm
        subst hm
        have := hown.blk_ge _ hk
        omega)
      have hex2 := hex.st hst h1
      have HL := Lib.hid (HN.out (u :: M).length (by simp at hlen ⊢; omega) g l (u :: M) d bad w2 rfl (by simp at hlen ⊢; omega) h2)
      have HH2 := Lib.hid (And.intro hown2 (And.intro hex2 (And.intro h2 (hch.trans h1 (by simp)))))
      clear hown hvs hch hrun hrk hlen hst hex hown2 hex2 h1 h2 hvpos
      go_wp2_with fail
      refine HL.out.mono ?_
      rintro x w3 ⟨v3, rfl, h3, h4⟩
      obtain ⟨hown2, hex2, hst2, hch2⟩ := HH2.out
      have hown3 : OwnP w3 w.heap.size (.slice A n0 c0) vs := hown2.chg h3 (fun k hk hm => by
        rw [List.mem_singleton] at hm
        subst hm
        have := hown2.blk_ge _ hk
        omega)
      have hex3 := hex2.st hst2 h3
      have hch3 := hch2.trans h3 (by simp)
      have hvl : vs.length ≤ 5000 := by have := HH.out.2.2.2.2.2.1; simp at this; omega
      have HH3 := Lib.hid (And.intro hown3 (And.intro hex3 (And.intro h4 hch3)))
      have hsz3 := hch3.size
      clear hown2 hex2 hst2 hch2 hown3 hex3 h3 h4 hch3
      go_wp2_with (at_builtin; refine wp_app1 (f := ifV) Tryz.underlying111 hi hz0 hz1 hz2 rfl (by omega) w3 rfl _ _ rfl w.heap.size _ vs v3 1 rfl HH3.out.1 hsz3 (by omega) rfl rfl rfl ?_; intro v4 w4 hown4 hb4 hs4 hg4 hv4)
      obtain ⟨A4, n4, c4, hA4, _⟩ := hown4.form
      subst hA4
      obtain ⟨hown3, hex3, h4, hch3⟩ := HH3.out
      obtain ⟨hown, hvs, hch, hrun, hrk, hlen, hst, hex⟩ := HH.out
      have hown4' : OwnP w4 w.heap.size (.slice A4 n4 c4) (vs ++ [v3]) := hown4
      have hst4 : ∀ {L' d' p c}, St w3 g l L' d' p c → St w4 g l L' d' p c := fun hs => hs.grow HPV.out hb4 hg
      have hex4 : ∀ x v, ExAt w3 w3.heap.size x v → ExAt w4 w4.heap.size x v := ExAt.keep hg4.size (fun k hk ⟨cs, hcs⟩ => hg4.block k hk (fun e => OwnF.ne_blk hown3 hcs (by decide) (mem_blk.2 e.symm)))
      have hch4 : Chg [g] w w4 := ⟨hg4.os.trans hch3.os, hg4.tape.trans hch3.tape, hg4.output.trans hch3.output, Nat.le_trans hch3.size hg4.size, fun k hk hm => (hb4.block k hk).trans (hch3.block k hk hm)⟩
      obtain ⟨gk', hlt, hS⟩ : ∃ gk', gk' < (u :: M).length + 1 ∧ Sides 3 g l L d bad w gk' (.slice A4 n4 c4) w4 := by
        rcases h4 with ⟨c, p, d', L', k1, k2, k3, k4, k5⟩ | ⟨x, L', k1, k2, k3, k4⟩
        · exact ⟨0, by simp, _, _, _, _, rfl, hown4', by simp, hch4, .inl ⟨c, p, d', L', rfl, .partsE hrun hrk k1, k2, k3, by simp at k4 hlen ⊢; omega, hst4 k5⟩⟩
        · exact ⟨L'.length, by simp at k2 ⊢; omega, _, _, _, _, rfl, hown4', by simp, hch4, .inr ⟨xs ++ [x], L', rfl, .partsS hrun hrk k1, by simp at k2 hlen ⊢; omega, hst4 k3, ExsAt.snoc (hex4 _ _ k4) (ExsAt.keep hex4 hex3)⟩⟩
      have HS4 := Lib.hid hS
      have hgk2 : gk' ≤ L.length := by simp at hlen hlt; omega
      clear hown hvs hch hrun hrk hlen hst hex hown3 hex3 h4 hch3 hown4 hown4' hst4 hex4 hch4 hS hb4 hg4 hv4
      go_wp2_with fail
      go_roundg gk'
      case rel => exact ⟨hgk2, HS4.out⟩
      case measure => simp at hlt ⊢; omega

set_option maxRecDepth 100000 in
set_option maxHeartbeats 8000000 in
theorem levf_3 (hn : LevF 4) : LevF 3 := by
  intro g l L d bad e w h he
  have HN := Lib.hid (hn g l L d bad e w h he)
  have HST := Lib.hid h
  have HR := Lib.hid (fun W => rank_any 38 W (by omega))
  have hr : rkI 38 = 5 := rfl
  have hix : ((⟨#[32, 61, 62, 94, 124, 38]⟩ : ByteArray)[3]'(by decide)).toNat = 94 := rfl
  have he2 : (e == 0) = false := by simpa using he
  clear h hn
  go_enter Tryz.func22, Tryz.ntmps22
  go_wp2_with fail
  refine (HR.out _).mono ?_
  rintro x w1 ⟨rfl, rfl⟩
  go_wp2_with fail
  refine HN.out.mono ?_
  rintro x w1 ⟨v, rfl, hb⟩
  have hst := (HST.out.chg0 hb)
  obtain ⟨tt, M, hL, _⟩ := hst.head
  subst hL
  obtain ⟨aa, hps⟩ := hst.cells
  have c7 := hps.c7
  have hg := hps.lt
  have HB := Lib.hid hb
  clear hst hps hb
  go_wp2_with fail
  go_loopw [5] (fun s5 wr => s5 = .slice (some ⟨w1.heap.size, 0, none⟩) 1 1 ∧ wr = w1.alloc (.cells #[ifV v] 57)) (fun _ _ => 0)
  case atStart => exact ⟨rfl, rfl⟩
  case round =>
    obtain ⟨rfl, rfl⟩ := hrel
    go_wp2_with fail
    go_loop [9, 78] (fun x i => x = ifV v ∧ i = .int .i64 0) (fun x i => 0)
    case atStart => exact ⟨rfl, rfl⟩
    case round =>
      obtain ⟨rfl, rfl⟩ := hrel
      go_wp2_with fail
      exact bodyPost_ret (v := ifV v) (by simp [results, Tryz.results22, go_sem, *]) rfl ⟨⟨v.1, v.2, rfl⟩, HB.out.alloc HB.out.size _⟩

set_option maxRecDepth 100000 in
set_option maxHeartbeats 16000000 in
theorem lev_4 (n : Nat) (hn : ∀ m, m ≤ n → LevC 5 m) : LevC 4 n := by
  intro g l L d bad w hLn hd h
  have HN0 := Lib.hid (hn n (Nat.le_refl _) g l L d bad w hLn hd h)
  have HN := Lib.hid hn
  have HR := Lib.hid (fun k W hk => rank_any k W hk)
  obtain ⟨i0, hi, hz0, hz1, hz2⟩ := info_parts info_part
  have hg := h.lt
  have HPV := Lib.hid h.pv
  have hr : rkI 38 = 5 := rfl
  have hix : ((⟨#[32, 61, 62, 94, 124, 38]⟩ : ByteArray)[4]'(by decide)).toNat = 124 := rfl
  clear h hn
  go_enter Tryz.func22, Tryz.ntmps22
  go_wp2_with fail
  refine (HR.out 38 _ (by omega)).mono ?_
  rintro x w1 ⟨rfl, rfl⟩
  go_wp2_with fail
  refine HN0.out.mono ?_
  rintro x w1 ⟨v, rfl, h1, h2⟩
  have hS : ∃ gk, gk ≤ L.length ∧ Sides 4 g l L d bad w gk (.slice (some ⟨w1.heap.size, 0, none⟩) 1 1) (w1.alloc (.cells #[ifV v] 57)) := by
    rcases h2 with ⟨c, p, d', L', k1, k2, k3, k4, k5⟩ | ⟨x, L', k1, k2, k3, k4⟩
    · exact ⟨0, Nat.zero_le _, _, _, _, [v], rfl, (OwnP.lit v).mono h1.size, by simp, h1.alloc _, .inl ⟨c, p, d', L', rfl, .parts1 (by omega) k1, k2, k3, k4, k5.alloc _⟩⟩
    · exact ⟨L'.length, k2, _, _, _, [v], rfl, (OwnP.lit v).mono h1.size, by simp, h1.alloc _, .inr ⟨[x], L', rfl, .parts1 (by omega) k1, by simp; omega, k3.alloc _, ⟨ExAt.st k4 k3 ((Chg.refl _ _).alloc _), trivial⟩⟩⟩
  clear h1 h2
  obtain ⟨gk0, hgk0, hS⟩ := hS
  have HS := Lib.hid hS
  clear hS
  go_wp2_with fail
  go_loopg [5] gk0 (fun gk s5 wr => gk ≤ L.length ∧ Sides 4 g l L d bad w gk s5 wr)
  case atStart => exact ⟨hgk0, HS.out⟩
  case round =>
    obtain ⟨hgk, A, n0, c0, vs0, rfl, k1', k2', k3', k4'⟩ := hrel
    have hS : Sides 4 g l L d bad w gk (.slice A n0 c0) wr := ⟨A, n0, c0, vs0, rfl, k1', k2', k3', k4'⟩
    have key : (∃ (c p d' : Nat) (L' : List Tok), (c = 10 ∨ c = 12) ∧ St wr g l L' d' p c) ∨ (∃ t M, St wr g l (t :: M) d bad 0 ∧ rk t.kind ≠ 4) ∨
        (∃ vs xs t M, OwnP wr w.heap.size (.slice A n0 c0) vs ∧ vs ≠ [] ∧ Chg [g] w wr ∧ gk = M.length + 1 ∧ Run (.parts 4) d L (.ok xs (t :: M)) ∧ rk t.kind = 4 ∧ M.length + 1 + vs.length ≤ L.length + 1 ∧ St wr g l (t :: M) d bad 0 ∧ ExsAt wr wr.heap.size xs vs) := by
      clear hS
      rcases k4' with ⟨c, p, d', L', _, _, j2, _, _, j5⟩ | ⟨xs, L1, j1, j2, j3, j4, j5⟩
      · exact .inl ⟨c, p, d', L', j2, j5⟩
      · obtain ⟨t, M, rfl, _⟩ := j4.head
        by_cases hrk : rk t.kind = 4
        · exact .inr (.inr ⟨vs0, xs, t, M, k1', k2', k3', j1, j2, hrk, j3, j4, j5⟩)
        · exact .inr (.inl ⟨t, M, j4, hrk⟩)
    rcases key with ⟨c, p, d', L', hc, hst⟩ | ⟨t, M, hst, hrk⟩ | ⟨vs, xs, t, M, hown, hvs, hch, rfl, hrun, hrk, hlen, hst, hex⟩
    all_goals clear k1' k2' k3' k4' vs0

    · obtain ⟨A', n', c2', vs, e1, hown, hne, hvl, hnc, hout⟩ := sides_out (by omega) (by omega) hS (fun t M k => by
        obtain ⟨_, M2, hh, _⟩ := hst.head
        subst hh
        obtain ⟨_, q⟩ := hst.cells
        obtain ⟨_, q2⟩ := k.cells
        have e1 := q.c7
        rw [q2.c7] at e1
        injection e1 with e1
        injection e1 with _ e1
        omega)
      injection e1 with ea eb ec
      subst ea eb ec
      obtain ⟨gb, cap, hgb, hgb1, hgb2, hgb3⟩ := hown.head (List.length_pos_iff.2 hne)
      injection hgb with e1 e2 e3
      subst e1 e2 e3
      obtain ⟨tt, M2, rfl, _⟩ := hst.head
      obtain ⟨aa, hps⟩ := hst.cells
      have c7 := hps.c7
      have hc0 : ¬ (c : Int) = 0 := by omega
      have hc1 : ((c : Int) == 0) = false := by simp; omega
      have HO := Lib.hid hown
      have FIN := Lib.hid hout
      have hn0 : 0 < vs.length := List.length_pos_iff.2 hne
      have hnm := hown.len_le
      generalize hnn : vs.length = n at *
      clear hown hout hst hS hps hc hne
      obtain ⟨v0, hv0⟩ : ∃ v0, vs[0]? = some v0 := ⟨_, List.getElem?_eq_getElem (by omega)⟩
      have q0 : wr.cell? ⟨gb, 0, none⟩ = some (ifV v0) := by have := (OwnF.at_ HO.out 0 (by omega)).1; rw [hv0] at this; exact this
      have hvs : vs = v0 :: vs.drop 1 := by
        have h := hv0
        rw [List.getElem?_eq_getElem (by omega)] at h
        injection h with h
        have := List.drop_eq_getElem_cons (l := vs) (i := 0) (by omega)
        rw [List.drop_zero, h] at this
        exact this
      obtain ⟨tl, htl⟩ : ∃ tl, tl = vs.drop 1 := ⟨_, rfl⟩
      rw [← htl] at hvs
      have HVS := Lib.hid hvs
      have HTL := Lib.hid htl
      clear hv0 hvs htl
      by_cases hcap : c0 = 1
      · subst hcap
        go_wp2_with fail
        go_loop [9, 78] (fun x i => ∃ k : Nat, k + 1 ≤ n ∧ x = ifV ((tl.take k).foldl (pairV 124) v0) ∧ i = .int .i64 (k : Int)) (fun x i => n - (intOf i).toNat)
        case atStart => exact ⟨0, by omega, rfl, rfl⟩
        case round =>
          obtain ⟨k, hk, rfl, rfl⟩ := hrel
          have hk0 : k + 1 = n := by omega
          have hk1 : (k : Int) + 1 = n := by omega
          go_wp2_with fail
          refine bodyPost_ret (v := ifV ((tl.take k).foldl (pairV 124) v0)) (by simp [results, Tryz.results22, go_sem, *]) rfl ?_
          have e1 : (tl.take k).foldl (pairV 124) v0 = foldXV 4 vs := by
            rw [List.take_of_length_le (by rw [HTL.out]; simp; omega)]
            conv => rhs; rw [HVS.out]
            rfl
          rw [e1]
          exact FIN.out
      · have hcap2 : (c0 : Int) ≠ 1 := by omega
        go_wp2_with fail
        go_loop [9, 78] (fun x i => ∃ k : Nat, k + 1 ≤ n ∧ x = ifV ((tl.take k).foldl (pairV 124) v0) ∧ i = .int .i64 (k : Int)) (fun x i => n - (intOf i).toNat)
        case atStart => exact ⟨0, by omega, rfl, rfl⟩
        case round =>
          obtain ⟨k, hk, rfl, rfl⟩ := hrel
          by_cases hk0 : k + 1 = n
          · have hk1 : (k : Int) + 1 = n := by omega
            go_wp2_with fail
            refine bodyPost_ret (v := ifV ((tl.take k).foldl (pairV 124) v0)) (by simp [results, Tryz.results22, go_sem, *]) rfl ?_
            have e1 : (tl.take k).foldl (pairV 124) v0 = foldXV 4 vs := by
              rw [List.take_of_length_le (by rw [HTL.out]; simp; omega)]
              conv => rhs; rw [HVS.out]
              rfl
            rw [e1]
            exact FIN.out
          · obtain ⟨vk, hvk⟩ : ∃ v0, vs[k + 1]? = some v0 := ⟨_, List.getElem?_eq_getElem (by omega)⟩
            have q1 : wr.cell? ⟨gb, 1 + k, none⟩ = some (ifV vk) := by have := (OwnF.at_ HO.out (k + 1) (by omega)).1; rw [hvk] at this; rw [show 1 + k = k + 1 by omega]; exact this
            have hfd : Hid ((tl.take (k + 1)).foldl (pairV 124) v0 = pairV 124 ((tl.take k).foldl (pairV 124) v0) vk) := Lib.hid (by
              rw [List.take_add_one, HTL.out, List.getElem?_drop, show 1 + k = k + 1 by omega, hvk, List.foldl_append]
              rfl)
            clear hvk
            have hi : (k : Int) < (n : Int) - 1 := by omega
            go_wp2_with fail
            go_round
            case rel => exact ⟨k + 1, by omega, by rw [hfd.out]; rfl, by go_num⟩
            case measure => simp [intOf]; omega

    · obtain ⟨A', n', c2', vs, e1, hown, hne, hvl, hnc, hout⟩ := sides_out (by omega) (by omega) hS (fun t2 M2 k => by
        obtain ⟨_, q⟩ := hst.cells
        obtain ⟨_, q2⟩ := k.cells
        have e1 := q.c2
        rw [q2.c2] at e1
        injection e1 with e1
        injection e1 with _ e1
        rw [show t2.kind = t.kind by omega]
        exact hrk)
      injection e1 with ea eb ec
      subst ea eb ec
      obtain ⟨gb, cap, hgb, hgb1, hgb2, hgb3⟩ := hown.head (List.length_pos_iff.2 hne)
      injection hgb with e1 e2 e3
      subst e1 e2 e3
      obtain ⟨_, _, he, hk255, _⟩ := hst.head
      injection he with he1 he2
      subst he1 he2
      obtain ⟨aa, hps⟩ := hst.cells
      have c7 := hps.c7
      have c2' := hps.c2
      have HRK := Lib.hid (fun W => HR.out t.kind W (by omega))
      have hri : (rkI t.kind == 4) = false := by
        rw [beq_eq_false_iff_ne]
        exact fun e => hrk ((rkI_eq (r := 4) (by omega)).1 e)
      have HO := Lib.hid hown
      have FIN := Lib.hid hout
      have hn0 : 0 < vs.length := List.length_pos_iff.2 hne
      have hnm := hown.len_le
      generalize hnn : vs.length = n at *
      generalize hrv : rkI t.kind = rv at *
      clear hown hout hst hS hps hne hrk hrv
      go_wp2_with fail
      refine (HRK.out _).mono ?_
      rintro x w2 ⟨rfl, rfl⟩
      obtain ⟨v0, hv0⟩ : ∃ v0, vs[0]? = some v0 := ⟨_, List.getElem?_eq_getElem (by omega)⟩
      have q0 : wr.cell? ⟨gb, 0, none⟩ = some (ifV v0) := by have := (OwnF.at_ HO.out 0 (by omega)).1; rw [hv0] at this; exact this
      have hvs : vs = v0 :: vs.drop 1 := by
        have h := hv0
        rw [List.getElem?_eq_getElem (by omega)] at h
        injection h with h
        have := List.drop_eq_getElem_cons (l := vs) (i := 0) (by omega)
        rw [List.drop_zero, h] at this
        exact this
      obtain ⟨tl, htl⟩ : ∃ tl, tl = vs.drop 1 := ⟨_, rfl⟩
      rw [← htl] at hvs
      have HVS := Lib.hid hvs
      have HTL := Lib.hid htl
      clear hv0 hvs htl
      by_cases hcap : c0 = 1
      · subst hcap
        go_wp2_with fail
        go_loop [9, 78] (fun x i => ∃ k : Nat, k + 1 ≤ n ∧ x = ifV ((tl.take k).foldl (pairV 124) v0) ∧ i = .int .i64 (k : Int)) (fun x i => n - (intOf i).toNat)
        case atStart => exact ⟨0, by omega, rfl, rfl⟩
        case round =>
          obtain ⟨k, hk, rfl, rfl⟩ := hrel
          have hk0 : k + 1 = n := by omega
          have hk1 : (k : Int) + 1 = n := by omega
          go_wp2_with fail
          refine bodyPost_ret (v := ifV ((tl.take k).foldl (pairV 124) v0)) (by simp [results, Tryz.results22, go_sem, *]) rfl ?_
          have e1 : (tl.take k).foldl (pairV 124) v0 = foldXV 4 vs := by
            rw [List.take_of_length_le (by rw [HTL.out]; simp; omega)]
            conv => rhs; rw [HVS.out]
            rfl
          rw [e1]
          exact FIN.out
      · have hcap2 : (c0 : Int) ≠ 1 := by omega
        go_wp2_with fail
        go_loop [9, 78] (fun x i => ∃ k : Nat, k + 1 ≤ n ∧ x = ifV ((tl.take k).foldl (pairV 124) v0) ∧ i = .int .i64 (k : Int)) (fun x i => n - (intOf i).toNat)
        case atStart => exact ⟨0, by omega, rfl, rfl⟩
        case round =>
          obtain ⟨k, hk, rfl, rfl⟩ := hrel
          by_cases hk0 : k + 1 = n
          · have hk1 : (k : Int) + 1 = n := by omega
            go_wp2_with fail
            refine bodyPost_ret (v := ifV ((tl.take k).foldl (pairV 124) v0)) (by simp [results, Tryz.results22, go_sem, *]) rfl ?_
            have e1 : (tl.take k).foldl (pairV 124) v0 = foldXV 4 vs := by
              rw [List.take_of_length_le (by rw [HTL.out]; simp; omega)]
              conv => rhs; rw [HVS.out]
              rfl
            rw [e1]
            exact FIN.out
          · obtain ⟨vk, hvk⟩ : ∃ v0, vs[k + 1]? = some v0 := ⟨_, List.getElem?_eq_getElem (by omega)⟩
            have q1 : wr.cell? ⟨gb, 1 + k, none⟩ = some (ifV vk) := by have := (OwnF.at_ HO.out (k + 1) (by omega)).1; rw [hvk] at this; rw [show 1 + k = k + 1 by omega]; exact this
            have hfd : Hid ((tl.take (k + 1)).foldl (pairV 124) v0 = pairV 124 ((tl.take k).foldl (pairV 124) v0) vk) := Lib.hid (by
              rw [List.take_add_one, HTL.out, List.getElem?_drop, show 1 + k = k + 1 by omega, hvk, List.foldl_append]
              rfl)
            clear hvk
            have hi : (k : Int) < (n : Int) - 1 := by omega
            go_wp2_with fail
            go_round
            case rel => exact ⟨k + 1, by omega, by rw [hfd.out]; rfl, by go_num⟩
            case measure => simp [intOf]; omega

    · obtain ⟨_, _, he, hk255, _, hmore, _⟩ := hst.head
      injection he with he1 he2
      subst he1 he2
      obtain ⟨u, M, rfl⟩ := hmore (fun e => by rw [e] at hrk; revert hrk; decide)
      clear hmore
      obtain ⟨aa, hps⟩ := hst.cells
      have c7 := hps.c7
      have c2' := hps.c2
      have hri : (rkI t.kind == 4) = true := by
        rw [beq_iff_eq]
        exact (rkI_eq (r := 4) (by omega)).2 hrk
      have HRK := Lib.hid (fun W => HR.out t.kind W (by omega))
      have HSTEP := Lib.hid (step_st g l t u M d bad 0 wr hst)
      have HH := Lib.hid (And.intro hown (And.intro hvs (And.intro hch (And.intro hrun (And.intro hrk (And.intro hlen (And.intro hst hex)))))))
      clear hS hst hps hown hvs hch hrun hrk hlen hex
      generalize hrv : rkI t.kind = rv at *
      clear hrv
      go_wp2_with fail
      refine (HRK.out _).mono ?_
      rintro x w2 ⟨rfl, rfl⟩
      go_wp2_with fail
      refine HSTEP.out.mono ?_
      rintro x w2 ⟨rfl, h1, h2⟩
      obtain ⟨hown, hvs, hch, hrun, hrk, hlen, hst, hex⟩ := HH.out
      have hvpos := List.length_pos_iff.2 hvs
      have hown2 : OwnP w2 w.heap.size (.slice A n0 c0) vs := hown.chg h1 (fun k hk hm => by
        rw [List.mem_singleton] at hm
        subst hm
        have := hown.blk_ge _ hk
        omega)
      have hex2 := hex.st hst h1
      have HL := Lib.hid (HN.out (u :: M).length (by simp at hlen ⊢; omega) g l (u :: M) d bad w2 rfl (by simp at hlen ⊢; omega) h2)
      have HH2 := Lib.hid (And.intro hown2 (And.intro hex2 (And.intro h2 (hch.trans h1 (by simp)))))
      clear hown hvs hch hrun hrk hlen hst hex hown2 hex2 h1 h2 hvpos
      go_wp2_with fail
      refine HL.out.mono ?_
      rintro x w3 ⟨v3, rfl, h3, h4⟩
      obtain ⟨hown2, hex2, hst2, hch2⟩ := HH2.out
      have hown3 : OwnP w3 w.heap.size (.slice A n0 c0) vs := hown2.chg h3 (fun k hk hm => by
        rw [List.mem_singleton] at hm
        subst hm
        have := hown2.blk_ge _ hk
        omega)
      have hex3 := hex2.st hst2 h3
      have hch3 := hch2.trans h3 (by simp)
      have hvl : vs.length ≤ 5000 := by have := HH.out.2.2.2.2.2.1; simp at this; omega
      have HH3 := Lib.hid (And.intro hown3 (And.intro hex3 (And.intro h4 hch3)))
      have hsz3 := hch3.size
      clear hown2 hex2 hst2 hch2 hown3 hex3 h3 h4 hch3
      go_wp2_with (at_builtin; refine wp_app1 (f := ifV) Tryz.underlying111 hi hz0 hz1 hz2 rfl (by omega) w3 rfl _ _ rfl w.heap.size _ vs v3 1 rfl HH3.out.1 hsz3 (by omega) rfl rfl rfl ?_; intro v4 w4 hown4 hb4 hs4 hg4 hv4)
      obtain ⟨A4, n4, c4, hA4, _⟩ := hown4.form
      subst hA4
      obtain ⟨hown3, hex3, h4, hch3⟩ := HH3.out
      obtain ⟨hown, hvs, hch, hrun, hrk, hlen, hst, hex⟩ := HH.out
      have hown4' : OwnP w4 w.heap.size (.slice A4 n4 c4) (vs ++ [v3]) := hown4
      have hst4 : ∀ {L' d' p c}, St w3 g l L' d' p c → St w4 g l L' d' p c := fun hs => hs.grow HPV.out hb4 hg
      have hex4 : ∀ x v, ExAt w3 w3.heap.size x v → ExAt w4 w4.heap.size x v := ExAt.keep hg4.size (fun k hk ⟨cs, hcs⟩ => hg4.block k hk (fun e => OwnF.ne_blk hown3 hcs (by decide) (mem_blk.2 e.symm)))
      have hch4 : Chg [g] w w4 := ⟨hg4.os.trans hch3.os, hg4.tape.trans hch3.tape, hg4.output.trans hch3.output, Nat.le_trans hch3.size hg4.size, fun k hk hm => (hb4.block k hk).trans (hch3.block k hk hm)⟩
      obtain ⟨gk', hlt, hS⟩ : ∃ gk', gk' < (u :: M).length + 1 ∧ Sides 4 g l L d bad w gk' (.slice A4 n4 c4) w4 := by
        rcases h4 with ⟨c, p, d', L', k1, k2, k3, k4, k5⟩ | ⟨x, L', k1, k2, k3, k4⟩
        · exact ⟨0, by simp, _, _, _, _, rfl, hown4', by simp, hch4, .inl ⟨c, p, d', L', rfl, .partsE hrun hrk k1, k2, k3, by simp at k4 hlen ⊢; omega, hst4 k5⟩⟩
        · exact ⟨L'.length, by simp at k2 ⊢; omega, _, _, _, _, rfl, hown4', by simp, hch4, .inr ⟨xs ++ [x], L', rfl, .partsS hrun hrk k1, by simp at k2 hlen ⊢; omega, hst4 k3, ExsAt.snoc (hex4 _ _ k4) (ExsAt.keep hex4 hex3)⟩⟩
      have HS4 := Lib.hid hS
      have hgk2 : gk' ≤ L.length := by simp at hlen hlt; omega
      clear hown hvs hch hrun hrk hlen hst hex hown3 hex3 h4 hch3 hown4 hown4' hst4 hex4 hch4 hS hb4 hg4 hv4
      go_wp2_with fail
      go_roundg gk'
      case rel => exact ⟨hgk2, HS4.out⟩
      case measure => simp at hlt ⊢; omega

set_option maxRecDepth 100000 in
set_option maxHeartbeats 8000000 in
theorem levf_4 (hn : LevF 5) : LevF 4 := by
  intro g l L d bad e w h he
  have HN := Lib.hid (hn g l L d bad e w h he)
  have HST := Lib.hid h
  have HR := Lib.hid (fun W => rank_any 38 W (by omega))
  have hr : rkI 38 = 5 := rfl
  have hix : ((⟨#[32, 61, 62, 94, 124, 38]⟩ : ByteArray)[4]'(by decide)).toNat = 124 := rfl
  have he2 : (e == 0) = false := by simpa using he
  clear h hn
  go_enter Tryz.func22, Tryz.ntmps22
  go_wp2_with fail
  refine (HR.out _).mono ?_
  rintro x w1 ⟨rfl, rfl⟩
  go_wp2_with fail
  refine HN.out.mono ?_
  rintro x w1 ⟨v, rfl, hb⟩
  have hst := (HST.out.chg0 hb)
  obtain ⟨tt, M, hL, _⟩ := hst.head
  subst hL
  obtain ⟨aa, hps⟩ := hst.cells
  have c7 := hps.c7
  have hg := hps.lt
  have HB := Lib.hid hb
  clear hst hps hb
  go_wp2_with fail
  go_loopw [5] (fun s5 wr => s5 = .slice (some ⟨w1.heap.size, 0, none⟩) 1 1 ∧ wr = w1.alloc (.cells #[ifV v] 57)) (fun _ _ => 0)
  case atStart => exact ⟨rfl, rfl⟩
  case round =>
    obtain ⟨rfl, rfl⟩ := hrel
    go_wp2_with fail
    go_loop [9, 78] (fun x i => x = ifV v ∧ i = .int .i64 0) (fun x i => 0)
    case atStart => exact ⟨rfl, rfl⟩
    case round =>
      obtain ⟨rfl, rfl⟩ := hrel
      go_wp2_with fail
      exact bodyPost_ret (v := ifV v) (by simp [results, Tryz.results22, go_sem, *]) rfl ⟨⟨v.1, v.2, rfl⟩, HB.out.alloc HB.out.size _⟩

set_option maxRecDepth 100000 in
set_option maxHeartbeats 16000000 in
theorem lev_5 (n : Nat) (hn : ∀ m, m ≤ n → LevC 6 m) : LevC 5 n := by
  intro g l L d bad w hLn hd h
  have HN0 := Lib.hid (hn n (Nat.le_refl _) g l L d bad w hLn hd h)
  have HN := Lib.hid hn
  have HR := Lib.hid (fun k W hk => rank_any k W hk)
  obtain ⟨i0, hi, hz0, hz1, hz2⟩ := info_parts info_part
  have hg := h.lt
  have HPV := Lib.hid h.pv
  have hr : rkI 38 = 5 := rfl
  have hix : ((⟨#[32, 61, 62, 94, 124, 38]⟩ : ByteArray)[5]'(by decide)).toNat = 38 := rfl
  clear h hn
  go_enter Tryz.func22, Tryz.ntmps22
  go_wp2_with fail
  refine (HR.out 38 _ (by omega)).mono ?_
  rintro x w1 ⟨rfl, rfl⟩
  go_wp2_with fail
  refine HN0.out.mono ?_
  rintro x w1 ⟨v, rfl, h1, h2⟩
  have hS : ∃ gk, gk ≤ L.length ∧ Sides 5 g l L d bad w gk (.slice (some ⟨w1.heap.size, 0, none⟩) 1 1) (w1.alloc (.cells #[ifV v] 57)) := by
    rcases h2 with ⟨c, p, d', L', k1, k2, k3, k4, k5⟩ | ⟨x, L', k1, k2, k3, k4⟩
    · exact ⟨0, Nat.zero_le _, _, _, _, [v], rfl, (OwnP.lit v).mono h1.size, by simp, h1.alloc _, .inl ⟨c, p, d', L', rfl, .parts1 (by omega) k1, k2, k3, k4, k5.alloc _⟩⟩
    · exact ⟨L'.length, k2, _, _, _, [v], rfl, (OwnP.lit v).mono h1.size, by simp, h1.alloc _, .inr ⟨[x], L', rfl, .parts1 (by omega) k1, by simp; omega, k3.alloc _, ⟨ExAt.st k4 k3 ((Chg.refl _ _).alloc _), trivial⟩⟩⟩
  clear h1 h2
  obtain ⟨gk0, hgk0, hS⟩ := hS
  have HS := Lib.hid hS
  clear hS
  go_wp2_with fail
  go_loopg [5] gk0 (fun gk s5 wr => gk ≤ L.length ∧ Sides 5 g l L d bad w gk s5 wr)
  case atStart => exact ⟨hgk0, HS.out⟩
  case round =>
    obtain ⟨hgk, A, n0, c0, vs0, rfl, k1', k2', k3', k4'⟩ := hrel
    have hS : Sides 5 g l L d bad w gk (.slice A n0 c0) wr := ⟨A, n0, c0, vs0, rfl, k1', k2', k3', k4'⟩
    have key : (∃ (c p d' : Nat) (L' : List Tok), (c = 10 ∨ c = 12) ∧ St wr g l L' d' p c) ∨ (∃ t M, St wr g l (t :: M) d bad 0 ∧ rk t.kind ≠ 5) ∨
        (∃ vs xs t M, OwnP wr w.heap.size (.slice A n0 c0) vs ∧ vs ≠ [] ∧ Chg [g] w wr ∧ gk = M.length + 1 ∧ Run (.parts 5) d L (.ok xs (t :: M)) ∧ rk t.kind = 5 ∧ M.length + 1 + vs.length ≤ L.length + 1 ∧ St wr g l (t :: M) d bad 0 ∧ ExsAt wr wr.heap.size xs vs) := by
      clear hS
      rcases k4' with ⟨c, p, d', L', _, _, j2, _, _, j5⟩ | ⟨xs, L1, j1, j2, j3, j4, j5⟩
      · exact .inl ⟨c, p, d', L', j2, j5⟩
      · obtain ⟨t, M, rfl, _⟩ := j4.head
        by_cases hrk : rk t.kind = 5
        · exact .inr (.inr ⟨vs0, xs, t, M, k1', k2', k3', j1, j2, hrk, j3, j4, j5⟩)
        · exact .inr (.inl ⟨t, M, j4, hrk⟩)
    rcases key with ⟨c, p, d', L', hc, hst⟩ | ⟨t, M, hst, hrk⟩ | ⟨vs, xs, t, M, hown, hvs, hch, rfl, hrun, hrk, hlen, hst, hex⟩
    all_goals clear k1' k2' k3' k4' vs0

    · obtain ⟨A', n', c2', vs, e1, hown, hne, hvl, hnc, hout⟩ := sides_out (by omega) (by omega) hS (fun t M k => by
        obtain ⟨_, M2, hh, _⟩ := hst.head
        subst hh
        obtain ⟨_, q⟩ := hst.cells
        obtain ⟨_, q2⟩ := k.cells
        have e1 := q.c7
        rw [q2.c7] at e1
        injection e1 with e1
        injection e1 with _ e1
        omega)
      injection e1 with ea eb ec
      subst ea eb ec
      obtain ⟨gb, cap, hgb, hgb1, hgb2, hgb3⟩ := hown.head (List.length_pos_iff.2 hne)
      injection hgb with e1 e2 e3
      subst e1 e2 e3
      obtain ⟨tt, M2, rfl, _⟩ := hst.head
      obtain ⟨aa, hps⟩ := hst.cells
      have c7 := hps.c7
      have hc0 : ¬ (c : Int) = 0 := by omega
      have hc1 : ((c : Int) == 0) = false := by simp; omega
      have HO := Lib.hid hown
      have FIN := Lib.hid hout
      have hn0 : 0 < vs.length := List.length_pos_iff.2 hne
      have hnm := hown.len_le
      generalize hnn : vs.length = n at *
      clear hown hout hst hS hps hc hne
      obtain ⟨v0, hv0⟩ : ∃ v0, vs[0]? = some v0 := ⟨_, List.getElem?_eq_getElem (by omega)⟩
      have q0 : wr.cell? ⟨gb, 0, none⟩ = some (ifV v0) := by have := (OwnF.at_ HO.out 0 (by omega)).1; rw [hv0] at this; exact this
      have hvs : vs = v0 :: vs.drop 1 := by
        have h := hv0
        rw [List.getElem?_eq_getElem (by omega)] at h
        injection h with h
        have := List.drop_eq_getElem_cons (l := vs) (i := 0) (by omega)
        rw [List.drop_zero, h] at this
        exact this
      obtain ⟨tl, htl⟩ : ∃ tl, tl = vs.drop 1 := ⟨_, rfl⟩
      rw [← htl] at hvs
      have HVS := Lib.hid hvs
      have HTL := Lib.hid htl
      clear hv0 hvs htl
      by_cases hcap : c0 = 1
      · subst hcap
        go_wp2_with fail
        go_loop [9, 78] (fun x i => ∃ k : Nat, k + 1 ≤ n ∧ x = ifV ((tl.take k).foldl (pairV 38) v0) ∧ i = .int .i64 (k : Int)) (fun x i => n - (intOf i).toNat)
        case atStart => exact ⟨0, by omega, rfl, rfl⟩
        case round =>
          obtain ⟨k, hk, rfl, rfl⟩ := hrel
          have hk0 : k + 1 = n := by omega
          have hk1 : (k : Int) + 1 = n := by omega
          go_wp2_with fail
          refine bodyPost_ret (v := ifV ((tl.take k).foldl (pairV 38) v0)) (by simp [results, Tryz.results22, go_sem, *]) rfl ?_
          have e1 : (tl.take k).foldl (pairV 38) v0 = foldXV 5 vs := by
            rw [List.take_of_length_le (by rw [HTL.out]; simp; omega)]
            conv => rhs; rw [HVS.out]
            rfl
          rw [e1]
          exact FIN.out
      · have hcap2 : (c0 : Int) ≠ 1 := by omega
        go_wp2_with fail
        go_loop [9, 78] (fun x i => ∃ k : Nat, k + 1 ≤ n ∧ x = ifV ((tl.take k).foldl (pairV 38) v0) ∧ i = .int .i64 (k : Int)) (fun x i => n - (intOf i).toNat)
        case atStart => exact ⟨0, by omega, rfl, rfl⟩
        case round =>
          obtain ⟨k, hk, rfl, rfl⟩ := hrel
          by_cases hk0 : k + 1 = n
          · have hk1 : (k : Int) + 1 = n := by omega
            go_wp2_with fail
            refine bodyPost_ret (v := ifV ((tl.take k).foldl (pairV 38) v0)) (by simp [results, Tryz.results22, go_sem, *]) rfl ?_
            have e1 : (tl.take k).foldl (pairV 38) v0 = foldXV 5 vs := by
              rw [List.take_of_length_le (by rw [HTL.out]; simp; omega)]
              conv => rhs; rw [HVS.out]
              rfl
            rw [e1]
            exact FIN.out
          · obtain ⟨vk, hvk⟩ : ∃ v0, vs[k + 1]? = some v0 := ⟨_, List.getElem?_eq_getElem (by omega)⟩
            have q1 : wr.cell? ⟨gb, 1 + k, none⟩ = some (ifV vk) := by have := (OwnF.at_ HO.out (k + 1) (by omega)).1; rw [hvk] at this; rw [show 1 + k = k + 1 by omega]; exact this
            have hfd : Hid ((tl.take (k + 1)).foldl (pairV 38) v0 = pairV 38 ((tl.take k).foldl (pairV 38) v0) vk) := Lib.hid (by
              rw [List.take_add_one, HTL.out, List.getElem?_drop, show 1 + k = k + 1 by omega, hvk, List.foldl_append]
              rfl)
            clear hvk
            have hi : (k : Int) < (n : Int) - 1 := by omega
            go_wp2_with fail
            go_round
            case rel => exact ⟨k + 1, by omega, by rw [hfd.out]; rfl, by go_num⟩
            case measure => simp [intOf]; omega

    · obtain ⟨A', n', c2', vs, e1, hown, hne, hvl, hnc, hout⟩ := sides_out (by omega) (by omega) hS (fun t2 M2 k => by
        obtain ⟨_, q⟩ := hst.cells
        obtain ⟨_, q2⟩ := k.cells
        have e1 := q.c2
        rw [q2.c2] at e1
        injection e1 with e1
        injection e1 with _ e1
        rw [show t2.kind = t.kind by omega]
        exact hrk)
      injection e1 with ea eb ec
      subst ea eb ec
      obtain ⟨gb, cap, hgb, hgb1, hgb2, hgb3⟩ := hown.head (List.length_pos_iff.2 hne)
      injection hgb with e1 e2 e3
      subst e1 e2 e3
      obtain ⟨_, _, he, hk255, _⟩ := hst.head
      injection he with he1 he2
      subst he1 he2
      obtain ⟨aa, hps⟩ := hst.cells
      have c7 := hps.c7
      have c2' := hps.c2
      have HRK := Lib.hid (fun W => HR.out t.kind W (by omega))
      have hri : (rkI t.kind == 5) = false := by
        rw [beq_eq_false_iff_ne]
        exact fun e => hrk ((rkI_eq (r := 5) (by omega)).1 e)
      have HO := Lib.hid hown
      have FIN := Lib.hid hout
      have hn0 : 0 < vs.length := List.length_pos_iff.2 hne
      have hnm := hown.len_le
      generalize hnn : vs.length = n at *
      generalize hrv : rkI t.kind = rv at *
      clear hown hout hst hS hps hne hrk hrv
      go_wp2_with fail
      refine (HRK.out _).mono ?_
      rintro x w2 ⟨rfl, rfl⟩
      obtain ⟨v0, hv0⟩ : ∃ v0, vs[0]? = some v0 := ⟨_, List.getElem?_eq_getElem (by omega)⟩
      have q0 : wr.cell? ⟨gb, 0, none⟩ = some (ifV v0) := by have := (OwnF.at_ HO.out 0 (by omega)).1; rw [hv0] at this; exact this
      have hvs : vs = v0 :: vs.drop 1 := by
        have h := hv0
        rw [List.getElem?_eq_getElem (by omega)] at h
        injection h with h
        have := List.drop_eq_getElem_cons (l := vs) (i := 0) (by omega)
        rw [List.drop_zero, h] at this
        exact this
      obtain ⟨tl, htl⟩ : ∃ tl, tl = vs.drop 1 := ⟨_, rfl⟩
      rw [← htl] at hvs
      have HVS := Lib.hid hvs
      have HTL := Lib.hid htl
      clear hv0 hvs htl
      by_cases hcap : c0 = 1
      · subst hcap
        go_wp2_with fail
        go_loop [9, 78] (fun x i => ∃ k : Nat, k + 1 ≤ n ∧ x = ifV ((tl.take k).foldl (pairV 38) v0) ∧ i = .int .i64 (k : Int)) (fun x i => n - (intOf i).toNat)
        case atStart => exact ⟨0, by omega, rfl, rfl⟩
        case round =>
          obtain ⟨k, hk, rfl, rfl⟩ := hrel
          have hk0 : k + 1 = n := by omega
          have hk1 : (k : Int) + 1 = n := by omega
          go_wp2_with fail
          refine bodyPost_ret (v := ifV ((tl.take k).foldl (pairV 38) v0)) (by simp [results, Tryz.results22, go_sem, *]) rfl ?_
          have e1 : (tl.take k).foldl (pairV 38) v0 = foldXV 5 vs := by
            rw [List.take_of_length_le (by rw [HTL.out]; simp; omega)]
            conv => rhs; rw [HVS.out]
            rfl
          rw [e1]
          exact FIN.out
      · have hcap2 : (c0 : Int) ≠ 1 := by omega
        go_wp2_with fail
        go_loop [9, 78] (fun x i => ∃ k : Nat, k + 1 ≤ n ∧ x = ifV ((tl.take k).foldl (pairV 38) v0) ∧ i = .int .i64 (k : Int)) (fun x i => n - (intOf i).toNat)
        case atStart => exact ⟨0, by omega, rfl, rfl⟩
        case round =>
          obtain ⟨k, hk, rfl, rfl⟩ := hrel
          by_cases hk0 : k + 1 = n
          · have hk1 : (k : Int) + 1 = n := by omega
            go_wp2_with fail
            refine bodyPost_ret (v := ifV ((tl.take k).foldl (pairV 38) v0)) (by simp [results, Tryz.results22, go_sem, *]) rfl ?_
            have e1 : (tl.take k).foldl (pairV 38) v0 = foldXV 5 vs := by
              rw [List.take_of_length_le (by rw [HTL.out]; simp; omega)]
              conv => rhs; rw [HVS.out]
              rfl
            rw [e1]
            exact FIN.out
          · obtain ⟨vk, hvk⟩ : ∃ v0, vs[k + 1]? = some v0 := ⟨_, List.getElem?_eq_getElem (by omega)⟩
            have q1 : wr.cell? ⟨gb, 1 + k, none⟩ = some (ifV vk) := by have := (OwnF.at_ HO.out (k + 1) (by omega)).1; rw [hvk] at this; rw [show 1 + k = k + 1 by omega]; exact this
            have hfd : Hid ((tl.take (k + 1)).foldl (pairV 38) v0 = pairV 38 ((tl.take k).foldl (pairV 38) v0) vk) := Lib.hid (by
              rw [List.take_add_one, HTL.out, List.getElem?_drop, show 1 + k = k + 1 by omega, hvk, List.foldl_append]
              rfl)
            clear hvk
            have hi : (k : Int) < (n : Int) - 1 := by omega
            go_wp2_with fail
            go_round
            case rel => exact ⟨k + 1, by omega, by rw [hfd.out]; rfl, by go_num⟩
            case measure => simp [intOf]; omega

    · obtain ⟨_, _, he, hk255, _, hmore, _⟩ := hst.head
      injection he with he1 he2
      subst he1 he2
      obtain ⟨u, M, rfl⟩ := hmore (fun e => by rw [e] at hrk; revert hrk; decide)
      clear hmore
      obtain ⟨aa, hps⟩ := hst.cells
      have c7 := hps.c7
      have c2' := hps.c2
      have hri : (rkI t.kind == 5) = true := by
        rw [beq_iff_eq]
        exact (rkI_eq (r := 5) (by omega)).2 hrk
      have HRK := Lib.hid (fun W => HR.out t.kind W (by omega))
      have HSTEP := Lib.hid (step_st g l t u M d bad 0 wr hst)
      have HH := Lib.hid (And.intro hown (And.intro hvs (And.intro hch (And.intro hrun (And.intro hrk (And.intro hlen (And.intro hst hex)))))))
      clear hS hst hps hown hvs hch hrun hrk hlen hex
      generalize hrv : rkI t.kind = rv at *
      clear hrv
      go_wp2_with fail
      refine (HRK.out _).mono ?_
      rintro x w2 ⟨rfl, rfl⟩
      go_wp2_with fail
      refine HSTEP.out.mono ?_
      rintro x w2 ⟨rfl, h1, h2⟩
      obtain ⟨hown, hvs, hch, hrun, hrk, hlen, hst, hex⟩ := HH.out
      have hvpos := List.length_pos_iff.2 hvs
      have hown2 : OwnP w2 w.heap.size (.slice A n0 c0) vs := hown.chg h1 (fun k hk hm => by
        rw [List.mem_singleton] at hm
        subst hm
        have := hown.blk_ge _ hk
        omega)
      have hex2 := hex.st hst h1
      have HL := Lib.hid (HN.out (u :: M).length (by simp at hlen ⊢; omega) g l (u :: M) d bad w2 rfl (by simp at hlen ⊢; omega) h2)
      have HH2 := Lib.hid (And.intro hown2 (And.intro hex2 (And.intro h2 (hch.trans h1 (by simp)))))
      clear hown hvs hch hrun hrk hlen hst hex hown2 hex2 h1 h2 hvpos
      go_wp2_with fail
      refine HL.out.mono ?_
      rintro x w3 ⟨v3, rfl, h3, h4⟩
      obtain ⟨hown2, hex2, hst2, hch2⟩ := HH2.out
      have hown3 : OwnP w3 w.heap.size (.slice A n0 c0) vs := hown2.chg h3 (fun k hk hm => by
        rw [List.mem_singleton] at hm
        subst hm
        have := hown2.blk_ge _ hk
        omega)
      have hex3 := hex2.st hst2 h3
      have hch3 := hch2.trans h3 (by simp)
      have hvl : vs.length ≤ 5000 := by have := HH.out.2.2.2.2.2.1; simp at this; omega
      have HH3 := Lib.hid (And.intro hown3 (And.intro hex3 (And.intro h4 hch3)))
      have hsz3 := hch3.size
      clear hown2 hex2 hst2 hch2 hown3 hex3 h3 h4 hch3
      go_wp2_with (at_builtin; refine wp_app1 (f := ifV) Tryz.underlying111 hi hz0 hz1 hz2 rfl (by omega) w3 rfl _ _ rfl w.heap.size _ vs v3 1 rfl HH3.out.1 hsz3 (by omega) rfl rfl rfl ?_; intro v4 w4 hown4 hb4 hs4 hg4 hv4)
      obtain ⟨A4, n4, c4, hA4, _⟩ := hown4.form
      subst hA4
      obtain ⟨hown3, hex3, h4, hch3⟩ := HH3.out
      obtain ⟨hown, hvs, hch, hrun, hrk, hlen, hst, hex⟩ := HH.out
      have hown4' : OwnP w4 w.heap.size (.slice A4 n4 c4) (vs ++ [v3]) := hown4
      have hst4 : ∀ {L' d' p c}, St w3 g l L' d' p c → St w4 g l L' d' p c := fun hs => hs.grow HPV.out hb4 hg
      have hex4 : ∀ x v, ExAt w3 w3.heap.size x v → ExAt w4 w4.heap.size x v := ExAt.keep hg4.size (fun k hk ⟨cs, hcs⟩ => hg4.block k hk (fun e => OwnF.ne_blk hown3 hcs (by decide) (mem_blk.2 e.symm)))
      have hch4 : Chg [g] w w4 := ⟨hg4.os.trans hch3.os, hg4.tape.trans hch3.tape, hg4.output.trans hch3.output, Nat.le_trans hch3.size hg4.size, fun k hk hm => (hb4.block k hk).trans (hch3.block k hk hm)⟩
      obtain ⟨gk', hlt, hS⟩ : ∃ gk', gk' < (u :: M).length + 1 ∧ Sides 5 g l L d bad w gk' (.slice A4 n4 c4) w4 := by
        rcases h4 with ⟨c, p, d', L', k1, k2, k3, k4, k5⟩ | ⟨x, L', k1, k2, k3, k4⟩
        · exact ⟨0, by simp, _, _, _, _, rfl, hown4', by simp, hch4, .inl ⟨c, p, d', L', rfl, .partsE hrun hrk k1, k2, k3, by simp at k4 hlen ⊢; omega, hst4 k5⟩⟩
        · exact ⟨L'.length, by simp at k2 ⊢; omega, _, _, _, _, rfl, hown4', by simp, hch4, .inr ⟨xs ++ [x], L', rfl, .partsS hrun hrk k1, by simp at k2 hlen ⊢; omega, hst4 k3, ExsAt.snoc (hex4 _ _ k4) (ExsAt.keep hex4 hex3)⟩⟩
      have HS4 := Lib.hid hS
      have hgk2 : gk' ≤ L.length := by simp at hlen hlt; omega
      clear hown hvs hch hrun hrk hlen hst hex hown3 hex3 h4 hch3 hown4 hown4' hst4 hex4 hch4 hS hb4 hg4 hv4
      go_wp2_with fail
      go_roundg gk'
      case rel => exact ⟨hgk2, HS4.out⟩
      case measure => simp at hlt ⊢; omega

set_option maxRecDepth 100000 in
set_option maxHeartbeats 8000000 in
theorem levf_5 (hn : LevF 6) : LevF 5 := by
  intro g l L d bad e w h he
  have HN := Lib.hid (hn g l L d bad e w h he)
  have HST := Lib.hid h
  have HR := Lib.hid (fun W => rank_any 38 W (by omega))
  have hr : rkI 38 = 5 := rfl
  have hix : ((⟨#[32, 61, 62, 94, 124, 38]⟩ : ByteArray)[5]'(by decide)).toNat = 38 := rfl
  have he2 : (e == 0) = false := by simpa using he
  clear h hn
  go_enter Tryz.func22, Tryz.ntmps22
  go_wp2_with fail
  refine (HR.out _).mono ?_
  rintro x w1 ⟨rfl, rfl⟩
  go_wp2_with fail
  refine HN.out.mono ?_
  rintro x w1 ⟨v, rfl, hb⟩
  have hst := (HST.out.chg0 hb)
  obtain ⟨tt, M, hL, _⟩ := hst.head
  subst hL
  obtain ⟨aa, hps⟩ := hst.cells
  have c7 := hps.c7
  have hg := hps.lt
  have HB := Lib.hid hb
  clear hst hps hb
  go_wp2_with fail
  go_loopw [5] (fun s5 wr => s5 = .slice (some ⟨w1.heap.size, 0, none⟩) 1 1 ∧ wr = w1.alloc (.cells #[ifV v] 57)) (fun _ _ => 0)
  case atStart => exact ⟨rfl, rfl⟩
  case round =>
    obtain ⟨rfl, rfl⟩ := hrel
    go_wp2_with fail
    go_loop [9, 78] (fun x i => x = ifV v ∧ i = .int .i64 0) (fun x i => 0)
    case atStart => exact ⟨rfl, rfl⟩
    case round =>
      obtain ⟨rfl, rfl⟩ := hrel
      go_wp2_with fail
      exact bodyPost_ret (v := ifV v) (by simp [results, Tryz.results22, go_sem, *]) rfl ⟨⟨v.1, v.2, rfl⟩, HB.out.alloc HB.out.size _⟩

theorem lev_fail : LevF 1 := levf_1 (levf_2 (levf_3 (levf_4 (levf_5 levf_six))))
theorem lev_all (n : Nat) (hn : ∀ m, m ≤ n → NotC m) : LevC 1 n :=
  lev_1 n fun m1 h1 => lev_2 m1 fun m2 h2 => lev_3 m2 fun m3 h3 => lev_4 m3 fun m4 h4 => lev_5 m4 fun m5 h5 => lev_six m5 (hn m5 (by omega))
end Go.Proofs.YtpjciaomhfeeeaaGreatDoor
