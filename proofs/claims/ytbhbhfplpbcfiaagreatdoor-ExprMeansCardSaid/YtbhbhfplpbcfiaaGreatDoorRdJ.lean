/- Contract: the document's Table (29). -/
import Derived.Test.YtbhbhfplpbcfiaaGreatDoorMw
import Derived.Test.YtbhbhfplpbcfiaaGreatDoorMv
import Derived.Test.YtbhbhfplpbcfiaaGreatDoorMg
import Derived.Test.YtbhbhfplpbcfiaaGreatDoorSetQl
import Derived.Test.YtbhbhfplpbcfiaaGreatDoorExE
import Derived.Deep.RegionHeld3
namespace Go.Proofs.YtbhbhfplpbcfiaaGreatDoor
open Go.RowKit Go.Sort
set_option linter.unusedSimpArgs false
set_option linter.unusedVariables false

/-- a table, behind a call -/
def TabOut (w : World) (m : Nat) (t : List Bool) (e : Ending) (w' : World) : Prop := ∃ B d, e = .returned (.slice B (2 ^ m) d) ∧ TabArg w' B (2 ^ m) d t ∧ Below w.heap.size w w'
/-- what Table tells of tokens -/
def RTabC (C : List Tok) (x : Ex) : Prop := ∀ (A : Option Addr) (n c m : Nat) (w : World), TkArg w A n c C → m ≤ 16 → Calls Tryz.prog 18 #[.slice A n c, .int .i64 (m : Nat)] w (TabOut w m (x.tabE m))
theorem num_op {k : Nat} (h : rk k ≠ 0) : k = 61 ∨ k = 62 ∨ k = 94 ∨ k = 124 ∨ k = 38 := rk_mem h
set_option maxRecDepth 100000 in
set_option maxHeartbeats 8000000 in
theorem rtab_op {C : List Tok} {i : Nat} {t : Tok} {a b : Ex} (hsp : splitT C = some i) (hi : C[i]? = some t) (hrk : rk t.kind ≠ 0) (hra : RT (C.take i) a) (hrb : RT (C.drop (i + 1)) b) (ha : RTabC (C.take i) a) (hb : RTabC (C.drop (i + 1)) b) : RTabC C (.pair t.kind a b) := by
  intro A n c m w h hm
  obtain ⟨b0, off, q0, hb0, q1, q2, q3⟩ := h.cells hi
  subst q0
  have hlen := h.len
  have hmax := h.max
  have hnc := h.le
  have hin : i < n := by
    rcases Nat.lt_or_ge i C.length with h | h
    · omega
    · rw [List.getElem?_eq_none h] at hi; cases hi
  have hin2 : i + 1 < n := by
    have := hrb.ne
    rcases Nat.lt_or_ge (i + 1) C.length with h | h
    · omega
    · rw [List.drop_eq_nil_of_le h] at this; exact absurd rfl this
  have HA := Lib.hid (fun W (hW : Below w.heap.size w W) => ha _ _ _ m W ((h.take (Nat.le_of_lt hin)).on hW) hm)
  have HB := Lib.hid (fun W (hW : Below w.heap.size w W) => hb _ _ _ m W ((h.drop (m := i + 1) (by omega)).on hW) hm)
  have HS := Lib.hid (rsplit_any _ n c C w h)
  rw [hsp] at HS
  rw [show scanV (some i) = (i : Int) from rfl] at HS
  have hpos := Nat.two_pow_pos m
  have HO := Lib.hid (fun A1 A2 c1 c2 W (h1 : TabArg W A1 (2 ^ m) c1 (a.tabE m)) (h2 : TabArg W A2 (2 ^ m) c2 (b.tabE m)) => rop_tab (numOp t.kind) (by unfold numOp; (repeat' split) <;> omega) A1 A2 (2 ^ m) c1 c2 _ _ W hpos h1 h2)
  show Calls Tryz.prog _ _ w (TabOut w m (opT (numOp t.kind) (a.tabE m) (b.tabE m)))
  generalize a.tabE m = ta at *
  generalize b.tabE m = tb at *
  have hk := num_op hrk
  have e1 : IntKind.i64.wrap ((i : Int) + 1) = (i : Int) + 1 := IntWalk.i64_in _ ⟨by omega, by omega⟩
  have g1 : i ≤ c := by omega
  have g2 : (i : Int) ≤ (c : Int) := by omega
  have g3 : (i : Int) + 1 ≤ (n : Int) := by omega
  have g4 : i + 1 ≤ n := by omega
  have g5 : ¬ c = i + 1 := by omega
  have g6 : i + 1 ≤ c := by omega
  have g7 : (0 : Int) ≤ (i : Int) + 1 := by omega
  have g8 : ((i : Int) + 1).toNat = i + 1 := by omega
  clear ha hb h hi hsp hra hrb hlen q2 q3 hrk
  generalize t.kind = kd at *
  rcases hk with rfl | rfl | rfl | rfl | rfl
  all_goals
    go_enter Tryz.func18, Tryz.ntmps18
    go_wp2_with fail
    refine HS.out.mono ?_
    rintro e w1 ⟨rfl, rfl⟩
    go_wp2_with fail
    go_region_with (first
      | ((with_reducible show Calls _ 18 #[.slice (some ⟨b0, off, none⟩) i c, _] _ _); refine (HA.out _ (by with_reducible (first | exact (Below.refl _ _).drew | exact Below.refl _ _))).mono ?_; rintro e wx ⟨B1, d1, rfl, hx1, hbx⟩; have hB1 : Below w.heap.size w wx := (by first | exact ((Below.refl w.heap.size w).drew).trans hbx | exact hbx); have HX1 := Lib.hid hx1; clear hx1 hbx)
      | ((with_reducible show Calls _ 18 _ _ _); refine (HB.out _ hB1).mono ?_; rintro e wz ⟨B2, d2, rfl, hx2, hbz⟩; have hB2 : Below w.heap.size w wz := hB1.trans (hbz.mono hB1.size); have HX2 := Lib.hid hx2; have HX1' := Lib.hid (HX1.out.on hbz); clear hx2 hbz)
      | ((with_reducible show Calls _ 38 _ _ _); refine (HO.out _ _ _ _ _ HX1'.out HX2.out).mono ?_; rintro e wo ⟨B3, d3, rfl, hx3, hbo⟩; have hB3 : Below w.heap.size w wo := hB2.trans (hbo.mono hB2.size); have HX3 := Lib.hid hx3; clear hx3 hbo)
      | fail)
    all_goals
      have HB3 := Lib.hid hB3
      clear hB1 hB2 hB3
      go_wp2_with fail
      go_ret
      exact ⟨B3, d3, rfl, HX3.out, HB3.out⟩
set_option maxRecDepth 100000 in
set_option maxHeartbeats 8000000 in
theorem rtab_not {C : List Tok} {t : Tok} {x : Ex} (hsp : splitT (t :: C) = none) (ht : t.kind = 33) (hr : RT C x) (ih : RTabC C x) : RTabC (t :: C) (.not x) := by
  intro A n c m w h hm
  obtain ⟨b0, off, q0, q1, q2, q3, q4⟩ := h.cells (k := 0) (t := t) rfl
  subst q0
  have hlen := h.len
  have hmax := h.max
  have hnc := h.le
  have hne := List.length_pos_iff.2 hr.ne
  rw [List.length_cons] at hlen
  rw [ht] at q2
  simp only [Nat.zero_mul, Nat.add_zero] at q2
  have HA := Lib.hid (fun W (hW : Below w.heap.size w W) => ih _ _ _ m W ((h.drop (m := 1) (by omega)).on hW) hm)
  have HS := Lib.hid (rsplit_any _ n c _ w h)
  rw [hsp] at HS
  rw [show scanV none = -1 from rfl] at HS
  have hpos := Nat.two_pow_pos m
  have HO := Lib.hid (fun A1 c1 W (h1 : TabArg W A1 (2 ^ m) c1 (x.tabE m)) => rop_tab 3 (by omega) A1 A1 (2 ^ m) c1 c1 _ _ W hpos h1 h1)
  show Calls Tryz.prog _ _ w (TabOut w m (opT 3 (x.tabE m) (x.tabE m)))
  generalize x.tabE m = ta at *
  have h2 : 1 < n := by omega
  clear ih h hsp hr q1 q3 q4 hlen hne ht
  go_enter Tryz.func18, Tryz.ntmps18
  go_wp2_with fail
  refine HS.out.mono ?_
  rintro e w1 ⟨rfl, rfl⟩
  go_wp2_with fail
  refine (HA.out _ (Below.refl _ _)).mono ?_
  rintro e w1 ⟨B1, d1, rfl, hx1, hb1⟩
  have HX1 := Lib.hid hx1
  have HB1 := Lib.hid hb1
  clear hx1 hb1
  go_wp2_with fail
  refine (HO.out _ _ _ HX1.out).mono ?_
  rintro e w2 ⟨B2, d2, rfl, hx2, hb2⟩
  have HX2 := Lib.hid hx2
  have HB2 := Lib.hid hb2
  clear hx2 hb2
  go_wp2_with fail
  go_ret
  exact ⟨B2, d2, rfl, HX2.out, HB1.out.trans (HB2.out.mono HB1.out.size)⟩
set_option maxRecDepth 100000 in
set_option maxHeartbeats 8000000 in
theorem rtab_par {C : List Tok} {t u : Tok} {x : Ex} (hsp : splitT (t :: (C ++ [u])) = none) (ht : t.kind = 40) (hr : RT C x) (ih : RTabC C x) : RTabC (t :: (C ++ [u])) x := by
  intro A n c m w h hm
  obtain ⟨b0, off, q0, q1, q2, q3, q4⟩ := h.cells (k := 0) (t := t) rfl
  subst q0
  have hlen := h.len
  have hmax := h.max
  have hnc := h.le
  have hne := List.length_pos_iff.2 hr.ne
  rw [List.length_cons, List.length_append, List.length_cons, List.length_nil] at hlen
  rw [ht] at q2
  simp only [Nat.zero_mul, Nat.add_zero] at q2
  have hsub : TkArg w (some ⟨b0, off + 1 * 3, none⟩) (n - 1 - 1) (c - 1) C := by
    have := (h.take (m := n - 1) (by omega)).drop (m := 1) (by omega)
    rw [show n - 1 = C.length + 1 by omega, List.take_succ_cons, List.take_left] at this
    rw [show n - 1 = C.length + 1 by omega]
    exact this
  have HA := Lib.hid (fun W (hW : Below w.heap.size w W) => ih _ _ _ m W (hsub.on hW) hm)
  have HS := Lib.hid (rsplit_any _ n c _ w h)
  rw [hsp] at HS
  rw [show scanV none = -1 from rfl] at HS
  have h2 : 2 < n := by omega
  generalize x.tabE m = ta at *
  clear ih h hsp hr q1 q3 q4 hlen hne ht hsub
  go_enter Tryz.func18, Tryz.ntmps18
  go_wp2_with fail
  refine HS.out.mono ?_
  rintro e w1 ⟨rfl, rfl⟩
  go_wp2_with fail
  refine (HA.out _ (Below.refl _ _)).mono ?_
  rintro e w1 ⟨B1, d1, rfl, hx1, hb1⟩
  have HX1 := Lib.hid hx1
  have HB1 := Lib.hid hb1
  clear hx1 hb1
  go_wp2_with fail
  go_ret
  exact ⟨B1, d1, rfl, HX1.out, HB1.out⟩
set_option maxRecDepth 100000 in
set_option maxHeartbeats 8000000 in
theorem rtab_bnd {C : List Tok} {t u : Tok} {vs : List Tok} {x : Ex} (hsp : splitT (t :: (vs ++ u :: C)) = none) (ht : t.kind = 115 ∨ t.kind = 101) (hvs : ∀ y ∈ vs, y.kind = 118) (hu : u.kind = 46) (hr : RT C x) (ih : RTabC C x) :
    RTabC (t :: (vs ++ u :: C)) (.bound (t.kind == 101) (vs.map (·.n)) x) := by
  intro A n c m w h hm
  obtain ⟨b0, off, q0, qb, q2, q3, q4⟩ := h.cells (k := 0) (t := t) rfl
  subst q0
  have hlen := h.len
  have hmax := h.max
  have hnc := h.le
  have hne := List.length_pos_iff.2 hr.ne
  rw [List.length_cons, List.length_append, List.length_cons] at hlen
  simp only [Nat.zero_mul, Nat.add_zero] at q2
  have h15 := h.n15
  have hsub : TkArg w (some ⟨b0, off + (vs.length + 2) * 3, none⟩) (n - (vs.length + 2)) (c - (vs.length + 2)) C := by
    have := h.drop (m := vs.length + 2) (by omega)
    rw [List.drop_succ_cons, List.drop_length_add_append] at this
    exact this
  have HA := Lib.hid (fun W (hW : Below w.heap.size w W) => ih _ _ _ m W (hsub.on hW) hm)
  have HB := Lib.hid (fun W (hW : Below w.heap.size w W) => rbits_any _ _ _ _ W ((h.take (m := vs.length + 1) (by omega)).on hW))
  rw [bits_bnd ht hvs] at HB
  have HST := Lib.hid (fun W (hW : Below w.heap.size w W) => rstop_any _ _ _ _ W (h.on hW))
  rw [stop_vars ht hvs hu] at HST
  have hml : maskL (vs.map (·.n)) < 65536 := mask_lt _ (fun v hv => by
    obtain ⟨y, hy, rfl⟩ := List.mem_map.1 hv
    exact h15 y (by simp [hy]))
  have HO := Lib.hid (fun B d W (h1 : TabArg W B (2 ^ m) d (x.tabE m)) => rexists_tab m (maskL (vs.map (·.n))) (t.kind == 101) hm hml B d _ W h1)
  have HS := Lib.hid (rsplit_any _ n c _ w h)
  rw [hsp] at HS
  rw [show scanV none = -1 from rfl] at HS
  show Calls Tryz.prog _ _ w (TabOut w m (quantT (exO (t.kind == 101)) (maskL (vs.map (·.n))) (x.tabE m) m))
  obtain ⟨k, hk⟩ : ∃ k, k = vs.length + 1 := ⟨_, rfl⟩
  have h2 : k + 1 < n := by omega
  rw [← hk] at HB HST
  rw [show vs.length + 2 = k + 1 by omega] at HA
  generalize maskL (vs.map (·.n)) = mk at *
  obtain ⟨tq, htq⟩ : ∃ tq, tq = quantT (exO (t.kind == 101)) mk (x.tabE m) m := ⟨_, rfl⟩
  rw [← htq] at HO ⊢
  have FACTS : Hid (∀ W', Below w.heap.size w W' → W'.cell? ⟨b0, off, none⟩ = some (.int .u8 (t.kind : Nat))) := Lib.hid (fun W' hW => (hW.cell (p := ⟨b0, off, none⟩) qb).trans q2)
  generalize x.tabE m = ta at *
  have e1 : IntKind.i64.wrap ((k : Int) + 1) = (k : Int) + 1 := IntWalk.i64_in _ ⟨by omega, by omega⟩
  have g1 : k ≤ c := by omega
  have g2 : (k : Int) ≤ (c : Int) := by omega
  have g3 : (k : Int) + 1 ≤ (n : Int) := by omega
  have g4 : k + 1 ≤ n := by omega
  have g5 : ¬ c = k + 1 := by omega
  have g6 : k + 1 ≤ c := by omega
  have g7 : (0 : Int) ≤ (k : Int) + 1 := by omega
  have g8 : ((k : Int) + 1).toNat = k + 1 := by omega
  clear ih h hsp hr q3 q4 hlen hne hsub hvs hu hk h15 htq hml
  generalize t.kind = kd at *
  rcases ht with rfl | rfl
  all_goals
    go_enter Tryz.func18, Tryz.ntmps18
    go_wp2_with fail
    refine HS.out.mono ?_
    rintro e w1 ⟨rfl, rfl⟩
    go_wp2_with fail
    refine (HST.out _ (Below.refl _ _)).mono ?_
    rintro e w1 ⟨rfl, rfl⟩
    go_wp2_with fail
    go_region_with (first
      | ((with_reducible show Calls _ 18 _ _ _); refine (HA.out _ (by with_reducible (first | exact (Below.refl _ _).drew | exact Below.refl _ _))).mono ?_; rintro e wx ⟨B1, d1, rfl, hx1, hbx⟩; have hB1 : Below w.heap.size w wx := (by first | exact ((Below.refl w.heap.size w).drew).trans hbx | exact hbx); have HX1 := Lib.hid hx1; have c1 := FACTS.out wx hB1; clear hx1 hbx)
      | ((with_reducible show Calls _ 34 _ _ _); refine (HB.out _ hB1).mono ?_; rintro e wz ⟨rfl, rfl⟩)
      | ((with_reducible show Calls _ 39 _ _ _); refine (HO.out _ _ _ HX1.out).mono ?_; rintro e wo ⟨B3, d3, rfl, hx3, hbo⟩; have hB3 : Below w.heap.size w wo := hB1.trans (hbo.mono hB1.size); have HX3 := Lib.hid hx3; clear hx3 hbo)
      | fail)
    all_goals
      have HB3 := Lib.hid hB3
      clear hB1 hB3
      go_wp2_with fail
      go_ret
      exact ⟨B3, d3, rfl, HX3.out, HB3.out⟩
theorem set_mid (f : Nat → Bool) (k P : Nat) (h : k < P) : ((List.range k).map f ++ List.replicate (P - k) false).set k (f k) = (List.range (k + 1)).map f ++ List.replicate (P - (k + 1)) false := by
  rw [List.set_append_right _ _ (by simp), List.length_map, List.length_range, Nat.sub_self, show P - k = (P - (k + 1)) + 1 by omega, List.replicate_succ, List.set_cons_zero, List.range_succ, List.map_append, List.append_assoc]
  rfl
set_option maxRecDepth 100000 in
set_option maxHeartbeats 8000000 in
theorem rtab_one {t : Tok} {x : Ex} (hsp : splitT [t] = none) (ht : t.kind = 118 ∨ t.kind = 48 ∨ t.kind = 49) (f : Nat → Bool) (hf : ∀ y, f y = (t.kind == 49 || (t.kind == 118 && y.testBit t.n))) (hx : ∀ m, x.tabE m = (List.range (2 ^ m)).map f) : RTabC [t] x := by
  intro A n c m w h hm
  rw [hx m]
  obtain ⟨b0, off, q0, qb, q2, q3, q4⟩ := h.cells (k := 0) (t := t) rfl
  subst q0
  have hlen := h.len
  have h15 := h.n15 t (by simp)
  simp only [Nat.zero_mul, Nat.add_zero] at q2 q3
  rw [List.length_cons, List.length_nil] at hlen
  obtain rfl : n = 1 := by omega
  have hnc := h.le
  have HS := Lib.hid (rsplit_any _ 1 c _ w h)
  rw [hsp] at HS
  rw [show scanV none = -1 from rfl] at HS
  have FACTS : Hid (∀ W', Below w.heap.size w W' → W'.cell? ⟨b0, off, none⟩ = some (.int .u8 (t.kind : Nat)) ∧ W'.cell? ⟨b0, off + 1, none⟩ = some (.int .i64 (t.n : Nat))) := Lib.hid (fun W' hW => ⟨(hW.cell (p := ⟨b0, off, none⟩) qb).trans q2, (hW.cell (p := ⟨b0, off + 1, none⟩) qb).trans q3⟩)
  have HSZ := Lib.hid (fun W => size_any m hm W)
  obtain ⟨i0, hi, hz0, hz1, hz2⟩ := info_parts info_bool5
  have hp16 : 2 ^ m ≤ 65536 := Nat.pow_le_pow_right (by omega) (show m ≤ 16 from hm)
  obtain ⟨P, hP⟩ : ∃ P, P = 2 ^ m := ⟨_, rfl⟩
  unfold TabOut
  rw [← hP] at HSZ hp16 ⊢
  have HVA := Lib.hid (fun (k : Nat) (hk : k < P) W => rvalue_any k t.n (by omega) (by omega) W)
  clear h hsp q3 q4 hlen hx hP
  generalize t.kind = kd at *
  generalize t.n = vn at *
  have HF := Lib.hid hf
  clear hf
  rcases ht with rfl | rfl | rfl
  · go_enter Tryz.func18, Tryz.ntmps18
    go_wp2_with fail
    refine HS.out.mono ?_
    rintro e w1 ⟨rfl, rfl⟩
    go_wp2_with fail
    refine (HSZ.out _).mono ?_
    rintro e w1 ⟨rfl, rfl⟩
    go_wp2_with (at_make; refine wp_make (f := Value.bool) (z := false) Tryz.underlying43 hi hz0 hz1 hz2 rfl _ rfl _ _ rfl (P : Int) P rfl rfl rfl (by omega) (by unfold maxLen; omega) ?_; intro w2 hown hb2 hlt2)
    have HB2 := Lib.hid hb2
    have HOWN := Lib.hid hown
    clear hb2 hown
    go_loopw [10] (fun i wr => ∃ k : Nat, k ≤ P ∧ i = .int .i64 (k : Nat) ∧ Below w.heap.size w wr ∧ OwnF Value.bool 4 wr w.heap.size (.slice (some ⟨w.heap.size, 0, none⟩) P P) ((List.range k).map f ++ List.replicate (P - k) false)) (fun i _ => P - (intOf i).toNat)
    case atStart => exact ⟨0, Nat.zero_le _, rfl, HB2.out, by simpa using HOWN.out⟩
    case round =>
      obtain ⟨k, hk, rfl, hb, hown⟩ := hrel
      by_cases hlt : k < P
      · obtain ⟨c0, c1⟩ := FACTS.out wr hb
        obtain ⟨d0, d1⟩ := hown.at_ k (by simp; omega)
        rw [List.getElem?_append_right (by simp), List.length_map, List.length_range, Nat.sub_self, List.getElem?_replicate, if_pos (by omega)] at d0
        have HVK := Lib.hid (HVA.out k hlt)
        obtain ⟨y, hy⟩ : ∃ y, y = k.testBit vn := ⟨_, rfl⟩
        have hfk : f k = y := by rw [HF.out, hy]; rfl
        rw [← hy] at HVK
        have hyb : (((y.toNat : Nat) : Int) == 1) = y := by cases y <;> rfl
        clear hy
        have hset := hown.set_ k (f k)
        rw [set_mid f k P hlt, hfk] at hset
        have HSET := Lib.hid hset
        have hbs := hb.setCell (p := ⟨w.heap.size, k, none⟩) (Nat.le_refl _) (.bool y)
        have HBS := Lib.hid hbs
        have hki : (k : Int) < (P : Int) := by omega
        clear hown hset hbs hb hfk
        go_wp2_with fail
        refine (HVK.out _).mono ?_
        rintro e w3 ⟨rfl, rfl⟩
        go_wp2_with fail
        go_roundw
        case rel => exact ⟨k + 1, by omega, by go_num, HBS.out, HSET.out⟩
        case measure => simp [intOf]; omega
      · obtain rfl : k = P := by omega
        have HB := Lib.hid hb
        rw [Nat.sub_self, List.replicate_zero, List.append_nil] at hown
        have HOW := Lib.hid hown
        clear hb hown
        go_wp2_with fail
        go_ret
        exact ⟨_, _, rfl, own_tab HOW.out (by simp) hp16, HB.out⟩
  · go_enter Tryz.func18, Tryz.ntmps18
    go_wp2_with fail
    refine HS.out.mono ?_
    rintro e w1 ⟨rfl, rfl⟩
    go_wp2_with fail
    refine (HSZ.out _).mono ?_
    rintro e w1 ⟨rfl, rfl⟩
    go_wp2_with (at_make; refine wp_make (f := Value.bool) (z := false) Tryz.underlying43 hi hz0 hz1 hz2 rfl _ rfl _ _ rfl (P : Int) P rfl rfl rfl (by omega) (by unfold maxLen; omega) ?_; intro w2 hown hb2 hlt2)
    have HB2 := Lib.hid hb2
    have HOWN := Lib.hid hown
    clear hb2 hown
    go_loopw [10] (fun i wr => ∃ k : Nat, k ≤ P ∧ i = .int .i64 (k : Nat) ∧ Below w.heap.size w wr ∧ OwnF Value.bool 4 wr w.heap.size (.slice (some ⟨w.heap.size, 0, none⟩) P P) ((List.range k).map f ++ List.replicate (P - k) false)) (fun i _ => P - (intOf i).toNat)
    case atStart => exact ⟨0, Nat.zero_le _, rfl, HB2.out, by simpa using HOWN.out⟩
    case round =>
      obtain ⟨k, hk, rfl, hb, hown⟩ := hrel
      by_cases hlt : k < P
      · obtain ⟨c0, c1⟩ := FACTS.out wr hb
        obtain ⟨d0, d1⟩ := hown.at_ k (by simp; omega)
        rw [List.getElem?_append_right (by simp), List.length_map, List.length_range, Nat.sub_self, List.getElem?_replicate, if_pos (by omega)] at d0
        have HVK := Lib.hid (HVA.out k hlt)
        have hfk : f k = false := by rw [HF.out]; rfl
        have hset := hown.set_ k (f k)
        rw [set_mid f k P hlt, hfk] at hset
        have HSET := Lib.hid hset
        have hbs := hb.setCell (p := ⟨w.heap.size, k, none⟩) (Nat.le_refl _) (.bool false)
        have HBS := Lib.hid hbs
        have hki : (k : Int) < (P : Int) := by omega
        clear hown hset hbs hb hfk
        go_wp2_with fail
        go_roundw
        case rel => exact ⟨k + 1, by omega, by go_num, HBS.out, HSET.out⟩
        case measure => simp [intOf]; omega
      · obtain rfl : k = P := by omega
        have HB := Lib.hid hb
        rw [Nat.sub_self, List.replicate_zero, List.append_nil] at hown
        have HOW := Lib.hid hown
        clear hb hown
        go_wp2_with fail
        go_ret
        exact ⟨_, _, rfl, own_tab HOW.out (by simp) hp16, HB.out⟩
  · go_enter Tryz.func18, Tryz.ntmps18
    go_wp2_with fail
    refine HS.out.mono ?_
    rintro e w1 ⟨rfl, rfl⟩
    go_wp2_with fail
    refine (HSZ.out _).mono ?_
    rintro e w1 ⟨rfl, rfl⟩
    go_wp2_with (at_make; refine wp_make (f := Value.bool) (z := false) Tryz.underlying43 hi hz0 hz1 hz2 rfl _ rfl _ _ rfl (P : Int) P rfl rfl rfl (by omega) (by unfold maxLen; omega) ?_; intro w2 hown hb2 hlt2)
    have HB2 := Lib.hid hb2
    have HOWN := Lib.hid hown
    clear hb2 hown
    go_loopw [10] (fun i wr => ∃ k : Nat, k ≤ P ∧ i = .int .i64 (k : Nat) ∧ Below w.heap.size w wr ∧ OwnF Value.bool 4 wr w.heap.size (.slice (some ⟨w.heap.size, 0, none⟩) P P) ((List.range k).map f ++ List.replicate (P - k) false)) (fun i _ => P - (intOf i).toNat)
    case atStart => exact ⟨0, Nat.zero_le _, rfl, HB2.out, by simpa using HOWN.out⟩
    case round =>
      obtain ⟨k, hk, rfl, hb, hown⟩ := hrel
      by_cases hlt : k < P
      · obtain ⟨c0, c1⟩ := FACTS.out wr hb
        obtain ⟨d0, d1⟩ := hown.at_ k (by simp; omega)
        rw [List.getElem?_append_right (by simp), List.length_map, List.length_range, Nat.sub_self, List.getElem?_replicate, if_pos (by omega)] at d0
        have HVK := Lib.hid (HVA.out k hlt)
        have hfk : f k = true := by rw [HF.out]; rfl
        have hset := hown.set_ k (f k)
        rw [set_mid f k P hlt, hfk] at hset
        have HSET := Lib.hid hset
        have hbs := hb.setCell (p := ⟨w.heap.size, k, none⟩) (Nat.le_refl _) (.bool true)
        have HBS := Lib.hid hbs
        have hki : (k : Int) < (P : Int) := by omega
        clear hown hset hbs hb hfk
        go_wp2_with fail
        go_roundw
        case rel => exact ⟨k + 1, by omega, by go_num, HBS.out, HSET.out⟩
        case measure => simp [intOf]; omega
      · obtain rfl : k = P := by omega
        have HB := Lib.hid hb
        rw [Nat.sub_self, List.replicate_zero, List.append_nil] at hown
        have HOW := Lib.hid hown
        clear hb hown
        go_wp2_with fail
        go_ret
        exact ⟨_, _, rfl, own_tab HOW.out (by simp) hp16, HB.out⟩
theorem rtab_all {C : List Tok} {x : Ex} (h : RT C x) : RTabC C x := by
  induction h with
  | op h1 h2 h3 h4 h5 ih1 ih2 => exact rtab_op h1 h2 h3 h4 h5 ih1 ih2
  | not h1 h2 h3 ih => exact rtab_not h1 h2 h3 ih
  | par h1 h2 _ h4 ih => exact rtab_par h1 h2 h4 ih
  | bnd h1 h2 h3 h4 h5 ih => exact rtab_bnd h1 h2 h3 h4 h5 ih
  | @var t h1 h2 => exact rtab_one h1 (.inl h2) (fun y => y.testBit t.n) (fun y => by rw [h2]; rfl) (fun m => rfl)
  | @const t h1 h2 => exact rtab_one h1 (.inr h2) (fun _ => t.kind == 49) (fun y => by rcases h2 with h2 | h2 <;> rw [h2] <;> rfl) (fun m => by
    rcases h2 with h2 | h2
    · rw [h2]
      simp only [Ex.tabE]
      rw [if_neg (by decide)]
      apply List.ext_getElem <;> simp
    · rw [h2]
      simp only [Ex.tabE]
      rw [if_pos (by decide)]
      rfl)
end Go.Proofs.YtbhbhfplpbcfiaaGreatDoor
