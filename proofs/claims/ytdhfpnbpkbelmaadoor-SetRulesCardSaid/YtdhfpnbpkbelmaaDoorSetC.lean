/- Contracts: set.Compose. -/
import Derived.Test.YtdhfpnbpkbelmaaDoorSetWa
import Derived.Deep.DeepCutAuto
namespace Go.Proofs.YtdhfpnbpkbelmaaDoor
open Go.RowKit Go.Sort
set_option linter.unusedSimpArgs false
set_option linter.unusedVariables false

theorem cell_far (w : World) (p q : Addr) {u : Value} (h : q.block ≠ p.block) : (w.setCell p u).cell? q = w.cell? q := World.cell?_of_block (w := w) (Below.heap_setCell w p u q.block h)
/-- a variable by a set: the words -/
def compW (n v : Nat) (ws gs : List Nat) (k : Nat) : Nat := iteW (wat gs k) (withW n v true ws k) (withW n v false ws k)
def compT (t : List Bool) (v : Nat) (g : List Bool) : List Bool := (List.range t.length).map fun x => tat t (putV x v (tat g x).toNat)
theorem compT_length (t : List Bool) (v : Nat) (g : List Bool) : (compT t v g).length = t.length := by simp [compT]
theorem wat_range {f : Nat → Nat} {m k : Nat} (hk : k < m) : wat ((List.range m).map f) k = f k := by
  unfold wat; rw [List.getElem?_map, List.getElem?_range hk]; rfl
theorem comp_words (n v : Nat) (ws gs : List Nat) : ((List.range (wordsN n)).map fun k => iteW (wat gs k) (wat ((List.range (wordsN n)).map (withW n v true ws)) k) (wat ((List.range (wordsN n)).map (withW n v false ws)) k)) = (List.range (wordsN n)).map (compW n v ws gs) := by
  apply List.map_congr_left
  intro k hk
  rw [List.mem_range] at hk
  rw [wat_range hk, wat_range hk]; rfl
theorem comp_lt {n v : Nat} {ws gs : List Nat} (hlt : ∀ u ∈ ws, u < 18446744073709551616) (hg : ∀ u ∈ gs, u < 18446744073709551616) (k : Nat) : compW n v ws gs k < 18446744073709551616 := iteW_lt (wat_lt hg k) (withW_lt hlt k)
theorem comp_ok {n v : Nat} {ws gs : List Nat} (hok : SOk n ws) (hg : SOk n gs) (hv : v < n) : SOk n ((List.range (wordsN n)).map (compW n v ws gs)) := by
  have h1 := with_ok (one := true) hok hv
  have h0 := with_ok (one := false) hok hv
  refine SOk.made hok.n16 (fun k _ => comp_lt hok.lt hg.lt k) (fun j h2 h3 => ?_)
  have hz : ∀ ws, SOk n ws → (wat ws 0).testBit j = false := fun ws hk => by
    have := hk.hi j h2 h3
    unfold bitAt at this
    rwa [show j / 64 = 0 by omega, Nat.mod_eq_of_lt h3] at this
  have hp := wordsN_pos n
  have e1 := hz _ h1
  have e0 := hz _ h0
  rw [wat_range (by omega)] at e1 e0
  unfold compW
  rw [iteW_bit (wat_lt hg.lt 0) h3, hz _ hg, e0]
  rfl
theorem comp_tab {n v : Nat} {ws gs : List Nat} (hok : SOk n ws) (hg : SOk n gs) (hv : v < n) (x : Nat) (hx : x < 2 ^ n) : bitAt ((List.range (wordsN n)).map (compW n v ws gs)) x = (compT (tabS n ws) v (tabS n gs))[x]?.getD false := by
  have h1 := with_bit (one := true) hok hv hx
  have h0 := with_bit (one := false) hok hv hx
  rw [bitAt_range (idx_lt hx)] at h1 h0 ⊢
  unfold compW compT
  rw [iteW_bit (wat_lt hg.lt _) (Nat.mod_lt _ (by omega)), h1, h0, wat_bit, List.getElem?_map, List.getElem?_range (by rw [tabS_length]; exact hx)]
  simp only [Option.map_some, Option.getD_some]
  rw [tat_tab hx]
  cases hb : bitAt gs x
  · rw [tat_tab (putV_lt false hx hv)]; rfl
  · rw [tat_tab (putV_lt true hx hv)]; rfl
theorem pow_comp (n : Nat) : 1 ≤ wordsN n := wordsN_pos n
set_option maxRecDepth 100000 in
set_option maxHeartbeats 8000000 in
theorem sComp_no (m m2 v : Int) (A A2 : Option Addr) (len len2 c c2 : Nat) (ws ws2 : List Nat) (w : World) (h : SetArg w m A len c ws) (h2 : SetArg w m2 A2 len2 c2 ws2) (q : Int) (hno : (pairB m m2 ws ws2 = false ∧ q = 1) ∨ (pairB m m2 ws ws2 = true ∧ askC m ws v = q ∧ q ≠ 0)) :
    Calls Tryd.prog 14 #[setA m A len c, .int .i64 v, setA m2 A2 len2 c2] w (SetErr w q) := by
  have HP := Lib.hid (fun W' (h : SetArg W' m A len c ws) (h2 : SetArg W' m2 A2 len2 c2 ws2) => spair_any m m2 A A2 len len2 c c2 ws ws2 W' h h2)
  have HA := Lib.hid (fun W' (h : SetArg W' m A len c ws) => sasked_any m v A len c ws W' h)
  unfold SetErr setA at *
  generalize pairB m m2 ws ws2 = pb at *
  generalize askC m ws v = a at *
  obtain ⟨W0, hW0⟩ : ∃ W0, W0 = (((w.alloc (.cells #[.int .i64 m, .slice A len c] 24)).alloc (.cells #[.int .i64 m2, .slice A2 len2 c2] 24)).alloc (.cells #[.int .i64 0, .slice none 0 0] 24)) := ⟨_, rfl⟩
  have hb0 : Below w.heap.size w W0 := by rw [hW0]; exact ((((Below.refl _ _).alloc (by simp) (.cells #[.int .i64 m, .slice A len c] 24)).alloc (by simp) (.cells #[.int .i64 m2, .slice A2 len2 c2] 24)).alloc (by simp <;> omega) (.cells #[.int .i64 0, .slice none 0 0] 24))
  have hv0 : SetVar W0 (w.heap.size) m A len c ws := by
    have := SetVar.new h
    rw [hW0]; exact ((this.alloc _).alloc _)
  have hv1 : SetVar W0 (w.heap.size + 1) m2 A2 len2 c2 ws2 := by
    have := SetVar.new (h2.alloc (.cells #[.int .i64 m, .slice A len c] 24))
    simp only [World.size_alloc] at this
    rw [hW0]; exact (this.alloc _)
  have hv2 : Blk W0 (w.heap.size + 2) 24 #[.int .i64 0, .slice none 0 0] := by
    have := Blk.new ((w.alloc (.cells #[.int .i64 m, .slice A len c] 24)).alloc (.cells #[.int .i64 m2, .slice A2 len2 c2] 24)) 24 #[.int .i64 0, .slice none 0 0]
    simp only [World.size_alloc] at this
    rw [hW0]; exact this
  have HWW := Lib.hid hW0
  have HB := Lib.hid hb0
  have Va := Lib.hid hv0
  have Vb := Lib.hid hv1
  have R := Lib.hid hv2
  clear hb0 hv0 hv1 hv2 h h2 
  rcases hno with ⟨rfl, rfl⟩ | ⟨rfl, rfl, hq⟩
  · go_enter Tryd.func14, Tryd.ntmps14
    go_wp2_with fail
    rw [← HWW.out]
    clear hW0
    have kVa0 := Va.out.c0
    have kVa1 := Va.out.c1
    have kVb0 := Vb.out.c0
    have kVb1 := Vb.out.c1
    go_wp2_with fail
    refine (HP.out _ Va.out.arg Vb.out.arg).mono ?_
    rintro e x1 ⟨rfl, hb1⟩
    clear kVa0 kVa1 kVb0 kVb1
    have Va' := Lib.hid (Va.out.on hb1)
    clear Va
    have Va := Va'
    clear Va'
    have Vb' := Lib.hid (Vb.out.on hb1)
    clear Vb
    have Vb := Vb'
    clear Vb'
    have R' := Lib.hid (R.out.onB hb1)
    clear R
    have R := R'
    clear R'
    have HB' := Lib.hid (HB.out.trans (hb1.mono HB.out.size))
    clear HB
    have HB := HB'
    clear HB'
    clear hb1
    have kR0 := R.out.cell 0
    have zR0 := R.out.frozen 0
    have kR1 := R.out.cell 1
    have zR1 := R.out.frozen 1
    go_wp2_with fail
    refine bodyPost_ret (v := .tuple #[.agg #[.int .i64 0, .slice none 0 0], .int .u8 1]) ?_ rfl ⟨rfl, ?_⟩
    · simp [results, Tryd.results14, go_sem, *]
    · first | exact HB.out | exact (HB.out.setCell (by simp only; omega) _).setCell (by simp only; omega) _
  · have hq : (a != 0) = true := by rw [bne_iff_ne]; exact hq
    go_enter Tryd.func14, Tryd.ntmps14
    go_wp2_with fail
    rw [← HWW.out]
    clear hW0
    have kVa0 := Va.out.c0
    have kVa1 := Va.out.c1
    have kVb0 := Vb.out.c0
    have kVb1 := Vb.out.c1
    go_wp2_with fail
    refine (HP.out _ Va.out.arg Vb.out.arg).mono ?_
    rintro e x1 ⟨rfl, hb1⟩
    clear kVa0 kVa1 kVb0 kVb1
    have Va' := Lib.hid (Va.out.on hb1)
    clear Va
    have Va := Va'
    clear Va'
    have Vb' := Lib.hid (Vb.out.on hb1)
    clear Vb
    have Vb := Vb'
    clear Vb'
    have R' := Lib.hid (R.out.onB hb1)
    clear R
    have R := R'
    clear R'
    have HB' := Lib.hid (HB.out.trans (hb1.mono HB.out.size))
    clear HB
    have HB := HB'
    clear HB'
    clear hb1
    have kVa0 := Va.out.c0
    have kVa1 := Va.out.c1
    go_wp2_with fail
    refine (HA.out _ Va.out.arg).mono ?_
    rintro e x2 ⟨rfl, hb2⟩
    clear kVa0 kVa1
    have Va' := Lib.hid (Va.out.on hb2)
    clear Va
    have Va := Va'
    clear Va'
    have Vb' := Lib.hid (Vb.out.on hb2)
    clear Vb
    have Vb := Vb'
    clear Vb'
    have R' := Lib.hid (R.out.onB hb2)
    clear R
    have R := R'
    clear R'
    have HB' := Lib.hid (HB.out.trans (hb2.mono HB.out.size))
    clear HB
    have HB := HB'
    clear HB'
    clear hb2
    have kR0 := R.out.cell 0
    have zR0 := R.out.frozen 0
    have kR1 := R.out.cell 1
    have zR1 := R.out.frozen 1
    go_wp2_with fail
    refine bodyPost_ret (v := .tuple #[.agg #[.int .i64 0, .slice none 0 0], .int .u8 a]) ?_ rfl ⟨rfl, ?_⟩
    · simp [results, Tryd.results14, go_sem, *]
    · first | exact HB.out | exact (HB.out.setCell (by simp only; omega) _).setCell (by simp only; omega) _
set_option maxRecDepth 100000 in
set_option maxHeartbeats 8000000 in
theorem sComp_yes (n v : Nat) (hv : v < n) (A A2 : Option Addr) (len len2 c c2 : Nat) (ws ws2 : List Nat) (w : World) (h : SetArg w n A len c ws) (h2 : SetArg w n A2 len2 c2 ws2) (hok : SOk n ws) (hok2 : SOk n ws2) :
    Calls Tryd.prog 14 #[setA n A len c, .int .i64 (v : Nat), setA n A2 len2 c2] w (SetRes2 w n ((List.range (wordsN n)).map (compW n v ws ws2))) := by
  have hp := fun W' (h : SetArg W' n A len c ws) (h2 : SetArg W' n A2 len2 c2 ws2) => spair_any n n A A2 len len2 c c2 ws ws2 W' h h2
  rw [pair_ok hok hok2] at hp
  have HP := Lib.hid hp
  clear hp
  have hask : askC n ws v = 0 := by unfold askC; rw [(sright_iff hok.lt).2 ⟨by omega, by simpa using hok⟩, if_pos rfl, if_pos ⟨by omega, by omega⟩]
  have HA := Lib.hid (fun W' (h : SetArg W' n A len c ws) => sasked_any n v A len c ws W' h)
  rw [hask] at HA
  have HX1 := Lib.hid (fun W' (h : SetArg W' n A len c ws) => swith_any n v hv true A len c ws W' h hok)
  have HX0 := Lib.hid (fun W' (h : SetArg W' n A len c ws) => swith_any n v hv false A len c ws W' h hok)
  have HI := Lib.hid (fun W' b1 b0 c1 c0 l1 l0 (h2 : SetArg W' n A2 len2 c2 ws2) (h1 : SetArg W' n b1 l1 c1 ((List.range (wordsN n)).map (withW n v true ws))) (h0 : SetArg W' n b0 l0 c0 ((List.range (wordsN n)).map (withW n v false ws))) => site_any n A2 b1 b0 len2 l1 l0 c2 c1 c0 ws2 _ _ W' h2 h1 h0 hok2 (with_ok hok hv) (with_ok hok hv))
  rw [comp_words] at HI
  have HK1 : Hid (∀ W b, OwnF U 86 W 0 (.slice (some ⟨b, 0, none⟩) (wordsN n) (wordsN n)) ((List.range (wordsN n)).map (withW n v true ws)) → SetArg W n (some ⟨b, 0, none⟩) (wordsN n) (wordsN n) ((List.range (wordsN n)).map (withW n v true ws))) := Lib.hid (fun W b h => own_arg h (by simp) (with_ok hok hv).lt hok.n16 (wordsN_le hok.n16))
  have HK0 : Hid (∀ W b, OwnF U 86 W 0 (.slice (some ⟨b, 0, none⟩) (wordsN n) (wordsN n)) ((List.range (wordsN n)).map (withW n v false ws)) → SetArg W n (some ⟨b, 0, none⟩) (wordsN n) (wordsN n) ((List.range (wordsN n)).map (withW n v false ws))) := Lib.hid (fun W b h => own_arg h (by simp) (with_ok hok hv).lt hok.n16 (wordsN_le hok.n16))
  unfold SetRes2 SetRes setV setA at *
  generalize (List.range (wordsN n)).map (withW n v true ws) = s1 at *
  generalize (List.range (wordsN n)).map (withW n v false ws) = s0 at *
  generalize (List.range (wordsN n)).map (compW n v ws ws2) = rs at *
  generalize wordsN n = m at *
  obtain ⟨W0, hW0⟩ : ∃ W0, W0 = (((w.alloc (.cells #[.int .i64 n, .slice A len c] 24)).alloc (.cells #[.int .i64 n, .slice A2 len2 c2] 24)).alloc (.cells #[.int .i64 0, .slice none 0 0] 24)) := ⟨_, rfl⟩
  have hb0 : Below w.heap.size w W0 := by rw [hW0]; exact ((((Below.refl _ _).alloc (by simp) (.cells #[.int .i64 n, .slice A len c] 24)).alloc (by simp) (.cells #[.int .i64 n, .slice A2 len2 c2] 24)).alloc (by simp <;> omega) (.cells #[.int .i64 0, .slice none 0 0] 24))
  have hv0 : SetVar W0 (w.heap.size) n A len c ws := by
    have := SetVar.new h
    rw [hW0]; exact ((this.alloc _).alloc _)
  have hv1 : SetVar W0 (w.heap.size + 1) n A2 len2 c2 ws2 := by
    have := SetVar.new (h2.alloc (.cells #[.int .i64 n, .slice A len c] 24))
    simp only [World.size_alloc] at this
    rw [hW0]; exact (this.alloc _)
  have hv2 : Blk W0 (w.heap.size + 2) 24 #[.int .i64 0, .slice none 0 0] := by
    have := Blk.new ((w.alloc (.cells #[.int .i64 n, .slice A len c] 24)).alloc (.cells #[.int .i64 n, .slice A2 len2 c2] 24)) 24 #[.int .i64 0, .slice none 0 0]
    simp only [World.size_alloc] at this
    rw [hW0]; exact this
  have HWW := Lib.hid hW0
  have HB := Lib.hid hb0
  have Va := Lib.hid hv0
  have Vb := Lib.hid hv1
  have R := Lib.hid hv2
  clear hb0 hv0 hv1 hv2 h h2 hask hok hok2
  go_enter Tryd.func14, Tryd.ntmps14
  go_wp2_with fail
  rw [← HWW.out]
  clear hW0
  have kVa0 := Va.out.c0
  have kVa1 := Va.out.c1
  have kVb0 := Vb.out.c0
  have kVb1 := Vb.out.c1
  go_wp2_with fail
  refine (HP.out _ Va.out.arg Vb.out.arg).mono ?_
  rintro e x1 ⟨rfl, hb1⟩
  clear kVa0 kVa1 kVb0 kVb1
  have Va' := Lib.hid (Va.out.on hb1)
  clear Va
  have Va := Va'
  clear Va'
  have Vb' := Lib.hid (Vb.out.on hb1)
  clear Vb
  have Vb := Vb'
  clear Vb'
  have R' := Lib.hid (R.out.onB hb1)
  clear R
  have R := R'
  clear R'
  have HB' := Lib.hid (HB.out.trans (hb1.mono HB.out.size))
  clear HB
  have HB := HB'
  clear HB'
  clear hb1
  have kVa0 := Va.out.c0
  have kVa1 := Va.out.c1
  go_wp2_with fail
  refine (HA.out _ Va.out.arg).mono ?_
  rintro e x2 ⟨rfl, hb2⟩
  clear kVa0 kVa1
  have Va' := Lib.hid (Va.out.on hb2)
  clear Va
  have Va := Va'
  clear Va'
  have Vb' := Lib.hid (Vb.out.on hb2)
  clear Vb
  have Vb := Vb'
  clear Vb'
  have R' := Lib.hid (R.out.onB hb2)
  clear R
  have R := R'
  clear R'
  have HB' := Lib.hid (HB.out.trans (hb2.mono HB.out.size))
  clear HB
  have HB := HB'
  clear HB'
  clear hb2
  have kVa0 := Va.out.c0
  have kVa1 := Va.out.c1
  have kVb0 := Vb.out.c0
  have kVb1 := Vb.out.c1
  go_wp2_with fail
  have HRL := Lib.hid R.out.lt
  have HXS := Lib.hid HB.out.size
  have FACTS : Hid (∀ W', Below x2.heap.size x2 W' → W'.cell? ⟨w.heap.size, 0, none⟩ = some (.int .i64 n) ∧ W'.cell? ⟨w.heap.size, 1, none⟩ = some (.slice A len c) ∧ W'.cell? ⟨w.heap.size + 1, 0, none⟩ = some (.int .i64 n) ∧ W'.cell? ⟨w.heap.size + 1, 1, none⟩ = some (.slice A2 len2 c2)) := Lib.hid fun W' hW => ⟨(Va.out.on hW).c0, (Va.out.on hW).c1, (Vb.out.on hW).c0, (Vb.out.on hW).c1⟩
  have FACTS2 : Hid (∀ W' u0 u1, Below x2.heap.size x2 W' → ((W'.setCell ⟨w.heap.size + 1 + 1, 0, none⟩ u0).setCell ⟨w.heap.size + 1 + 1, 1, none⟩ u1).cell? ⟨w.heap.size, 0, none⟩ = some (.int .i64 n) ∧ ((W'.setCell ⟨w.heap.size + 1 + 1, 0, none⟩ u0).setCell ⟨w.heap.size + 1 + 1, 1, none⟩ u1).cell? ⟨w.heap.size, 1, none⟩ = some (.slice A len c) ∧ ((W'.setCell ⟨w.heap.size + 1 + 1, 0, none⟩ u0).setCell ⟨w.heap.size + 1 + 1, 1, none⟩ u1).cell? ⟨w.heap.size + 1, 0, none⟩ = some (.int .i64 n) ∧ ((W'.setCell ⟨w.heap.size + 1 + 1, 0, none⟩ u0).setCell ⟨w.heap.size + 1 + 1, 1, none⟩ u1).cell? ⟨w.heap.size + 1, 1, none⟩ = some (.slice A2 len2 c2)) := Lib.hid fun W' u0 u1 hW => by
    have h := FACTS.out W' hW
    refine ⟨(by have := h.1; (rw [cell_far _ _ _ (by simp only; omega), cell_far _ _ _ (by simp only; omega)]; exact this)), (by have := h.2.1; (rw [cell_far _ _ _ (by simp only; omega), cell_far _ _ _ (by simp only; omega)]; exact this)), (by have := h.2.2.1; (rw [cell_far _ _ _ (by simp only; omega), cell_far _ _ _ (by simp only; omega)]; exact this)), (by have := h.2.2.2; (rw [cell_far _ _ _ (by simp only; omega), cell_far _ _ _ (by simp only; omega)]; exact this))⟩
  go_region_held3 (fun w' => w'.cell? ⟨w.heap.size, 0, none⟩ = some (.int .i64 n) ∧ w'.cell? ⟨w.heap.size, 1, none⟩ = some (.slice A len c) ∧ w'.cell? ⟨w.heap.size + 1, 0, none⟩ = some (.int .i64 n) ∧ w'.cell? ⟨w.heap.size + 1, 1, none⟩ = some (.slice A2 len2 c2)) ((first | (refine FACTS.out _ ?_; (with_reducible (first | exact Below.refl _ _ | exact (Below.refl _ _).drew | exact hbK1 | exact hbK1.drew | exact hbK0 | exact hbK0.drew | exact hbK2 | exact hbK2.drew))) | (refine FACTS2.out _ _ _ ?_; (with_reducible (first | exact Below.refl _ _ | exact (Below.refl _ _).drew | exact hbK1 | exact hbK1.drew | exact hbK0 | exact hbK0.drew | exact hbK2 | exact hbK2.drew))))) (first
        | (go_at_call_of 55 (Value.bool true); refine (HX1.out _ (Va.out.arg.on ?_)).mono ?_; (with_reducible (first | exact Below.refl _ _ | exact (Below.refl _ _).drew | exact hbK1 | exact hbK1.drew | exact hbK0 | exact hbK0.drew | exact hbK2 | exact hbK2.drew)); rintro e w1 ⟨b1, rfl, hlo1, hown1, hl1, hb1⟩; have hbK1 : Below x2.heap.size x2 w1 := (by first | exact (Below.refl _ _).drew.trans hb1 | exact (Below.refl _ _).trans hb1 | exact hbK0.trans (hb1.mono hbK0.size) | exact hbK0.drew.trans (hb1.mono hbK0.size) | exact hbK2.trans (hb1.mono hbK2.size) | exact hbK2.drew.trans (hb1.mono hbK2.size)); have T1 := HK1.out _ _ (hown1.mono (Nat.zero_le _)); clear hown1 hl1)
        | (go_at_call_of 55 (Value.bool false); refine (HX0.out _ (Va.out.arg.on ?_)).mono ?_; (with_reducible (first | exact Below.refl _ _ | exact (Below.refl _ _).drew | exact hbK1 | exact hbK1.drew | exact hbK0 | exact hbK0.drew | exact hbK2 | exact hbK2.drew)); rintro e w0 ⟨b0, rfl, hlo0, hown0, hl0, hb0⟩; have hbK0 : Below x2.heap.size x2 w0 := (by first | exact (Below.refl _ _).drew.trans hb0 | exact (Below.refl _ _).trans hb0 | exact hbK1.trans (hb0.mono hbK1.size) | exact hbK1.drew.trans (hb0.mono hbK1.size) | exact hbK2.trans (hb0.mono hbK2.size) | exact hbK2.drew.trans (hb0.mono hbK2.size)); have T0 := HK0.out _ _ (hown0.mono (Nat.zero_le _)); clear hown0 hl0)
        | (go_at_call 57; refine (HI.out _ _ _ _ _ _ _ (Vb.out.arg.on ?_) (by first | exact T1 | exact T1.on hb0 | exact T1.on ((Below.refl _ _).drew.trans hb0)) (by first | exact T0 | exact T0.on hb1 | exact T0.on ((Below.refl _ _).drew.trans hb1))).mono ?_; (with_reducible (first | exact Below.refl _ _ | exact (Below.refl _ _).drew | exact hbK1 | exact hbK1.drew | exact hbK0 | exact hbK0.drew | exact hbK2 | exact hbK2.drew)); rintro e w2 ⟨b2, rfl, hlo2, hown2, hl2, hb2⟩; have hbK2 : Below x2.heap.size x2 w2 := (by first | exact (Below.refl _ _).drew.trans hb2 | exact (Below.refl _ _).trans hb2 | exact hbK1.trans (hb2.mono hbK1.size) | exact hbK1.drew.trans (hb2.mono hbK1.size) | exact hbK0.trans (hb2.mono hbK0.size) | exact hbK0.drew.trans (hb2.mono hbK0.size)); have HO := Lib.hid (hown2.mono (Nat.le_trans HXS.out (by first | exact hbK1.size | exact hbK0.size))); have HL := Lib.hid hl2; have HBK := Lib.hid hbK2; have HS := Lib.hid (show x2.heap.size ≤ b2 from Nat.le_trans (by first | exact hbK1.size | exact hbK0.size) hlo2); have nR := R.out.onB hbK2; have n0 := nR.cell 0; have n1 := nR.cell 1; have z0 := nR.frozen 0; have z1 := nR.frozen 1; clear hown2 hl2 hlo2 nR)
        | fail)
  clear kVa0 kVa1 kVb0 kVb1
  all_goals
    clear hbK0 hbK1 hbK2 T0 T1 hlo0 hlo1 hb0 hb1 hb2
    go_wp2_with fail
    refine bodyPost_ret (v := .tuple #[.agg #[.int .i64 (n : Nat), .slice (some ⟨b2, 0, none⟩) m m], .int .u8 0]) ?_ rfl ⟨b2, rfl, by have := HS.out; have := HXS.out; omega, ?_, HL.out, ?_⟩
    · simp [results, Tryd.results14, go_sem, *]
    · have hb := HS.out; have hs := HXS.out; have hr := HRL.out; exact (HO.out.set_below' (by simp only; omega) _).set_below' (by simp only; omega) _
    · exact ((HB.out.trans (HBK.out.mono HXS.out)).setCell (by simp only; omega) _).setCell (by simp only; omega) _
theorem sComp_ans (n v : Nat) (hv : v < n) (A A2 : Option Addr) (len len2 c c2 : Nat) (ws ws2 : List Nat) (w : World) (h : SetArg w n A len c ws) (h2 : SetArg w n A2 len2 c2 ws2) (hok : SOk n ws) (hok2 : SOk n ws2) :
    Calls Tryd.prog 14 #[setA n A len c, .int .i64 (v : Nat), setA n A2 len2 c2] w (SetAns w n 0 (compT (tabS n ws) v (tabS n ws2))) :=
  (sComp_yes n v hv A A2 len len2 c c2 ws ws2 w h h2 hok hok2).mono fun _ _ hr => hr.ans (comp_ok hok hok2 hv) (by rw [compT_length, tabS_length]) fun x hx => comp_tab hok hok2 hv x hx
end Go.Proofs.YtdhfpnbpkbelmaaDoor
