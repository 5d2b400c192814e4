/- Contracts: set.quantified, Exists, Forall. -/
import Derived.Test.YtdhfpnbpkbelmaaDoorSetC
import Derived.Deep.RegionWith
namespace Go.Proofs.YtdhfpnbpkbelmaaDoor
open Go.RowKit Go.Sort
set_option linter.unusedSimpArgs false
set_option linter.unusedVariables false

theorem u16_bit (q k : Nat) (hq : q < 65536) : bits .and .u16 ((q : Int) / 2 ^ k) 1 = if q.testBit k then 1 else 0 := by
  have h1 : ((q : Int) / 2 ^ k) = ((q / 2 ^ k : Nat) : Int) := by simp
  have h2 : q / 2 ^ k ≤ q := Nat.div_le_self _ _
  rw [h1, show (1 : Int) = ((1 : Nat) : Int) from rfl, u16_and_nat _ _ (by omega) (by omega), Nat.and_one_is_mod, Nat.testBit_eq_decide_div_mod_eq]
  rcases Nat.mod_two_eq_zero_or_one (q / 2 ^ k) with h | h <;> simp [h]
/-- tables, variable by variable -/
def quantT (o vars : Nat) (t : List Bool) : Nat → List Bool
  | 0 => t
  | v + 1 => if vars.testBit v then opT o (withT (quantT o vars t v) v 0) (withT (quantT o vars t v) v 1) else quantT o vars t v
theorem quantT_length (o vars : Nat) (t : List Bool) : ∀ v, (quantT o vars t v).length = t.length
  | 0 => rfl
  | v + 1 => by
    rw [quantT]
    split
    · rw [opT_length, withT_length, quantT_length o vars t v]
    · exact quantT_length o vars t v
/-- a set in new memory, as a result -/
def SetNew (w : World) (n m : Nat) (t : List Bool) (b : Nat) (w' : World) : Prop := w.heap.size ≤ b ∧ b < w'.heap.size ∧ SetArg w' n (some ⟨b, 0, none⟩) m m (packT t) ∧ Below w.heap.size w w'
theorem SetArg.store {w : World} {m : Int} {b o len c : Nat} {ws : List Nat} (h : SetArg w m (some ⟨b, o, none⟩) len c ws) {p : Addr} (hp : p.block ≠ b) (u : Value) (hpl : p.block < w.heap.size) : SetArg (w.setCell p u) m (some ⟨b, o, none⟩) len c ws :=
  ⟨h.hlen, h.hcap, h.hmax, fun hn => by
    obtain ⟨b', off', he, hb, hc⟩ := h.row hn
    have e1 : b = b' := by injection he with he; injection he
    refine ⟨b', off', he, by simpa using hb, fun j hj => ?_⟩
    rw [cell_far _ _ _ (by simp only; omega)]
    exact hc j hj, h.lt, h.wf⟩
theorem SetArg.blk_lt {w : World} {m : Int} {b o len c : Nat} {ws : List Nat} (h : SetArg w m (some ⟨b, o, none⟩) len c ws) (hl : 0 < len) : b < w.heap.size := by
  obtain ⟨b', off', he, hb, _⟩ := h.row (by rw [h.hlen]; exact hl)
  have e1 : b = b' := by injection he with he; injection he
  simpa [e1] using hb
/-- a set in new memory and no error -/
def SetNewT (w : World) (n : Nat) (t : List Bool) (e : Ending) (w' : World) : Prop := ∃ b, e = .returned (.tuple #[.agg #[.int .i64 (n : Nat), .slice (some ⟨b, 0, none⟩) (wordsN n) (wordsN n)], .int .u8 0]) ∧ SetNew w n (wordsN n) t b w'
theorem SetVar.put {w : World} {g : Nat} {a0 a1 : Value} {n : Int} {b l c : Nat} {ws : List Nat} (hblk : Blk w g 24 #[a0, a1]) (h : SetArg w n (some ⟨b, 0, none⟩) l c ws) (hne : g ≠ b) : SetVar ((w.setCell ⟨g, 0, none⟩ (.int .i64 n)).setCell ⟨g, 1, none⟩ (.slice (some ⟨b, 0, none⟩) l c)) g n (some ⟨b, 0, none⟩) l c ws :=
  ⟨(hblk.set_ 0 _).set_ 1 _, (h.store (p := ⟨g, 0, none⟩) hne _ hblk.lt).store (p := ⟨g, 1, none⟩) hne _ (by rw [World.size_setCell]; exact hblk.lt)⟩
theorem new_of_res {w w' : World} {n b : Nat} {ws : List Nat} {t : List Bool} (hn : n ≤ 16) (ht : t.length = 2 ^ n) (hok : SOk n ws) (hb : ∀ x, x < 2 ^ n → bitAt ws x = t[x]?.getD false) (h1 : w.heap.size ≤ b) (hown : OwnF U 86 w' w.heap.size (.slice (some ⟨b, 0, none⟩) (wordsN n) (wordsN n)) ws) (hbel : Below w.heap.size w w') : SetNew w n (wordsN n) t b w' := by
  have he := hok.eq_pack ht hb
  have hl := hok.len
  rw [he] at hown hok hl
  exact ⟨h1, (hown.lt b rfl).2, own_arg hown hl hok.lt hn (wordsN_le hn), hbel⟩
theorem swith_tab (n v : Nat) (hn : n ≤ 16) (hv : v < n) (one : Bool) (A : Option Addr) (len c : Nat) (t : List Bool) (ht : t.length = 2 ^ n) (w : World) (h : SetArg w n A len c (packT t)) :
    Calls Tryd.prog 55 #[.agg #[.int .i64 (n : Nat), .slice A len c], .int .i64 (v : Nat), .bool one] w fun e w' => ∃ b, e = .returned (.agg #[.int .i64 (n : Nat), .slice (some ⟨b, 0, none⟩) (wordsN n) (wordsN n)]) ∧ SetNew w n (wordsN n) (withT t v one.toNat) b w' := by
  have hok := SOk.pack hn ht
  refine (swith_any n v hv one A len c _ w h hok).mono ?_
  rintro e w' ⟨b, rfl, hlo, hown, hl, hb⟩
  exact ⟨b, rfl, new_of_res hn (by rw [withT_length, ht]) (with_ok hok hv) (fun x hx => by rw [with_tab hok hv x hx, tab_pack ht]) hlo hown hb⟩
theorem sOp_tab (o : Nat) (ho : o ≤ 15) (n : Nat) (hn : n ≤ 16) (A A' : Option Addr) (len len' c c' : Nat) (t t' : List Bool) (ht : t.length = 2 ^ n) (ht' : t'.length = 2 ^ n) (w : World) (h : SetArg w n A len c (packT t)) (h' : SetArg w n A' len' c' (packT t')) :
    Calls Tryd.prog 29 #[.int .i64 (o : Nat), .agg #[.int .i64 (n : Nat), .slice A len c], .agg #[.int .i64 (n : Nat), .slice A' len' c']] w fun e w' => ∃ b, e = .returned (.tuple #[.agg #[.int .i64 (n : Nat), .slice (some ⟨b, 0, none⟩) (wordsN n) (wordsN n)], .int .u8 0]) ∧ SetNew w n (wordsN n) (opT o t t') b w' := by
  have hok := SOk.pack hn ht
  have hok' := SOk.pack hn ht'
  refine (sopS_any o ho n A A' len len' c c' _ _ w h h' hok hok').mono ?_
  rintro e w' ⟨b, rfl, hlo, hown, hl, hb⟩
  refine ⟨b, rfl, new_of_res hn (by rw [opT_length, ht]) (and_full_ok hn fun k => opAcc_lt (wat_lt hok.lt k) (wat_lt hok'.lt k) 4) (fun x hx => ?_) hlo hown hb⟩
  rw [and_full_bit hx]
  show (opW o (wat (packT t) (x / 64)) (wat (packT t') (x / 64))).testBit (x % 64) = _
  rw [opW_bit (wat_lt hok.lt _) (wat_lt hok'.lt _) (Nat.mod_lt _ (by omega)), wat_bit, wat_bit, bitAt_pack, bitAt_pack]
  unfold opT
  rw [List.getElem?_map, List.getElem?_range (by rw [ht]; exact hx)]
  rfl
theorem iteW_same (a : Nat) : iteW a a a = a := by
  unfold iteW
  apply Nat.eq_of_testBit_eq
  intro j
  rw [Nat.testBit_or, Nat.testBit_and, Nat.testBit_and]
  cases a.testBit j <;> simp
theorem site_same (n : Nat) (A : Option Addr) (len c : Nat) (t : List Bool) (hn : n ≤ 16) (ht : t.length = 2 ^ n) (w : World) (h : SetArg w n A len c (packT t)) :
    Calls Tryd.prog 57 #[.agg #[.int .i64 (n : Nat), .slice A len c], .agg #[.int .i64 (n : Nat), .slice A len c], .agg #[.int .i64 (n : Nat), .slice A len c]] w fun e w' => ∃ b, e = .returned (.agg #[.int .i64 (n : Nat), .slice (some ⟨b, 0, none⟩) (wordsN n) (wordsN n)]) ∧ SetNew w n (wordsN n) t b w' := by
  have hok := SOk.pack hn ht
  refine (site_any n A A A len len len c c c _ _ _ w h h h hok hok hok).mono ?_
  rintro e w' ⟨b, rfl, hlo, hown, hl, hb⟩
  have he : ((List.range (wordsN n)).map fun k => iteW (wat (packT t) k) (wat (packT t) k) (wat (packT t) k)) = packT t := by
    rw [← range_wat (ws := packT t) (m := wordsN n) hok.len]
    apply List.map_congr_left
    intro k hk
    rw [range_wat hok.len, iteW_same]
  rw [he] at hown
  exact ⟨b, rfl, new_of_res hn ht hok (fun x hx => bitAt_pack t x) hlo hown hb⟩
theorem SetNewT.ans {w w' : World} {n : Nat} {t : List Bool} {e : Ending} (h : SetNewT w n t e w') (hn : n ≤ 16) (ht : t.length = 2 ^ n) : SetAns w n 0 t e w' := by
  obtain ⟨b, rfl, _, _, ha, hb⟩ := h
  exact ⟨n, _, _, _, _, 0, rfl, ha, hb, .inl ⟨rfl, rfl, hn, rfl, ht, rfl⟩⟩
/-- the same result as an answer -/
theorem ans_tab {w w' : World} {n : Nat} {t : List Bool} {A : Option Addr} {l c : Nat} (hn : n ≤ 16) (ht : t.length = 2 ^ n) (h : SetArg w' n A l c (packT t)) (hb : Below w.heap.size w w') : SetAns w n 0 t (.returned (.tuple #[.agg #[.int .i64 (n : Nat), .slice A l c], .int .u8 0])) w' :=
  ⟨n, A, l, c, _, 0, rfl, h, hb, .inl ⟨rfl, rfl, hn, rfl, ht, rfl⟩⟩
set_option maxRecDepth 100000 in
set_option maxHeartbeats 8000000 in
theorem squant_no (m : Int) (vars : Nat) (o : Int) (A : Option Addr) (len c : Nat) (ws : List Nat) (w : World) (h : SetArg w m A len c ws) (hvars : vars < 65536) (q : Int) (hno : (srightB m ws = false ∧ q = 1) ∨ (∃ n : Nat, m = n ∧ n ≤ 16 ∧ srightB m ws = true ∧ q = 3 ∧ 2 ^ n ≤ vars)) :
    Calls Tryd.prog 65 #[setA m A len c, .int .u16 (vars : Nat), .int .i64 o] w (SetErr w q) := by
  have HR := Lib.hid (fun W' (h : SetArg W' m A len c ws) => sright_any m A len c ws W' h)
  unfold SetErr setA at *
  generalize srightB m ws = r at *
  obtain ⟨W0, hW0⟩ : ∃ W0, W0 = ((w.alloc (.cells #[.int .i64 m, .slice A len c] 24)).alloc (.cells #[.int .i64 0, .slice none 0 0] 24)) := ⟨_, rfl⟩
  have hb0 : Below w.heap.size w W0 := by rw [hW0]; exact (((Below.refl _ _).alloc (by simp) (.cells #[.int .i64 m, .slice A len c] 24)).alloc (by simp) (.cells #[.int .i64 0, .slice none 0 0] 24))
  have hv0 : SetVar W0 (w.heap.size) m A len c ws := by
    have := SetVar.new h
    rw [hW0]; exact (this.alloc _)
  have hv1 : Blk W0 (w.heap.size + 1) 24 #[.int .i64 0, .slice none 0 0] := by
    have := Blk.new (w.alloc (.cells #[.int .i64 m, .slice A len c] 24)) 24 #[.int .i64 0, .slice none 0 0]
    simp only [World.size_alloc] at this
    rw [hW0]; exact this
  have HWW := Lib.hid hW0
  have HB := Lib.hid hb0
  have Va := Lib.hid hv0
  have R := Lib.hid hv1
  clear hb0 hv0 hv1 h 
  rcases hno with ⟨rfl, rfl⟩ | ⟨n, rfl, hn, rfl, rfl, hle⟩
  · go_enter Tryd.func65, Tryd.ntmps65
    go_wp2_with fail
    rw [← HWW.out]
    clear hW0
    have kVa0 := Va.out.c0
    have kVa1 := Va.out.c1
    go_wp2_with fail
    refine (HR.out _ Va.out.arg).mono ?_
    rintro e x1 ⟨rfl, hb1⟩
    clear kVa0 kVa1
    have Va' := Lib.hid (Va.out.on hb1)
    clear Va
    have Va := Va'
    clear Va'
    have R' := Lib.hid (R.out.onB hb1)
    clear R
    have R := R'
    clear R'
    have HB' := Lib.hid (HB.out.trans (hb1.mono HB.out.size))
    clear HB
    have HB := HB'
    clear HB'
    clear hb1
    have kR0 := R.out.cell 0
    have zR0 := R.out.frozen 0
    have kR1 := R.out.cell 1
    have zR1 := R.out.frozen 1
    go_wp2_with fail
    refine bodyPost_ret (v := .tuple #[.agg #[.int .i64 0, .slice none 0 0], .int .u8 1]) ?_ rfl ⟨rfl, ?_⟩
    · simp [results, Tryd.results65, go_sem, *]
    · first | exact HB.out | exact (HB.out.setCell (by simp only; omega) _).setCell (by simp only; omega) _
  · have hdiv : (((vars : Int) / 2 ^ n) != 0) = true := by
      have h1 : ((vars : Int) / 2 ^ n) = ((vars / 2 ^ n : Nat) : Int) := by simp
      have h2 : 0 < vars / 2 ^ n := Nat.div_pos hle (Nat.two_pow_pos n)
      rw [h1, bne_iff_ne]; omega
    clear hle
    go_enter Tryd.func65, Tryd.ntmps65
    go_wp2_with fail
    rw [← HWW.out]
    clear hW0
    have kVa0 := Va.out.c0
    have kVa1 := Va.out.c1
    go_wp2_with fail
    refine (HR.out _ Va.out.arg).mono ?_
    rintro e x1 ⟨rfl, hb1⟩
    clear kVa0 kVa1
    have Va' := Lib.hid (Va.out.on hb1)
    clear Va
    have Va := Va'
    clear Va'
    have R' := Lib.hid (R.out.onB hb1)
    clear R
    have R := R'
    clear R'
    have HB' := Lib.hid (HB.out.trans (hb1.mono HB.out.size))
    clear HB
    have HB := HB'
    clear HB'
    clear hb1
    have kR0 := R.out.cell 0
    have zR0 := R.out.frozen 0
    have kR1 := R.out.cell 1
    have zR1 := R.out.frozen 1
    have kVa0 := Va.out.c0
    have kVa1 := Va.out.c1
    go_wp2_with fail
    refine bodyPost_ret (v := .tuple #[.agg #[.int .i64 0, .slice none 0 0], .int .u8 3]) ?_ rfl ⟨rfl, ?_⟩
    · simp [results, Tryd.results65, go_sem, *]
    · first | exact HB.out | exact (HB.out.setCell (by simp only; omega) _).setCell (by simp only; omega) _
set_option maxRecDepth 100000 in
set_option maxHeartbeats 8000000 in
theorem squant_any (n vars o : Nat) (ho : o ≤ 15) (hvars : vars < 2 ^ n) (A : Option Addr) (len c : Nat) (t : List Bool) (w : World) (hn : n ≤ 16) (ht : t.length = 2 ^ n) (h : SetArg w n A len c (packT t)) :
    Calls Tryd.prog 65 #[setA n A len c, .int .u16 (vars : Nat), .int .i64 (o : Nat)] w (SetNewT w n (quantT o vars t n)) := by
  have hok := SOk.pack hn ht
  have hr := fun W' (h : SetArg W' n A len c (packT t)) => sright_any n A len c _ W' h
  rw [(sright_iff hok.lt).2 ⟨by omega, by simpa using hok⟩] at hr
  have HR := Lib.hid hr
  have hv16 : vars < 65536 := Nat.lt_of_lt_of_le hvars (pow16 hn)
  have hdiv : (((vars : Int) / 2 ^ n) != 0) = false := by
    have h1 : ((vars : Int) / 2 ^ n) = ((vars / 2 ^ n : Nat) : Int) := by simp
    rw [h1, Nat.div_eq_of_lt hvars]; rfl
  have HI := Lib.hid (fun W' (h : SetArg W' n A len c (packT t)) => site_same n A len c t hn ht W' h)
  have HQ := Lib.hid (fun k => quantT_length o vars t k)
  have HX0 := Lib.hid (fun W A l c k (hk : k < n) (h : SetArg W n A l c (packT (quantT o vars t k))) => swith_tab n k hn hk false A l c _ (by rw [quantT_length, ht]) W h)
  have HX1 := Lib.hid (fun W A l c k (hk : k < n) (h : SetArg W n A l c (packT (quantT o vars t k))) => swith_tab n k hn hk true A l c _ (by rw [quantT_length, ht]) W h)
  have HOP := Lib.hid (fun W A1 A0 l1 l0 c1 c0 k (h0 : SetArg W n A0 l0 c0 (packT (withT (quantT o vars t k) k 0))) (h1 : SetArg W n A1 l1 c1 (packT (withT (quantT o vars t k) k 1))) => sOp_tab o ho n hn A0 A1 l0 l1 c0 c1 _ _ (by rw [withT_length, quantT_length, ht]) (by rw [withT_length, quantT_length, ht]) W h0 h1)
  have HBT := Lib.hid (fun k => u16_bit vars k hv16)
  have HST1 : Hid (∀ k, vars.testBit k = true → quantT o vars t (k + 1) = opT o (withT (quantT o vars t k) k 0) (withT (quantT o vars t k) k 1)) := Lib.hid (fun k hk => by rw [quantT, if_pos hk])
  have HST0 : Hid (∀ k, vars.testBit k = false → quantT o vars t (k + 1) = quantT o vars t k) := Lib.hid (fun k hk => by rw [quantT, if_neg (by simp [hk])])
  have HL0 : Hid (quantT o vars t 0 = t) := Lib.hid rfl
  have HLN : Hid ((quantT o vars t n).length = 2 ^ n) := Lib.hid (by rw [quantT_length, ht])
  have HN := Lib.hid hn
  unfold SetNewT SetNew setA at *
  have HMP := Lib.hid (wordsN_pos n)
  generalize wordsN n = m at *
  clear hok hr HQ ht hvars
  obtain ⟨W0, hW0⟩ : ∃ W0, W0 = ((w.alloc (.cells #[.int .i64 n, .slice A len c] 24)).alloc (.cells #[.int .i64 0, .slice none 0 0] 24)) := ⟨_, rfl⟩
  have hb0 : Below w.heap.size w W0 := by rw [hW0]; exact (((Below.refl _ _).alloc (by simp) (.cells #[.int .i64 n, .slice A len c] 24)).alloc (by simp) (.cells #[.int .i64 0, .slice none 0 0] 24))
  have hv0 : SetVar W0 (w.heap.size) n A len c (packT t) := by
    have := SetVar.new h
    rw [hW0]; exact (this.alloc _)
  have hv1 : Blk W0 (w.heap.size + 1) 24 #[.int .i64 0, .slice none 0 0] := by
    have := Blk.new (w.alloc (.cells #[.int .i64 n, .slice A len c] 24)) 24 #[.int .i64 0, .slice none 0 0]
    simp only [World.size_alloc] at this
    rw [hW0]; exact this
  have HWW := Lib.hid hW0
  have HB := Lib.hid hb0
  have Va := Lib.hid hv0
  have R := Lib.hid hv1
  clear hb0 hv0 hv1 h 
  go_enter Tryd.func65, Tryd.ntmps65
  go_wp2_with fail
  rw [← HWW.out]
  clear hW0
  have kVa0 := Va.out.c0
  have kVa1 := Va.out.c1
  go_wp2_with fail
  refine (HR.out _ Va.out.arg).mono ?_
  rintro e x1 ⟨rfl, hb1⟩
  clear kVa0 kVa1
  have Va' := Lib.hid (Va.out.on hb1)
  clear Va
  have Va := Va'
  clear Va'
  have R' := Lib.hid (R.out.onB hb1)
  clear R
  have R := R'
  clear R'
  have HB' := Lib.hid (HB.out.trans (hb1.mono HB.out.size))
  clear HB
  have HB := HB'
  clear HB'
  clear hb1
  have kVa0 := Va.out.c0
  have kVa1 := Va.out.c1
  go_wp2_with fail
  refine (HI.out _ Va.out.arg).mono ?_
  rintro e x2 ⟨b, rfl, hlo2, hhi2, ho2, hb2⟩
  clear kVa0 kVa1
  have HSZ := Lib.hid R.out.lt
  have HBB : Hid (w.heap.size + 1 < b ∧ b < x2.heap.size) := Lib.hid ⟨by have := HSZ.out; omega, hhi2⟩
  have Va' := Lib.hid (Va.out.on hb2)
  clear Va
  have Va := Va'
  clear Va'
  have R' := Lib.hid (R.out.onB hb2)
  clear R
  have R := R'
  clear R'
  have HB' := Lib.hid (HB.out.trans (hb2.mono HB.out.size))
  clear HB
  have HB := HB'
  clear HB'
  have HSX := Lib.hid R.out.lt
  obtain ⟨V, hV⟩ : ∃ V, V = x2.alloc (.cells #[.int .i64 n, .slice (some ⟨b, 0, none⟩) m m] 24) := ⟨_, rfl⟩
  have hbV : Below x2.heap.size x2 V := by rw [hV]; exact (Below.refl _ _).alloc (Nat.le_refl _) _
  have hOV : SetVar V x2.heap.size n (some ⟨b, 0, none⟩) m m (packT (quantT o vars t 0)) := by rw [hV]; exact SetVar.new ho2
  have ka0 : x2.cell? ⟨w.heap.size, 0, none⟩ = some (.int .i64 (n : Nat)) := Va.out.c0
  have hlx : w.heap.size < x2.heap.size := by have := HSX.out; omega
  have R' := Lib.hid (R.out.onB hbV)
  clear R
  have R := R'
  clear R'
  have HB' := Lib.hid (HB.out.trans (hbV.mono HB.out.size))
  clear HB
  have HB := HB'
  clear HB'
  have HVV := Lib.hid hV
  have O := Lib.hid hOV
  clear hhi2 hlo2 ho2 hb2 hbV hOV Va hV
  go_wp2_with fail
  rw [← HVV.out]
  clear ka0 hlx hdiv
  go_loopw [29] (fun i wr => ∃ k : Nat, k ≤ n ∧ i = .int .i64 k ∧ Blk wr (w.heap.size + 1) 24 #[.int .i64 0, .slice none 0 0] ∧ (∃ b', (w.heap.size + 1 < b' ∧ b' ≠ x2.heap.size) ∧ SetVar wr x2.heap.size n (some ⟨b', 0, none⟩) m m (packT (quantT o vars t k))) ∧ Below w.heap.size w wr) (fun i _ => n - (intOf i).toNat)
  case atStart => exact ⟨0, Nat.zero_le _, rfl, R.out, ⟨b, ⟨HBB.out.1, by have := HBB.out.2; omega⟩, O.out⟩, HB.out⟩
  case round =>
    obtain ⟨k, hk, rfl, hR, ⟨b', hb', hO⟩, hbw⟩ := hrel
    have R := Lib.hid hR
    have O := Lib.hid hO
    have HB := Lib.hid hbw
    have HBB := Lib.hid hb'
    have HXL := Lib.hid hO.blk.lt
    clear hR hO hbw hb'
    by_cases hlt : k < n
    · have hbt := HBT.out k
      cases hbit : vars.testBit k
      · rw [hbit] at hbt
        simp only [Bool.false_eq_true, if_false, if_true] at hbt
        have HSTK := Lib.hid (HST0.out k hbit)
        clear hbit
        go_wp2_with fail
        go_roundw
        case rel => exact ⟨k + 1, by omega, by go_num, R.out, ⟨b', HBB.out, by rw [HSTK.out]; exact O.out⟩, HB.out⟩
        case measure => simp [intOf]; omega
      · rw [hbit] at hbt
        simp only [Bool.false_eq_true, if_false, if_true] at hbt
        have HSTK := Lib.hid (HST1.out k hbit)
        clear hbit
        have p0 := O.out.c0
        have p1 := O.out.c1
        go_wp2_with fail
        go_region_with (first
          | (go_at_call_of 55 (Value.bool false); refine (HX0.out _ _ _ _ k hlt (O.out.arg.on ?_)).mono ?_; (with_reducible (first | exact Below.refl _ _ | exact (Below.refl _ _).drew | exact hbK0 | exact hbK0.drew | exact hbK1 | exact hbK1.drew)); rintro e w0 ⟨b0, rfl, hlo0, hhi0, T0, hb0⟩; have hbK0 : Below wr.heap.size wr w0 := (by first | exact (Below.refl _ _).drew.trans hb0 | exact (Below.refl _ _).trans hb0); have hO0 := O.out.on hbK0; have q0 := hO0.c0; have q1 := hO0.c1; clear hO0)
          | (go_at_call_of 55 (Value.bool true); refine (HX1.out _ _ _ _ k hlt (O.out.arg.on ?_)).mono ?_; (with_reducible (first | exact Below.refl _ _ | exact (Below.refl _ _).drew | exact hbK0 | exact hbK0.drew | exact hbK1 | exact hbK1.drew)); rintro e w1 ⟨b1, rfl, hlo1, hhi1, T1, hb1⟩; have hbK1 : Below wr.heap.size wr w1 := (by first | exact hbK0.trans (hb1.mono hbK0.size) | exact hbK0.drew.trans (hb1.mono hbK0.size)))
          | (go_at_call 29; refine (HOP.out _ _ _ _ _ _ _ k (by first | exact T0.on hb1 | exact T0.on ((Below.refl _ _).drew.trans hb1)) T1).mono ?_; rintro e w2 ⟨b2, rfl, hlo2, hhi2, T2, hb2⟩; have hbK2 : Below wr.heap.size wr w2 := (by first | exact hbK1.trans (hb2.mono hbK1.size) | exact hbK1.drew.trans (hb2.mono hbK1.size)); have hlo := Nat.le_trans hbK1.size hlo2; have hO2 := O.out.on hbK2; have q0 := hO2.c0; have q1 := hO2.c1; have z0 := hO2.blk.frozen 0; have z1 := hO2.blk.frozen 1; have HO2 := Lib.hid hO2.blk; clear hO2)
          | fail)
        all_goals
          have HT2 := Lib.hid T2
          have HLO := Lib.hid hlo
          have HHI := Lib.hid hhi2
          have R2 := Lib.hid (R.out.onB hbK2)
          have HB2 := Lib.hid (HB.out.trans (hbK2.mono HB.out.size))
          clear hbK0 hbK1 hbK2 T0 T1 T2 hlo hlo0 hlo1 hlo2 hhi0 hhi1 hhi2 hb0 hb1 hb2 z0 z1
          clear p0 p1
          go_wp2_with fail
          go_roundw
          case rel =>
            have h1 := HXL.out; have h2 := HSX.out; have h3 := HLO.out; have h4 := HBB.out
            exact ⟨k + 1, by omega, by go_num, (R2.out.far (p := ⟨x2.heap.size, 0, none⟩) (by simp only; omega) _).far (p := ⟨x2.heap.size, 1, none⟩) (by simp only; omega) _, ⟨b2, ⟨by omega, by omega⟩, by rw [HSTK.out]; exact SetVar.put HO2.out HT2.out (by omega)⟩, (HB2.out.setCell (p := ⟨x2.heap.size, 0, none⟩) (by simp only; omega) _).setCell (p := ⟨x2.heap.size, 1, none⟩) (by simp only; omega) _⟩
          case measure => simp [intOf]; omega
    · obtain rfl : k = n := by omega
      have p0 := O.out.c0
      have p1 := O.out.c1
      have n0 := R.out.cell 0
      have n1 := R.out.cell 1
      have z0 := R.out.frozen 0
      have z1 := R.out.frozen 1
      go_wp2_with fail
      refine bodyPost_ret (v := .tuple #[.agg #[.int .i64 (k : Nat), .slice (some ⟨b', 0, none⟩) m m], .int .u8 0]) ?_ rfl ⟨b', rfl, by have := HBB.out; omega, ?_, ?_, ?_⟩
      · simp [results, Tryd.results65, go_sem, *]
      · have := O.out.arg.blk_lt HMP.out; simp only [World.size_setCell]; omega
      · have h1 := HBB.out; have h2 := R.out.lt; exact (O.out.arg.store (p := ⟨w.heap.size + 1, 0, none⟩) (by simp only; omega) _ h2).store (p := ⟨w.heap.size + 1, 1, none⟩) (by simp only; omega) _ (by rw [World.size_setCell]; exact h2)
      · exact (HB.out.setCell (by simp only; omega) _).setCell (by simp only; omega) _
set_option maxRecDepth 100000 in
set_option maxHeartbeats 8000000 in
theorem sExists_no (m : Int) (vars : Nat) (A : Option Addr) (len c : Nat) (ws : List Nat) (w : World) (h : SetArg w m A len c ws) (hvars : vars < 65536) (q : Int) (hno : (srightB m ws = false ∧ q = 1) ∨ (∃ n : Nat, m = n ∧ n ≤ 16 ∧ srightB m ws = true ∧ q = 3 ∧ 2 ^ n ≤ vars)) :
    Calls Tryd.prog 24 #[setA m A len c, .int .u16 (vars : Nat)] w (SetErr w q) := by
  have HQ := Lib.hid (fun W' (h : SetArg W' m A len c ws) => squant_no m vars 14 A len c ws W' h hvars q hno)
  unfold SetErr setA at *
  obtain ⟨W0, hW0⟩ : ∃ W0, W0 = ((w.alloc (.cells #[.int .i64 m, .slice A len c] 24)).alloc (.cells #[.int .i64 0, .slice none 0 0] 24)) := ⟨_, rfl⟩
  have hb0 : Below w.heap.size w W0 := by rw [hW0]; exact (((Below.refl _ _).alloc (by simp) (.cells #[.int .i64 m, .slice A len c] 24)).alloc (by simp) (.cells #[.int .i64 0, .slice none 0 0] 24))
  have hv0 : SetVar W0 (w.heap.size) m A len c ws := by
    have := SetVar.new h
    rw [hW0]; exact (this.alloc _)
  have hv1 : Blk W0 (w.heap.size + 1) 24 #[.int .i64 0, .slice none 0 0] := by
    have := Blk.new (w.alloc (.cells #[.int .i64 m, .slice A len c] 24)) 24 #[.int .i64 0, .slice none 0 0]
    simp only [World.size_alloc] at this
    rw [hW0]; exact this
  have HWW := Lib.hid hW0
  have HB := Lib.hid hb0
  have Va := Lib.hid hv0
  have R := Lib.hid hv1
  clear hb0 hv0 hv1 h hno
  go_enter Tryd.func24, Tryd.ntmps24
  go_wp2_with fail
  rw [← HWW.out]
  clear hW0
  have kVa0 := Va.out.c0
  have kVa1 := Va.out.c1
  go_wp2_with fail
  refine (HQ.out _ Va.out.arg).mono ?_
  rintro e x1 ⟨rfl, hb1⟩
  clear kVa0 kVa1
  have Va' := Lib.hid (Va.out.on hb1)
  clear Va
  have Va := Va'
  clear Va'
  have R' := Lib.hid (R.out.onB hb1)
  clear R
  have R := R'
  clear R'
  have HB' := Lib.hid (HB.out.trans (hb1.mono HB.out.size))
  clear HB
  have HB := HB'
  clear HB'
  clear hb1
  have kR0 := R.out.cell 0
  have zR0 := R.out.frozen 0
  have kR1 := R.out.cell 1
  have zR1 := R.out.frozen 1
  go_wp2_with fail
  refine bodyPost_ret (v := .tuple #[.agg #[.int .i64 0, .slice none 0 0], .int .u8 q]) ?_ rfl ⟨rfl, ?_⟩
  · simp [results, Tryd.results24, go_sem, *]
  · first | exact HB.out | exact (HB.out.setCell (by simp only; omega) _).setCell (by simp only; omega) _
set_option maxRecDepth 100000 in
set_option maxHeartbeats 8000000 in
theorem sExists_any (n vars : Nat) (hvars : vars < 2 ^ n) (A : Option Addr) (len c : Nat) (t : List Bool) (w : World) (hn : n ≤ 16) (ht : t.length = 2 ^ n) (h : SetArg w n A len c (packT t)) :
    Calls Tryd.prog 24 #[setA n A len c, .int .u16 (vars : Nat)] w (SetNewT w n (quantT 14 vars t n)) := by
  have HQ := Lib.hid (fun W' (h : SetArg W' n A len c (packT t)) => squant_any n vars 14 (by omega) hvars A len c t W' hn ht h)
  unfold SetNewT SetNew setA at *
  have HMP := Lib.hid (wordsN_pos n)
  generalize wordsN n = m at *
  obtain ⟨W0, hW0⟩ : ∃ W0, W0 = ((w.alloc (.cells #[.int .i64 n, .slice A len c] 24)).alloc (.cells #[.int .i64 0, .slice none 0 0] 24)) := ⟨_, rfl⟩
  have hb0 : Below w.heap.size w W0 := by rw [hW0]; exact (((Below.refl _ _).alloc (by simp) (.cells #[.int .i64 n, .slice A len c] 24)).alloc (by simp) (.cells #[.int .i64 0, .slice none 0 0] 24))
  have hv0 : SetVar W0 (w.heap.size) n A len c (packT t) := by
    have := SetVar.new h
    rw [hW0]; exact (this.alloc _)
  have hv1 : Blk W0 (w.heap.size + 1) 24 #[.int .i64 0, .slice none 0 0] := by
    have := Blk.new (w.alloc (.cells #[.int .i64 n, .slice A len c] 24)) 24 #[.int .i64 0, .slice none 0 0]
    simp only [World.size_alloc] at this
    rw [hW0]; exact this
  have HWW := Lib.hid hW0
  have HB := Lib.hid hb0
  have Va := Lib.hid hv0
  have R := Lib.hid hv1
  clear hb0 hv0 hv1 h 
  go_enter Tryd.func24, Tryd.ntmps24
  go_wp2_with fail
  rw [← HWW.out]
  clear hW0
  have kVa0 := Va.out.c0
  have kVa1 := Va.out.c1
  go_wp2_with fail
  refine (HQ.out _ Va.out.arg).mono ?_
  rintro e x2 ⟨b, rfl, hlo2, hhi2, ho2, hb2⟩
  clear kVa0 kVa1
  have HSZ := Lib.hid R.out.lt
  have HBB : Hid (w.heap.size + 1 < b ∧ b < x2.heap.size) := Lib.hid ⟨by have := HSZ.out; omega, hhi2⟩
  have Va' := Lib.hid (Va.out.on hb2)
  clear Va
  have Va := Va'
  clear Va'
  have R' := Lib.hid (R.out.onB hb2)
  clear R
  have R := R'
  clear R'
  have HB' := Lib.hid (HB.out.trans (hb2.mono HB.out.size))
  clear HB
  have HB := HB'
  clear HB'
  have HA := Lib.hid ho2
  clear ho2 hb2 hlo2 hhi2
  have kR0 := R.out.cell 0
  have zR0 := R.out.frozen 0
  have kR1 := R.out.cell 1
  have zR1 := R.out.frozen 1
  go_wp2_with fail
  refine bodyPost_ret (v := .tuple #[.agg #[.int .i64 (n : Nat), .slice (some ⟨b, 0, none⟩) m m], .int .u8 0]) ?_ rfl ⟨b, rfl, by have := HBB.out; omega, ?_, ?_, ?_⟩
  · simp [results, Tryd.results24, go_sem, *]
  · have := HBB.out; simp only [World.size_setCell]; omega
  · have h1 := HBB.out; have h2 := R.out.lt; exact (HA.out.store (p := ⟨w.heap.size + 1, 0, none⟩) (by simp only; omega) _ h2).store (p := ⟨w.heap.size + 1, 1, none⟩) (by simp only; omega) _ (by rw [World.size_setCell]; exact h2)
  · exact (HB.out.setCell (by simp only; omega) _).setCell (by simp only; omega) _
set_option maxRecDepth 100000 in
set_option maxHeartbeats 8000000 in
theorem sForall_no (m : Int) (vars : Nat) (A : Option Addr) (len c : Nat) (ws : List Nat) (w : World) (h : SetArg w m A len c ws) (hvars : vars < 65536) (q : Int) (hno : (srightB m ws = false ∧ q = 1) ∨ (∃ n : Nat, m = n ∧ n ≤ 16 ∧ srightB m ws = true ∧ q = 3 ∧ 2 ^ n ≤ vars)) :
    Calls Tryd.prog 25 #[setA m A len c, .int .u16 (vars : Nat)] w (SetErr w q) := by
  have HQ := Lib.hid (fun W' (h : SetArg W' m A len c ws) => squant_no m vars 8 A len c ws W' h hvars q hno)
  unfold SetErr setA at *
  obtain ⟨W0, hW0⟩ : ∃ W0, W0 = ((w.alloc (.cells #[.int .i64 m, .slice A len c] 24)).alloc (.cells #[.int .i64 0, .slice none 0 0] 24)) := ⟨_, rfl⟩
  have hb0 : Below w.heap.size w W0 := by rw [hW0]; exact (((Below.refl _ _).alloc (by simp) (.cells #[.int .i64 m, .slice A len c] 24)).alloc (by simp) (.cells #[.int .i64 0, .slice none 0 0] 24))
  have hv0 : SetVar W0 (w.heap.size) m A len c ws := by
    have := SetVar.new h
    rw [hW0]; exact (this.alloc _)
  have hv1 : Blk W0 (w.heap.size + 1) 24 #[.int .i64 0, .slice none 0 0] := by
    have := Blk.new (w.alloc (.cells #[.int .i64 m, .slice A len c] 24)) 24 #[.int .i64 0, .slice none 0 0]
    simp only [World.size_alloc] at this
    rw [hW0]; exact this
  have HWW := Lib.hid hW0
  have HB := Lib.hid hb0
  have Va := Lib.hid hv0
  have R := Lib.hid hv1
  clear hb0 hv0 hv1 h hno
  go_enter Tryd.func25, Tryd.ntmps25
  go_wp2_with fail
  rw [← HWW.out]
  clear hW0
  have kVa0 := Va.out.c0
  have kVa1 := Va.out.c1
  go_wp2_with fail
  refine (HQ.out _ Va.out.arg).mono ?_
  rintro e x1 ⟨rfl, hb1⟩
  clear kVa0 kVa1
  have Va' := Lib.hid (Va.out.on hb1)
  clear Va
  have Va := Va'
  clear Va'
  have R' := Lib.hid (R.out.onB hb1)
  clear R
  have R := R'
  clear R'
  have HB' := Lib.hid (HB.out.trans (hb1.mono HB.out.size))
  clear HB
  have HB := HB'
  clear HB'
  clear hb1
  have kR0 := R.out.cell 0
  have zR0 := R.out.frozen 0
  have kR1 := R.out.cell 1
  have zR1 := R.out.frozen 1
  go_wp2_with fail
  refine bodyPost_ret (v := .tuple #[.agg #[.int .i64 0, .slice none 0 0], .int .u8 q]) ?_ rfl ⟨rfl, ?_⟩
  · simp [results, Tryd.results25, go_sem, *]
  · first | exact HB.out | exact (HB.out.setCell (by simp only; omega) _).setCell (by simp only; omega) _
set_option maxRecDepth 100000 in
set_option maxHeartbeats 8000000 in
theorem sForall_any (n vars : Nat) (hvars : vars < 2 ^ n) (A : Option Addr) (len c : Nat) (t : List Bool) (w : World) (hn : n ≤ 16) (ht : t.length = 2 ^ n) (h : SetArg w n A len c (packT t)) :
    Calls Tryd.prog 25 #[setA n A len c, .int .u16 (vars : Nat)] w (SetNewT w n (quantT 8 vars t n)) := by
  have HQ := Lib.hid (fun W' (h : SetArg W' n A len c (packT t)) => squant_any n vars 8 (by omega) hvars A len c t W' hn ht h)
  unfold SetNewT SetNew setA at *
  have HMP := Lib.hid (wordsN_pos n)
  generalize wordsN n = m at *
  obtain ⟨W0, hW0⟩ : ∃ W0, W0 = ((w.alloc (.cells #[.int .i64 n, .slice A len c] 24)).alloc (.cells #[.int .i64 0, .slice none 0 0] 24)) := ⟨_, rfl⟩
  have hb0 : Below w.heap.size w W0 := by rw [hW0]; exact (((Below.refl _ _).alloc (by simp) (.cells #[.int .i64 n, .slice A len c] 24)).alloc (by simp) (.cells #[.int .i64 0, .slice none 0 0] 24))
  have hv0 : SetVar W0 (w.heap.size) n A len c (packT t) := by
    have := SetVar.new h
    rw [hW0]; exact (this.alloc _)
  have hv1 : Blk W0 (w.heap.size + 1) 24 #[.int .i64 0, .slice none 0 0] := by
    have := Blk.new (w.alloc (.cells #[.int .i64 n, .slice A len c] 24)) 24 #[.int .i64 0, .slice none 0 0]
    simp only [World.size_alloc] at this
    rw [hW0]; exact this
  have HWW := Lib.hid hW0
  have HB := Lib.hid hb0
  have Va := Lib.hid hv0
  have R := Lib.hid hv1
  clear hb0 hv0 hv1 h 
  go_enter Tryd.func25, Tryd.ntmps25
  go_wp2_with fail
  rw [← HWW.out]
  clear hW0
  have kVa0 := Va.out.c0
  have kVa1 := Va.out.c1
  go_wp2_with fail
  refine (HQ.out _ Va.out.arg).mono ?_
  rintro e x2 ⟨b, rfl, hlo2, hhi2, ho2, hb2⟩
  clear kVa0 kVa1
  have HSZ := Lib.hid R.out.lt
  have HBB : Hid (w.heap.size + 1 < b ∧ b < x2.heap.size) := Lib.hid ⟨by have := HSZ.out; omega, hhi2⟩
  have Va' := Lib.hid (Va.out.on hb2)
  clear Va
  have Va := Va'
  clear Va'
  have R' := Lib.hid (R.out.onB hb2)
  clear R
  have R := R'
  clear R'
  have HB' := Lib.hid (HB.out.trans (hb2.mono HB.out.size))
  clear HB
  have HB := HB'
  clear HB'
  have HA := Lib.hid ho2
  clear ho2 hb2 hlo2 hhi2
  have kR0 := R.out.cell 0
  have zR0 := R.out.frozen 0
  have kR1 := R.out.cell 1
  have zR1 := R.out.frozen 1
  go_wp2_with fail
  refine bodyPost_ret (v := .tuple #[.agg #[.int .i64 (n : Nat), .slice (some ⟨b, 0, none⟩) m m], .int .u8 0]) ?_ rfl ⟨b, rfl, by have := HBB.out; omega, ?_, ?_, ?_⟩
  · simp [results, Tryd.results25, go_sem, *]
  · have := HBB.out; simp only [World.size_setCell]; omega
  · have h1 := HBB.out; have h2 := R.out.lt; exact (HA.out.store (p := ⟨w.heap.size + 1, 0, none⟩) (by simp only; omega) _ h2).store (p := ⟨w.heap.size + 1, 1, none⟩) (by simp only; omega) _ (by rw [World.size_setCell]; exact h2)
  · exact (HB.out.setCell (by simp only; omega) _).setCell (by simp only; omega) _
end Go.Proofs.YtdhfpnbpkbelmaaDoor
