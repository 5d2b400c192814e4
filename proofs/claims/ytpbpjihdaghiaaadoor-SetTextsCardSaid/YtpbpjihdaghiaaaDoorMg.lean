/- Contracts: set.Single; the examples. Answers: a set and an error, as the statements look at them. Contracts: set.pair, op (of words). Contract: set.Op. Contracts: set.Op of others, ite, Ite. Contract: set.ite. Contract: set.Ite. Answers: set.Op, Ite; tables. Plain: a variable as 1 or 0, word by word. -/
import Derived.Test.YtpbpjihdaghiaaaDoorSetX
import Derived.Test.YtpbpjihdaghiaaaDoorMf
section
namespace Go.Proofs.YtpbpjihdaghiaaaDoor
open Go.RowKit Go.Sort
set_option linter.unusedSimpArgs false
set_option linter.unusedVariables false

set_option maxRecDepth 100000 in
set_option maxHeartbeats 2000000 in
theorem ssingle2_any (n v : Nat) (hn : n ≤ 16) (hv : v < n) (w : World) : Calls Tryd.prog 39 #[.int .i64 (n : Nat), .int .i64 (v : Nat)] w (SetRes2 w n ((List.range (wordsN n)).map (singW n v))) := by
  have HBL := Lib.hid (fun W => ssingle_any n v hn hv W)
  have hma := fun W => smay_any (n : Int) W
  rw [show smayB (n : Int) = true from decide_eq_true (by omega)] at hma
  have HMA := Lib.hid hma
  unfold SetRes2 SetRes setV at *
  generalize (List.range (wordsN n)).map (singW n v) = ws at *
  generalize wordsN n = m at *
  clear hma
  have HBK := Lib.hid (Blk.new w 24 #[.int .i64 0, .slice none 0 0])
  have HB0 := Lib.hid ((Below.refl w.heap.size w).alloc (Nat.le_refl _) (.cells #[.int .i64 0, .slice none 0 0] 24))
  go_enter Tryd.func39, Tryd.ntmps39
  go_wp2_with fail
  refine (HMA.out _).mono ?_
  rintro e w' ⟨rfl, rfl⟩
  go_wp2_with fail
  refine (HBL.out _).mono ?_
  rintro e w1 ⟨b, rfl, hb, hown, hl, hb1⟩
  have hK := HBK.out.onB hb1
  have n0 : w1.cell? ⟨w.heap.size, 0, none⟩ = some (.int .i64 0) := hK.cell 0
  have n1 : w1.cell? ⟨w.heap.size, 1, none⟩ = some (.slice none 0 0) := hK.cell 1
  have z0 := hK.frozen 0
  have z1 := hK.frozen 1
  rw [World.size_alloc] at hb
  have HO := Lib.hid hown
  have HB1 := Lib.hid (HB0.out.trans (hb1.mono HB0.out.size))
  have HB := Lib.hid hb
  have HL := Lib.hid hl
  clear hK hown hb1 hb hl
  go_wp2_with fail
  refine bodyPost_ret (v := .tuple #[.agg #[.int .i64 (n : Nat), .slice (some ⟨b, 0, none⟩) m m], .int .u8 0]) ?_ rfl ⟨b, rfl, by have := HB.out; omega, ?_, HL.out, ?_⟩
  · simp [results, Tryd.results39, go_sem, *]
  · have hb := HB.out
    exact ((HO.out.mono (by rw [World.size_alloc]; omega)).set_below' (by simp only; omega) _).set_below' (by simp only; omega) _
  · exact (HB1.out.setCell (Nat.le_refl _) _).setCell (Nat.le_refl _) _
set_option maxRecDepth 100000 in
set_option maxHeartbeats 2000000 in
theorem ssingle2_no (n v : Int) (hn : ¬ (0 ≤ n ∧ n ≤ 16 ∧ 0 ≤ v ∧ v < n)) (w : World) : Calls Tryd.prog 39 #[.int .i64 n, .int .i64 v] w (SetErr w 3) := by
  have HMA := Lib.hid (fun W => smay_any n W)
  unfold SetErr
  by_cases h1 : smayB n = true
  · rw [h1] at HMA
    have h1' : 0 ≤ n ∧ n ≤ 16 := by simpa [smayB] using h1
    by_cases h2 : v < 0
    · clear h1 h1' hn
      go_enter Tryd.func39, Tryd.ntmps39
      go_wp2_with fail
      refine (HMA.out _).mono ?_
      rintro e w' ⟨rfl, rfl⟩
      go_wp2_with fail
      refine bodyPost_ret (v := .tuple #[.agg #[.int .i64 0, .slice none 0 0], .int .u8 3]) ?_ rfl ⟨rfl, ?_⟩
      · simp [results, Tryd.results39, go_sem, *]
      · first | exact (Below.refl _ _).alloc (Nat.le_refl _) _ | exact (((Below.refl _ _).alloc (Nat.le_refl _) _).setCell (Nat.le_refl _) _).setCell (Nat.le_refl _) _
    · have h3 : ¬ v < n := by omega
      have hge : n ≤ v := by omega
      clear h1 h1' hn
      go_enter Tryd.func39, Tryd.ntmps39
      go_wp2_with fail
      refine (HMA.out _).mono ?_
      rintro e w' ⟨rfl, rfl⟩
      go_wp2_with fail
      refine bodyPost_ret (v := .tuple #[.agg #[.int .i64 0, .slice none 0 0], .int .u8 3]) ?_ rfl ⟨rfl, ?_⟩
      · simp [results, Tryd.results39, go_sem, *]
      · first | exact (Below.refl _ _).alloc (Nat.le_refl _) _ | exact (((Below.refl _ _).alloc (Nat.le_refl _) _).setCell (Nat.le_refl _) _).setCell (Nat.le_refl _) _
  · have h1' : smayB n = false := by simpa using h1
    rw [h1'] at HMA
    clear h1 h1' hn
    go_enter Tryd.func39, Tryd.ntmps39
    go_wp2_with fail
    refine (HMA.out _).mono ?_
    rintro e w' ⟨rfl, rfl⟩
    go_wp2_with fail
    refine bodyPost_ret (v := .tuple #[.agg #[.int .i64 0, .slice none 0 0], .int .u8 3]) ?_ rfl ⟨rfl, ?_⟩
    · simp [results, Tryd.results39, go_sem, *]
    · first | exact (Below.refl _ _).alloc (Nat.le_refl _) _ | exact (((Below.refl _ _).alloc (Nat.le_refl _) _).setCell (Nat.le_refl _) _).setCell (Nat.le_refl _) _
theorem fill_ok {n u : Nat} (hn : n ≤ 16) (hu : u = 0 ∨ u = fullN n) : SOk n (List.replicate (wordsN n) u) := by
  refine ⟨hn, by simp, fun v hv => ?_, fun x h1 h2 => ?_⟩
  · rw [List.mem_replicate] at hv
    rw [hv.2]
    rcases hu with rfl | rfl
    · omega
    · exact fullN_lt n
  · unfold bitAt
    rw [List.getElem?_replicate]
    split
    · rw [Option.getD_some, Nat.mod_eq_of_lt h2]
      rcases hu with rfl | rfl
      · exact Nat.zero_testBit _
      · rw [fullN_bit n x h2, decide_eq_false (by omega)]
    · exact Nat.zero_testBit _
theorem none_bit (n x : Nat) : bitAt (List.replicate (wordsN n) 0) x = false := by
  unfold bitAt
  rw [List.getElem?_replicate]
  split <;> exact Nat.zero_testBit _
theorem all_bit {n x : Nat} (hx : x < 2 ^ n) : bitAt (List.replicate (wordsN n) (fullN n)) x = true := by
  unfold bitAt
  rw [List.getElem?_replicate, if_pos (idx_lt hx), Option.getD_some, fullN_bit n _ (Nat.mod_lt _ (by omega)), decide_eq_true (by have := Nat.mod_le x 64; omega)]
theorem text_all2 : textS 2 (List.replicate (wordsN 2) (fullN 2)) = [50, 58, 102] := by decide +kernel
theorem text_single : textS 3 ((List.range (wordsN 3)).map (singW 3 0)) = [51, 58, 97, 97] := by decide +kernel
theorem below_new {B : Nat} {w w1 : World} (h : Below B w w1) (hB : B ≤ w.heap.size) (o : Obj) : Below B w (w1.alloc o) := h.alloc (Nat.le_trans hB h.size) o
/-- a set behind a new cell -/
theorem SetArg.alloc {w : World} {m : Int} {A : Option Addr} {len c : Nat} {ws : List Nat} (h : SetArg w m A len c ws) (o : Obj) : SetArg (w.alloc o) m A len c ws := h.on ((Below.refl _ _).alloc (Nat.le_refl _) o)
set_option maxRecDepth 100000 in
set_option maxHeartbeats 4000000 in
theorem alive5_any (w : World) : Calls Tryd.prog 8 #[] w fun e w' => e = .returned (.bool true) ∧ Below w.heap.size w w' := by
  have HAL := Lib.hid (fun W => sall_any 2 (by decide) W)
  have HSI := Lib.hid (fun W => ssingle2_any 3 0 (by decide) (by decide) W)
  have htA := fill_ok (n := 2) (by decide) (.inr rfl)
  have htS := sing_ok (n := 3) (v := 0) (by decide) (by decide)
  have hx1 := fun b W (ho : SetArg W 2 (some ⟨b, 0, none⟩) (wordsN 2) (wordsN 2) (List.replicate (wordsN 2) (fullN 2))) => stext_any 2 (some ⟨b, 0, none⟩) (wordsN 2) (wordsN 2) (List.replicate (wordsN 2) (fullN 2)) W ho htA
  have hx2 := fun b W (ho : SetArg W 3 (some ⟨b, 0, none⟩) (wordsN 3) (wordsN 3) ((List.range (wordsN 3)).map (singW 3 0))) => stext_any 3 (some ⟨b, 0, none⟩) (wordsN 3) (wordsN 3) ((List.range (wordsN 3)).map (singW 3 0)) W ho htS
  rw [text_all2] at hx1
  rw [text_single] at hx2
  have HTX := Lib.hid hx1
  have HTX2 := Lib.hid hx2
  have HOA := Lib.hid (fun W W0 b (ho : OwnF U 71 W W0 (.slice (some ⟨b, 0, none⟩) (wordsN 2) (wordsN 2)) (List.replicate (wordsN 2) (fullN 2))) => own_arg (n := 2) ho htA.len htA.lt (by decide) (by decide))
  have HOA2 := Lib.hid (fun W W0 b (ho : OwnF U 71 W W0 (.slice (some ⟨b, 0, none⟩) (wordsN 3) (wordsN 3)) ((List.range (wordsN 3)).map (singW 3 0))) => own_arg (n := 3) ho htS.len htS.lt (by decide) (by decide))
  unfold SetRes2 setV setA txt at *
  rw [show wordsN 2 = 1 by decide] at *
  rw [show wordsN 3 = 1 by decide] at *
  generalize List.replicate 1 (fullN 2) = ws2 at *
  generalize (List.range 1).map (singW 3 0) = ws3 at *
  clear htA htS hx1 hx2
  go_enter Tryd.func8, Tryd.ntmps8
  go_wp2_with fail
  refine (HAL.out _).mono ?_
  rintro e w1 ⟨b, rfl, hb, hown, hl, hb1⟩
  have HO := Lib.hid (HOA.out _ _ b hown)
  have HB1 := Lib.hid hb1
  clear hown hb1 hb hl
  go_wp2_with fail
  refine (HSI.out _).mono ?_
  rintro e w2 ⟨b2, rfl, hb2, hown2, hl2, hbb2⟩
  have HO2 := Lib.hid (HOA2.out _ _ b2 hown2)
  have HO1 := Lib.hid ((HO.out.alloc _).on hbb2)
  have HK1 := Lib.hid ((Blk.new w1 24 #[.int .i64 2, .slice (some ⟨b, 0, none⟩) 1 1]).onB hbb2)
  have HB2 := Lib.hid ((below_new HB1.out (Nat.le_refl _) _).trans (hbb2.mono (below_new HB1.out (Nat.le_refl _) _).size))
  clear hown2 hb2 hl2 hbb2
  have k10 : w2.cell? ⟨w1.heap.size, 0, none⟩ = some (.int .i64 2) := HK1.out.cell 0
  have k11 : w2.cell? ⟨w1.heap.size, 1, none⟩ = some (.slice (some ⟨b, 0, none⟩) 1 1) := HK1.out.cell 1
  have hK1l := HK1.out.lt
  go_wp2_with fail
  refine (HTX.out _ _ (HO1.out.alloc _)).mono ?_
  rintro e w3 ⟨rfl, hb3⟩
  have HO3 := Lib.hid ((HO2.out.alloc _).on hb3)
  have HK3 := Lib.hid ((Blk.new w2 24 #[.int .i64 3, .slice (some ⟨b2, 0, none⟩) 1 1]).onB hb3)
  have HB3 := Lib.hid ((below_new HB2.out (Nat.le_refl _) _).trans (hb3.mono (below_new HB2.out (Nat.le_refl _) _).size))
  clear k10 k11 hK1l hb3
  have k10 : w3.cell? ⟨w2.heap.size, 0, none⟩ = some (.int .i64 3) := HK3.out.cell 0
  have k11 : w3.cell? ⟨w2.heap.size, 1, none⟩ = some (.slice (some ⟨b2, 0, none⟩) 1 1) := HK3.out.cell 1
  go_wp2_with fail
  refine (HTX2.out _ _ HO3.out).mono ?_
  rintro e w4 ⟨rfl, hb4⟩
  have HB4 := Lib.hid (HB3.out.trans (hb4.mono HB3.out.size))
  clear k10 k11 hb4
  go_wp2_with fail
  go_ret
  exact ⟨rfl, HB4.out⟩
end Go.Proofs.YtpbpjihdaghiaaaDoor
end

section
namespace Go.Proofs.YtpbpjihdaghiaaaDoor
open Go.RowKit Go.Sort
set_option linter.unusedSimpArgs false
set_option linter.unusedVariables false

/-- a set in a cell -/
structure SetVar (w : World) (g : Nat) (m : Int) (A : Option Addr) (len c : Nat) (ws : List Nat) : Prop where
  blk : Blk w g 24 #[.int .i64 m, .slice A len c]
  arg : SetArg w m A len c ws
section
variable {w w' : World} {g : Nat} {m : Int} {A : Option Addr} {len c : Nat} {ws : List Nat}
theorem SetVar.on (h : SetVar w g m A len c ws) (hb : Below w.heap.size w w') : SetVar w' g m A len c ws := ⟨h.blk.onB hb, h.arg.on hb⟩
theorem SetVar.alloc (h : SetVar w g m A len c ws) (o : Obj) : SetVar (w.alloc o) g m A len c ws := ⟨h.blk.alloc o, h.arg.alloc o⟩
theorem SetVar.new (h : SetArg w m A len c ws) : SetVar (w.alloc (.cells #[.int .i64 m, .slice A len c] 24)) w.heap.size m A len c ws := ⟨Blk.new w _ _, h.alloc _⟩
theorem SetVar.c0 (h : SetVar w g m A len c ws) : w.cell? ⟨g, 0, none⟩ = some (.int .i64 m) := h.blk.cell 0
theorem SetVar.c1 (h : SetVar w g m A len c ws) : w.cell? ⟨g, 1, none⟩ = some (.slice A len c) := h.blk.cell 1
end
/-- what the statements look for: the code, or the table -/
def Ans (n : Nat) (code : Int) (t : List Bool) (m : Int) (len : Nat) (ws : List Nat) (er : Int) : Prop :=
  (code = 0 ∧ er = 0 ∧ n ≤ 16 ∧ m = n ∧ t.length = 2 ^ n ∧ ws = packT t) ∨ (1 ≤ code ∧ code ≤ 255 ∧ er = code ∧ m = 0 ∧ len = 0)
def SetAns (w : World) (n : Nat) (code : Int) (t : List Bool) (e : Ending) (w' : World) : Prop :=
  ∃ m A len c ws er, e = .returned (.tuple #[.agg #[.int .i64 m, .slice A len c], .int .u8 er]) ∧ SetArg w' m A len c ws ∧ Below w.heap.size w w' ∧ Ans n code t m len ws er
theorem SetErr.ans {w w' : World} {code : Int} {e : Ending} (h : SetErr w code e w') (h0 : 1 ≤ code) (h1 : code ≤ 255) (n : Nat) (t : List Bool) : SetAns w n code t e w' :=
  ⟨0, none, 0, 0, [], code, h.1, ⟨rfl, Nat.le_refl _, by unfold maxLen; omega, fun h => by simp at h, by simp, by decide⟩, h.2, .inr ⟨h0, h1, rfl, rfl, rfl⟩⟩
theorem SetRes2.ans {w w' : World} {n : Nat} {ws : List Nat} {e : Ending} (h : SetRes2 w n ws e w') (hok : SOk n ws) {t : List Bool} (ht : t.length = 2 ^ n) (hb : ∀ x, x < 2 ^ n → bitAt ws x = t[x]?.getD false) : SetAns w n 0 t e w' := by
  obtain ⟨b, rfl, hb1, hown, hl, hb2⟩ := h
  exact ⟨n, _, _, _, ws, 0, rfl, own_arg hown hl hok.lt hok.n16 (wordsN_le hok.n16), hb2, .inl ⟨rfl, rfl, hok.n16, rfl, ht, hok.eq_pack ht hb⟩⟩
/-- told of an answer -/
theorem told_ans {n : Nat} {code : Int} {t : List Bool} {m : Int} {A : Option Addr} {len c : Nat} {ws : List Nat} {er : Int} {w : World} (h : SetArg w m A len c ws) (ha : Ans n code t m len ws er) {B : Option Addr} {l2 c2 : Nat} (hB : code = 0 → l2 = t.length ∧ RowF Value.bool false w w.heap.size B t) :
    Calls Tryd.prog 13 #[.agg #[.int .i64 m, .slice A len c], .int .u8 er, .int .i64 code, .slice B l2 c2] w fun e w' => e = .returned (.bool true) ∧ Below w.heap.size w w' := by
  rcases ha with ⟨rfl, rfl, hn, rfl, ht, hws⟩ | ⟨h0, h1, rfl, rfl, rfl⟩
  · obtain ⟨rfl, hrow⟩ := hB rfl
    rw [ht]
    exact told_ok n hn A B len c c2 ws t w h ht hrow hws
  · exact told_code 0 A B 0 c l2 c2 er er h0 h1 w ⟨rfl, rfl, rfl⟩
/-- zero values so far made -/
structure Zs (W w : World) (N : Nat) (bs : List Nat) : Prop where
  bel : Below W.heap.size W w
  nd : bs.Nodup
  own : ∀ b ∈ bs, W.heap.size ≤ b ∧ OwnF Value.bool 4 w W.heap.size (.slice (some ⟨b, 0, none⟩) N N) (List.replicate N false)
theorem Zs.nil {W : World} {N : Nat} : Zs W W N [] := ⟨Below.refl _ _, List.nodup_nil, by simp⟩
theorem Zs.cons {W w w1 : World} {N : Nat} {bs : List Nat} (h : Zs W w N bs) (ho : OwnF Value.bool 4 w1 w.heap.size (.slice (some ⟨w.heap.size, 0, none⟩) N N) (List.replicate N false)) (hb : Below w.heap.size w w1) : Zs W w1 N (w.heap.size :: bs) := by
  have hs := h.bel.size
  refine ⟨h.bel.trans (hb.mono hs), List.nodup_cons.2 ⟨fun hm => ?_, h.nd⟩, fun b hm => ?_⟩
  · have := ((h.own _ hm).2.lt w.heap.size rfl).2
    omega
  · rcases List.mem_cons.1 hm with rfl | hm
    · exact ⟨hs, ho.mono hs⟩
    · exact ⟨(h.own _ hm).1, (h.own _ hm).2.below hb⟩
theorem Zs.drew {W w : World} {N : Nat} {bs : List Nat} (h : Zs W w N bs) : Zs W w.drew N bs := ⟨h.bel.drew, h.nd, fun b hb => ⟨(h.own b hb).1, (h.own b hb).2.drew⟩⟩
theorem Zs.perm {W w : World} {N : Nat} {bs cs : List Nat} (h : Zs W w N bs) (hc : cs.Nodup) (hs : ∀ b ∈ cs, b ∈ bs) : Zs W w N cs := ⟨h.bel, hc, fun b hb => h.own b (hs b hb)⟩
/-- a row filled so far -/
def fillB (g : Nat → Bool) (N k : Nat) : List Bool := (List.range N).map fun x => decide (x < k) && g x
theorem fillB_zero (g : Nat → Bool) (N : Nat) : fillB g N 0 = List.replicate N false := by
  unfold fillB
  apply List.ext_getElem (by simp)
  intro i h1 h2
  simp
theorem fillB_all (g : Nat → Bool) (N : Nat) : fillB g N N = (List.range N).map g := by
  unfold fillB
  apply List.map_congr_left
  intro i hi
  rw [decide_eq_true (by simpa using hi), Bool.true_and]
theorem fillB_length (g : Nat → Bool) (N k : Nat) : (fillB g N k).length = N := by simp [fillB]
theorem fillB_set (g : Nat → Bool) (N k : Nat) (h : k < N) : (fillB g N k).set k (g k) = fillB g N (k + 1) := by
  unfold fillB
  apply List.ext_getElem (by simp)
  intro i h1 h2
  simp only [List.getElem_set, List.getElem_map, List.getElem_range]
  by_cases he : k = i
  · subst he; simp
  · rw [if_neg he]
    congr 1
    rw [decide_eq_decide]
    omega
/-- the row of a list's assignments -/
def memB (N : Nat) (l : List Int) : List Bool := (List.range N).map fun x : Nat => decide ((x : Int) ∈ l)
theorem memB_length (N : Nat) (l : List Int) : (memB N l).length = N := by simp [memB]
theorem memB_nil (N : Nat) : memB N [] = List.replicate N false := by
  unfold memB
  apply List.ext_getElem (by simp)
  intro i h1 h2
  simp
theorem memB_snoc_in {N : Nat} {l : List Int} {x : Nat} (hx : x < N) : (memB N l).set x true = memB N (l ++ [(x : Int)]) := by
  unfold memB
  apply List.ext_getElem (by simp)
  intro i h1 h2
  simp only [List.getElem_set, List.getElem_map, List.getElem_range, List.mem_append, List.mem_singleton]
  by_cases he : x = i
  · subst he; simp
  · rw [if_neg he, decide_eq_decide]
    constructor
    · exact .inl
    · rintro (h | h)
      · exact h
      · omega
theorem memB_snoc_out {N : Nat} {l : List Int} {x : Int} (hx : x < 0 ∨ (N : Int) ≤ x) : memB N l = memB N (l ++ [x]) := by
  unfold memB
  apply List.map_congr_left
  intro i hi
  rw [decide_eq_decide]
  simp only [List.mem_append, List.mem_singleton, List.mem_range] at *
  constructor
  · exact .inl
  · rintro (h | h)
    · exact h
    · omega
end Go.Proofs.YtpbpjihdaghiaaaDoor
end

section
namespace Go.Proofs.YtpbpjihdaghiaaaDoor
open Go.RowKit Go.Sort
set_option linter.unusedSimpArgs false
set_option linter.unusedVariables false

theorem SetVar.box {w : World} {m : Int} {A : Option Addr} {len c : Nat} {ws : List Nat} (h : SetArg w m A len c ws) : SetVar (w.alloc (.cells #[.int .i64 m, .slice A len c] 24)) w.heap.size m A len c ws := SetVar.new h
def pairB (m m' : Int) (ws ws' : List Nat) : Bool := srightB m ws && srightB m' ws' && decide (m = m')
/-- one of the four words -/
def opX (a b : Nat) : Nat → Nat
  | 0 => (18446744073709551615 - a) &&& (18446744073709551615 - b)
  | 1 => (18446744073709551615 - a) &&& b
  | 2 => a &&& (18446744073709551615 - b)
  | _ => a &&& b
def opAcc (o a b : Nat) : Nat → Nat
  | 0 => 0
  | k + 1 => if o.testBit k then opAcc o a b k ||| opX a b k else opAcc o a b k
def opW (o a b : Nat) : Nat := opAcc o a b 4
theorem opX_lt {a b : Nat} (ha : a < 18446744073709551616) (hb : b < 18446744073709551616) : ∀ k, opX a b k < 18446744073709551616
  | 0 => Nat.lt_of_le_of_lt Nat.and_le_left (by omega)
  | 1 => Nat.lt_of_le_of_lt Nat.and_le_right hb
  | 2 => Nat.lt_of_le_of_lt Nat.and_le_left ha
  | k + 3 => Nat.lt_of_le_of_lt Nat.and_le_left ha
theorem opAcc_lt {o a b : Nat} (ha : a < 18446744073709551616) (hb : b < 18446744073709551616) : ∀ k, opAcc o a b k < 18446744073709551616
  | 0 => by simp [opAcc]
  | k + 1 => by
    rw [opAcc]
    split
    · exact Nat.or_lt_two_pow (n := 64) (opAcc_lt ha hb k) (opX_lt ha hb k)
    · exact opAcc_lt ha hb k
theorem not_bit {a j : Nat} (ha : a < 18446744073709551616) (hj : j < 64) : (18446744073709551615 - a).testBit j = !a.testBit j := by
  have h := Nat.testBit_two_pow_sub_succ (x := a) (n := 64) ha j
  rw [show 2 ^ 64 - (a + 1) = 18446744073709551615 - a by omega] at h
  rw [h, decide_eq_true hj, Bool.true_and]
theorem opW_bit {o a b j : Nat} (ha : a < 18446744073709551616) (hb : b < 18446744073709551616) (hj : j < 64) : (opW o a b).testBit j = o.testBit (2 * (a.testBit j).toNat + (b.testBit j).toNat) := by
  unfold opW
  simp only [opAcc]
  have e0 : (opX a b 0).testBit j = (!a.testBit j && !b.testBit j) := by rw [opX, Nat.testBit_and, not_bit ha hj, not_bit hb hj]
  have e1 : (opX a b 1).testBit j = (!a.testBit j && b.testBit j) := by rw [opX, Nat.testBit_and, not_bit ha hj]
  have e2 : (opX a b 2).testBit j = (a.testBit j && !b.testBit j) := by rw [opX, Nat.testBit_and, not_bit hb hj]
  have e3 : (opX a b 3).testBit j = (a.testBit j && b.testBit j) := by show (a &&& b).testBit j = _; rw [Nat.testBit_and]
  generalize opX a b 0 = x0 at *
  generalize opX a b 1 = x1 at *
  generalize opX a b 2 = x2 at *
  generalize opX a b 3 = x3 at *
  generalize a.testBit j = p at *
  generalize b.testBit j = q at *
  cases h0 : o.testBit 0 <;> cases h1 : o.testBit 1 <;> cases h2 : o.testBit 2 <;> cases h3 : o.testBit 3 <;> cases p <;> cases q <;> simp [e0, e1, e2, e3, h0, h1, h2, h3]
theorem run_index_arr {P : Program} (w : World) (t e : TypeId) (n : Nat) (cs : Array Value) (k : IntKind) (i : Nat) (h : P.underlying t = some (.array n e)) (hi : i < n) (hs : ∀ w, (Go.sizeOf e).run P w = .ok 1 w) (ha : ∀ w, (isAgg e).run P w = .ok false w) (v : Value) (hv : cs[i]? = some v) :
    (Instr.index t (.agg cs) (.int k (i : Int))).run P w = .ok v w := by
  simp [Instr.index, run_underlying h, asIntOf, hi, hs, ha, hv, go_sem, Result.andThen]
theorem size_u64 (w : World) : (Go.sizeOf 71).run Tryd.prog w = .ok 1 w := by kernel_rfl
theorem agg_u64 (w : World) : (isAgg 71).run Tryd.prog w = .ok false w := by kernel_rfl
end Go.Proofs.YtpbpjihdaghiaaaDoor
end

section
namespace Go.Proofs.YtpbpjihdaghiaaaDoor
open Go.RowKit Go.Sort
set_option linter.unusedSimpArgs false
set_option linter.unusedVariables false

theorem own_cell {α : Type} {f : α → Value} {E : TypeId} {w : World} {base g n cap : Nat} {xs : List α} (h : OwnF f E w base (.slice (some ⟨g, 0, none⟩) n cap) xs) (k : Nat) (hk : k < xs.length) : ∃ u, w.cell? ⟨g, k, none⟩ = some (f u) ∧ w.frozen? ⟨g, k, none⟩ = false := by
  have h1 := h.at_ k hk
  rw [List.getElem?_eq_getElem hk] at h1
  exact ⟨_, h1⟩
theorem pair_ok {n : Nat} {ws ws' : List Nat} (h : SOk n ws) (h' : SOk n ws') : pairB (n : Int) (n : Int) ws ws' = true := by
  unfold pairB
  rw [(sright_iff h.lt).2 ⟨by omega, by simpa using h⟩, (sright_iff h'.lt).2 ⟨by omega, by simpa using h'⟩]
  simp
theorem pair_yes {m m' : Int} {ws ws' : List Nat} (hlt : ∀ v ∈ ws, v < 18446744073709551616) (hlt' : ∀ v ∈ ws', v < 18446744073709551616) (h : pairB m m' ws ws' = true) : ∃ n : Nat, m = n ∧ m' = n ∧ SOk n ws ∧ SOk n ws' := by
  unfold pairB at h
  rw [Bool.and_eq_true, Bool.and_eq_true, decide_eq_true_eq] at h
  obtain ⟨⟨h1, h2⟩, rfl⟩ := h
  obtain ⟨h0, h1⟩ := (sright_iff hlt).1 h1
  obtain ⟨_, h2⟩ := (sright_iff hlt').1 h2
  exact ⟨m.toNat, by omega, by omega, h1, h2⟩
/-- the argument's words, in later memory -/
theorem SetArg.word {w w' : World} {m : Int} {A : Option Addr} {len c : Nat} {ws : List Nat} (h : SetArg w m A len c ws) (hl : 0 < len) : ∃ b off, A = some ⟨b, off, none⟩ ∧ b < w.heap.size ∧ ∀ w' k, Below w.heap.size w w' → k < len → w'.cell? ⟨b, off + k, none⟩ = some (.int .u64 (wat ws k : Nat)) := by
  obtain ⟨b, off, rfl, hb, hcell⟩ := h.row (by rw [h.hlen]; exact hl)
  exact ⟨b, off, rfl, hb, fun w' k hw hk => (hw.cell (p := ⟨b, off + k, none⟩) hb).trans (hcell k (by rw [h.hlen]; exact hk))⟩
end Go.Proofs.YtpbpjihdaghiaaaDoor
end

section
namespace Go.Proofs.YtpbpjihdaghiaaaDoor
open Go.RowKit Go.Sort
set_option linter.unusedSimpArgs false
set_option linter.unusedVariables false

end Go.Proofs.YtpbpjihdaghiaaaDoor
end

section
namespace Go.Proofs.YtpbpjihdaghiaaaDoor
open Go.RowKit Go.Sort
set_option linter.unusedSimpArgs false
set_option linter.unusedVariables false

def iteW (a b c : Nat) : Nat := (a &&& b) ||| (c &&& (18446744073709551615 - a))
theorem iteW_lt {a b c : Nat} (ha : a < 18446744073709551616) (hc : c < 18446744073709551616) : iteW a b c < 18446744073709551616 :=
  Nat.or_lt_two_pow (n := 64) (Nat.lt_of_le_of_lt Nat.and_le_left ha) (Nat.lt_of_le_of_lt Nat.and_le_left hc)
theorem iteW_bit {a b c j : Nat} (ha : a < 18446744073709551616) (hj : j < 64) : (iteW a b c).testBit j = if a.testBit j then b.testBit j else c.testBit j := by
  unfold iteW
  rw [Nat.testBit_or, Nat.testBit_and, Nat.testBit_and, not_bit ha hj]
  cases a.testBit j <;> simp
end Go.Proofs.YtpbpjihdaghiaaaDoor
end

section
namespace Go.Proofs.YtpbpjihdaghiaaaDoor
open Go.RowKit Go.Sort
set_option linter.unusedSimpArgs false
set_option linter.unusedVariables false

/-- three sets and a result in cells -/
structure Three (w W : World) (m1 m2 m3 : Int) (A1 A2 A3 : Option Addr) (l1 l2 l3 c1 c2 c3 : Nat) (ws1 ws2 ws3 : List Nat) : Prop where
  v1 : SetVar W w.heap.size m1 A1 l1 c1 ws1
  v2 : SetVar W (w.heap.size + 1) m2 A2 l2 c2 ws2
  v3 : SetVar W (w.heap.size + 2) m3 A3 l3 c3 ws3
  res : Blk W (w.heap.size + 3) 24 #[.int .i64 0, .slice none 0 0]
  bel : Below w.heap.size w W
section
variable {w W W' : World} {m1 m2 m3 : Int} {A1 A2 A3 : Option Addr} {l1 l2 l3 c1 c2 c3 : Nat} {ws1 ws2 ws3 : List Nat}
theorem Three.on (h : Three w W m1 m2 m3 A1 A2 A3 l1 l2 l3 c1 c2 c3 ws1 ws2 ws3) (hb : Below W.heap.size W W') : Three w W' m1 m2 m3 A1 A2 A3 l1 l2 l3 c1 c2 c3 ws1 ws2 ws3 :=
  ⟨h.v1.on hb, h.v2.on hb, h.v3.on hb, h.res.onB hb, h.bel.trans (hb.mono h.bel.size)⟩
theorem Three.new (h1 : SetArg w m1 A1 l1 c1 ws1) (h2 : SetArg w m2 A2 l2 c2 ws2) (h3 : SetArg w m3 A3 l3 c3 ws3) :
    Three w ((((w.alloc (.cells #[.int .i64 m1, .slice A1 l1 c1] 24)).alloc (.cells #[.int .i64 m2, .slice A2 l2 c2] 24)).alloc (.cells #[.int .i64 m3, .slice A3 l3 c3] 24)).alloc (.cells #[.int .i64 0, .slice none 0 0] 24)) m1 m2 m3 A1 A2 A3 l1 l2 l3 c1 c2 c3 ws1 ws2 ws3 := by
  refine ⟨(((SetVar.new h1).alloc _).alloc _).alloc _, ?_, ?_, ?_, ((((Below.refl _ _).alloc (Nat.le_refl _) _).alloc (by simp) _).alloc (by simp; omega) _).alloc (by simp; omega) _⟩
  · have := SetVar.new (h2.alloc (.cells #[.int .i64 m1, .slice A1 l1 c1] 24))
    rw [World.size_alloc] at this
    exact (this.alloc _).alloc _
  · have := SetVar.new ((h3.alloc (.cells #[.int .i64 m1, .slice A1 l1 c1] 24)).alloc (.cells #[.int .i64 m2, .slice A2 l2 c2] 24))
    simp only [World.size_alloc] at this
    exact this.alloc _
  · have := Blk.new (((w.alloc (.cells #[.int .i64 m1, .slice A1 l1 c1] 24)).alloc (.cells #[.int .i64 m2, .slice A2 l2 c2] 24)).alloc (.cells #[.int .i64 m3, .slice A3 l3 c3] 24)) 24 #[.int .i64 0, .slice none 0 0]
    simpa only [World.size_alloc] using this
end
end Go.Proofs.YtpbpjihdaghiaaaDoor
end

section
namespace Go.Proofs.YtpbpjihdaghiaaaDoor
open Go.RowKit Go.Sort
set_option linter.unusedSimpArgs false
set_option linter.unusedVariables false

theorem mod_lt_pow {n x : Nat} (hx : x < 2 ^ n) : x % 64 < 2 ^ n := by have := Nat.mod_le x 64; omega
theorem opT_length (o : Nat) (t1 t2 : List Bool) : (opT o t1 t2).length = t1.length := by simp [opT]
theorem iteT_length (t1 t2 t3 : List Bool) : (iteT t1 t2 t3).length = t1.length := by simp [iteT]
theorem and_full_ok {n : Nat} (hn : n ≤ 16) {f : Nat → Nat} (hf : ∀ k, f k < 18446744073709551616) : SOk n ((List.range (wordsN n)).map fun k => f k &&& fullN n) := by
  refine SOk.made hn (fun k _ => Nat.lt_of_le_of_lt Nat.and_le_left (hf k)) (fun j h1 h2 => ?_)
  rw [Nat.testBit_and, fullN_bit n j h2, decide_eq_false (by omega), Bool.and_false]
theorem and_full_bit {n x : Nat} {f : Nat → Nat} (hx : x < 2 ^ n) : bitAt ((List.range (wordsN n)).map fun k => f k &&& fullN n) x = (f (x / 64)).testBit (x % 64) := by
  rw [bitAt_range (idx_lt hx), Nat.testBit_and, fullN_bit n _ (Nat.mod_lt _ (by omega)), decide_eq_true (mod_lt_pow hx), Bool.and_true]
/-- a table of the call's own, as an argument -/
theorem own_tab {w : World} {base : Nat} {A : Option Addr} {len c : Nat} {t : List Bool} (h : OwnF Value.bool 4 w base (.slice A len c) t) (hl : t.length = len) (hm : len ≤ 65536) : TabArg w A len c t := ⟨hl, hm, h.rows⟩
/-- a set as the statement looks at it: not too great -/
theorem sright_nat {m : Int} {ws : List Nat} (hlt : ∀ v ∈ ws, v < 18446744073709551616) (h : srightB m ws = true) : ∃ n : Nat, m = n ∧ SOk n ws := by
  obtain ⟨h0, h1⟩ := (sright_iff hlt).1 h
  exact ⟨m.toNat, by omega, h1⟩
/-- the document's table, in later memory -/
theorem rtable_tab (n : Nat) (A : Option Addr) (len c : Nat) (ws : List Nat) (w : World) (h : SetArg w n A len c ws) (hok : SOk n ws) : Calls Tryd.prog 15 #[setA n A len c] w fun e w' => ∃ B c2, e = .returned (.slice B (2 ^ n) c2) ∧ TabArg w' B (2 ^ n) c2 (tabS n ws) ∧ Below w.heap.size w w' := by
  refine (rtable_any n A len c ws w h hok).mono ?_
  rintro e w' ⟨B, c2, rfl, hown, hb⟩
  rw [tabS_length] at hown ⊢
  exact ⟨B, c2, rfl, own_tab hown (tabS_length n ws) (pow16 hok.n16), hb⟩
end Go.Proofs.YtpbpjihdaghiaaaDoor
end

section
namespace Go.Proofs.YtpbpjihdaghiaaaDoor
open Go.RowKit Go.Sort
set_option linter.unusedSimpArgs false
set_option linter.unusedVariables false

def clrN (k u : Nat) : Nat := k &&& (18446744073709551615 - 2 ^ u)
def withW (n v : Nat) (one : Bool) (ws : List Nat) (k : Nat) : Nat :=
  if 6 ≤ v then wat ws (if one then k ||| 2 ^ (v - 6) else clrN k (v - 6))
  else if one then (wat ws k &&& colN v) ||| (wat ws k &&& colN v) / 2 ^ 2 ^ v
  else ((wat ws k &&& (18446744073709551615 - colN v)) ||| (wat ws k &&& (18446744073709551615 - colN v)) * 2 ^ 2 ^ v % 18446744073709551616) &&& fullN n
theorem i64_andNot_nat (a b : Nat) (ha : a < 9223372036854775808) (hb : b < 9223372036854775808) : bits .andNot .i64 (a : Int) (b : Int) = ((a &&& (18446744073709551615 - b) : Nat) : Int) := by
  have hx : a &&& (18446744073709551615 - b) ≤ a := Nat.and_le_left
  show IntKind.i64.wrap ((BitVec.ofInt 64 (a : Int) &&& ~~~BitVec.ofInt 64 (b : Int)).toNat : Int) = _
  rw [BitVec.toNat_and, BitVec.toNat_not, ofInt_i64 a (by omega), ofInt_i64 b (by omega)]
  have e : 2 ^ 64 - 1 - b = 18446744073709551615 - b := by omega
  rw [e, wrap_i64_nat _ (by omega)]
theorem putV_same {x v b : Nat} (h : (x.testBit v).toNat = b) : putV x v b = x := by
  unfold putV
  have := bit_le x v
  rw [h] at *
  omega
theorem putV_up {x v : Nat} (h : x.testBit v = false) : putV x v 1 = x + 2 ^ v := by
  unfold putV; rw [h]; simp
theorem putV_down {x v : Nat} (h : x.testBit v = true) : putV x v 0 = x - 2 ^ v := by
  unfold putV; rw [h]; simp
theorem pow_le_of_bit {x v : Nat} (h : x.testBit v = true) : 2 ^ v ≤ x := by
  have := bit_le x v
  rw [h] at this
  simpa using this
theorem putV_bit (x v : Nat) (b : Bool) (j : Nat) : (putV x v b.toNat).testBit j = if j = v then b else x.testBit j := by
  by_cases hb : x.testBit v = b
  · rw [putV_same (by rw [hb])]
    split
    · rename_i h; rw [h, hb]
    · rfl
  · have key : ∀ y, y.testBit v = false → (y + 2 ^ v).testBit j = if j = v then true else y.testBit j := fun y hy => by
      have e : y + 2 ^ v = y ||| 2 ^ v := by
        have h1 := Nat.div_add_mod y (2 ^ v)
        apply Nat.eq_of_testBit_eq
        intro i
        rw [Nat.testBit_or, Nat.testBit_two_pow]
        rcases Nat.lt_trichotomy i v with h | h | h
        · rw [Nat.add_comm, Nat.testBit_two_pow_add_gt h, decide_eq_false (by omega), Bool.or_false]
        · subst h
          rw [Nat.add_comm, Nat.testBit_two_pow_add_eq, hy]
          simp
        · have hq : (y / 2 ^ v) % 2 = 0 := by
            have := bit_val y v
            rw [hy] at this
            simpa using this
          rw [decide_eq_false (by omega), Bool.or_false, Nat.testBit_eq_decide_div_mod_eq, Nat.testBit_eq_decide_div_mod_eq]
          have hi : 2 ^ i = 2 ^ v * 2 * 2 ^ (i - v - 1) := by rw [← Nat.pow_succ, ← Nat.pow_add]; congr 1; omega
          rw [hi, ← Nat.div_div_eq_div_mul, ← Nat.div_div_eq_div_mul, ← Nat.div_div_eq_div_mul, ← Nat.div_div_eq_div_mul, Nat.add_div_right _ (Nat.two_pow_pos v)]
          have : (y / 2 ^ v).succ / 2 = y / 2 ^ v / 2 := by omega
          rw [this]
      rw [e, testBit_or_pow]
      split
      · rename_i h; simp [h]
      · rename_i h; rw [decide_eq_false h, Bool.or_false]
    cases b
    · have hx : x.testBit v = true := by simpa using hb
      have hle := pow_le_of_bit hx
      obtain ⟨y, rfl⟩ := Nat.exists_eq_add_of_le' hle
      have hy : y.testBit v = false := by
        have := hx
        rw [Nat.add_comm, Nat.testBit_two_pow_add_eq] at this
        simpa using this
      rw [show false.toNat = 0 from rfl, putV_down hx, Nat.add_sub_cancel, key y hy]
      split
      · rename_i h; rw [h, hy]
      · rfl
    · have hx : x.testBit v = false := by simpa using hb
      rw [show true.toNat = 1 from rfl, putV_up hx, key x hx]
theorem putV_lt {n x v : Nat} (b : Bool) (hx : x < 2 ^ n) (hv : v < n) : putV x v b.toNat < 2 ^ n := by
  apply Nat.lt_pow_two_of_testBit
  intro j hj
  rw [putV_bit, if_neg (by omega)]
  exact Nat.testBit_lt_two_pow (Nat.lt_of_lt_of_le hx (Nat.pow_le_pow_right (by omega) hj))
theorem or_put (k u : Nat) : k ||| 2 ^ u = putV k u true.toNat := by
  apply Nat.eq_of_testBit_eq
  intro j
  rw [putV_bit, testBit_or_pow]
  split
  · rename_i h; simp [h]
  · rename_i h; rw [decide_eq_false h, Bool.or_false]
theorem clr_put (k u : Nat) (hk : k < 18446744073709551616) (hu : u < 64) : clrN k u = putV k u false.toNat := by
  have hp : 2 ^ u < 18446744073709551616 := (show 2 ^ u < 2 ^ 64 from Nat.pow_lt_pow_right (by omega) hu)
  apply Nat.eq_of_testBit_eq
  intro j
  unfold clrN
  rw [putV_bit, Nat.testBit_and]
  by_cases hj : j < 64
  · rw [not_bit hp hj, Nat.testBit_two_pow]
    split
    · rename_i h; simp [h]
    · rename_i h; rw [decide_eq_false (fun e => h e.symm)]; simp
  · have : k.testBit j = false := Nat.testBit_lt_two_pow (Nat.lt_of_lt_of_le hk (show 18446744073709551616 ≤ 2 ^ j from (show 2 ^ 64 ≤ 2 ^ j from Nat.pow_le_pow_right (by omega) (by omega))))
    rw [this]
    split
    · rename_i h; omega
    · rfl
theorem putV_div {x u b : Nat} : putV x (u + 6) b = 64 * putV (x / 64) u b + x % 64 := by
  unfold putV
  have h1 : x.testBit (u + 6) = (x / 64).testBit u := by rw [testBit_div x (u + 6) 6 (by omega)]; rfl
  have h2 := bit_le (x / 64) u
  have h3 : 2 ^ (u + 6) = 64 * 2 ^ u := by rw [Nat.pow_add, Nat.mul_comm]
  have h4 := Nat.div_add_mod x 64
  rw [h1, h3]
  generalize ((x / 64).testBit u).toNat = t at *
  generalize 2 ^ u = p at *
  have e1 : t * (64 * p) = 64 * (t * p) := by rw [Nat.mul_left_comm]
  have e2 : b * (64 * p) = 64 * (b * p) := by rw [Nat.mul_left_comm]
  rw [e1, e2]
  generalize t * p = tp at *
  generalize b * p = bp at *
  omega
theorem putV_mod {x v b : Nat} (hv : v < 6) : putV x v b = 64 * (x / 64) + putV (x % 64) v b := by
  unfold putV
  have h1 : (x % 64).testBit v = x.testBit v := by
    rw [show (64 : Nat) = 2 ^ 6 from rfl, Nat.testBit_mod_two_pow, decide_eq_true hv, Bool.true_and]
  have h2 := bit_le (x % 64) v
  have h4 := Nat.div_add_mod x 64
  rw [h1] at *
  generalize (x.testBit v).toNat * 2 ^ v = tp at *
  omega
theorem col_bit {v j : Nat} (hj : j < 64) : (colN v).testBit j = j.testBit v := by
  unfold colN
  rw [testBit_ofBits, decide_eq_true hj, Bool.true_and]
theorem col_lt (v : Nat) : colN v < 18446744073709551616 := ofBits_lt64 _ (Nat.le_refl _)
theorem add_bit (r v : Nat) : (r + 2 ^ v).testBit v = !r.testBit v := by rw [Nat.add_comm, Nat.testBit_two_pow_add_eq]
theorem sub_bit {r v : Nat} (h : 2 ^ v ≤ r) : (r - 2 ^ v).testBit v = !r.testBit v := by
  have := add_bit (r - 2 ^ v) v
  rw [Nat.sub_add_cancel h] at this
  rw [this, Bool.not_not]
theorem up_lt : ∀ (r : Fin 64) (v : Fin 6), r.val.testBit v.val = false → r.val + 2 ^ v.val < 64 := by decide +kernel
theorem big_bit {a j : Nat} (ha : a < 18446744073709551616) (hj : 64 ≤ j) : a.testBit j = false :=
  Nat.testBit_lt_two_pow (Nat.lt_of_lt_of_le ha (show 18446744073709551616 ≤ 2 ^ j from (show 2 ^ 64 ≤ 2 ^ j from Nat.pow_le_pow_right (by omega) hj)))
/-- within a word: the variable as 1 -/
theorem one_bit {a v r : Nat} (ha : a < 18446744073709551616) (hv : v < 6) (hr : r < 64) : ((a &&& colN v) ||| (a &&& colN v) / 2 ^ 2 ^ v).testBit r = a.testBit (putV r v true.toNat) := by
  rw [Nat.testBit_or, Nat.testBit_div_two_pow, Nat.testBit_and, Nat.testBit_and, col_bit hr]
  cases h : r.testBit v
  · rw [show true.toNat = 1 from rfl, putV_up h]
    have hl := up_lt ⟨r, hr⟩ ⟨v, hv⟩ h
    simp only at hl
    rw [col_bit hl, add_bit, h]
    simp
  · rw [putV_same (by rw [h])]
    by_cases hl : r + 2 ^ v < 64
    · rw [col_bit hl, add_bit, h]
      simp
    · rw [big_bit ha (j := r + 2 ^ v) (by omega)]
      simp
/-- within a word: the variable as 0 -/
theorem zero_bit {a v r : Nat} (ha : a < 18446744073709551616) (hv : v < 6) (hr : r < 64) : ((a &&& (18446744073709551615 - colN v)) ||| (a &&& (18446744073709551615 - colN v)) * 2 ^ 2 ^ v % 18446744073709551616).testBit r = a.testBit (putV r v false.toNat) := by
  have hc := col_lt v
  rw [Nat.testBit_or, show (18446744073709551616 : Nat) = 2 ^ 64 from rfl, Nat.testBit_mod_two_pow, decide_eq_true hr, Bool.true_and, Nat.testBit_mul_two_pow, Nat.testBit_and, Nat.testBit_and, not_bit hc hr, col_bit hr]
  cases h : r.testBit v
  · rw [putV_same (by rw [h])]
    by_cases hl : 2 ^ v ≤ r
    · rw [not_bit hc (Nat.lt_of_le_of_lt (Nat.sub_le _ _) hr), col_bit (Nat.lt_of_le_of_lt (Nat.sub_le _ _) hr), sub_bit hl, h]
      simp
    · rw [decide_eq_false (by omega)]
      simp
  · have hl := pow_le_of_bit h
    rw [show false.toNat = 0 from rfl, putV_down h, not_bit hc (Nat.lt_of_le_of_lt (Nat.sub_le _ _) hr), col_bit (Nat.lt_of_le_of_lt (Nat.sub_le _ _) hr), sub_bit hl, h]
    simp [hl]
theorem withW_lt {n v : Nat} {one : Bool} {ws : List Nat} (hlt : ∀ u ∈ ws, u < 18446744073709551616) (k : Nat) : withW n v one ws k < 18446744073709551616 := by
  unfold withW
  split
  · exact wat_lt hlt _
  · have h := wat_lt hlt k
    split
    · have h1 : wat ws k &&& colN v < 2 ^ 64 := Nat.lt_of_le_of_lt Nat.and_le_left h
      exact Nat.or_lt_two_pow h1 (Nat.lt_of_le_of_lt (Nat.div_le_self _ _) h1)
    · exact Nat.lt_of_le_of_lt Nat.and_le_right (fullN_lt n)
theorem with_ok {n v : Nat} {one : Bool} {ws : List Nat} (hok : SOk n ws) (hv : v < n) : SOk n ((List.range (wordsN n)).map (withW n v one ws)) := by
  refine SOk.made hok.n16 (fun k _ => withW_lt hok.lt k) (fun j h1 h2 => ?_)
  have hz : ∀ i, 2 ^ n ≤ i → (wat ws 0).testBit i = false := fun i hi => by
    by_cases h64 : i < 64
    · have := hok.hi i hi h64
      unfold bitAt at this
      rwa [show i / 64 = 0 by omega, Nat.mod_eq_of_lt h64] at this
    · exact big_bit (wat_lt hok.lt 0) (by omega)
  unfold withW
  split
  · rename_i h6
    exfalso
    have : 2 ^ 6 ≤ 2 ^ n := Nat.pow_le_pow_right (by omega) (by omega)
    omega
  · split
    · rw [Nat.testBit_or, Nat.testBit_div_two_pow, Nat.testBit_and, Nat.testBit_and, hz j h1, hz _ (Nat.le_trans h1 (Nat.le_add_right j (2 ^ v)))]
      simp
    · rw [Nat.testBit_and, fullN_bit n j h2, decide_eq_false (by omega), Bool.and_false]
theorem with_bit {n v : Nat} {one : Bool} {ws : List Nat} (hok : SOk n ws) (hv : v < n) {x : Nat} (hx : x < 2 ^ n) : bitAt ((List.range (wordsN n)).map (withW n v one ws)) x = bitAt ws (putV x v one.toNat) := by
  have hr : x % 64 < 64 := Nat.mod_lt _ (by omega)
  rw [bitAt_range (idx_lt hx)]
  unfold withW
  by_cases h6 : 6 ≤ v
  · rw [if_pos h6]
    obtain ⟨u, rfl⟩ := Nat.exists_eq_add_of_le' h6
    have hq : x / 64 < 18446744073709551616 := by have := pow16 hok.n16; omega
    rw [putV_div, Nat.add_sub_cancel]
    unfold bitAt
    rw [show (64 * putV (x / 64) u one.toNat + x % 64) / 64 = putV (x / 64) u one.toNat by omega, show (64 * putV (x / 64) u one.toNat + x % 64) % 64 = x % 64 by omega]
    cases one
    · rw [if_neg (by decide), clr_put _ _ hq (by have := hok.n16; omega)]; rfl
    · rw [if_pos rfl, or_put]; rfl
  · rw [if_neg h6]
    have hv6 : v < 6 := by omega
    have hpl := putV_lt (n := 6) (x := x % 64) (v := v) one (by omega) hv6
    rw [putV_mod hv6]
    unfold bitAt
    rw [show (64 * (x / 64) + putV (x % 64) v one.toNat) / 64 = x / 64 by omega, show (64 * (x / 64) + putV (x % 64) v one.toNat) % 64 = putV (x % 64) v one.toNat by omega]
    have ha := wat_lt hok.lt (x / 64)
    cases one
    · rw [if_neg (by decide), Nat.testBit_and, fullN_bit n _ hr, decide_eq_true (mod_lt_pow hx), Bool.and_true, zero_bit ha hv6 hr]; rfl
    · rw [if_pos rfl, one_bit ha hv6 hr]; rfl
theorem set_lt {n u k : Nat} (h6 : 6 ≤ n) (hk : k < wordsN n) (hu : u + 6 < n) : k ||| 2 ^ u < wordsN n := by
  rw [wordsN_big h6] at *
  exact Nat.or_lt_two_pow hk (Nat.pow_lt_pow_right (by omega) (by omega))
theorem clr_lt {n u k : Nat} (hk : k < wordsN n) : clrN k u < wordsN n := Nat.lt_of_le_of_lt Nat.and_le_left hk
/-- the table with a variable as 1 or 0 -/
def withT (t : List Bool) (v b : Nat) : List Bool := (List.range t.length).map fun x => tat t (putV x v b)
theorem withT_length (t : List Bool) (v b : Nat) : (withT t v b).length = t.length := by simp [withT]
theorem with_tab {n v : Nat} {one : Bool} {ws : List Nat} (hok : SOk n ws) (hv : v < n) (x : Nat) (hx : x < 2 ^ n) : bitAt ((List.range (wordsN n)).map (withW n v one ws)) x = (withT (tabS n ws) v one.toNat)[x]?.getD false := by
  rw [with_bit hok hv hx]
  unfold withT
  rw [List.getElem?_map, List.getElem?_range (by rw [tabS_length]; exact hx)]
  simp only [Option.map_some, Option.getD_some]
  rw [tat_tab (putV_lt one hx hv)]
end Go.Proofs.YtpbpjihdaghiaaaDoor
end
