/- Contracts: set.Single; the examples. Answers: a set and an error, as the statements look at them. Contracts: set.pair, op (of words). Contract: set.Op. Contracts: set.Op of others, ite, Ite. Contract: set.ite. Contract: set.Ite. Answers: set.Op, Ite; tables. Plain: a variable as 1 or 0, word by word. -/
import Derived.Test.YtbhbhfplpbcfiaaGreatDoorSetX
import Derived.Test.YtbhbhfplpbcfiaaGreatDoorMf
section
namespace Go.Proofs.YtbhbhfplpbcfiaaGreatDoor
open Go.RowKit Go.Sort
set_option linter.unusedSimpArgs false
set_option linter.unusedVariables false

set_option maxRecDepth 100000 in
set_option maxHeartbeats 2000000 in
theorem ssingle2_any (n v : Nat) (hn : n ≤ 16) (hv : v < n) (w : World) : Calls Tryz.prog 216 #[.int .i64 (n : Nat), .int .i64 (v : Nat)] w (SetRes2 w n ((List.range (wordsN n)).map (singW n v))) := by
  have HBL := Lib.hid (fun W => ssingle_any n v hn hv W)
  have hma := fun W => smay_any (n : Int) W
  rw [show smayB (n : Int) = true from decide_eq_true (by omega)] at hma
  have HMA := Lib.hid hma
  unfold SetRes2 SetRes setV at *
  generalize (List.range (wordsN n)).map (singW n v) = ws at *
  generalize wordsN n = m at *
  clear hma
  have HBK := Lib.hid (Blk.new w 38 #[.int .i64 0, .slice none 0 0])
  have HB0 := Lib.hid ((Below.refl w.heap.size w).alloc (Nat.le_refl _) (.cells #[.int .i64 0, .slice none 0 0] 38))
  go_enter Tryz.func216, Tryz.ntmps216
  go_wp2_with fail
  refine (HMA.out _).mono ?_
  rintro e w' ⟨rfl, rfl⟩
  go_wp2_with fail
  refine (HBL.out _).mono ?_
  rintro e w1 ⟨b, rfl, hb, hown, hl, hb1⟩
  have hK := HBK.out.onB hb1
  have n0 : w1.cell? ⟨w.heap.size, 0, none⟩ = some (.int .i64 0) := hK.cell 0
  have n1 : w1.cell? ⟨w.heap.size, 1, none⟩ = some (.slice none 0 0) := hK.cell 1
  have z0 := hK.frozen 0
  have z1 := hK.frozen 1
  rw [World.size_alloc] at hb
  have HO := Lib.hid hown
  have HB1 := Lib.hid (HB0.out.trans (hb1.mono HB0.out.size))
  have HB := Lib.hid hb
  have HL := Lib.hid hl
  clear hK hown hb1 hb hl
  go_wp2_with fail
  refine bodyPost_ret (v := .tuple #[.agg #[.int .i64 (n : Nat), .slice (some ⟨b, 0, none⟩) m m], .int .u8 0]) ?_ rfl ⟨b, rfl, by have := HB.out; omega, ?_, HL.out, ?_⟩
  · simp [results, Tryz.results216, go_sem, *]
  · have hb := HB.out
    exact ((HO.out.mono (by rw [World.size_alloc]; omega)).set_below' (by simp only; omega) _).set_below' (by simp only; omega) _
  · exact (HB1.out.setCell (Nat.le_refl _) _).setCell (Nat.le_refl _) _
set_option maxRecDepth 100000 in
set_option maxHeartbeats 2000000 in
theorem ssingle2_no (n v : Int) (hn : ¬ (0 ≤ n ∧ n ≤ 16 ∧ 0 ≤ v ∧ v < n)) (w : World) : Calls Tryz.prog 216 #[.int .i64 n, .int .i64 v] w (SetErr w 3) := by
  have HMA := Lib.hid (fun W => smay_any n W)
  unfold SetErr
  by_cases h1 : smayB n = true
  · rw [h1] at HMA
    have h1' : 0 ≤ n ∧ n ≤ 16 := by simpa [smayB] using h1
    by_cases h2 : v < 0
    · clear h1 h1' hn
      go_enter Tryz.func216, Tryz.ntmps216
      go_wp2_with fail
      refine (HMA.out _).mono ?_
      rintro e w' ⟨rfl, rfl⟩
      go_wp2_with fail
      refine bodyPost_ret (v := .tuple #[.agg #[.int .i64 0, .slice none 0 0], .int .u8 3]) ?_ rfl ⟨rfl, ?_⟩
      · simp [results, Tryz.results216, go_sem, *]
      · first | exact (Below.refl _ _).alloc (Nat.le_refl _) _ | exact (((Below.refl _ _).alloc (Nat.le_refl _) _).setCell (Nat.le_refl _) _).setCell (Nat.le_refl _) _
    · have h3 : ¬ v < n := by omega
      have hge : n ≤ v := by omega
      clear h1 h1' hn
      go_enter Tryz.func216, Tryz.ntmps216
      go_wp2_with fail
      refine (HMA.out _).mono ?_
      rintro e w' ⟨rfl, rfl⟩
      go_wp2_with fail
      refine bodyPost_ret (v := .tuple #[.agg #[.int .i64 0, .slice none 0 0], .int .u8 3]) ?_ rfl ⟨rfl, ?_⟩
      · simp [results, Tryz.results216, go_sem, *]
      · first | exact (Below.refl _ _).alloc (Nat.le_refl _) _ | exact (((Below.refl _ _).alloc (Nat.le_refl _) _).setCell (Nat.le_refl _) _).setCell (Nat.le_refl _) _
  · have h1' : smayB n = false := by simpa using h1
    rw [h1'] at HMA
    clear h1 h1' hn
    go_enter Tryz.func216, Tryz.ntmps216
    go_wp2_with fail
    refine (HMA.out _).mono ?_
    rintro e w' ⟨rfl, rfl⟩
    go_wp2_with fail
    refine bodyPost_ret (v := .tuple #[.agg #[.int .i64 0, .slice none 0 0], .int .u8 3]) ?_ rfl ⟨rfl, ?_⟩
    · simp [results, Tryz.results216, go_sem, *]
    · first | exact (Below.refl _ _).alloc (Nat.le_refl _) _ | exact (((Below.refl _ _).alloc (Nat.le_refl _) _).setCell (Nat.le_refl _) _).setCell (Nat.le_refl _) _
theorem fill_ok {n u : Nat} (hn : n ≤ 16) (hu : u = 0 ∨ u = fullN n) : SOk n (List.replicate (wordsN n) u) := by
  refine ⟨hn, by simp, fun v hv => ?_, fun x h1 h2 => ?_⟩
  · rw [List.mem_replicate] at hv
    rw [hv.2]
    rcases hu with rfl | rfl
    · omega
    · exact fullN_lt n
  · unfold bitAt
    rw [List.getElem?_replicate]
    split
    · rw [Option.getD_some, Nat.mod_eq_of_lt h2]
      rcases hu with rfl | rfl
      · exact Nat.zero_testBit _
      · rw [fullN_bit n x h2, decide_eq_false (by omega)]
    · exact Nat.zero_testBit _
theorem none_bit (n x : Nat) : bitAt (List.replicate (wordsN n) 0) x = false := by
  unfold bitAt
  rw [List.getElem?_replicate]
  split <;> exact Nat.zero_testBit _
theorem all_bit {n x : Nat} (hx : x < 2 ^ n) : bitAt (List.replicate (wordsN n) (fullN n)) x = true := by
  unfold bitAt
  rw [List.getElem?_replicate, if_pos (idx_lt hx), Option.getD_some, fullN_bit n _ (Nat.mod_lt _ (by omega)), decide_eq_true (by have := Nat.mod_le x 64; omega)]
theorem text_all2 : textS 2 (List.replicate (wordsN 2) (fullN 2)) = [50, 58, 102] := by decide +kernel
theorem text_single : textS 3 ((List.range (wordsN 3)).map (singW 3 0)) = [51, 58, 97, 97] := by decide +kernel
theorem below_new {B : Nat} {w w1 : World} (h : Below B w w1) (hB : B ≤ w.heap.size) (o : Obj) : Below B w (w1.alloc o) := h.alloc (Nat.le_trans hB h.size) o
/-- a set behind a new cell -/
theorem SetArg.alloc {w : World} {m : Int} {A : Option Addr} {len c : Nat} {ws : List Nat} (h : SetArg w m A len c ws) (o : Obj) : SetArg (w.alloc o) m A len c ws := h.on ((Below.refl _ _).alloc (Nat.le_refl _) o)
end Go.Proofs.YtbhbhfplpbcfiaaGreatDoor
end

section
namespace Go.Proofs.YtbhbhfplpbcfiaaGreatDoor
open Go.RowKit Go.Sort
set_option linter.unusedSimpArgs false
set_option linter.unusedVariables false

/-- a set in a cell -/
structure SetVar (w : World) (g : Nat) (m : Int) (A : Option Addr) (len c : Nat) (ws : List Nat) : Prop where
  blk : Blk w g 38 #[.int .i64 m, .slice A len c]
  arg : SetArg w m A len c ws
section
variable {w w' : World} {g : Nat} {m : Int} {A : Option Addr} {len c : Nat} {ws : List Nat}
theorem SetVar.on (h : SetVar w g m A len c ws) (hb : Below w.heap.size w w') : SetVar w' g m A len c ws := ⟨h.blk.onB hb, h.arg.on hb⟩
theorem SetVar.alloc (h : SetVar w g m A len c ws) (o : Obj) : SetVar (w.alloc o) g m A len c ws := ⟨h.blk.alloc o, h.arg.alloc o⟩
theorem SetVar.new (h : SetArg w m A len c ws) : SetVar (w.alloc (.cells #[.int .i64 m, .slice A len c] 38)) w.heap.size m A len c ws := ⟨Blk.new w _ _, h.alloc _⟩
theorem SetVar.c0 (h : SetVar w g m A len c ws) : w.cell? ⟨g, 0, none⟩ = some (.int .i64 m) := h.blk.cell 0
theorem SetVar.c1 (h : SetVar w g m A len c ws) : w.cell? ⟨g, 1, none⟩ = some (.slice A len c) := h.blk.cell 1
end
/-- what the statements look for: the code, or the table -/
def Ans (n : Nat) (code : Int) (t : List Bool) (m : Int) (len : Nat) (ws : List Nat) (er : Int) : Prop :=
  (code = 0 ∧ er = 0 ∧ n ≤ 16 ∧ m = n ∧ t.length = 2 ^ n ∧ ws = packT t) ∨ (1 ≤ code ∧ code ≤ 255 ∧ er = code ∧ m = 0 ∧ len = 0)
def SetAns (w : World) (n : Nat) (code : Int) (t : List Bool) (e : Ending) (w' : World) : Prop :=
  ∃ m A len c ws er, e = .returned (.tuple #[.agg #[.int .i64 m, .slice A len c], .int .u8 er]) ∧ SetArg w' m A len c ws ∧ Below w.heap.size w w' ∧ Ans n code t m len ws er
theorem SetErr.ans {w w' : World} {code : Int} {e : Ending} (h : SetErr w code e w') (h0 : 1 ≤ code) (h1 : code ≤ 255) (n : Nat) (t : List Bool) : SetAns w n code t e w' :=
  ⟨0, none, 0, 0, [], code, h.1, ⟨rfl, Nat.le_refl _, by unfold maxLen; omega, fun h => by simp at h, by simp, by decide⟩, h.2, .inr ⟨h0, h1, rfl, rfl, rfl⟩⟩
theorem SetRes2.ans {w w' : World} {n : Nat} {ws : List Nat} {e : Ending} (h : SetRes2 w n ws e w') (hok : SOk n ws) {t : List Bool} (ht : t.length = 2 ^ n) (hb : ∀ x, x < 2 ^ n → bitAt ws x = t[x]?.getD false) : SetAns w n 0 t e w' := by
  obtain ⟨b, rfl, hb1, hown, hl, hb2⟩ := h
  exact ⟨n, _, _, _, ws, 0, rfl, own_arg hown hl hok.lt hok.n16 (wordsN_le hok.n16), hb2, .inl ⟨rfl, rfl, hok.n16, rfl, ht, hok.eq_pack ht hb⟩⟩
/-- zero values so far made -/
structure Zs (W w : World) (N : Nat) (bs : List Nat) : Prop where
  bel : Below W.heap.size W w
  nd : bs.Nodup
  own : ∀ b ∈ bs, W.heap.size ≤ b ∧ OwnF Value.bool 4 w W.heap.size (.slice (some ⟨b, 0, none⟩) N N) (List.replicate N false)
theorem Zs.nil {W : World} {N : Nat} : Zs W W N [] := ⟨Below.refl _ _, List.nodup_nil, by simp⟩
theorem Zs.cons {W w w1 : World} {N : Nat} {bs : List Nat} (h : Zs W w N bs) (ho : OwnF Value.bool 4 w1 w.heap.size (.slice (some ⟨w.heap.size, 0, none⟩) N N) (List.replicate N false)) (hb : Below w.heap.size w w1) : Zs W w1 N (w.heap.size :: bs) := by
  have hs := h.bel.size
  refine ⟨h.bel.trans (hb.mono hs), List.nodup_cons.2 ⟨fun hm => ?_, h.nd⟩, fun b hm => ?_⟩
  · have := ((h.own _ hm).2.lt w.heap.size rfl).2
    omega
  · rcases List.mem_cons.1 hm with rfl | hm
    · exact ⟨hs, ho.mono hs⟩
    · exact ⟨(h.own _ hm).1, (h.own _ hm).2.below hb⟩
theorem Zs.drew {W w : World} {N : Nat} {bs : List Nat} (h : Zs W w N bs) : Zs W w.drew N bs := ⟨h.bel.drew, h.nd, fun b hb => ⟨(h.own b hb).1, (h.own b hb).2.drew⟩⟩
theorem Zs.perm {W w : World} {N : Nat} {bs cs : List Nat} (h : Zs W w N bs) (hc : cs.Nodup) (hs : ∀ b ∈ cs, b ∈ bs) : Zs W w N cs := ⟨h.bel, hc, fun b hb => h.own b (hs b hb)⟩
/-- a row filled so far -/
def fillB (g : Nat → Bool) (N k : Nat) : List Bool := (List.range N).map fun x => decide (x < k) && g x
theorem fillB_zero (g : Nat → Bool) (N : Nat) : fillB g N 0 = List.replicate N false := by
  unfold fillB
  apply List.ext_getElem (by simp)
  intro i h1 h2
  simp
theorem fillB_all (g : Nat → Bool) (N : Nat) : fillB g N N = (List.range N).map g := by
  unfold fillB
  apply List.map_congr_left
  intro i hi
  rw [decide_eq_true (by simpa using hi), Bool.true_and]
theorem fillB_length (g : Nat → Bool) (N k : Nat) : (fillB g N k).length = N := by simp [fillB]
theorem fillB_set (g : Nat → Bool) (N k : Nat) (h : k < N) : (fillB g N k).set k (g k) = fillB g N (k + 1) := by
  unfold fillB
  apply List.ext_getElem (by simp)
  intro i h1 h2
  simp only [List.getElem_set, List.getElem_map, List.getElem_range]
  by_cases he : k = i
  · subst he; simp
  · rw [if_neg he]
    congr 1
    rw [decide_eq_decide]
    omega
/-- the row of a list's assignments -/
def memB (N : Nat) (l : List Int) : List Bool := (List.range N).map fun x : Nat => decide ((x : Int) ∈ l)
theorem memB_length (N : Nat) (l : List Int) : (memB N l).length = N := by simp [memB]
theorem memB_nil (N : Nat) : memB N [] = List.replicate N false := by
  unfold memB
  apply List.ext_getElem (by simp)
  intro i h1 h2
  simp
theorem memB_snoc_in {N : Nat} {l : List Int} {x : Nat} (hx : x < N) : (memB N l).set x true = memB N (l ++ [(x : Int)]) := by
  unfold memB
  apply List.ext_getElem (by simp)
  intro i h1 h2
  simp only [List.getElem_set, List.getElem_map, List.getElem_range, List.mem_append, List.mem_singleton]
  by_cases he : x = i
  · subst he; simp
  · rw [if_neg he, decide_eq_decide]
    constructor
    · exact .inl
    · rintro (h | h)
      · exact h
      · omega
theorem memB_snoc_out {N : Nat} {l : List Int} {x : Int} (hx : x < 0 ∨ (N : Int) ≤ x) : memB N l = memB N (l ++ [x]) := by
  unfold memB
  apply List.map_congr_left
  intro i hi
  rw [decide_eq_decide]
  simp only [List.mem_append, List.mem_singleton, List.mem_range] at *
  constructor
  · exact .inl
  · rintro (h | h)
    · exact h
    · omega
end Go.Proofs.YtbhbhfplpbcfiaaGreatDoor
end

section
namespace Go.Proofs.YtbhbhfplpbcfiaaGreatDoor
open Go.RowKit Go.Sort
set_option linter.unusedSimpArgs false
set_option linter.unusedVariables false

theorem SetVar.box {w : World} {m : Int} {A : Option Addr} {len c : Nat} {ws : List Nat} (h : SetArg w m A len c ws) : SetVar (w.alloc (.cells #[.int .i64 m, .slice A len c] 38)) w.heap.size m A len c ws := SetVar.new h
def pairB (m m' : Int) (ws ws' : List Nat) : Bool := srightB m ws && srightB m' ws' && decide (m = m')
set_option maxRecDepth 100000 in
set_option maxHeartbeats 2000000 in
theorem spair_any (m m' : Int) (A A' : Option Addr) (len len' c c' : Nat) (ws ws' : List Nat) (w : World) (h : SetArg w m A len c ws) (h' : SetArg w m' A' len' c' ws') :
    Calls Tryz.prog 148 #[setA m A len c, setA m' A' len' c'] w fun e w' => e = .returned (.bool (pairB m m' ws ws')) ∧ Below w.heap.size w w' := by
  unfold setA
  obtain ⟨W, hW⟩ : ∃ W, W = (w.alloc (.cells #[.int .i64 m, .slice A len c] 38)).alloc (.cells #[.int .i64 m', .slice A' len' c'] 38) := ⟨_, rfl⟩
  have hbW : Below w.heap.size w W := by rw [hW]; exact ((Below.refl _ _).alloc (Nat.le_refl _) _).alloc (by simp) _
  have v1 : SetVar W w.heap.size m A len c ws := by rw [hW]; exact (SetVar.new h).alloc _
  have v2 : SetVar W (w.heap.size + 1) m' A' len' c' ws' := by
    rw [hW]
    have := SetVar.new (h'.alloc (.cells #[.int .i64 m, .slice A len c] 38))
    rwa [World.size_alloc] at this
  have HWW := Lib.hid hW
  have HbW := Lib.hid hbW
  have V1 := Lib.hid v1
  have V2 := Lib.hid v2
  have HR1 := Lib.hid (fun W' (h : SetArg W' m A len c ws) => sright_any m A len c ws W' h)
  have HR2 := Lib.hid (fun W' (h : SetArg W' m' A' len' c' ws') => sright_any m' A' len' c' ws' W' h)
  have hpb : pairB m m' ws ws' = (srightB m ws && srightB m' ws' && decide (m = m')) := rfl
  generalize pairB m m' ws ws' = r at *
  generalize srightB m ws = r1 at *
  generalize srightB m' ws' = r2 at *
  unfold setA at *
  have k0 := v1.c0
  have k1 := v1.c1
  have k2 := v2.c0
  have k3 := v2.c1
  clear h h' hbW v1 v2
  cases r1
  · have HP := Lib.hid hpb
    clear hpb
    go_enter Tryz.func148, Tryz.ntmps148
    go_wp2_with fail
    rw [← HWW.out]
    clear hW
    go_wp2_with fail
    refine (HR1.out _ V1.out.arg).mono ?_
    rintro e w1 ⟨rfl, hb1⟩
    go_wp2_with fail
    go_ret
    exact ⟨ret_bool (by rw [HP.out]; rfl), HbW.out.trans (hb1.mono HbW.out.size)⟩
  · cases r2
    · have HP := Lib.hid hpb
      clear hpb
      go_enter Tryz.func148, Tryz.ntmps148
      go_wp2_with fail
      rw [← HWW.out]
      clear hW
      go_wp2_with fail
      refine (HR1.out _ V1.out.arg).mono ?_
      rintro e w1 ⟨rfl, hb1⟩
      have V2' := Lib.hid (V2.out.on hb1)
      have j2 := V2'.out.c0
      have j3 := V2'.out.c1
      go_wp2_with fail
      refine (HR2.out _ V2'.out.arg).mono ?_
      rintro e w2 ⟨rfl, hb2⟩
      go_wp2_with fail
      go_ret
      exact ⟨ret_bool (by rw [HP.out]; rfl), HbW.out.trans ((hb1.trans (hb2.mono hb1.size)).mono HbW.out.size)⟩
    · have hd : (m == m') = r := by
        rw [hpb, Bool.true_and, Bool.true_and, Bool.eq_iff_iff, beq_iff_eq, decide_eq_true_eq]
      clear hpb
      go_enter Tryz.func148, Tryz.ntmps148
      go_wp2_with fail
      rw [← HWW.out]
      clear hW
      go_wp2_with fail
      refine (HR1.out _ V1.out.arg).mono ?_
      rintro e w1 ⟨rfl, hb1⟩
      have V1' := Lib.hid (V1.out.on hb1)
      have V2' := Lib.hid (V2.out.on hb1)
      have j2 := V2'.out.c0
      have j3 := V2'.out.c1
      clear k0 k1 k2 k3
      go_wp2_with fail
      refine (HR2.out _ V2'.out.arg).mono ?_
      rintro e w2 ⟨rfl, hb2⟩
      have k0 := (V1'.out.on hb2).c0
      have k2 := (V2'.out.on hb2).c0
      have HE := Lib.hid (HbW.out.trans ((hb1.trans (hb2.mono hb1.size)).mono HbW.out.size))
      clear j2 j3 hb1 hb2
      go_wp2_with fail
      go_ret
      exact ⟨ret_bool (by first | exact hd | rfl | simp [*]), HE.out⟩
/-- one of the four words -/
def opX (a b : Nat) : Nat → Nat
  | 0 => (18446744073709551615 - a) &&& (18446744073709551615 - b)
  | 1 => (18446744073709551615 - a) &&& b
  | 2 => a &&& (18446744073709551615 - b)
  | _ => a &&& b
def opAcc (o a b : Nat) : Nat → Nat
  | 0 => 0
  | k + 1 => if o.testBit k then opAcc o a b k ||| opX a b k else opAcc o a b k
def opW (o a b : Nat) : Nat := opAcc o a b 4
theorem opX_lt {a b : Nat} (ha : a < 18446744073709551616) (hb : b < 18446744073709551616) : ∀ k, opX a b k < 18446744073709551616
  | 0 => Nat.lt_of_le_of_lt Nat.and_le_left (by omega)
  | 1 => Nat.lt_of_le_of_lt Nat.and_le_right hb
  | 2 => Nat.lt_of_le_of_lt Nat.and_le_left ha
  | k + 3 => Nat.lt_of_le_of_lt Nat.and_le_left ha
theorem opAcc_lt {o a b : Nat} (ha : a < 18446744073709551616) (hb : b < 18446744073709551616) : ∀ k, opAcc o a b k < 18446744073709551616
  | 0 => by simp [opAcc]
  | k + 1 => by
    rw [opAcc]
    split
    · exact Nat.or_lt_two_pow (n := 64) (opAcc_lt ha hb k) (opX_lt ha hb k)
    · exact opAcc_lt ha hb k
theorem not_bit {a j : Nat} (ha : a < 18446744073709551616) (hj : j < 64) : (18446744073709551615 - a).testBit j = !a.testBit j := by
  have h := Nat.testBit_two_pow_sub_succ (x := a) (n := 64) ha j
  rw [show 2 ^ 64 - (a + 1) = 18446744073709551615 - a by omega] at h
  rw [h, decide_eq_true hj, Bool.true_and]
theorem opW_bit {o a b j : Nat} (ha : a < 18446744073709551616) (hb : b < 18446744073709551616) (hj : j < 64) : (opW o a b).testBit j = o.testBit (2 * (a.testBit j).toNat + (b.testBit j).toNat) := by
  unfold opW
  simp only [opAcc]
  have e0 : (opX a b 0).testBit j = (!a.testBit j && !b.testBit j) := by rw [opX, Nat.testBit_and, not_bit ha hj, not_bit hb hj]
  have e1 : (opX a b 1).testBit j = (!a.testBit j && b.testBit j) := by rw [opX, Nat.testBit_and, not_bit ha hj]
  have e2 : (opX a b 2).testBit j = (a.testBit j && !b.testBit j) := by rw [opX, Nat.testBit_and, not_bit hb hj]
  have e3 : (opX a b 3).testBit j = (a.testBit j && b.testBit j) := by show (a &&& b).testBit j = _; rw [Nat.testBit_and]
  generalize opX a b 0 = x0 at *
  generalize opX a b 1 = x1 at *
  generalize opX a b 2 = x2 at *
  generalize opX a b 3 = x3 at *
  generalize a.testBit j = p at *
  generalize b.testBit j = q at *
  cases h0 : o.testBit 0 <;> cases h1 : o.testBit 1 <;> cases h2 : o.testBit 2 <;> cases h3 : o.testBit 3 <;> cases p <;> cases q <;> simp [e0, e1, e2, e3, h0, h1, h2, h3]
theorem run_index_arr {P : Program} (w : World) (t e : TypeId) (n : Nat) (cs : Array Value) (k : IntKind) (i : Nat) (h : P.underlying t = some (.array n e)) (hi : i < n) (hs : ∀ w, (Go.sizeOf e).run P w = .ok 1 w) (ha : ∀ w, (isAgg e).run P w = .ok false w) (v : Value) (hv : cs[i]? = some v) :
    (Instr.index t (.agg cs) (.int k (i : Int))).run P w = .ok v w := by
  simp [Instr.index, run_underlying h, asIntOf, hi, hs, ha, hv, go_sem, Result.andThen]
theorem size_u64 (w : World) : (Go.sizeOf 141).run Tryz.prog w = .ok 1 w := by kernel_rfl
theorem agg_u64 (w : World) : (isAgg 141).run Tryz.prog w = .ok false w := by kernel_rfl
theorem opX_at (X : Nat → Nat) (k : Nat) (hk : k < 4) (w : World) : (Instr.index 237 (.agg #[.int .u64 (X 0 : Nat), .int .u64 (X 1 : Nat), .int .u64 (X 2 : Nat), .int .u64 (X 3 : Nat)]) (.int .i64 (k : Int))).run Tryz.prog w = .ok (.int .u64 (X k : Nat)) w := by
  refine run_index_arr w _ _ 4 _ .i64 k Tryz.underlying237 hk size_u64 agg_u64 _ ?_
  have h : k = 0 ∨ k = 1 ∨ k = 2 ∨ k = 3 := by omega
  rcases h with rfl | rfl | rfl | rfl <;> rfl
set_option maxRecDepth 100000 in
set_option maxHeartbeats 4000000 in
theorem sop_any (o a b : Nat) (ho : o ≤ 15) (ha : a < 18446744073709551616) (hb : b < 18446744073709551616) (w : World) : Calls Tryz.prog 150 #[.int .i64 (o : Nat), .int .u64 (a : Nat), .int .u64 (b : Nat)] w fun e w' => e = .returned (.int .u64 (opW o a b : Nat)) ∧ w = w' := by
  have hna := not_u64 a ha
  have hnb := not_u64 b hb
  have x0 := u64_and_nat (18446744073709551615 - a) (18446744073709551615 - b) (by omega) (by omega)
  have x1 := u64_and_nat (18446744073709551615 - a) b (by omega) hb
  have x2 := u64_and_nat a (18446744073709551615 - b) ha (by omega)
  have x3 := u64_and_nat a b ha hb
  have e0 : opX a b 0 = (18446744073709551615 - a) &&& (18446744073709551615 - b) := rfl
  have e1 : opX a b 1 = (18446744073709551615 - a) &&& b := rfl
  have e2 : opX a b 2 = a &&& (18446744073709551615 - b) := rfl
  have e3 : opX a b 3 = a &&& b := rfl
  rw [← e0] at x0
  rw [← e1] at x1
  rw [← e2] at x2
  rw [← e3] at x3
  have HXL := Lib.hid (fun k => opX_lt ha hb k)
  have HAL := Lib.hid (fun k => opAcc_lt (o := o) ha hb k)
  have HST := Lib.hid (fun k => (show opAcc o a b (k + 1) = if o.testBit k then opAcc o a b k ||| opX a b k else opAcc o a b k from rfl))
  have HE := Lib.hid (show opW o a b = opAcc o a b 4 from rfl)
  have HA0 := Lib.hid (show opAcc o a b 0 = 0 from rfl)
  generalize opW o a b = r at *
  generalize opAcc o a b = acc at *
  generalize opX a b = X at *
  generalize 18446744073709551615 - a = na at *
  generalize 18446744073709551615 - b = nb at *
  clear e0 e1 e2 e3
  go_enter Tryz.func150, Tryz.ntmps150
  go_wp2_with fail
  go_loop [7, 27] (fun q i => ∃ k : Nat, k ≤ 4 ∧ i = .int .i64 k ∧ q = .int .u64 (acc k : Nat)) (fun _ i => 4 - (intOf i).toNat)
  case atStart => exact ⟨0, Nat.zero_le _, rfl, by rw [HA0.out]; rfl⟩
  case round =>
    obtain ⟨k, hk, rfl, rfl⟩ := hrel
    have hst := HST.out k
    have hl := HAL.out k
    have hor := u64_or_nat (acc k) (X k) hl (HXL.out k)
    have hbt := bit_testV o k (by omega)
    obtain ⟨z, hz⟩ : ∃ z, z = acc (k + 1) := ⟨_, rfl⟩
    rw [← hz] at hst
    have HZ := Lib.hid hz
    clear hz
    by_cases hlt : k < 4
    · have hix := fun W => opX_at X k hlt W
      have hxl := HXL.out k
      cases hb : o.testBit k
      · rw [hb] at hst hbt
        simp only [Bool.false_eq_true, if_false] at hst hbt
        have HS := Lib.hid hst
        clear hb hst hor
        go_wp2_with fail
        go_round
        case rel => exact ⟨k + 1, by omega, by go_num, by rw [← HZ.out, HS.out]⟩
        case measure => simp [intOf]; omega
      · rw [hb] at hst hbt
        simp only [if_true] at hst hbt
        rw [← hst] at hor
        clear hb hst
        go_wp2_with fail
        go_round
        case rel => exact ⟨k + 1, by omega, by go_num, by rw [← HZ.out]⟩
        case measure => simp [intOf]; omega
    · obtain rfl : k = 4 := by omega
      clear hst hor hbt
      rw [← HE.out]
      go_wp2_with fail
      go_ret
      exact ⟨rfl, rfl⟩
end Go.Proofs.YtbhbhfplpbcfiaaGreatDoor
end

section
namespace Go.Proofs.YtbhbhfplpbcfiaaGreatDoor
open Go.RowKit Go.Sort
set_option linter.unusedSimpArgs false
set_option linter.unusedVariables false

theorem own_cell {α : Type} {f : α → Value} {E : TypeId} {w : World} {base g n cap : Nat} {xs : List α} (h : OwnF f E w base (.slice (some ⟨g, 0, none⟩) n cap) xs) (k : Nat) (hk : k < xs.length) : ∃ u, w.cell? ⟨g, k, none⟩ = some (f u) ∧ w.frozen? ⟨g, k, none⟩ = false := by
  have h1 := h.at_ k hk
  rw [List.getElem?_eq_getElem hk] at h1
  exact ⟨_, h1⟩
theorem pair_ok {n : Nat} {ws ws' : List Nat} (h : SOk n ws) (h' : SOk n ws') : pairB (n : Int) (n : Int) ws ws' = true := by
  unfold pairB
  rw [(sright_iff h.lt).2 ⟨by omega, by simpa using h⟩, (sright_iff h'.lt).2 ⟨by omega, by simpa using h'⟩]
  simp
theorem pair_yes {m m' : Int} {ws ws' : List Nat} (hlt : ∀ v ∈ ws, v < 18446744073709551616) (hlt' : ∀ v ∈ ws', v < 18446744073709551616) (h : pairB m m' ws ws' = true) : ∃ n : Nat, m = n ∧ m' = n ∧ SOk n ws ∧ SOk n ws' := by
  unfold pairB at h
  rw [Bool.and_eq_true, Bool.and_eq_true, decide_eq_true_eq] at h
  obtain ⟨⟨h1, h2⟩, rfl⟩ := h
  obtain ⟨h0, h1⟩ := (sright_iff hlt).1 h1
  obtain ⟨_, h2⟩ := (sright_iff hlt').1 h2
  exact ⟨m.toNat, by omega, by omega, h1, h2⟩
/-- the argument's words, in later memory -/
theorem SetArg.word {w w' : World} {m : Int} {A : Option Addr} {len c : Nat} {ws : List Nat} (h : SetArg w m A len c ws) (hl : 0 < len) : ∃ b off, A = some ⟨b, off, none⟩ ∧ b < w.heap.size ∧ ∀ w' k, Below w.heap.size w w' → k < len → w'.cell? ⟨b, off + k, none⟩ = some (.int .u64 (wat ws k : Nat)) := by
  obtain ⟨b, off, rfl, hb, hcell⟩ := h.row (by rw [h.hlen]; exact hl)
  exact ⟨b, off, rfl, hb, fun w' k hw hk => (hw.cell (p := ⟨b, off + k, none⟩) hb).trans (hcell k (by rw [h.hlen]; exact hk))⟩
set_option maxRecDepth 100000 in
set_option maxHeartbeats 8000000 in
theorem sopS_any (o : Nat) (ho : o ≤ 15) (n : Nat) (A A' : Option Addr) (len len' c c' : Nat) (ws ws' : List Nat) (w : World) (h : SetArg w n A len c ws) (h' : SetArg w n A' len' c' ws') (hok : SOk n ws) (hok' : SOk n ws') :
    Calls Tryz.prog 144 #[.int .i64 (o : Nat), setA n A len c, setA n A' len' c'] w (SetRes2 w n ((List.range (wordsN n)).map fun k => opW o (wat ws k) (wat ws' k) &&& fullN n)) := by
  have hn := hok.n16
  obtain rfl : len = wordsN n := by rw [← h.hlen, hok.len]
  obtain rfl : len' = wordsN n := by rw [← h'.hlen, hok'.len]
  have hm := wordsN_le hn
  have hm1 := wordsN_pos n
  have hc1 := h.hcap
  have hc2 := h.hmax
  have hc3 := h'.hcap
  have hc4 := h'.hmax
  unfold maxLen at hc2 hc4
  have hpr := fun W' (h1 : SetArg W' n A (wordsN n) c ws) (h2 : SetArg W' n A' (wordsN n) c' ws') => spair_any n n A A' (wordsN n) (wordsN n) c c' ws ws' W' h1 h2
  rw [pair_ok hok hok'] at hpr
  have HPR := Lib.hid hpr
  have HBL := Lib.hid (fun W => sblank_any n hn W)
  have HFU := Lib.hid (fun W => sfull_any n hn W)
  have hfl := fullN_lt n
  have HOP := Lib.hid (fun W k => sop_any o (wat ws k) (wat ws' k) ho (wat_lt hok.lt k) (wat_lt hok'.lt k) W)
  have HAN := Lib.hid (fun k => u64_and_nat (opW o (wat ws k) (wat ws' k)) (fullN n) (opAcc_lt (wat_lt hok.lt k) (wat_lt hok'.lt k) 4) hfl)
  obtain ⟨g, hg⟩ : ∃ g : Nat → Nat, g = fun k => opW o (wat ws k) (wat ws' k) &&& fullN n := ⟨_, rfl⟩
  rw [← hg]
  have HG := Lib.hid (fun k => congrFun hg k)
  have hv1 := SetVar.new h
  have hv2 := SetVar.new (h'.alloc (.cells #[.int .i64 (n : Nat), .slice A (wordsN n) c] 38))
  rw [World.size_alloc] at hv2
  obtain ⟨b1, off1, rfl, hb1, hword1⟩ := h.word (w' := w) hm1
  obtain ⟨b2, off2, rfl, hb2, hword2⟩ := h'.word (w' := w) hm1
  have HW1 := Lib.hid hword1
  have HW2 := Lib.hid hword2
  unfold SetRes2 setV setA U at *
  generalize fullN n = f at *
  generalize wordsN n = m at *
  obtain ⟨W, hW⟩ : ∃ W, W = ((w.alloc (.cells #[.int .i64 (n : Nat), .slice (some ⟨b1, off1, none⟩) m c] 38)).alloc (.cells #[.int .i64 (n : Nat), .slice (some ⟨b2, off2, none⟩) m c'] 38)).alloc (.cells #[.int .i64 0, .slice none 0 0] 38) := ⟨_, rfl⟩
  have hbW : Below w.heap.size w W := by rw [hW]; exact (((Below.refl _ _).alloc (Nat.le_refl _) _).alloc (by simp) _).alloc (by simp; omega) _
  have hV1 : SetVar W w.heap.size n (some ⟨b1, off1, none⟩) m c ws := by rw [hW]; exact (hv1.alloc _).alloc _
  have hV2 : SetVar W (w.heap.size + 1) n (some ⟨b2, off2, none⟩) m c' ws' := by rw [hW]; exact hv2.alloc _
  have hR : Blk W (w.heap.size + 2) 38 #[.int .i64 0, .slice none 0 0] := by
    rw [hW]
    have := Blk.new ((w.alloc (.cells #[.int .i64 (n : Nat), .slice (some ⟨b1, off1, none⟩) m c] 38)).alloc (.cells #[.int .i64 (n : Nat), .slice (some ⟨b2, off2, none⟩) m c'] 38)) 38 #[.int .i64 0, .slice none 0 0]
    rwa [World.size_alloc, World.size_alloc] at this
  have hWs : W.heap.size = w.heap.size + 3 := by rw [hW]; simp
  have HWW := Lib.hid hW
  have HbW := Lib.hid hbW
  have HWS := Lib.hid hWs
  have V1 := Lib.hid hV1
  have V2 := Lib.hid hV2
  have HR := Lib.hid hR
  clear h h' hbW hword1 hword2 hWs hV1 hV2 hR hv1 hv2 hg hpr hok hok'
  have k10 := V1.out.c0
  have k11 := V1.out.c1
  have k20 := V2.out.c0
  have k21 := V2.out.c1
  go_enter Tryz.func144, Tryz.ntmps144
  go_wp2_with fail
  rw [← HWW.out]
  clear hW
  go_wp2_with fail
  refine (HPR.out _ V1.out.arg V2.out.arg).mono ?_
  rintro e w1 ⟨rfl, hb1'⟩
  have V1' := Lib.hid (V1.out.on hb1')
  have V2' := Lib.hid (V2.out.on hb1')
  have HR' := Lib.hid (HR.out.onB hb1')
  have HB1 := Lib.hid (HbW.out.trans (hb1'.mono HbW.out.size))
  have HS1 : Hid (w.heap.size + 3 ≤ w1.heap.size) := Lib.hid (by have := hb1'.size; have := HWS.out; omega)
  clear k10 k11 k20 k21 V1 V2 HR hb1'
  have k10 := V1'.out.c0
  go_wp2_with fail
  refine (HBL.out _).mono ?_
  rintro e w2 ⟨b, rfl, hb, hown, hb2'⟩
  have hA := V1'.out.blk.onB hb2'
  have hB := V2'.out.blk.onB hb2'
  have hR := HR'.out.onB hb2'
  obtain ⟨V, hV⟩ : ∃ V, V = w2.alloc (.cells #[.int .i64 (n : Nat), .slice (some ⟨b, 0, none⟩) m m] 38) := ⟨_, rfl⟩
  have hblt := (hown.lt b rfl).2
  have S : Hid (Blk V w.heap.size 38 #[.int .i64 (n : Nat), .slice (some ⟨b1, off1, none⟩) m c] ∧ Blk V (w.heap.size + 1) 38 #[.int .i64 (n : Nat), .slice (some ⟨b2, off2, none⟩) m c'] ∧ Blk V (w.heap.size + 2) 38 #[.int .i64 0, .slice none 0 0] ∧ Blk V w2.heap.size 38 #[.int .i64 (n : Nat), .slice (some ⟨b, 0, none⟩) m m] ∧
      OwnF (fun x : Nat => .int .u64 (x : Int)) 141 V w.heap.size (.slice (some ⟨b, 0, none⟩) m m) (filled g m 0) ∧ Below w.heap.size w V) := Lib.hid (by
    rw [hV]
    refine ⟨hA.alloc _, hB.alloc _, hR.alloc _, Blk.new w2 _ _, ?_, ?_⟩
    · rw [filled_zero]
      exact (hown.mono (by have := HS1.out; omega)).alloc _
    · exact below_new (HB1.out.trans (hb2'.mono HB1.out.size)) (Nat.le_refl _) _)
  have HNE : Hid (w.heap.size + 3 ≤ b ∧ b < w2.heap.size) := Lib.hid ⟨by have := HS1.out; omega, hblt⟩
  have HVV := Lib.hid hV
  have hl2 : w1.heap.size ≤ w2.heap.size := hb2'.size
  have HL2 := Lib.hid hl2
  clear hA hB hR hown hb2' hb hblt k10 V1' V2' HR' hl2 hV
  go_wp2_with fail
  rw [← HVV.out]
  have kO := S.out.2.2.2.1.cell 1
  go_wp2_with fail
  clear kO
  go_loopw [29] (fun i wr => ∃ k : Nat, k ≤ m ∧ i = .int .i64 k ∧ Blk wr w.heap.size 38 #[.int .i64 (n : Nat), .slice (some ⟨b1, off1, none⟩) m c] ∧ Blk wr (w.heap.size + 1) 38 #[.int .i64 (n : Nat), .slice (some ⟨b2, off2, none⟩) m c'] ∧ Blk wr (w.heap.size + 2) 38 #[.int .i64 0, .slice none 0 0] ∧ Blk wr w2.heap.size 38 #[.int .i64 (n : Nat), .slice (some ⟨b, 0, none⟩) m m] ∧
      OwnF (fun x : Nat => .int .u64 (x : Int)) 141 wr w.heap.size (.slice (some ⟨b, 0, none⟩) m m) (filled g m k) ∧ Below w.heap.size w wr) (fun i _ => m - (intOf i).toNat)
  case atStart => exact ⟨0, Nat.zero_le _, rfl, S.out⟩
  case round =>
    obtain ⟨k, hk, rfl, hA, hB, hR, hO, hown, hbw⟩ := hrel
    have R := Lib.hid (And.intro hA (And.intro hB (And.intro hR (And.intro hO (And.intro hown hbw)))))
    by_cases hlt : k < m
    · have v1 := HW1.out wr k hbw hlt
      have v2 := HW2.out wr k hbw hlt
      have kO : wr.cell? ⟨w2.heap.size, 1, none⟩ = some (.slice (some ⟨b, 0, none⟩) m m) := hO.cell 1
      have kA0 : wr.cell? ⟨w.heap.size, 0, none⟩ = some (.int .i64 (n : Nat)) := hA.cell 0
      have kA : wr.cell? ⟨w.heap.size, 1, none⟩ = some (.slice (some ⟨b1, off1, none⟩) m c) := hA.cell 1
      have kB : wr.cell? ⟨w.heap.size + 1, 1, none⟩ = some (.slice (some ⟨b2, off2, none⟩) m c') := hB.cell 1
      obtain ⟨uo, kc, kz⟩ := own_cell hown k (by rw [filled_length]; exact hlt)
      have hop := fun W => HOP.out W k
      have han := HAN.out k
      have hgk := HG.out k
      rw [← hgk] at han
      generalize opW o (wat ws k) (wat ws' k) = ow at *
      generalize wat ws k = a1 at *
      generalize wat ws' k = a2 at *
      have HOPK := Lib.hid hop
      clear hA hB hR hO hown hbw hop hgk
      go_wp2_with fail
      go_still_tail 20, (by kernel_rfl)
      still_call ((HOPK.out _).mono fun _ _ ⟨a, b⟩ => ⟨a, b.symm⟩)
      repeat still_step
      still_call ((HFU.out _).mono fun _ _ ⟨a, b⟩ => ⟨a, b.symm⟩)
      repeat still_step
      refine wpStill_nil ?_
      go_wp2_with fail
      go_roundw
      case rel =>
        obtain ⟨hA, hB, hR, hO, hown, hbw⟩ := R.out
        have hst := hown.set_ k (g k)
        rw [filled_set _ _ _ hlt] at hst
        exact ⟨k + 1, by omega, by go_num, hA.store (by have := HNE.out; omega) k _, hB.store (by have := HNE.out; omega) k _, hR.store (by have := HNE.out; omega) k _, hO.store (by have := HNE.out; omega) k _, hst, (hbw.setCell (p := ⟨b, k, none⟩) (by have := HNE.out; simp only; omega) _).drew⟩
      case measure => simp [intOf]; omega
    · obtain rfl : k = m := by omega
      have kO0 : wr.cell? ⟨w2.heap.size, 0, none⟩ = some (.int .i64 (n : Nat)) := hO.cell 0
      have kO1 : wr.cell? ⟨w2.heap.size, 1, none⟩ = some (.slice (some ⟨b, 0, none⟩) k k) := hO.cell 1
      have kR0 : wr.cell? ⟨w.heap.size + 2, 0, none⟩ = some (.int .i64 0) := hR.cell 0
      have kR1 : wr.cell? ⟨w.heap.size + 2, 1, none⟩ = some (.slice none 0 0) := hR.cell 1
      have z0 := hR.frozen 0
      have z1 := hR.frozen 1
      clear hA hB hR hO hown hbw
      go_wp2_with fail
      refine bodyPost_ret (v := .tuple #[.agg #[.int .i64 (n : Nat), .slice (some ⟨b, 0, none⟩) k k], .int .u8 0]) ?_ rfl ⟨b, rfl, by have := HNE.out; omega, ?_, by simp, ?_⟩
      · simp [results, Tryz.results144, go_sem, *]
      · obtain ⟨hA, hB, hR, hO, hown, hbw⟩ := R.out
        rw [filled_all] at hown
        exact (hown.set_below' (by have := HNE.out; simp only; omega) _).set_below' (by have := HNE.out; simp only; omega) _
      · obtain ⟨hA, hB, hR, hO, hown, hbw⟩ := R.out
        exact (hbw.setCell (by simp only; omega) _).setCell (by simp only; omega) _
end Go.Proofs.YtbhbhfplpbcfiaaGreatDoor
end

section
namespace Go.Proofs.YtbhbhfplpbcfiaaGreatDoor
open Go.RowKit Go.Sort
set_option linter.unusedSimpArgs false
set_option linter.unusedVariables false

set_option maxRecDepth 100000 in
set_option maxHeartbeats 4000000 in
theorem sopS_no (o m m' : Int) (A A' : Option Addr) (len len' c c' : Nat) (ws ws' : List Nat) (w : World) (h : SetArg w m A len c ws) (h' : SetArg w m' A' len' c' ws') (hno : ¬ (pairB m m' ws ws' = true ∧ 0 ≤ o ∧ o ≤ 15)) :
    Calls Tryz.prog 144 #[.int .i64 o, setA m A len c, setA m' A' len' c'] w (SetErr w 1) := by
  have HPR := Lib.hid (fun W' (h1 : SetArg W' m A len c ws) (h2 : SetArg W' m' A' len' c' ws') => spair_any m m' A A' len len' c c' ws ws' W' h1 h2)
  unfold SetErr
  have hv1 := SetVar.new h
  have hv2 := SetVar.new (h'.alloc (.cells #[.int .i64 m, .slice A len c] 38))
  rw [World.size_alloc] at hv2
  unfold setA at *
  obtain ⟨W, hW⟩ : ∃ W, W = ((w.alloc (.cells #[.int .i64 m, .slice A len c] 38)).alloc (.cells #[.int .i64 m', .slice A' len' c'] 38)).alloc (.cells #[.int .i64 0, .slice none 0 0] 38) := ⟨_, rfl⟩
  have hbW : Below w.heap.size w W := by rw [hW]; exact (((Below.refl _ _).alloc (Nat.le_refl _) _).alloc (by simp) _).alloc (by simp; omega) _
  have hV1 : SetVar W w.heap.size m A len c ws := by rw [hW]; exact (hv1.alloc _).alloc _
  have hV2 : SetVar W (w.heap.size + 1) m' A' len' c' ws' := by rw [hW]; exact hv2.alloc _
  have hR : Blk W (w.heap.size + 2) 38 #[.int .i64 0, .slice none 0 0] := by
    rw [hW]
    have := Blk.new ((w.alloc (.cells #[.int .i64 m, .slice A len c] 38)).alloc (.cells #[.int .i64 m', .slice A' len' c'] 38)) 38 #[.int .i64 0, .slice none 0 0]
    rwa [World.size_alloc, World.size_alloc] at this
  have HWW := Lib.hid hW
  have HbW := Lib.hid hbW
  have V1 := Lib.hid hV1
  have V2 := Lib.hid hV2
  have HR := Lib.hid hR
  generalize pairB m m' ws ws' = pb at *
  have hc : pb = false ∨ (pb = true ∧ o < 0) ∨ (pb = true ∧ ¬ o < 0 ∧ 15 < o) := by
    cases pb
    · exact .inl rfl
    · simp at hno; right; by_cases h0 : o < 0
      · exact .inl ⟨rfl, h0⟩
      · exact .inr ⟨rfl, h0, by omega⟩
  clear h h' hbW hV1 hV2 hR hv1 hv2 hno
  have k10 := V1.out.c0
  have k11 := V1.out.c1
  have k20 := V2.out.c0
  have k21 := V2.out.c1
  rcases hc with rfl | ⟨rfl, ho⟩ | ⟨rfl, ho0, ho⟩
  all_goals
    go_enter Tryz.func144, Tryz.ntmps144
    go_wp2_with fail
    rw [← HWW.out]
    clear hW
    go_wp2_with fail
    refine (HPR.out _ V1.out.arg V2.out.arg).mono ?_
    rintro e w1 ⟨rfl, hb1'⟩
    have hR := HR.out.onB hb1'
    have n0 : w1.cell? ⟨w.heap.size + 2, 0, none⟩ = some (.int .i64 0) := hR.cell 0
    have n1 : w1.cell? ⟨w.heap.size + 2, 1, none⟩ = some (.slice none 0 0) := hR.cell 1
    have z0 := hR.frozen 0
    have z1 := hR.frozen 1
    have HB := Lib.hid (HbW.out.trans (hb1'.mono HbW.out.size))
    clear hR hb1' k10 k11 k20 k21
    go_wp2_with fail
    refine bodyPost_ret (v := .tuple #[.agg #[.int .i64 0, .slice none 0 0], .int .u8 1]) ?_ rfl ⟨rfl, ?_⟩
    · simp [results, Tryz.results144, go_sem, *]
    · first | exact HB.out | exact (HB.out.setCell (by simp only; omega) _).setCell (by simp only; omega) _
end Go.Proofs.YtbhbhfplpbcfiaaGreatDoor
end

section
namespace Go.Proofs.YtbhbhfplpbcfiaaGreatDoor
open Go.RowKit Go.Sort
set_option linter.unusedSimpArgs false
set_option linter.unusedVariables false

def iteW (a b c : Nat) : Nat := (a &&& b) ||| (c &&& (18446744073709551615 - a))
theorem iteW_lt {a b c : Nat} (ha : a < 18446744073709551616) (hc : c < 18446744073709551616) : iteW a b c < 18446744073709551616 :=
  Nat.or_lt_two_pow (n := 64) (Nat.lt_of_le_of_lt Nat.and_le_left ha) (Nat.lt_of_le_of_lt Nat.and_le_left hc)
theorem iteW_bit {a b c j : Nat} (ha : a < 18446744073709551616) (hj : j < 64) : (iteW a b c).testBit j = if a.testBit j then b.testBit j else c.testBit j := by
  unfold iteW
  rw [Nat.testBit_or, Nat.testBit_and, Nat.testBit_and, not_bit ha hj]
  cases a.testBit j <;> simp
set_option maxRecDepth 100000 in
set_option maxHeartbeats 8000000 in
theorem site_any (n : Nat) (A1 A2 A3 : Option Addr) (l1 l2 l3 c1 c2 c3 : Nat) (ws1 ws2 ws3 : List Nat) (w : World) (h1 : SetArg w n A1 l1 c1 ws1) (h2 : SetArg w n A2 l2 c2 ws2) (h3 : SetArg w n A3 l3 c3 ws3) (ok1 : SOk n ws1) (ok2 : SOk n ws2) (ok3 : SOk n ws3) :
    Calls Tryz.prog 244 #[setA n A1 l1 c1, setA n A2 l2 c2, setA n A3 l3 c3] w (SetRes w n ((List.range (wordsN n)).map fun k => iteW (wat ws1 k) (wat ws2 k) (wat ws3 k))) := by
  have hn := ok1.n16
  obtain rfl : l1 = wordsN n := by rw [← h1.hlen, ok1.len]
  obtain rfl : l2 = wordsN n := by rw [← h2.hlen, ok2.len]
  obtain rfl : l3 = wordsN n := by rw [← h3.hlen, ok3.len]
  have hm := wordsN_le hn
  have hm1 := wordsN_pos n
  have hc1 := h1.hcap
  have hd1 := h1.hmax
  have hc2 := h2.hcap
  have hd2 := h2.hmax
  have hc3 := h3.hcap
  have hd3 := h3.hmax
  unfold maxLen at hd1 hd2 hd3
  have HBL := Lib.hid (fun W => sblank_any n hn W)
  have hlt1 := fun k => wat_lt ok1.lt k
  have hlt2 := fun k => wat_lt ok2.lt k
  have hlt3 := fun k => wat_lt ok3.lt k
  have HX1 := Lib.hid (fun k => u64_and_nat (wat ws1 k) (wat ws2 k) (hlt1 k) (hlt2 k))
  have HX2 := Lib.hid (fun k => u64_andNot_nat (wat ws3 k) (wat ws1 k) (hlt3 k) (hlt1 k))
  have HX3 := Lib.hid (fun k => u64_or_nat (wat ws1 k &&& wat ws2 k) (wat ws3 k &&& (18446744073709551615 - wat ws1 k)) (Nat.lt_of_le_of_lt Nat.and_le_left (hlt1 k)) (Nat.lt_of_le_of_lt Nat.and_le_left (hlt3 k)))
  obtain ⟨g, hg⟩ : ∃ g : Nat → Nat, g = fun k => iteW (wat ws1 k) (wat ws2 k) (wat ws3 k) := ⟨_, rfl⟩
  rw [← hg]
  have HG : Hid (∀ k, g k = (wat ws1 k &&& wat ws2 k) ||| (wat ws3 k &&& (18446744073709551615 - wat ws1 k))) := Lib.hid (fun k => congrFun hg k)
  have hv1 := SetVar.new h1
  have hv2 := SetVar.new (h2.alloc (.cells #[.int .i64 (n : Nat), .slice A1 (wordsN n) c1] 38))
  have hv3 := SetVar.new ((h3.alloc (.cells #[.int .i64 (n : Nat), .slice A1 (wordsN n) c1] 38)).alloc (.cells #[.int .i64 (n : Nat), .slice A2 (wordsN n) c2] 38))
  simp only [World.size_alloc] at hv2 hv3
  obtain ⟨b1, off1, rfl, hb1, hword1⟩ := h1.word (w' := w) hm1
  obtain ⟨b2, off2, rfl, hb2, hword2⟩ := h2.word (w' := w) hm1
  obtain ⟨b3, off3, rfl, hb3, hword3⟩ := h3.word (w' := w) hm1
  have HW1 := Lib.hid hword1
  have HW2 := Lib.hid hword2
  have HW3 := Lib.hid hword3
  unfold SetRes setV setA U at *
  generalize wordsN n = m at *
  obtain ⟨W, hW⟩ : ∃ W, W = (((w.alloc (.cells #[.int .i64 (n : Nat), .slice (some ⟨b1, off1, none⟩) m c1] 38)).alloc (.cells #[.int .i64 (n : Nat), .slice (some ⟨b2, off2, none⟩) m c2] 38)).alloc (.cells #[.int .i64 (n : Nat), .slice (some ⟨b3, off3, none⟩) m c3] 38)).alloc (.cells #[.int .i64 0, .slice none 0 0] 38) := ⟨_, rfl⟩
  have hbW : Below w.heap.size w W := by rw [hW]; exact ((((Below.refl _ _).alloc (Nat.le_refl _) _).alloc (by simp) _).alloc (by simp; omega) _).alloc (by simp; omega) _
  have hV1 : Blk W w.heap.size 38 #[.int .i64 (n : Nat), .slice (some ⟨b1, off1, none⟩) m c1] := by rw [hW]; exact ((hv1.blk.alloc _).alloc _).alloc _
  have hV2 : Blk W (w.heap.size + 1) 38 #[.int .i64 (n : Nat), .slice (some ⟨b2, off2, none⟩) m c2] := by rw [hW]; exact (hv2.blk.alloc _).alloc _
  have hV3 : Blk W (w.heap.size + 2) 38 #[.int .i64 (n : Nat), .slice (some ⟨b3, off3, none⟩) m c3] := by rw [hW]; exact hv3.blk.alloc _
  have hR : Blk W (w.heap.size + 3) 38 #[.int .i64 0, .slice none 0 0] := by
    rw [hW]
    have := Blk.new (((w.alloc (.cells #[.int .i64 (n : Nat), .slice (some ⟨b1, off1, none⟩) m c1] 38)).alloc (.cells #[.int .i64 (n : Nat), .slice (some ⟨b2, off2, none⟩) m c2] 38)).alloc (.cells #[.int .i64 (n : Nat), .slice (some ⟨b3, off3, none⟩) m c3] 38)) 38 #[.int .i64 0, .slice none 0 0]
    simpa only [World.size_alloc] using this
  have hWs : W.heap.size = w.heap.size + 4 := by rw [hW]; simp
  have HWW := Lib.hid hW
  have HbW := Lib.hid hbW
  have HWS := Lib.hid hWs
  have V1 := Lib.hid hV1
  have V2 := Lib.hid hV2
  have V3 := Lib.hid hV3
  have HR := Lib.hid hR
  clear h1 h2 h3 hbW hword1 hword2 hword3 hWs hV1 hV2 hV3 hR hv1 hv2 hv3 hg ok1 ok2 ok3 hlt1 hlt2 hlt3
  have k10 : W.cell? ⟨w.heap.size, 0, none⟩ = some (.int .i64 (n : Nat)) := V1.out.cell 0
  go_enter Tryz.func244, Tryz.ntmps244
  go_wp2_with fail
  rw [← HWW.out]
  clear hW
  go_wp2_with fail
  refine (HBL.out _).mono ?_
  rintro e w2 ⟨b, rfl, hb, hown, hb2'⟩
  have hA := V1.out.onB hb2'
  have hB := V2.out.onB hb2'
  have hC := V3.out.onB hb2'
  have hR := HR.out.onB hb2'
  obtain ⟨V, hV⟩ : ∃ V, V = w2.alloc (.cells #[.int .i64 (n : Nat), .slice (some ⟨b, 0, none⟩) m m] 38) := ⟨_, rfl⟩
  have hblt := (hown.lt b rfl).2
  have S : Hid (Blk V w.heap.size 38 #[.int .i64 (n : Nat), .slice (some ⟨b1, off1, none⟩) m c1] ∧ Blk V (w.heap.size + 1) 38 #[.int .i64 (n : Nat), .slice (some ⟨b2, off2, none⟩) m c2] ∧ Blk V (w.heap.size + 2) 38 #[.int .i64 (n : Nat), .slice (some ⟨b3, off3, none⟩) m c3] ∧ Blk V (w.heap.size + 3) 38 #[.int .i64 0, .slice none 0 0] ∧ Blk V w2.heap.size 38 #[.int .i64 (n : Nat), .slice (some ⟨b, 0, none⟩) m m] ∧
      OwnF (fun x : Nat => .int .u64 (x : Int)) 141 V w.heap.size (.slice (some ⟨b, 0, none⟩) m m) (filled g m 0) ∧ Below w.heap.size w V) := Lib.hid (by
    rw [hV]
    refine ⟨hA.alloc _, hB.alloc _, hC.alloc _, hR.alloc _, Blk.new w2 _ _, ?_, ?_⟩
    · rw [filled_zero]
      exact (hown.mono (by have := HWS.out; omega)).alloc _
    · exact below_new (HbW.out.trans (hb2'.mono HbW.out.size)) (Nat.le_refl _) _)
  have HNE : Hid (w.heap.size + 4 ≤ b ∧ b < w2.heap.size) := Lib.hid ⟨by have := HWS.out; omega, hblt⟩
  have HVV := Lib.hid hV
  have hl2 : W.heap.size ≤ w2.heap.size := hb2'.size
  have HL2 := Lib.hid hl2
  have k11 : w2.cell? ⟨w.heap.size, 1, none⟩ = some (.slice (some ⟨b1, off1, none⟩) m c1) := hA.cell 1
  have hl3 : w.heap.size < w2.heap.size := by have := HWS.out; omega
  clear hA hB hC hR hown hb2' hb hblt k10 V1 V2 V3 HR hl2 hV
  go_wp2_with fail
  rw [← HVV.out]
  clear k11 hl3
  go_loopw [16] (fun i wr => ∃ k : Nat, k ≤ m ∧ i = .int .i64 k ∧ Blk wr w.heap.size 38 #[.int .i64 (n : Nat), .slice (some ⟨b1, off1, none⟩) m c1] ∧ Blk wr (w.heap.size + 1) 38 #[.int .i64 (n : Nat), .slice (some ⟨b2, off2, none⟩) m c2] ∧ Blk wr (w.heap.size + 2) 38 #[.int .i64 (n : Nat), .slice (some ⟨b3, off3, none⟩) m c3] ∧ Blk wr (w.heap.size + 3) 38 #[.int .i64 0, .slice none 0 0] ∧ Blk wr w2.heap.size 38 #[.int .i64 (n : Nat), .slice (some ⟨b, 0, none⟩) m m] ∧
      OwnF (fun x : Nat => .int .u64 (x : Int)) 141 wr w.heap.size (.slice (some ⟨b, 0, none⟩) m m) (filled g m k) ∧ Below w.heap.size w wr) (fun i _ => m - (intOf i).toNat)
  case atStart => exact ⟨0, Nat.zero_le _, rfl, S.out⟩
  case round =>
    obtain ⟨k, hk, rfl, hA, hB, hC, hR, hO, hown, hbw⟩ := hrel
    have R := Lib.hid (And.intro hA (And.intro hB (And.intro hC (And.intro hR (And.intro hO (And.intro hown hbw))))))
    by_cases hlt : k < m
    · have v1 := HW1.out wr k hbw hlt
      have v2 := HW2.out wr k hbw hlt
      have v3 := HW3.out wr k hbw hlt
      have kO : wr.cell? ⟨w2.heap.size, 1, none⟩ = some (.slice (some ⟨b, 0, none⟩) m m) := hO.cell 1
      have kB : wr.cell? ⟨w.heap.size + 1, 1, none⟩ = some (.slice (some ⟨b2, off2, none⟩) m c2) := hB.cell 1
      have kC : wr.cell? ⟨w.heap.size + 2, 1, none⟩ = some (.slice (some ⟨b3, off3, none⟩) m c3) := hC.cell 1
      obtain ⟨uo, kc, kz⟩ := own_cell hown k (by rw [filled_length]; exact hlt)
      have x1 := HX1.out k
      have x2 := HX2.out k
      have x3 := HX3.out k
      rw [← HG.out k] at x3
      generalize wat ws1 k &&& wat ws2 k = y1 at *
      generalize wat ws3 k &&& (18446744073709551615 - wat ws1 k) = y2 at *
      generalize wat ws1 k = a1 at *
      generalize wat ws2 k = a2 at *
      generalize wat ws3 k = a3 at *
      clear hA hB hC hR hO hown hbw
      go_wp2_with fail
      go_still_tail 19, (by kernel_rfl)
      go_wp2_with fail
      go_roundw
      case rel =>
        obtain ⟨hA, hB, hC, hR, hO, hown, hbw⟩ := R.out
        have hst := hown.set_ k (g k)
        rw [filled_set _ _ _ hlt] at hst
        exact ⟨k + 1, by omega, by go_num, hA.store (by have := HNE.out; omega) k _, hB.store (by have := HNE.out; omega) k _, hC.store (by have := HNE.out; omega) k _, hR.store (by have := HNE.out; omega) k _, hO.store (by have := HNE.out; omega) k _, hst, (hbw.setCell (p := ⟨b, k, none⟩) (by have := HNE.out; simp only; omega) _).drew⟩
      case measure => simp [intOf]; omega
    · obtain rfl : k = m := by omega
      have kO0 : wr.cell? ⟨w2.heap.size, 0, none⟩ = some (.int .i64 (n : Nat)) := hO.cell 0
      have kO1 : wr.cell? ⟨w2.heap.size, 1, none⟩ = some (.slice (some ⟨b, 0, none⟩) k k) := hO.cell 1
      have kR0 : wr.cell? ⟨w.heap.size + 3, 0, none⟩ = some (.int .i64 0) := hR.cell 0
      have kR1 : wr.cell? ⟨w.heap.size + 3, 1, none⟩ = some (.slice none 0 0) := hR.cell 1
      have z0 := hR.frozen 0
      have z1 := hR.frozen 1
      clear hA hB hC hR hO hown hbw
      go_wp2_with fail
      refine bodyPost_ret (v := .agg #[.int .i64 (n : Nat), .slice (some ⟨b, 0, none⟩) k k]) ?_ rfl ⟨b, rfl, by have := HNE.out; omega, ?_, by simp, ?_⟩
      · simp [results, Tryz.results244, go_sem, *]
      · obtain ⟨hA, hB, hC, hR, hO, hown, hbw⟩ := R.out
        rw [filled_all] at hown
        exact (hown.set_below' (by have := HNE.out; simp only; omega) _).set_below' (by have := HNE.out; simp only; omega) _
      · obtain ⟨hA, hB, hC, hR, hO, hown, hbw⟩ := R.out
        exact (hbw.setCell (by simp only; omega) _).setCell (by simp only; omega) _
end Go.Proofs.YtbhbhfplpbcfiaaGreatDoor
end

section
namespace Go.Proofs.YtbhbhfplpbcfiaaGreatDoor
open Go.RowKit Go.Sort
set_option linter.unusedSimpArgs false
set_option linter.unusedVariables false

/-- three sets and a result in cells -/
structure Three (w W : World) (m1 m2 m3 : Int) (A1 A2 A3 : Option Addr) (l1 l2 l3 c1 c2 c3 : Nat) (ws1 ws2 ws3 : List Nat) : Prop where
  v1 : SetVar W w.heap.size m1 A1 l1 c1 ws1
  v2 : SetVar W (w.heap.size + 1) m2 A2 l2 c2 ws2
  v3 : SetVar W (w.heap.size + 2) m3 A3 l3 c3 ws3
  res : Blk W (w.heap.size + 3) 38 #[.int .i64 0, .slice none 0 0]
  bel : Below w.heap.size w W
section
variable {w W W' : World} {m1 m2 m3 : Int} {A1 A2 A3 : Option Addr} {l1 l2 l3 c1 c2 c3 : Nat} {ws1 ws2 ws3 : List Nat}
theorem Three.on (h : Three w W m1 m2 m3 A1 A2 A3 l1 l2 l3 c1 c2 c3 ws1 ws2 ws3) (hb : Below W.heap.size W W') : Three w W' m1 m2 m3 A1 A2 A3 l1 l2 l3 c1 c2 c3 ws1 ws2 ws3 :=
  ⟨h.v1.on hb, h.v2.on hb, h.v3.on hb, h.res.onB hb, h.bel.trans (hb.mono h.bel.size)⟩
theorem Three.new (h1 : SetArg w m1 A1 l1 c1 ws1) (h2 : SetArg w m2 A2 l2 c2 ws2) (h3 : SetArg w m3 A3 l3 c3 ws3) :
    Three w ((((w.alloc (.cells #[.int .i64 m1, .slice A1 l1 c1] 38)).alloc (.cells #[.int .i64 m2, .slice A2 l2 c2] 38)).alloc (.cells #[.int .i64 m3, .slice A3 l3 c3] 38)).alloc (.cells #[.int .i64 0, .slice none 0 0] 38)) m1 m2 m3 A1 A2 A3 l1 l2 l3 c1 c2 c3 ws1 ws2 ws3 := by
  refine ⟨(((SetVar.new h1).alloc _).alloc _).alloc _, ?_, ?_, ?_, ((((Below.refl _ _).alloc (Nat.le_refl _) _).alloc (by simp) _).alloc (by simp; omega) _).alloc (by simp; omega) _⟩
  · have := SetVar.new (h2.alloc (.cells #[.int .i64 m1, .slice A1 l1 c1] 38))
    rw [World.size_alloc] at this
    exact (this.alloc _).alloc _
  · have := SetVar.new ((h3.alloc (.cells #[.int .i64 m1, .slice A1 l1 c1] 38)).alloc (.cells #[.int .i64 m2, .slice A2 l2 c2] 38))
    simp only [World.size_alloc] at this
    exact this.alloc _
  · have := Blk.new (((w.alloc (.cells #[.int .i64 m1, .slice A1 l1 c1] 38)).alloc (.cells #[.int .i64 m2, .slice A2 l2 c2] 38)).alloc (.cells #[.int .i64 m3, .slice A3 l3 c3] 38)) 38 #[.int .i64 0, .slice none 0 0]
    simpa only [World.size_alloc] using this
end
end Go.Proofs.YtbhbhfplpbcfiaaGreatDoor
end

section
namespace Go.Proofs.YtbhbhfplpbcfiaaGreatDoor
open Go.RowKit Go.Sort
set_option linter.unusedSimpArgs false
set_option linter.unusedVariables false

theorem mod_lt_pow {n x : Nat} (hx : x < 2 ^ n) : x % 64 < 2 ^ n := by have := Nat.mod_le x 64; omega
theorem opT_length (o : Nat) (t1 t2 : List Bool) : (opT o t1 t2).length = t1.length := by simp [opT]
theorem iteT_length (t1 t2 t3 : List Bool) : (iteT t1 t2 t3).length = t1.length := by simp [iteT]
theorem and_full_ok {n : Nat} (hn : n ≤ 16) {f : Nat → Nat} (hf : ∀ k, f k < 18446744073709551616) : SOk n ((List.range (wordsN n)).map fun k => f k &&& fullN n) := by
  refine SOk.made hn (fun k _ => Nat.lt_of_le_of_lt Nat.and_le_left (hf k)) (fun j h1 h2 => ?_)
  rw [Nat.testBit_and, fullN_bit n j h2, decide_eq_false (by omega), Bool.and_false]
theorem and_full_bit {n x : Nat} {f : Nat → Nat} (hx : x < 2 ^ n) : bitAt ((List.range (wordsN n)).map fun k => f k &&& fullN n) x = (f (x / 64)).testBit (x % 64) := by
  rw [bitAt_range (idx_lt hx), Nat.testBit_and, fullN_bit n _ (Nat.mod_lt _ (by omega)), decide_eq_true (mod_lt_pow hx), Bool.and_true]
theorem sOp_ans (o : Nat) (ho : o ≤ 15) (n : Nat) (A A' : Option Addr) (len len' c c' : Nat) (ws ws' : List Nat) (w : World) (h : SetArg w n A len c ws) (h' : SetArg w n A' len' c' ws') (hok : SOk n ws) (hok' : SOk n ws') :
    Calls Tryz.prog 144 #[.int .i64 (o : Nat), setA n A len c, setA n A' len' c'] w (SetAns w n 0 (opT o (tabS n ws) (tabS n ws'))) := by
  refine (sopS_any o ho n A A' len len' c c' ws ws' w h h' hok hok').mono fun _ _ hr => hr.ans (and_full_ok hok.n16 fun k => opAcc_lt (wat_lt hok.lt k) (wat_lt hok'.lt k) 4) (by rw [opT_length, tabS_length]) fun x hx => ?_
  rw [and_full_bit hx, opW_bit (wat_lt hok.lt _) (wat_lt hok'.lt _) (Nat.mod_lt _ (by omega)), wat_bit, wat_bit]
  unfold opT
  rw [List.getElem?_map, List.getElem?_range (by rw [tabS_length]; exact hx)]
  simp only [Option.map_some, Option.getD_some, tat_tab hx]
/-- a table of the call's own, as an argument -/
theorem own_tab {w : World} {base : Nat} {A : Option Addr} {len c : Nat} {t : List Bool} (h : OwnF Value.bool 4 w base (.slice A len c) t) (hl : t.length = len) (hm : len ≤ 65536) : TabArg w A len c t := ⟨hl, hm, h.rows⟩
/-- a set as the statement looks at it: not too great -/
theorem sright_nat {m : Int} {ws : List Nat} (hlt : ∀ v ∈ ws, v < 18446744073709551616) (h : srightB m ws = true) : ∃ n : Nat, m = n ∧ SOk n ws := by
  obtain ⟨h0, h1⟩ := (sright_iff hlt).1 h
  exact ⟨m.toNat, by omega, h1⟩
theorem rop_tab (o : Nat) (ho : o ≤ 15) (A1 A2 : Option Addr) (len c1 c2 : Nat) (t1 t2 : List Bool) (w : World) (hpos : 0 < len) (h1 : TabArg w A1 len c1 t1) (h2 : TabArg w A2 len c2 t2) :
    Calls Tryz.prog 38 #[.int .i64 (o : Nat), .slice A1 len c1, .slice A2 len c2] w fun e w' => ∃ B c3, e = .returned (.slice B len c3) ∧ TabArg w' B len c3 (opT o t1 t2) ∧ Below w.heap.size w w' := by
  refine (rop_any o ho A1 A2 len c1 c2 t1 t2 w hpos h1 h2).mono ?_
  rintro e w' ⟨B, c3, rfl, hown, hb⟩
  have hl : (opT o t1 t2).length = len := by rw [opT_length, h1.hlen]
  rw [hl] at hown ⊢
  exact ⟨B, c3, rfl, own_tab hown hl h1.hmax, hb⟩
end Go.Proofs.YtbhbhfplpbcfiaaGreatDoor
end

section
namespace Go.Proofs.YtbhbhfplpbcfiaaGreatDoor
open Go.RowKit Go.Sort
set_option linter.unusedSimpArgs false
set_option linter.unusedVariables false

def clrN (k u : Nat) : Nat := k &&& (18446744073709551615 - 2 ^ u)
def withW (n v : Nat) (one : Bool) (ws : List Nat) (k : Nat) : Nat :=
  if 6 ≤ v then wat ws (if one then k ||| 2 ^ (v - 6) else clrN k (v - 6))
  else if one then (wat ws k &&& colN v) ||| (wat ws k &&& colN v) / 2 ^ 2 ^ v
  else ((wat ws k &&& (18446744073709551615 - colN v)) ||| (wat ws k &&& (18446744073709551615 - colN v)) * 2 ^ 2 ^ v % 18446744073709551616) &&& fullN n
theorem i64_andNot_nat (a b : Nat) (ha : a < 9223372036854775808) (hb : b < 9223372036854775808) : bits .andNot .i64 (a : Int) (b : Int) = ((a &&& (18446744073709551615 - b) : Nat) : Int) := by
  have hx : a &&& (18446744073709551615 - b) ≤ a := Nat.and_le_left
  show IntKind.i64.wrap ((BitVec.ofInt 64 (a : Int) &&& ~~~BitVec.ofInt 64 (b : Int)).toNat : Int) = _
  rw [BitVec.toNat_and, BitVec.toNat_not, ofInt_i64 a (by omega), ofInt_i64 b (by omega)]
  have e : 2 ^ 64 - 1 - b = 18446744073709551615 - b := by omega
  rw [e, wrap_i64_nat _ (by omega)]
theorem putV_same {x v b : Nat} (h : (x.testBit v).toNat = b) : putV x v b = x := by
  unfold putV
  have := bit_le x v
  rw [h] at *
  omega
theorem putV_up {x v : Nat} (h : x.testBit v = false) : putV x v 1 = x + 2 ^ v := by
  unfold putV; rw [h]; simp
theorem putV_down {x v : Nat} (h : x.testBit v = true) : putV x v 0 = x - 2 ^ v := by
  unfold putV; rw [h]; simp
theorem pow_le_of_bit {x v : Nat} (h : x.testBit v = true) : 2 ^ v ≤ x := by
  have := bit_le x v
  rw [h] at this
  simpa using this
theorem putV_bit (x v : Nat) (b : Bool) (j : Nat) : (putV x v b.toNat).testBit j = if j = v then b else x.testBit j := by
  by_cases hb : x.testBit v = b
  · rw [putV_same (by rw [hb])]
    split
    · rename_i h; rw [h, hb]
    · rfl
  · have key : ∀ y, y.testBit v = false → (y + 2 ^ v).testBit j = if j = v then true else y.testBit j := fun y hy => by
      have e : y + 2 ^ v = y ||| 2 ^ v := by
        have h1 := Nat.div_add_mod y (2 ^ v)
        apply Nat.eq_of_testBit_eq
        intro i
        rw [Nat.testBit_or, Nat.testBit_two_pow]
        rcases Nat.lt_trichotomy i v with h | h | h
        · rw [Nat.add_comm, Nat.testBit_two_pow_add_gt h, decide_eq_false (by omega), Bool.or_false]
        · subst h
          rw [Nat.add_comm, Nat.testBit_two_pow_add_eq, hy]
          simp
        · have hq : (y / 2 ^ v) % 2 = 0 := by
            have := bit_val y v
            rw [hy] at this
            simpa using this
          rw [decide_eq_false (by omega), Bool.or_false, Nat.testBit_eq_decide_div_mod_eq, Nat.testBit_eq_decide_div_mod_eq]
          have hi : 2 ^ i = 2 ^ v * 2 * 2 ^ (i - v - 1) := by rw [← Nat.pow_succ, ← Nat.pow_add]; congr 1; omega
          rw [hi, ← Nat.div_div_eq_div_mul, ← Nat.div_div_eq_div_mul, ← Nat.div_div_eq_div_mul, ← Nat.div_div_eq_div_mul, Nat.add_div_right _ (Nat.two_pow_pos v)]
          have : (y / 2 ^ v).succ / 2 = y / 2 ^ v / 2 := by omega
          rw [this]
      rw [e, testBit_or_pow]
      split
      · rename_i h; simp [h]
      · rename_i h; rw [decide_eq_false h, Bool.or_false]
    cases b
    · have hx : x.testBit v = true := by simpa using hb
      have hle := pow_le_of_bit hx
      obtain ⟨y, rfl⟩ := Nat.exists_eq_add_of_le' hle
      have hy : y.testBit v = false := by
        have := hx
        rw [Nat.add_comm, Nat.testBit_two_pow_add_eq] at this
        simpa using this
      rw [show false.toNat = 0 from rfl, putV_down hx, Nat.add_sub_cancel, key y hy]
      split
      · rename_i h; rw [h, hy]
      · rfl
    · have hx : x.testBit v = false := by simpa using hb
      rw [show true.toNat = 1 from rfl, putV_up hx, key x hx]
theorem putV_lt {n x v : Nat} (b : Bool) (hx : x < 2 ^ n) (hv : v < n) : putV x v b.toNat < 2 ^ n := by
  apply Nat.lt_pow_two_of_testBit
  intro j hj
  rw [putV_bit, if_neg (by omega)]
  exact Nat.testBit_lt_two_pow (Nat.lt_of_lt_of_le hx (Nat.pow_le_pow_right (by omega) hj))
theorem or_put (k u : Nat) : k ||| 2 ^ u = putV k u true.toNat := by
  apply Nat.eq_of_testBit_eq
  intro j
  rw [putV_bit, testBit_or_pow]
  split
  · rename_i h; simp [h]
  · rename_i h; rw [decide_eq_false h, Bool.or_false]
theorem clr_put (k u : Nat) (hk : k < 18446744073709551616) (hu : u < 64) : clrN k u = putV k u false.toNat := by
  have hp : 2 ^ u < 18446744073709551616 := (show 2 ^ u < 2 ^ 64 from Nat.pow_lt_pow_right (by omega) hu)
  apply Nat.eq_of_testBit_eq
  intro j
  unfold clrN
  rw [putV_bit, Nat.testBit_and]
  by_cases hj : j < 64
  · rw [not_bit hp hj, Nat.testBit_two_pow]
    split
    · rename_i h; simp [h]
    · rename_i h; rw [decide_eq_false (fun e => h e.symm)]; simp
  · have : k.testBit j = false := Nat.testBit_lt_two_pow (Nat.lt_of_lt_of_le hk (show 18446744073709551616 ≤ 2 ^ j from (show 2 ^ 64 ≤ 2 ^ j from Nat.pow_le_pow_right (by omega) (by omega))))
    rw [this]
    split
    · rename_i h; omega
    · rfl
theorem putV_div {x u b : Nat} : putV x (u + 6) b = 64 * putV (x / 64) u b + x % 64 := by
  unfold putV
  have h1 : x.testBit (u + 6) = (x / 64).testBit u := by rw [testBit_div x (u + 6) 6 (by omega)]; rfl
  have h2 := bit_le (x / 64) u
  have h3 : 2 ^ (u + 6) = 64 * 2 ^ u := by rw [Nat.pow_add, Nat.mul_comm]
  have h4 := Nat.div_add_mod x 64
  rw [h1, h3]
  generalize ((x / 64).testBit u).toNat = t at *
  generalize 2 ^ u = p at *
  have e1 : t * (64 * p) = 64 * (t * p) := by rw [Nat.mul_left_comm]
  have e2 : b * (64 * p) = 64 * (b * p) := by rw [Nat.mul_left_comm]
  rw [e1, e2]
  generalize t * p = tp at *
  generalize b * p = bp at *
  omega
theorem putV_mod {x v b : Nat} (hv : v < 6) : putV x v b = 64 * (x / 64) + putV (x % 64) v b := by
  unfold putV
  have h1 : (x % 64).testBit v = x.testBit v := by
    rw [show (64 : Nat) = 2 ^ 6 from rfl, Nat.testBit_mod_two_pow, decide_eq_true hv, Bool.true_and]
  have h2 := bit_le (x % 64) v
  have h4 := Nat.div_add_mod x 64
  rw [h1] at *
  generalize (x.testBit v).toNat * 2 ^ v = tp at *
  omega
theorem col_bit {v j : Nat} (hj : j < 64) : (colN v).testBit j = j.testBit v := by
  unfold colN
  rw [testBit_ofBits, decide_eq_true hj, Bool.true_and]
theorem col_lt (v : Nat) : colN v < 18446744073709551616 := ofBits_lt64 _ (Nat.le_refl _)
theorem add_bit (r v : Nat) : (r + 2 ^ v).testBit v = !r.testBit v := by rw [Nat.add_comm, Nat.testBit_two_pow_add_eq]
theorem sub_bit {r v : Nat} (h : 2 ^ v ≤ r) : (r - 2 ^ v).testBit v = !r.testBit v := by
  have := add_bit (r - 2 ^ v) v
  rw [Nat.sub_add_cancel h] at this
  rw [this, Bool.not_not]
theorem up_lt : ∀ (r : Fin 64) (v : Fin 6), r.val.testBit v.val = false → r.val + 2 ^ v.val < 64 := by decide +kernel
theorem big_bit {a j : Nat} (ha : a < 18446744073709551616) (hj : 64 ≤ j) : a.testBit j = false :=
  Nat.testBit_lt_two_pow (Nat.lt_of_lt_of_le ha (show 18446744073709551616 ≤ 2 ^ j from (show 2 ^ 64 ≤ 2 ^ j from Nat.pow_le_pow_right (by omega) hj)))
/-- within a word: the variable as 1 -/
theorem one_bit {a v r : Nat} (ha : a < 18446744073709551616) (hv : v < 6) (hr : r < 64) : ((a &&& colN v) ||| (a &&& colN v) / 2 ^ 2 ^ v).testBit r = a.testBit (putV r v true.toNat) := by
  rw [Nat.testBit_or, Nat.testBit_div_two_pow, Nat.testBit_and, Nat.testBit_and, col_bit hr]
  cases h : r.testBit v
  · rw [show true.toNat = 1 from rfl, putV_up h]
    have hl := up_lt ⟨r, hr⟩ ⟨v, hv⟩ h
    simp only at hl
    rw [col_bit hl, add_bit, h]
    simp
  · rw [putV_same (by rw [h])]
    by_cases hl : r + 2 ^ v < 64
    · rw [col_bit hl, add_bit, h]
      simp
    · rw [big_bit ha (j := r + 2 ^ v) (by omega)]
      simp
/-- within a word: the variable as 0 -/
theorem zero_bit {a v r : Nat} (ha : a < 18446744073709551616) (hv : v < 6) (hr : r < 64) : ((a &&& (18446744073709551615 - colN v)) ||| (a &&& (18446744073709551615 - colN v)) * 2 ^ 2 ^ v % 18446744073709551616).testBit r = a.testBit (putV r v false.toNat) := by
  have hc := col_lt v
  rw [Nat.testBit_or, show (18446744073709551616 : Nat) = 2 ^ 64 from rfl, Nat.testBit_mod_two_pow, decide_eq_true hr, Bool.true_and, Nat.testBit_mul_two_pow, Nat.testBit_and, Nat.testBit_and, not_bit hc hr, col_bit hr]
  cases h : r.testBit v
  · rw [putV_same (by rw [h])]
    by_cases hl : 2 ^ v ≤ r
    · rw [not_bit hc (Nat.lt_of_le_of_lt (Nat.sub_le _ _) hr), col_bit (Nat.lt_of_le_of_lt (Nat.sub_le _ _) hr), sub_bit hl, h]
      simp
    · rw [decide_eq_false (by omega)]
      simp
  · have hl := pow_le_of_bit h
    rw [show false.toNat = 0 from rfl, putV_down h, not_bit hc (Nat.lt_of_le_of_lt (Nat.sub_le _ _) hr), col_bit (Nat.lt_of_le_of_lt (Nat.sub_le _ _) hr), sub_bit hl, h]
    simp [hl]
theorem withW_lt {n v : Nat} {one : Bool} {ws : List Nat} (hlt : ∀ u ∈ ws, u < 18446744073709551616) (k : Nat) : withW n v one ws k < 18446744073709551616 := by
  unfold withW
  split
  · exact wat_lt hlt _
  · have h := wat_lt hlt k
    split
    · have h1 : wat ws k &&& colN v < 2 ^ 64 := Nat.lt_of_le_of_lt Nat.and_le_left h
      exact Nat.or_lt_two_pow h1 (Nat.lt_of_le_of_lt (Nat.div_le_self _ _) h1)
    · exact Nat.lt_of_le_of_lt Nat.and_le_right (fullN_lt n)
theorem with_ok {n v : Nat} {one : Bool} {ws : List Nat} (hok : SOk n ws) (hv : v < n) : SOk n ((List.range (wordsN n)).map (withW n v one ws)) := by
  refine SOk.made hok.n16 (fun k _ => withW_lt hok.lt k) (fun j h1 h2 => ?_)
  have hz : ∀ i, 2 ^ n ≤ i → (wat ws 0).testBit i = false := fun i hi => by
    by_cases h64 : i < 64
    · have := hok.hi i hi h64
      unfold bitAt at this
      rwa [show i / 64 = 0 by omega, Nat.mod_eq_of_lt h64] at this
    · exact big_bit (wat_lt hok.lt 0) (by omega)
  unfold withW
  split
  · rename_i h6
    exfalso
    have : 2 ^ 6 ≤ 2 ^ n := Nat.pow_le_pow_right (by omega) (by omega)
    omega
  · split
    · rw [Nat.testBit_or, Nat.testBit_div_two_pow, Nat.testBit_and, Nat.testBit_and, hz j h1, hz _ (Nat.le_trans h1 (Nat.le_add_right j (2 ^ v)))]
      simp
    · rw [Nat.testBit_and, fullN_bit n j h2, decide_eq_false (by omega), Bool.and_false]
theorem with_bit {n v : Nat} {one : Bool} {ws : List Nat} (hok : SOk n ws) (hv : v < n) {x : Nat} (hx : x < 2 ^ n) : bitAt ((List.range (wordsN n)).map (withW n v one ws)) x = bitAt ws (putV x v one.toNat) := by
  have hr : x % 64 < 64 := Nat.mod_lt _ (by omega)
  rw [bitAt_range (idx_lt hx)]
  unfold withW
  by_cases h6 : 6 ≤ v
  · rw [if_pos h6]
    obtain ⟨u, rfl⟩ := Nat.exists_eq_add_of_le' h6
    have hq : x / 64 < 18446744073709551616 := by have := pow16 hok.n16; omega
    rw [putV_div, Nat.add_sub_cancel]
    unfold bitAt
    rw [show (64 * putV (x / 64) u one.toNat + x % 64) / 64 = putV (x / 64) u one.toNat by omega, show (64 * putV (x / 64) u one.toNat + x % 64) % 64 = x % 64 by omega]
    cases one
    · rw [if_neg (by decide), clr_put _ _ hq (by have := hok.n16; omega)]; rfl
    · rw [if_pos rfl, or_put]; rfl
  · rw [if_neg h6]
    have hv6 : v < 6 := by omega
    have hpl := putV_lt (n := 6) (x := x % 64) (v := v) one (by omega) hv6
    rw [putV_mod hv6]
    unfold bitAt
    rw [show (64 * (x / 64) + putV (x % 64) v one.toNat) / 64 = x / 64 by omega, show (64 * (x / 64) + putV (x % 64) v one.toNat) % 64 = putV (x % 64) v one.toNat by omega]
    have ha := wat_lt hok.lt (x / 64)
    cases one
    · rw [if_neg (by decide), Nat.testBit_and, fullN_bit n _ hr, decide_eq_true (mod_lt_pow hx), Bool.and_true, zero_bit ha hv6 hr]; rfl
    · rw [if_pos rfl, one_bit ha hv6 hr]; rfl
theorem set_lt {n u k : Nat} (h6 : 6 ≤ n) (hk : k < wordsN n) (hu : u + 6 < n) : k ||| 2 ^ u < wordsN n := by
  rw [wordsN_big h6] at *
  exact Nat.or_lt_two_pow hk (Nat.pow_lt_pow_right (by omega) (by omega))
theorem clr_lt {n u k : Nat} (hk : k < wordsN n) : clrN k u < wordsN n := Nat.lt_of_le_of_lt Nat.and_le_left hk
/-- the table with a variable as 1 or 0 -/
def withT (t : List Bool) (v b : Nat) : List Bool := (List.range t.length).map fun x => tat t (putV x v b)
theorem withT_length (t : List Bool) (v b : Nat) : (withT t v b).length = t.length := by simp [withT]
theorem with_tab {n v : Nat} {one : Bool} {ws : List Nat} (hok : SOk n ws) (hv : v < n) (x : Nat) (hx : x < 2 ^ n) : bitAt ((List.range (wordsN n)).map (withW n v one ws)) x = (withT (tabS n ws) v one.toNat)[x]?.getD false := by
  rw [with_bit hok hv hx]
  unfold withT
  rw [List.getElem?_map, List.getElem?_range (by rw [tabS_length]; exact hx)]
  simp only [Option.map_some, Option.getD_some]
  rw [tat_tab (putV_lt one hx hv)]
end Go.Proofs.YtbhbhfplpbcfiaaGreatDoor
end
