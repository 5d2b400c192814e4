/- Answers: a set and an error, as the statements look at them. -/
import Derived.Test.YtdhfpnbpkbelmaaDoorSetY
namespace Go.Proofs.YtdhfpnbpkbelmaaDoor
open Go.RowKit Go.Sort
set_option linter.unusedSimpArgs false
set_option linter.unusedVariables false

/-- a set in a cell -/
structure SetVar (w : World) (g : Nat) (m : Int) (A : Option Addr) (len c : Nat) (ws : List Nat) : Prop where
  blk : Blk w g 24 #[.int .i64 m, .slice A len c]
  arg : SetArg w m A len c ws
section
variable {w w' : World} {g : Nat} {m : Int} {A : Option Addr} {len c : Nat} {ws : List Nat}
theorem SetVar.on (h : SetVar w g m A len c ws) (hb : Below w.heap.size w w') : SetVar w' g m A len c ws := ⟨h.blk.onB hb, h.arg.on hb⟩
theorem SetVar.alloc (h : SetVar w g m A len c ws) (o : Obj) : SetVar (w.alloc o) g m A len c ws := ⟨h.blk.alloc o, h.arg.alloc o⟩
theorem SetVar.new (h : SetArg w m A len c ws) : SetVar (w.alloc (.cells #[.int .i64 m, .slice A len c] 24)) w.heap.size m A len c ws := ⟨Blk.new w _ _, h.alloc _⟩
theorem SetVar.c0 (h : SetVar w g m A len c ws) : w.cell? ⟨g, 0, none⟩ = some (.int .i64 m) := h.blk.cell 0
theorem SetVar.c1 (h : SetVar w g m A len c ws) : w.cell? ⟨g, 1, none⟩ = some (.slice A len c) := h.blk.cell 1
end
/-- what the statements look for: the code, or the table -/
def Ans (n : Nat) (code : Int) (t : List Bool) (m : Int) (len : Nat) (ws : List Nat) (er : Int) : Prop :=
  (code = 0 ∧ er = 0 ∧ n ≤ 16 ∧ m = n ∧ t.length = 2 ^ n ∧ ws = packT t) ∨ (1 ≤ code ∧ code ≤ 255 ∧ er = code ∧ m = 0 ∧ len = 0)
def SetAns (w : World) (n : Nat) (code : Int) (t : List Bool) (e : Ending) (w' : World) : Prop :=
  ∃ m A len c ws er, e = .returned (.tuple #[.agg #[.int .i64 m, .slice A len c], .int .u8 er]) ∧ SetArg w' m A len c ws ∧ Below w.heap.size w w' ∧ Ans n code t m len ws er
theorem SetErr.ans {w w' : World} {code : Int} {e : Ending} (h : SetErr w code e w') (h0 : 1 ≤ code) (h1 : code ≤ 255) (n : Nat) (t : List Bool) : SetAns w n code t e w' :=
  ⟨0, none, 0, 0, [], code, h.1, ⟨rfl, Nat.le_refl _, by unfold maxLen; omega, fun h => by simp at h, by simp, by decide⟩, h.2, .inr ⟨h0, h1, rfl, rfl, rfl⟩⟩
theorem SetRes2.ans {w w' : World} {n : Nat} {ws : List Nat} {e : Ending} (h : SetRes2 w n ws e w') (hok : SOk n ws) {t : List Bool} (ht : t.length = 2 ^ n) (hb : ∀ x, x < 2 ^ n → bitAt ws x = t[x]?.getD false) : SetAns w n 0 t e w' := by
  obtain ⟨b, rfl, hb1, hown, hl, hb2⟩ := h
  exact ⟨n, _, _, _, ws, 0, rfl, own_arg hown hl hok.lt hok.n16 (wordsN_le hok.n16), hb2, .inl ⟨rfl, rfl, hok.n16, rfl, ht, hok.eq_pack ht hb⟩⟩
/-- told of an answer -/
theorem told_ans {n : Nat} {code : Int} {t : List Bool} {m : Int} {A : Option Addr} {len c : Nat} {ws : List Nat} {er : Int} {w : World} (h : SetArg w m A len c ws) (ha : Ans n code t m len ws er) {B : Option Addr} {l2 c2 : Nat} (hB : code = 0 → l2 = t.length ∧ RowF Value.bool false w w.heap.size B t) :
    Calls Tryd.prog 16 #[.agg #[.int .i64 m, .slice A len c], .int .u8 er, .int .i64 code, .slice B l2 c2] w fun e w' => e = .returned (.bool true) ∧ Below w.heap.size w w' := by
  rcases ha with ⟨rfl, rfl, hn, rfl, ht, hws⟩ | ⟨h0, h1, rfl, rfl, rfl⟩
  · obtain ⟨rfl, hrow⟩ := hB rfl
    rw [ht]
    exact told_ok n hn A B len c c2 ws t w h ht hrow hws
  · exact told_code 0 A B 0 c l2 c2 er er h0 h1 w ⟨rfl, rfl, rfl⟩
/-- zero values so far made -/
structure Zs (W w : World) (N : Nat) (bs : List Nat) : Prop where
  bel : Below W.heap.size W w
  nd : bs.Nodup
  own : ∀ b ∈ bs, W.heap.size ≤ b ∧ OwnF Value.bool 4 w W.heap.size (.slice (some ⟨b, 0, none⟩) N N) (List.replicate N false)
theorem Zs.nil {W : World} {N : Nat} : Zs W W N [] := ⟨Below.refl _ _, List.nodup_nil, by simp⟩
theorem Zs.cons {W w w1 : World} {N : Nat} {bs : List Nat} (h : Zs W w N bs) (ho : OwnF Value.bool 4 w1 w.heap.size (.slice (some ⟨w.heap.size, 0, none⟩) N N) (List.replicate N false)) (hb : Below w.heap.size w w1) : Zs W w1 N (w.heap.size :: bs) := by
  have hs := h.bel.size
  refine ⟨h.bel.trans (hb.mono hs), List.nodup_cons.2 ⟨fun hm => ?_, h.nd⟩, fun b hm => ?_⟩
  · have := ((h.own _ hm).2.lt w.heap.size rfl).2
    omega
  · rcases List.mem_cons.1 hm with rfl | hm
    · exact ⟨hs, ho.mono hs⟩
    · exact ⟨(h.own _ hm).1, (h.own _ hm).2.below hb⟩
theorem Zs.drew {W w : World} {N : Nat} {bs : List Nat} (h : Zs W w N bs) : Zs W w.drew N bs := ⟨h.bel.drew, h.nd, fun b hb => ⟨(h.own b hb).1, (h.own b hb).2.drew⟩⟩
theorem Zs.perm {W w : World} {N : Nat} {bs cs : List Nat} (h : Zs W w N bs) (hc : cs.Nodup) (hs : ∀ b ∈ cs, b ∈ bs) : Zs W w N cs := ⟨h.bel, hc, fun b hb => h.own b (hs b hb)⟩
/-- a row filled so far -/
def fillB (g : Nat → Bool) (N k : Nat) : List Bool := (List.range N).map fun x => decide (x < k) && g x
theorem fillB_zero (g : Nat → Bool) (N : Nat) : fillB g N 0 = List.replicate N false := by
  unfold fillB
  apply List.ext_getElem (by simp)
  intro i h1 h2
  simp
theorem fillB_all (g : Nat → Bool) (N : Nat) : fillB g N N = (List.range N).map g := by
  unfold fillB
  apply List.map_congr_left
  intro i hi
  rw [decide_eq_true (by simpa using hi), Bool.true_and]
theorem fillB_length (g : Nat → Bool) (N k : Nat) : (fillB g N k).length = N := by simp [fillB]
theorem fillB_set (g : Nat → Bool) (N k : Nat) (h : k < N) : (fillB g N k).set k (g k) = fillB g N (k + 1) := by
  unfold fillB
  apply List.ext_getElem (by simp)
  intro i h1 h2
  simp only [List.getElem_set, List.getElem_map, List.getElem_range]
  by_cases he : k = i
  · subst he; simp
  · rw [if_neg he]
    congr 1
    rw [decide_eq_decide]
    omega
/-- the row of a list's assignments -/
def memB (N : Nat) (l : List Int) : List Bool := (List.range N).map fun x : Nat => decide ((x : Int) ∈ l)
theorem memB_length (N : Nat) (l : List Int) : (memB N l).length = N := by simp [memB]
theorem memB_nil (N : Nat) : memB N [] = List.replicate N false := by
  unfold memB
  apply List.ext_getElem (by simp)
  intro i h1 h2
  simp
theorem memB_snoc_in {N : Nat} {l : List Int} {x : Nat} (hx : x < N) : (memB N l).set x true = memB N (l ++ [(x : Int)]) := by
  unfold memB
  apply List.ext_getElem (by simp)
  intro i h1 h2
  simp only [List.getElem_set, List.getElem_map, List.getElem_range, List.mem_append, List.mem_singleton]
  by_cases he : x = i
  · subst he; simp
  · rw [if_neg he, decide_eq_decide]
    constructor
    · exact .inl
    · rintro (h | h)
      · exact h
      · omega
theorem memB_snoc_out {N : Nat} {l : List Int} {x : Int} (hx : x < 0 ∨ (N : Int) ≤ x) : memB N l = memB N (l ++ [x]) := by
  unfold memB
  apply List.map_congr_left
  intro i hi
  rw [decide_eq_decide]
  simp only [List.mem_append, List.mem_singleton, List.mem_range] at *
  constructor
  · exact .inl
  · rintro (h | h)
    · exact h
    · omega
end Go.Proofs.YtdhfpnbpkbelmaaDoor
