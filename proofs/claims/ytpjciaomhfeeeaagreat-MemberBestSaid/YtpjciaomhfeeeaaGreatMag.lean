/- A range over a function whose iterator may keep cells of its own: the contract names the blocks that the loop's body owns. Iterators: what stands between two rounds. -/
import Derived.RangeFuncNested
import Derived.RangeFuncBound
import Derived.RangeFuncCalls
import Derived.RangeFuncLeaves
import Derived.Test.YtpjciaomhfeeeaaGreatMa
import Derived.Shelf.Abstract
import Derived.Shelf.RegionOpen
import Derived.OwnWalkIn
import Derived.TacticsInMore
import Derived.LoopNIn
import Derived.LoopIn
section
namespace Go.Proofs.YtpjciaomhfeeeaaGreat
open Go Go.RowKit
set_option linter.unusedVariables false
set_option linter.unusedSimpArgs false

/-- what is said hangs on the blocks of Fp and on those below B alone -/
def Local {α : Type} (B : Nat) (I : List Nat → List α → World → Prop) : Prop :=
  ∀ Fp pre W W', I Fp pre W → W'.os = W.os → W'.tape = W.tape → W'.output = W.output → W.heap.size ≤ W'.heap.size → (∀ k, k < W.heap.size → (k < B ∨ k ∈ Fp) → W'.heap[k]? = W.heap[k]?) → I Fp pre W'
def Bounded {α : Type} (I : List Nat → List α → World → Prop) : Prop := ∀ Fp pre W, I Fp pre W → ∀ k ∈ Fp, k < W.heap.size
theorem Local.later {α : Type} {B B' : Nat} {I : List Nat → List α → World → Prop} (h : Local B I) (hB : B ≤ B') : Local B' I :=
  fun Fp pre W W' hi h1 h2 h3 h4 h5 => h Fp pre W W' hi h1 h2 h3 h4 fun k hk hm => h5 k hk (hm.imp (fun e => Nat.lt_of_lt_of_le e hB) id)
/-- new blocks of the footprint -/
def Grows (Fp Fp' : List Nat) (W : World) : Prop := ∀ k ∈ Fp', k ∈ Fp ∨ W.heap.size ≤ k
/-- how a round ends -/
def RoundPost {α : Type} (I Ix : List Nat → List α → World → Prop) (Fp : List Nat) (xs : List α) (W : World) (e : Ending) (W' : World) : Prop :=
  ∃ Fp', Grows Fp Fp' W ∧ Chg Fp W W' ∧ ((e = .returned (.bool true) ∧ I Fp' xs W') ∨ (e = .returned (.bool false) ∧ Ix Fp' xs W'))
/-- THE CONTRACT OF AN ITERATOR: it hands on xs, one behind the other, till a round says no; the blocks that it reads (R) are none of the body's. -/
def SeqRuns {α : Type} (P : Program) (g : Nat) (lb : Array Value) (encs : α → Array Value) (R : Nat → Prop) (xs : List α) (w : World) : Prop :=
  ∀ (l : Nat) (I Ix : List Nat → List α → World → Prop) (Fp0 : List Nat) (W : World), Below w.heap.size w W → (∀ k ∈ Fp0, ¬ R k) → Local W.heap.size I → Local W.heap.size Ix → Bounded I → Bounded Ix →
    (∀ Fp pre x W1, I Fp pre W1 → W.heap.size ≤ W1.heap.size → pre ++ [x] <+: xs → YieldAt Fence.wide 0 P l (encs x) W1 (RoundPost I Ix Fp (pre ++ [x]) W1)) →
    I Fp0 [] W →
    CallsIn Fence.wide 0 P g (#[.func (.yield l) #[] #[]] ++ lb) W fun e W' => (∃ v, e = .returned v) ∧ ∃ Fp', I Fp' xs W' ∨ ∃ pre, pre <+: xs ∧ Ix Fp' pre W'
theorem SeqRuns.later {α : Type} {P : Program} {g : Nat} {lb : Array Value} {encs : α → Array Value} {R : Nat → Prop} {xs : List α} {w w' : World} (h : SeqRuns P g lb encs R xs w) (hb : Below w.heap.size w w') : SeqRuns P g lb encs R xs w' :=
  fun l I Ix Fp0 W hW => h l I Ix Fp0 W (hb.trans (hW.mono hb.size))
/-- how the body of a round may be left -/
def fpPost {α : Type} (I : List Nat → List α → World → Prop) (Ix : Code → List Nat → List α → World → Prop) (Fp : List Nat) (xs : List α) (W : World) : Exit → Act → World → Prop
  | .normal, _, W' => ∃ Fp', Grows Fp Fp' W ∧ Chg Fp W W' ∧ I Fp' xs W'
  | .ret, _, W' => ∃ Fp', Grows Fp Fp' W ∧ Chg Fp W W' ∧ Ix .ret Fp' xs W'
  | .exit id, _, W' => ∃ Fp', Grows Fp Fp' W ∧ Chg Fp W W' ∧ Ix (.exit id) Fp' xs W'
  | .goto t, _, W' => ∃ Fp', Grows Fp Fp' W ∧ Chg Fp W W' ∧ Ix (.goto t) Fp' xs W'
  | .panic _, _, _ => False
  | .outgrown, _, _ => False
theorem chg_putObj {F : List Nat} {w W : World} (h : Chg F w W) {l : Nat} (hl : l ∈ F ∨ w.heap.size ≤ l) (o : Obj) : Chg F w (W.putObj l o) :=
  ⟨h.os, h.tape, h.output, by rw [World.putObj_size]; exact h.size, fun k hk hn => by
    rw [World.putObj_heap_other (fun e => by subst e; rcases hl with h1 | h1 <;> first | exact hn h1 | omega)]
    exact h.block k hk hn⟩
theorem Local.putObj {α : Type} {B : Nat} {I : List Nat → List α → World → Prop} (h : Local B I) {Fp : List Nat} {pre : List α} {W : World} {l : Nat} (o : Obj) (hi : I Fp pre W) (hB : B ≤ l) (hl : ¬ l ∈ Fp) : I Fp pre (W.putObj l o) :=
  h Fp pre W _ hi rfl rfl rfl (by simp) fun k hk hm => World.putObj_heap_other (fun e => by subst e; rcases hm with h1 | h1 <;> first | exact hl h1 | omega)
theorem Local.alloc {α : Type} {B : Nat} {I : List Nat → List α → World → Prop} (h : Local B I) {Fp : List Nat} {pre : List α} {W : World} (o : Obj) (hi : I Fp pre W) : I Fp pre (W.alloc o) :=
  h Fp pre W _ hi rfl rfl rfl (by simp) fun k hk _ => Below.heap_alloc W o k hk
variable {P : Program}
/-- THE STATEMENT -/
theorem wpIn_rangeFunc_fp {α : Type} {g : Operand} {ps : Array Tmp} {assign body : Code} {Q : Exit → Act → World → Prop} {a : Act} {w : World}
    {gf : Nat} {lb : Array Value} (hg : a.eval g = .func (.func gf) #[] lb) (eg : ∀ args w, (callFunc gf args).run P w = .ok (.enter gf args) w)
    {encs : α → Array Value} {R : Nat → Prop} {xs : List α} (hseq : SeqRuns P gf lb encs R xs w) (hps : ∀ x, (encs x).size = ps.size)
    (I : List Nat → List α → World → Prop) (Ix : Code → List Nat → List α → World → Prop) (hI : Local w.heap.size I) (hIx : ∀ c, Local w.heap.size (Ix c)) (bI : Bounded I) (bIx : ∀ c, Bounded (Ix c)) (Fp0 : List Nat) (hR : ∀ k ∈ Fp0, ¬ R k) (hRl : ∀ k, R k → k < w.heap.size) (h0 : I Fp0 [] w) (a₁ : α → Act)
    (hassign : ∀ (l : Nat) (x : α) (W : World) (K : Act → World → Prop), K (a₁ x) W →
      assign.wpIn (Fence.wide.inRound l) 0 P (Exit.then K (fun _ _ _ => False)) { tmps := (ps.zip (encs x)).foldl (fun t (p, v) => t.setIfInBounds p v) a.tmps, defers := [] } W)
    (hbody : ∀ (l : Nat) (Fp : List Nat) (pre : List α) (x : α) (W : World), I Fp pre W → w.heap.size ≤ W.heap.size → pre ++ [x] <+: xs → body.wpIn (Fence.wide.inRound l) 0 P (fpPost I Ix Fp (pre ++ [x]) W) (a₁ x) W)
    (hdone : ∀ (D : Nat) (Fp : List Nat) (W : World), w.heap.size ≤ D → ¬ D ∈ Fp → I Fp xs W → W.heap[D]? = some (.deferred (some [])) → Q .normal { a with defers := { target := .collected D, args := #[] } :: a.defers } W)
    (hstop : ∀ (D : Nat) (c : Code) (Fp : List Nat) (pre : List α) (W : World), w.heap.size ≤ D → ¬ D ∈ Fp → pre <+: xs → Ix c Fp pre W → W.heap[D]? = some (.deferred (some [])) → c.wpIn Fence.wide 0 P Q { a with defers := { target := .collected D, args := #[] } :: a.defers } W) :
    (Code.rangeFunc g ps assign body).wpIn Fence.wide 0 P Q a w := by
  refine wpIn_rangeFunc ?_
  intro fn hfn
  have hro : Fence.wide.round = none := rfl
  rw [hro]
  obtain ⟨rec, hrec⟩ : ∃ rec : LoopState → Option Code → Loop, rec = fun st pe => { state := st, pending := pe, fn, tmps := a.tmps, params := ps, assign, body, defers := w.heap.size } := ⟨_, rfl⟩
  obtain ⟨W1, hW1⟩ : ∃ W1, (w.alloc (.deferred (some []))).alloc (.loop (rec .ready none)) = W1 := ⟨_, rfl⟩
  have hs1 : W1.heap.size = w.heap.size + 2 := by rw [← hW1]; simp
  have hL1 : W1.heap[w.heap.size + 1]? = some (.loop (rec .ready none)) := by
    rw [← hW1]; have := World.alloc_heap_new (w.alloc (.deferred (some []))) (.loop (rec .ready none)); rwa [World.size_alloc] at this
  have hK1 : W1.heap[w.heap.size]? = some (.deferred (some [])) := by
    rw [← hW1]; exact (Below.heap_alloc _ _ _ (by simp)).trans (World.alloc_heap_new w _)
  have hI1 : I Fp0 [] W1 := by rw [← hW1]; exact hI.alloc _ (hI.alloc _ h0)
  have hb1 : Below w.heap.size w W1 := by rw [← hW1]; exact ((Below.refl _ w).alloc (Nat.le_refl _) _).alloc (by simp) _
  refine ⟨w.heap.size + 1, [{ target := .collected w.heap.size, args := #[] }], W1, { target := .fn (.func gf) lb, args := #[.func (.yield (w.heap.size + 1)) #[] #[]] }, W1, gf,
    #[.func (.yield (w.heap.size + 1)) #[] #[]] ++ lb, W1, ?_, ?_, ?_, ?_, (fun h => by cases h), ?_⟩
  · rw [← hW1, hrec]; exact run_enterLoop_outer _ _ _ _ _
  · simp only [resolve, hg]
    simp [go_sem]
  · intro f' hf'; trivial
  · simp [invoke, go_sem, eg]
  · -- the iterator's contract: the body's blocks, and the two of the book-keeping
    have hd0 : ∀ k ∈ Fp0, k < w.heap.size := bI _ _ _ h0
    refine (hseq (w.heap.size + 1)
      (fun Fp pre W => ∃ Fp1, Fp = (w.heap.size + 1) :: w.heap.size :: Fp1 ∧ I Fp1 pre W ∧ ¬ (w.heap.size + 1) ∈ Fp1 ∧ ¬ w.heap.size ∈ Fp1 ∧ W.heap[w.heap.size + 1]? = some (.loop (rec .ready none)) ∧ W.heap[w.heap.size]? = some (.deferred (some [])))
      (fun Fp pre W => ∃ c Fp1, Fp = (w.heap.size + 1) :: w.heap.size :: Fp1 ∧ Ix c Fp1 pre W ∧ ¬ (w.heap.size + 1) ∈ Fp1 ∧ ¬ w.heap.size ∈ Fp1 ∧ W.heap[w.heap.size + 1]? = some (.loop (rec .done (some c))) ∧ W.heap[w.heap.size]? = some (.deferred (some [])))
      ((w.heap.size + 1) :: w.heap.size :: Fp0) W1 hb1 (fun k hk => ?_) ?_ ?_ ?_ ?_ ?_ ⟨Fp0, rfl, hI1, fun h => by have := hd0 _ h; omega, fun h => by have := hd0 _ h; omega, hL1, hK1⟩).mono ?_
    · rcases List.mem_cons.1 hk with rfl | hk
      · intro h; have := hRl _ h; omega
      · rcases List.mem_cons.1 hk with rfl | hk
        · intro h; have := hRl _ h; omega
        · exact hR k hk
    · rintro Fp pre W W' ⟨Fp1, rfl, hi, n1, n2, hl, hk⟩ h1 h2 h3 h4 h5
      have e1 := h5 (w.heap.size + 1) (Array.getElem?_eq_some_iff.1 hl).1 (.inl (by omega))
      have e2 := h5 w.heap.size (Array.getElem?_eq_some_iff.1 hk).1 (.inl (by omega))
      exact ⟨Fp1, rfl, hI Fp1 pre W W' hi h1 h2 h3 h4 fun k hk' hm => h5 k hk' (hm.imp (fun h => by omega) (fun h => by simp [h])), n1, n2, e1.trans hl, e2.trans hk⟩
    · rintro Fp pre W W' ⟨c, Fp1, rfl, hi, n1, n2, hl, hk⟩ h1 h2 h3 h4 h5
      have e1 := h5 (w.heap.size + 1) (Array.getElem?_eq_some_iff.1 hl).1 (.inl (by omega))
      have e2 := h5 w.heap.size (Array.getElem?_eq_some_iff.1 hk).1 (.inl (by omega))
      exact ⟨c, Fp1, rfl, hIx c Fp1 pre W W' hi h1 h2 h3 h4 fun k hk' hm => h5 k hk' (hm.imp (fun h => by omega) (fun h => by simp [h])), n1, n2, e1.trans hl, e2.trans hk⟩
    · rintro Fp pre W ⟨Fp1, rfl, hi, n1, n2, hl, hk⟩ k hm
      rcases List.mem_cons.1 hm with rfl | hm
      · exact (Array.getElem?_eq_some_iff.1 hl).1
      · rcases List.mem_cons.1 hm with rfl | hm
        · exact (Array.getElem?_eq_some_iff.1 hk).1
        · exact bI _ _ _ hi k hm
    · rintro Fp pre W ⟨c, Fp1, rfl, hi, n1, n2, hl, hk⟩ k hm
      rcases List.mem_cons.1 hm with rfl | hm
      · exact (Array.getElem?_eq_some_iff.1 hl).1
      · rcases List.mem_cons.1 hm with rfl | hm
        · exact (Array.getElem?_eq_some_iff.1 hk).1
        · exact bIx c _ _ _ hi k hm
    · -- one round
      rintro Fp pre x W ⟨Fp1, rfl, hi, n1, n2, hl, hk⟩ hsz hpre
      have hlt : w.heap.size + 1 < W.heap.size := (Array.getElem?_eq_some_iff.1 hl).1
      have hy := run_yield (P := P) (args := encs x) hl (by rw [hrec]; exact hps x)
      rw [hrec] at hy
      refine ⟨fn, _, assign, body, hy, roundIn_of_wpIn hfn (hassign _ x W _ ⟨_, run_beginRound hl (by rw [hrec]), ?_⟩)⟩
      have hl2 : (W.putObj (w.heap.size + 1) (.loop { rec .ready none with state := .busy })).heap[w.heap.size + 1]? = some (.loop { rec .ready none with state := .busy }) := World.putObj_heap_same hlt
      have hk2 : (W.putObj (w.heap.size + 1) (.loop { rec .ready none with state := .busy })).heap[w.heap.size]? = some (.deferred (some [])) := (World.putObj_heap_other (by omega)).trans hk
      refine wpIn_mono (hbody _ Fp1 pre x _ (hI.putObj _ hi (by omega) n1) (by rw [World.putObj_size]; omega) hpre) ?_
      have fin : ∀ (jump : Option Code) (W3 : World) (Fp' : List Nat), Grows Fp1 Fp' (W.putObj (w.heap.size + 1) (.loop { rec .ready none with state := .busy })) → Chg Fp1 (W.putObj (w.heap.size + 1) (.loop { rec .ready none with state := .busy })) W3 →
          (Instr.endRound (w.heap.size + 1) jump).run P W3 = .ok (.bool jump.isNone) (W3.putObj (w.heap.size + 1) (.loop (rec (if jump.isNone then .ready else .done) jump))) ∧
          (W3.putObj (w.heap.size + 1) (.loop (rec (if jump.isNone then .ready else .done) jump))).heap[w.heap.size + 1]? = some (.loop (rec (if jump.isNone then .ready else .done) jump)) ∧
          (W3.putObj (w.heap.size + 1) (.loop (rec (if jump.isNone then .ready else .done) jump))).heap[w.heap.size]? = some (.deferred (some [])) ∧
          ¬ (w.heap.size + 1) ∈ Fp' ∧ ¬ w.heap.size ∈ Fp' ∧ Grows ((w.heap.size + 1) :: w.heap.size :: Fp1) ((w.heap.size + 1) :: w.heap.size :: Fp') W ∧
          Chg ((w.heap.size + 1) :: w.heap.size :: Fp1) W (W3.putObj (w.heap.size + 1) (.loop (rec (if jump.isNone then .ready else .done) jump))) := fun jump W3 Fp' hg hc => by
        have hl3 : W3.heap[w.heap.size + 1]? = some (.loop { rec .ready none with state := .busy }) := (hc.block _ (by rw [World.putObj_size]; exact hlt) n1).trans hl2
        have hk3 : W3.heap[w.heap.size]? = some (.deferred (some [])) := (hc.block _ (by rw [World.putObj_size]; omega) n2).trans hk2
        have hrun := run_endRound (P := P) jump hl3
        rw [hrec] at hrun ⊢
        have hgg : ∀ k ∈ Fp', k ∈ Fp1 ∨ W.heap.size ≤ k := fun k hk' => by have := hg k hk'; rwa [World.putObj_size] at this
        refine ⟨hrun, World.putObj_heap_same (Array.getElem?_eq_some_iff.1 hl3).1, (World.putObj_heap_other (by omega)).trans hk3, fun h => ?_, fun h => ?_, fun k hm => ?_, ?_⟩
        · rcases hgg _ h with h | h
          · exact n1 h
          · omega
        · rcases hgg _ h with h | h
          · exact n2 h
          · omega
        · rcases List.mem_cons.1 hm with rfl | hm
          · left; simp
          · rcases List.mem_cons.1 hm with rfl | hm
            · left; simp
            · rcases hgg k hm with h | h
              · left; simp [h]
              · exact .inr h
        · refine chg_putObj ?_ (.inl (by simp)) _
          refine ⟨hc.os, hc.tape, hc.output, by have := hc.size; rwa [World.putObj_size] at this, fun k hk' hn => ?_⟩
          rw [hc.block k (by rw [World.putObj_size]; exact hk') (fun h => hn (by simp [h]))]
          exact World.putObj_heap_other (fun e => hn (by simp [e]))
      rintro e a3 W3 hp
      cases e with
      | normal =>
        obtain ⟨Fp', hg, hc, hi3⟩ := hp
        obtain ⟨hr, hl4, hk4, m1, m2, g2, c2⟩ := fin none W3 Fp' hg hc
        exact ⟨_, _, hr, _, g2, c2, .inl ⟨rfl, Fp', rfl, hI.putObj _ hi3 (by omega) m1, m1, m2, hl4, hk4⟩⟩
      | ret =>
        obtain ⟨Fp', hg, hc, hi3⟩ := hp
        obtain ⟨hr, hl4, hk4, m1, m2, g2, c2⟩ := fin (some .ret) W3 Fp' hg hc
        exact ⟨_, _, hr, _, g2, c2, .inr ⟨rfl, .ret, Fp', rfl, (hIx _).putObj _ hi3 (by omega) m1, m1, m2, hl4, hk4⟩⟩
      | exit id =>
        obtain ⟨Fp', hg, hc, hi3⟩ := hp
        obtain ⟨hr, hl4, hk4, m1, m2, g2, c2⟩ := fin (some (.exit id)) W3 Fp' hg hc
        exact ⟨_, _, hr, _, g2, c2, .inr ⟨rfl, .exit id, Fp', rfl, (hIx _).putObj _ hi3 (by omega) m1, m1, m2, hl4, hk4⟩⟩
      | goto t =>
        obtain ⟨Fp', hg, hc, hi3⟩ := hp
        obtain ⟨hr, hl4, hk4, m1, m2, g2, c2⟩ := fin (some (.goto t)) W3 Fp' hg hc
        exact ⟨_, _, hr, _, g2, c2, .inr ⟨rfl, .goto t, Fp', rfl, (hIx _).putObj _ hi3 (by omega) m1, m1, m2, hl4, hk4⟩⟩
      | panic ch => exact hp.elim
      | outgrown => exact hp.elim
    · -- behind the iterator
      rintro e W2 ⟨⟨v, rfl⟩, Fp', (⟨Fp1, rfl, hi, n1, n2, hl, hk⟩ | ⟨pre, hSp, c, Fp1, rfl, hi, n1, n2, hl, hk⟩)⟩
      · exact ⟨none, _, by have := run_endLoop (P := P) hl (by rw [hrec]; simp); rw [hrec] at this; exact this, hdone _ Fp1 _ (Nat.le_refl _) n2 (hI.putObj _ hi (by omega) n1) ((World.putObj_heap_other (by omega)).trans hk)⟩
      · exact ⟨some c, _, by have := run_endLoop (P := P) hl (by rw [hrec]; simp); rw [hrec] at this; exact this, hstop _ c Fp1 pre _ (Nat.le_refl _) n2 hSp ((hIx c).putObj _ hi (by omega) n1) ((World.putObj_heap_other (by omega)).trans hk)⟩
end Go.Proofs.YtpjciaomhfeeeaaGreat
end

section
namespace Go.Proofs.YtpjciaomhfeeeaaGreat
open Go Go.RowKit Go.Shelf
set_option linter.unusedSimpArgs false
set_option linter.unusedVariables false

/-- what stands between two rounds: the body's word, and which blocks have turned since the iterator began -/
def Sofar (I : List Nat → List Nat → World → Prop) (Fp0 : List Nat) (W : World) (Fp : List Nat) (pre : List Nat) (wr : World) : Prop := I Fp pre wr ∧ Grows Fp0 Fp W ∧ Chg Fp0 W wr
theorem grows_chg {F F' G : List Nat} {w W W' : World} (hg : Grows F F' w) (hc : Chg F w W) (hg2 : Grows F' G W) (hc2 : Chg F' W W') : Grows F G w ∧ Chg F w W' := by
  have hs := hc.size
  refine ⟨fun k hk => ?_, hc.trans hc2 hg⟩
  rcases hg2 k hk with h | h
  · exact hg k h
  · exact .inr (by omega)
theorem chg_local {α : Type} {B : Nat} {I : List Nat → List α → World → Prop} (h : Local B I) {Fp : List Nat} {pre : List α} {W W' : World} (hi : I Fp pre W) (hb : Below W.heap.size W W') : I Fp pre W' :=
  h Fp pre W W' hi hb.os hb.tape hb.output hb.size fun k hk _ => hb.block k hk
end Go.Proofs.YtpjciaomhfeeeaaGreat
end
