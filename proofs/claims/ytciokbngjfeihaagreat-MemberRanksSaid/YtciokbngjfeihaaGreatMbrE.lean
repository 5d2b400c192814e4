/- Contract: member.All: which members it hands on, in which order. -/
import Derived.Test.YtciokbngjfeihaaGreatMbrD
namespace Go.Proofs.YtciokbngjfeihaaGreat
open Go Go.RowKit Go.Shelf
set_option linter.unusedSimpArgs false
set_option linter.unusedVariables false

/-- the members that All hands on -/
def allM (cs : List (Option Rec)) (n : Nat) (ps : List Int) (f : Int) (e : Edg) : List Nat := if startC cs n ps.length f e ≠ 0 then [] else (memR cs n f n (atR cs e 0) 0).map (upM ps n)
def allR (F G : List Nat) (bs bo bf be : Nat) (k : Nat) : Prop := k ∈ F ∨ k ∈ G ∨ k = bs ∨ k = bo ∨ k = bf ∨ k = be
set_option maxRecDepth 200000 in
set_option maxHeartbeats 16000000 in
theorem all_runs (F G : List Nat) (gs go n room bs bo bf be : Nat) (cs : List (Option Rec)) (free : List Int) (ps ls : List Int) (f : Int) (e : Edg) (w : World) (h : StoreAt w F gs n room cs free) (hO : OrdAt w G go ps ls) (hfit : Fits ps ls) (hf : 0 ≤ f ∧ f ≤ 255) (he : e.Wf)
    (hcs : ∀ id r, recAt cs id = some r → r.Wf ∧ r.top ≤ r.bot ∧ r.bot < n)
    (k0 : Blk w bs 28 #[.pointer (some ⟨gs, 0, none⟩)]) (k1 : Blk w bo 33 #[.pointer (some ⟨go, 0, none⟩)]) (k2 : Blk w bf 32 #[.int .u8 f]) (k3 : Blk w be 26 #[.int .u8 e.tag, .int .u32 e.pos]) :
    SeqRuns Tryz.prog 51 #[.pointer (some ⟨bs, 0, none⟩), .pointer (some ⟨bo, 0, none⟩), .pointer (some ⟨bf, 0, none⟩), .pointer (some ⟨be, 0, none⟩)] (fun x : Nat => #[Value.int .i64 (x : Int)]) (allR F G bs bo bf be) (allM cs n ps f e) w := by
  intro l I Ix Fp0 W hW hR hI hIx bI bIx hY h0
  have hS := h.on hW
  have hOW := hO.on hW
  have c0 : W.cell? ⟨bs, 0, none⟩ = some (.pointer (some ⟨gs, 0, none⟩)) := (Blk.onB k0 hW).cell 0
  have c1 : W.cell? ⟨bo, 0, none⟩ = some (.pointer (some ⟨go, 0, none⟩)) := (Blk.onB k1 hW).cell 0
  have c2 : W.cell? ⟨bf, 0, none⟩ = some (.int .u8 f) := (Blk.onB k2 hW).cell 0
  have c3 : W.cell? ⟨be, 0, none⟩ = some (.int .u8 e.tag) := (Blk.onB k3 hW).cell 0
  have c4 : W.cell? ⟨be, 1, none⟩ = some (.int .u32 e.pos) := (Blk.onB k3 hW).cell 1
  have HST := Lib.hid (start_any F G gs go n room cs free ps ls f e W hS hOW hf he hfit.perm.1)
  have HI := Lib.hid (And.intro hI (And.intro bI h0))
  have HY := Lib.hid hY
  have HR := Lib.hid hR
  have HS := Lib.hid (And.intro hS (And.intro hOW (And.intro hfit hcs)))
  obtain ⟨xs, hxs⟩ : ∃ xs, xs = allM cs n ps f e := ⟨_, rfl⟩
  rw [← hxs] at HY ⊢
  have HXS := Lib.hid hxs
  clear h hO hfit hcs k0 k1 k2 k3 hW hS hOW hI bI hIx bIx hY h0 hR hxs
  refine callsIn_of_wp Tryz.func51 rfl trivial ?_ rfl
  simp only [Tryz.ntmps51, List.size_toArray, List.length_cons, List.length_nil, Nat.reduceAdd, Nat.reduceSub, Array.replicate_succ, Array.replicate_zero, List.push_toArray, List.append_toArray, List.nil_append, List.cons_append]
  gi_wp2_with fail
  refine ⟨trivial, rfl, ?_⟩
  refine (callsIn_wide.2 HST.out).mono ?_
  rintro x w1 ⟨ho, hb1⟩
  have HB1 := Lib.hid hb1
  clear c0 c1 c2 c3 c4 hb1
  rcases ho with ⟨hne, rfl⟩ | ⟨heq, cb, rfl, hca, hcb⟩
  · have HX : Hid (xs = []) := Lib.hid (by rw [HXS.out]; unfold allM; rw [if_pos hne])
    obtain ⟨code, hcode⟩ : ∃ code, code = startC cs n ps.length f e := ⟨_, rfl⟩
    rw [← hcode] at hne ⊢
    have t1 : ((code : Int) == 0) = false := by rw [beq_eq_false_iff_ne]; omega
    have t2 : (code == 0) = false := by rw [beq_eq_false_iff_ne]; omega
    clear hcode hne
    unfold Rst.cells Rst.nil Rec.nil Edg.nil
    gi_wp2_with fail
    go_end0
    exact ⟨⟨_, rfl⟩, Fp0, .inl (by rw [HX.out]; exact chg_local HI.out.1 HI.out.2.2 (HB1.out.trans ((Below.refl w1.heap.size w1).alloc (Nat.le_refl _) _ |>.mono HB1.out.size)))⟩
  · have HX : Hid (xs = (memR cs n f n (atR cs e 0) 0).map (upM ps n)) := Lib.hid (by rw [HXS.out]; unfold allM; rw [if_neg (by simpa using heq)])
    obtain ⟨y, hy⟩ : ∃ y, y = atR cs e 0 := ⟨_, rfl⟩
    have hpl : ps.length = n := by
      unfold startC at heq
      split at heq
      · cases heq
      · rename_i h; simpa using (Eq.symm (by simpa using h))
    have hoky : RstOk n (0 : Nat) y := by rw [hy]; exact atR_ok (by omega) he (by omega) HS.out.2.2.2
    rw [← hy] at HX ⊢
    clear hy heq
    obtain ⟨hS, hOW, hfit, hcs⟩ := HS.out
    have hS1 := hS.on HB1.out
    have hO1 := hOW.on HB1.out
    have E : EachIn n l W.heap.size cs ps ls I Ix xs := ⟨hfit, hpl, hcs, HI.out.1, HI.out.2.1, HY.out⟩
    have hbd : ∀ k ∈ Fp0, k < W.heap.size := HI.out.2.1 Fp0 [] W HI.out.2.2
    have hEA : EachAt w1 Fp0 F G gs go n room cb cs free ps ls f := ⟨hS1, hO1, hca, fun k hk hm => HR.out k hm (.inl hk), fun k hk hm => HR.out k hm (.inr (.inl hk)), fun hm => by have := hbd _ hm; omega⟩
    have HEA := Lib.hid (And.intro hEA (And.intro hoky (And.intro E hpl)))
    clear hS hOW hfit hcs hS1 hO1 E hbd hEA hca hoky
    unfold Rst.cells
    gi_wp2_with fail
    have hba : Below w1.heap.size w1 (w1.alloc (.cells #[.bool y.inn, .bool y.node, .int .u8 y.r.form, .int .u8 y.r.top, .int .u8 y.r.bot, .int .u8 y.r.lo.tag, .int .u32 y.r.lo.pos, .int .u8 y.r.hi.tag, .int .u32 y.r.hi.pos, .int .u8 y.tag, .int .u8 y.l] 78)) := (Below.refl _ _).alloc (Nat.le_refl _) _
    refine ⟨trivial, rfl, ?_⟩
    refine (each_any F G gs go n room cb l W.heap.size cs free ps ls f I Ix xs HEA.out.2.2.1 n y 0 0 Fp0 [] _ (by omega) HEA.out.2.1 (by decide) (Nat.le_trans HB1.out.size hba.size) (HEA.out.1.later (same_grows _ _) (chg_of_below hba)) (chg_local HI.out.1 HI.out.2.2 (HB1.out.trans (hba.mono HB1.out.size))) (by rw [List.nil_append, ← HX.out]; exact List.prefix_refl _)).mono ?_
    rintro e' w5 (⟨rfl, Fp1, hs5⟩ | ⟨rfl, Fp1, pre1, hp1, hix⟩)
    · have HF : Hid (I Fp1 xs w5) := Lib.hid (by rw [HX.out]; exact hs5.1)
      clear hs5 hba
      gi_wp2_with fail
      go_end0
      exact ⟨⟨_, rfl⟩, Fp1, .inl HF.out⟩
    · have HF : Hid (pre1 <+: xs ∧ Ix Fp1 pre1 w5) := Lib.hid ⟨hp1, hix⟩
      clear hp1 hix hba
      gi_wp2_with fail
      go_end0
      exact ⟨⟨_, rfl⟩, Fp1, .inr ⟨pre1, HF.out.1, HF.out.2⟩⟩
end Go.Proofs.YtciokbngjfeihaaGreat
