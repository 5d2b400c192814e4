/- The parser: bound variables; the parser as a whole. -/
import Derived.Test.YtpjciaomhfeeeaaGreatDoorExJ
import Derived.Deep.AppendLies
namespace Go.Proofs.YtpjciaomhfeeeaaGreatDoor
open Go.RowKit Go.Sort
set_option linter.unusedSimpArgs false
set_option linter.unusedVariables false

/-- the block of a quantifier -/
def bndC (each : Bool) (s x : Value) : Array Value := #[.bool each, s, x]
/-- what the loop over the bound variables keeps -/
def BndR (g : Nat) (l : List UInt8) (u : Tok) (M : List Tok) (d : Nat) (bad : Int) (w : World) (bc : Nat) (each : Bool) (gk : Nat) (wr : World) : Prop :=
  ∃ A n c vs v L1, gk = L1.length ∧ u :: M = vs ++ v :: L1 ∧ (∀ y ∈ vs, y.kind = 118) ∧ Chg [g] w wr ∧ St wr g l (v :: L1) (d + 1) bad 0 ∧
    Blk wr bc 156 (bndC each (.slice A n c) .nilIface) ∧ OwnI wr (bc + 1) (.slice A n c) (vs.map fun y => (y.n : Int)) ∧ bc < wr.heap.size
/-- where the variables end -/
theorem vars_end {u v : Tok} {vs M L1 : List Tok} (hu : u.kind = 118) (h : u :: M = vs ++ v :: L1) (hv : v.kind ≠ 118) : ∃ vs', vs = u :: vs' ∧ M = vs' ++ v :: L1 := by
  cases vs with
  | nil => simp at h; exact absurd (h.1 ▸ hu) hv
  | cons y vs => simp at h; exact ⟨vs, by rw [h.1], h.2⟩
/-- a store into a block of another kind leaves the library's variables -/
theorem PV.off {w : World} {g : Nat} {cs : Array Value} {x : Value} (h : PV w) (hB : Blk w g 156 cs) (k : Nat) (h0 : cs[0]? = some (.bool true) ∨ cs[0]? = some (.bool false)) : PV (w.setCell ⟨g, k, none⟩ x) := by
  have hc : Chg [g] w (w.setCell ⟨g, k, none⟩ x) := (Chg.refl _ _).setCell (.inl (by simp)) _
  have hp := Blk.cell hB 0
  obtain ⟨⟨m, h1⟩, ⟨a, b, h2⟩, ⟨c, d, h3⟩⟩ := h
  have n1 : ¬ 0 ∈ [g] := fun e => by have e := List.mem_singleton.1 e; subst e; rw [h1] at hp; rw [← hp] at h0; simp at h0
  have n2 : ¬ 1 ∈ [g] := fun e => by have e := List.mem_singleton.1 e; subst e; rw [h2] at hp; rw [← hp] at h0; simp at h0
  have n3 : ¬ 2 ∈ [g] := fun e => by have e := List.mem_singleton.1 e; subst e; rw [h3] at hp; rw [← hp] at h0; simp at h0
  exact ⟨⟨m, (hc.cell (p := ⟨0, 0, none⟩) (Lib.lt_of_cell h1) n1).trans h1⟩, ⟨a, b, (hc.cell (p := ⟨1, 0, none⟩) (Lib.lt_of_cell h2) n2).trans h2⟩, ⟨c, d, (hc.cell (p := ⟨2, 0, none⟩) (Lib.lt_of_cell h3) n3).trans h3⟩⟩
/-- the end of a quantifier -/
theorem bnd_end {w w3 : World} {g bc : Nat} {l : List UInt8} {t u v : Tok} {vs L1 : List Tok} {d : Nat} {bad : Int} {x : TypeId × Value} {each : Bool} {A : Option Addr} {n c : Nat}
    (ht : t.kind = 115 ∨ t.kind = 101) (hu : u.kind = 118) (hd : d + 1 ≤ 200) (hvs : ∀ y ∈ vs, y.kind = 118) (hv : v.kind = 46) (heach : each = (t.kind == 101)) (hbw : w.heap.size ≤ bc)
    (hC : Chg [g] w w3) (hB : Blk w3 bc 156 (bndC each (.slice A n c) .nilIface)) (hO : OwnI w3 (bc + 1) (.slice A n c) ((u :: vs).map fun y => (y.n : Int)))
    (h : ((∃ (c p d' : Nat) (L' : List Tok), Run .not (d + 1) L1 (.err c p) ∧ (c = 10 ∨ c = 12) ∧ d + 1 ≤ d' ∧ d' ≤ d + 1 + L1.length ∧ St w3 g l L' d' p c) ∨
     (∃ x' L', Run .not (d + 1) L1 (.ok [x'] L') ∧ L'.length ≤ L1.length ∧ St w3 g l L' (d + 1) bad 0 ∧ ExAt w3 w3.heap.size x' x))) :
    ∃ d2 : Nat, w3.cell? ⟨g, 5, none⟩ = some (.int .i64 ((d2 : Int) + 1)) ∧ w3.frozen? ⟨g, 5, none⟩ = false ∧ g < w3.heap.size ∧ d2 ≤ d + 1 + L1.length ∧
      Out .not g l (t :: u :: (vs ++ v :: L1)) d bad w (.returned (.iface 156 (.agg #[.bool each, .slice A n c, ifV x]))) ((w3.setCell ⟨bc, 2, none⟩ (ifV x)).setCell ⟨g, 5, none⟩ (.int .i64 (d2 : Nat))) := by
  have far : ∀ {L' : List Tok} {d' : Nat} {p c : Int}, St w3 g l L' d' p c → St (w3.setCell ⟨bc, 2, none⟩ (ifV x)) g l L' d' p c := fun hs => by
    obtain ⟨⟨a, t1, a0, hp, hn, hL⟩, hV, hl⟩ := hs
    have hne : g ≠ bc := Blk.ne_ hp hB (by decide)
    refine ⟨⟨a, t1, a0, Blk.far hp hne _, hn, hL⟩, ?_, hl⟩
    exact PV.off hV hB _ (by cases each; exact .inr rfl; exact .inl rfl)
  rcases h with ⟨c', p, d', L', h1, h2, h3, h4, h5⟩ | ⟨x', L', h1, h2, h3, h4⟩
  · obtain ⟨d2, rfl⟩ : ∃ d2, d' = d2 + 1 := ⟨d' - 1, by omega⟩
    exact ⟨d2, h5.deepc.1, h5.deepc.2, h5.lt, by omega, ⟨(_, _), rfl, (hC.setCell (.inr hbw) _).setCell (.inl (by simp)) _, .inl ⟨c', p, d2, L', .bndE ht hu hd hvs hv h1, h2, by omega, by simp at h4 ⊢; omega, (far h5).setDeep d2⟩⟩⟩
  · refine ⟨d, h3.deepc.1, h3.deepc.2, h3.lt, by omega, ⟨(_, _), rfl, (hC.setCell (.inr hbw) _).setCell (.inl (by simp)) _, .inr ⟨_, L', .bnd ht hu hd hvs hv h1, by simp at h2 ⊢; omega, (far h3).setDeep d, ?_⟩⟩⟩
    have hs := far h3
    have k1 : ExAt (w3.setCell ⟨bc, 2, none⟩ (ifV x)) (w3.setCell ⟨bc, 2, none⟩ (ifV x)).heap.size x' x := ExAt.chg (g := bc) h4 ((Chg.refl _ _).setCell (.inl (by simp)) _) hB (by decide)
    have k2 := k1.st hs ((Chg.refl [g] _).setCell (p := ⟨g, 5, none⟩) (.inl (by simp)) (.int .i64 (d : Nat)))
    obtain ⟨⟨a, t1, a0, hp, hn, hL⟩, hV, hl⟩ := h3
    have o1 : OwnI w3 0 (.slice A n c) ((u :: vs).map fun y => (y.n : Int)) := hO.mono (Nat.zero_le _)
    have o2 : OwnI (w3.setCell ⟨bc, 2, none⟩ (ifV x)) 0 (.slice A n c) ((u :: vs).map fun y => (y.n : Int)) := o1.chg (F := [bc]) ((Chg.refl _ _).setCell (.inl (by simp)) _) (fun k hk hm => by
      rw [List.mem_singleton] at hm
      subst hm
      exact OwnF.ne_blk o1 hB (by decide) hk)
    have o3 : OwnI ((w3.setCell ⟨bc, 2, none⟩ (ifV x)).setCell ⟨g, 5, none⟩ (.int .i64 (d : Nat))) 0 (.slice A n c) ((u :: vs).map fun y => (y.n : Int)) := o2.chg (F := [g]) ((Chg.refl _ _).setCell (.inl (by simp)) _) (fun k hk hm => by
      rw [List.mem_singleton] at hm
      subst hm
      exact OwnF.ne_blk o1 hp (by decide) hk)
    refine ⟨A, n, c, x, by rw [heach], ?_, fun k hk => o3.blk_lt k hk, k2⟩
    rw [List.map_map]
    exact o3
theorem St.far {w3 : World} {g bc : Nat} {l : List UInt8} {L : List Tok} {d : Nat} {bad e : Int} {each : Bool} {sv x y : Value} (hs : St w3 g l L d bad e) (hB : Blk w3 bc 156 (bndC each sv x)) (k : Nat) : St (w3.setCell ⟨bc, k, none⟩ y) g l L d bad e := by
  obtain ⟨⟨a, t1, a0, hp, hn, hL⟩, hV, hl⟩ := hs
  have hne : g ≠ bc := Blk.ne_ hp hB (by decide)
  exact ⟨⟨a, t1, a0, Blk.far hp hne _, hn, hL⟩, PV.off hV hB _ (by cases each; exact .inr rfl; exact .inl rfl), hl⟩
/-- behind the append of one variable, before the step -/
theorem bnd_app {w wr w4 : World} {g bc d g1 cap n c : Nat} {l : List UInt8} {u v v2 : Tok} {M vs L2 : List Tok} {bad : Int} {each : Bool} {A : Option Addr} (hPV : PV w) (hg : g < w.heap.size) (hbw : w.heap.size ≤ bc) (hbs : bc < wr.heap.size)
    (hch : Chg [g] w wr) (hst : St wr g l (v :: v2 :: L2) (d + 1) bad 0) (hbk : Blk wr bc 156 (bndC each (.slice A n c) .nilIface)) (hown : OwnI wr (bc + 1) (.slice A n c) (vs.map fun y => (y.n : Int)))
    (hG : ((wr.alloc (.cells #[.int .i64 (v.n : Nat)] 3)).drew).grownBy w4 (Value.slice A n c).ownBlock) (hO : w4.ownsRow (bc + 1) 3 1 (.slice (some ⟨g1, 0, none⟩) (vs.length + 1) cap) (vs.length + 1) ((vs.map fun y => (y.n : Int)).map (Value.int .i64) ++ [.int .i64 (v.n : Nat)])) :
    ∃ W', W' = w4.setCell ⟨bc, 1, none⟩ (.slice (some ⟨g1, 0, none⟩) (vs.length + 1) cap) ∧ Chg [g] w W' ∧ St W' g l (v :: v2 :: L2) (d + 1) bad 0 ∧ Blk W' bc 156 (bndC each (.slice (some ⟨g1, 0, none⟩) (vs.length + 1) cap) .nilIface) ∧
      OwnI W' (bc + 1) (.slice (some ⟨g1, 0, none⟩) (vs.length + 1) cap) ((vs ++ [v]).map fun y => (y.n : Int)) ∧ bc < W'.heap.size := by
  have hsz := hG.size
  simp only [World.size_drew, World.size_alloc] at hsz
  have hblk : ∀ k, k ≤ bc → w4.heap[k]? = wr.heap[k]? := fun k hk => by
    refine (hG.block k (by simp only [World.size_drew, World.size_alloc]; omega) (fun e => ?_)).trans ?_
    · have := hown.blk_ge k (mem_blk.2 e.symm)
      omega
    · exact Below.heap_alloc _ _ _ (by omega)
  have hB4 : Blk w4 bc 156 (bndC each (.slice A n c) .nilIface) := (hblk bc (Nat.le_refl _)).trans hbk
  have hbl : Below w.heap.size wr w4 := ⟨hG.os, hG.tape, hG.output, by omega, fun k hk => hblk k (by omega)⟩
  have hs4 := hst.grow hPV hbl hg
  have hOw : OwnI w4 (bc + 1) (.slice (some ⟨g1, 0, none⟩) (vs.length + 1) cap) ((vs ++ [v]).map fun y => (y.n : Int)) := by
    unfold OwnI OwnF
    simp only [List.map_append, List.map_cons, List.map_nil, List.length_append, List.length_cons, List.length_nil, Nat.zero_add, List.length_map]
    exact hO
  refine ⟨_, rfl, ?_, hs4.far hB4 1, Blk.set_ hB4 1 _, hOw.set_below (by simp) _, by simp; omega⟩
  have : Chg [g] w w4 := ⟨hG.os.trans hch.os, hG.tape.trans hch.tape, hG.output.trans hch.output, Nat.le_trans hch.size (by omega), fun k hk hm => (hblk k (by omega)).trans (hch.block k hk hm)⟩
  exact this.setCell (.inr hbw) _
theorem St.low {w w3 w4 : World} {g : Nat} {l : List UInt8} {L : List Tok} {d : Nat} {bad e : Int} (h : St w3 g l L d bad e) (hp : PV w) (hb : Below w.heap.size w3 w4) (hg : g < w.heap.size) : St w4 g l L d bad e := h.grow hp hb hg
set_option maxRecDepth 100000 in
set_option maxHeartbeats 16000000 in
theorem bnd_any (n : Nat) (hn : ∀ m, m < n → NotC m) : BndC n := by
  intro g l t L d bad w hLn hd h hk
  obtain ⟨_, _, he, _, _, hmore, _⟩ := h.head
  injection he with he1 he2
  subst he1 he2
  obtain ⟨u, M, rfl⟩ := hmore (by omega)
  clear hmore
  have HS := Lib.hid (step_st g l t u M d bad 0 w h)
  have HPV := Lib.hid h.pv
  have hg := h.lt
  have HN := Lib.hid hn
  have HK := Lib.hid hk
  have HLN : (u :: M).length < n := by rw [← hLn]; simp
  have hdM : d + M.length + 2 ≤ 5000 := by rw [← hLn] at hd; simp at hd; omega
  clear h hn hk hd hLn
  obtain ⟨each, hE⟩ : ∃ each, each = (t.kind == 101) := ⟨_, rfl⟩
  rw [← hE]
  have HE := Lib.hid hE
  clear hE
  go_enter Tryz.func45, Tryz.ntmps45
  go_wp2_with fail
  refine HS.out.mono ?_
  rintro x w1 ⟨rfl, h1, h2⟩
  obtain ⟨a, hp⟩ := h2.cells
  have c2 := hp.c2
  have c5 := hp.c5
  have f5 := Blk.frozen hp 5
  have hg1 := hp.lt
  have HST : Hid (St ((w1.setCell ⟨g, 5, none⟩ (.int .i64 ((d : Int) + 1))).alloc (.cells (bndC each (.slice none 0 0) .nilIface) 156)) g l (u :: M) (d + 1) bad 0) := Lib.hid ((h2.setDeep2 (d + 1) _ (by omega)).alloc _)
  have HC : Hid (Chg [g] w ((w1.setCell ⟨g, 5, none⟩ (.int .i64 ((d : Int) + 1))).alloc (.cells (bndC each (.slice none 0 0) .nilIface) 156))) := Lib.hid ((h1.setCell (.inl (by simp)) _).alloc _)
  have HBL : Hid (Blk ((w1.setCell ⟨g, 5, none⟩ (.int .i64 ((d : Int) + 1))).alloc (.cells (bndC each (.slice none 0 0) .nilIface) 156)) w1.heap.size 156 (bndC each (.slice none 0 0) .nilIface)) := Lib.hid (by
    have := Blk.new (w1.setCell ⟨g, 5, none⟩ (.int .i64 ((d : Int) + 1))) 156 (bndC each (.slice none 0 0) .nilIface)
    rw [World.size_setCell] at this
    exact this)
  have hw1 := h1.size
  clear hp h1 h2
  by_cases hu : u.kind = 118
  · have hu1 : (u.kind : Int) = 118 := by omega
    by_cases hdd : 200 < d + 1
    · have hd2 : (200 : Int) < (d : Int) + 1 := by omega
      go_wp2_with fail
      refine (fail_st g l u M (d + 1) bad 12 _ HST.out).mono ?_
      rintro x w2 ⟨rfl, k1, k2⟩
      go_wp2_with fail
      refine bodyPost_ret (v := noE) (by simp [results, Tryz.results45, go_sem, *]) rfl (Out.other ⟨(_, _), rfl, HC.out.trans k1 (by simp), 12, u.at_, d + 1, _, .bndD HK.out hu hdd, .inr rfl, by omega, by simp <;> omega, k2⟩)
    · have hd2 : ¬ (200 : Int) < (d : Int) + 1 := by omega
      have HSZ : Hid (w1.heap.size < ((w1.setCell ⟨g, 5, none⟩ (.int .i64 ((d : Int) + 1))).alloc (.cells (bndC each (.slice none 0 0) .nilIface) 156)).heap.size) := Lib.hid (by simp)
      go_wp2_with fail
      go_loopg [] M.length (fun gk wr => BndR g l u M d bad w w1.heap.size each gk wr)
      case atStart => exact ⟨none, 0, 0, [], u, M, rfl, rfl, by simp, HC.out, HST.out, HBL.out, OwnF.nil_, HSZ.out⟩
      case round =>
        obtain ⟨A, n1, c, vs, v, L1, rfl, hL, hvs, hch, hst, hbk, hown, hbs⟩ := hrel
        obtain ⟨_, _, he, _, _, hmore, _⟩ := hst.head
        injection he with he1 he2
        subst he1 he2
        have hlen : vs.length + L1.length = M.length := by have := congrArg List.length hL; simp at this; omega
        have HL := Lib.hid hL
        have HVS := Lib.hid hvs
        have HCH := Lib.hid hch
        have HST2 := Lib.hid hst
        have HBK := Lib.hid hbk
        have HOWN := Lib.hid hown
        clear hL hvs hch hbk hown
        by_cases hv : v.kind = 118
        · obtain ⟨v2, L2, rfl⟩ := hmore (by omega)
          clear hmore
          obtain ⟨a2, hp⟩ := hst.cells
          clear c2 c5 f5
          have c2 := hp.c2
          have c3 := hp.c3
          have k1 : wr.cell? ⟨w1.heap.size, 1, none⟩ = some (.slice A n1 c) := HBK.out.cell 1
          have z1 := HBK.out.frozen 1
          have hg2 := hp.lt
          rw [hv] at c2
          clear hp hst
          obtain ⟨i0, hi, hz0, hz1, hz2⟩ := info_parts info_int
          have hown := (HOWN.out.alloc (.cells #[.int .i64 (v.n : Nat)] 3)).drew
          unfold OwnF at hown
          rw [List.length_map] at hown
          have HO1 := Lib.hid hown
          have HNEWS := Lib.hid (World.news_of_block (heap_alloc_new wr (.cells #[.int .i64 (v.n : Nat)] 3)))
          have H63 : Hid (vs.length + 1 ≤ maxLen) := Lib.hid (by unfold maxLen; omega)
          have HBY : Hid ((vs.length + 1) * 8 ≤ 140737488355328) := Lib.hid (by omega)
          have HLE : Hid (w1.heap.size + 1 ≤ (wr.alloc (.cells #[.int .i64 (v.n : Nat)] 3)).drew.heap.size) := Lib.hid (by simp only [World.size_drew, World.size_alloc]; omega)
          have kw : ∀ w4 : World, ((wr.alloc (.cells #[.int .i64 (v.n : Nat)] 3)).drew).grownBy w4 (Value.slice A n1 c).ownBlock → w4.cell? ⟨w1.heap.size, 1, none⟩ = some (.slice A n1 c) ∧ w4.frozen? ⟨w1.heap.size, 1, none⟩ = false := fun w4 hG => by
            have e : w4.heap[w1.heap.size]? = wr.heap[w1.heap.size]? := by
              refine (hG.block w1.heap.size (by simp only [World.size_drew, World.size_alloc]; omega) (fun e => ?_)).trans ?_
              · have := HOWN.out.blk_ge w1.heap.size (mem_blk.2 e.symm)
                omega
              · exact Below.heap_alloc _ _ _ (by omega)
            exact ⟨(World.cell?_of_block (a := ⟨w1.heap.size, 1, none⟩) e).trans k1, (World.frozen?_of_block (a := ⟨w1.heap.size, 1, none⟩) e).trans z1⟩
          have HKW := Lib.hid kw
          clear hown kw
          go_wp2_with fail
          go_region_law (refine step_append_lies _ rfl (.tmp 39) (.tmp 45) 42 rfl (w1.heap.size + 1) 3 i0 _ 1 8 Tryz.underlying42 hi hz0 hz1 hz2 rfl (by decide) (.slice A n1 c) vs.length ((vs.map fun y => (y.n : Int)).map (Value.int .i64)) rfl HO1.out ⟨wr.heap.size, 0, none⟩ 1 1 _ rfl rfl HNEWS.out (by intro u hu; simp at hu; subst hu; rfl) (by decide) H63.out HBY.out HLE.out _ rfl ?_; intro g1 cap w4 hown1 hgrow1 hat1 hlt1; have HO := Lib.hid hown1; have HG := Lib.hid hgrow1; have hcg1 := (HKW.out w4 hgrow1).1; have hfg1 := (HKW.out w4 hgrow1).2; clear hown1 hgrow1 hat1)
          all_goals
            obtain ⟨W', hW', k2, k3, k4, k5, k6⟩ := bnd_app (u := u) (M := M) HPV.out hg hw1 hbs HCH.out HST2.out HBK.out HOWN.out HG.out HO.out
            have HS5 := Lib.hid (step_st g l v v2 L2 (d + 1) bad 0 W' k3)
            have HH := Lib.hid (And.intro k2 (And.intro k4 (And.intro k5 k6)))
            clear k2 k3 k4 k5 k6 hcg1 hfg1
            go_wp2_with fail
            rw [← hW']
            refine HS5.out.mono ?_
            rintro x w5 ⟨rfl, j1, j2⟩
            obtain ⟨k2, k4, k5, k6⟩ := HH.out
            have HNEXT : Hid (BndR g l u M d bad w w1.heap.size each L2.length w5) := Lib.hid ⟨_, _, _, vs ++ [v], v2, L2, rfl, by rw [HL.out]; simp, fun y hy => by
                rcases List.mem_append.1 hy with h | h
                · exact HVS.out y h
                · rw [List.mem_singleton.1 h]; exact hv, k2.trans j1 (by simp), j2, Blk.chg k4 j1 (by simp; omega), k5.chg j1 (fun k hk hm => by
                rw [List.mem_singleton] at hm
                subst hm
                have := k5.blk_ge _ hk
                omega), Nat.lt_of_lt_of_le k6 j1.size⟩
            clear k2 k4 k5 k6 j1 j2 hW'
            go_wp2_with fail
            go_roundg L2.length
            case rel => exact HNEXT.out
            case measure => simp
        · clear hmore
          obtain ⟨vs', hvs1, hM⟩ := vars_end hu HL.out hv
          subst hvs1
          have hvs2 : ∀ y ∈ vs', y.kind = 118 := fun y hy => HVS.out y (by simp [hy])
          obtain ⟨a2, hp⟩ := hst.cells
          clear c2 c5 f5
          have c2 := hp.c2
          have hv1 : ((v.kind : Int) == 118) = false := by simp; omega
          have HV := Lib.hid hv
          have HVS2 := Lib.hid hvs2
          clear hp hvs2 hv
          subst hM
          by_cases hv46 : v.kind = 46
          · obtain ⟨v2, L2, rfl⟩ : ∃ v2 L2, L1 = v2 :: L2 := by
              obtain ⟨_, _, he, _, _, hmore, _⟩ := hst.head
              injection he with he1 he2
              subst he1 he2
              exact hmore (by omega)
            have HW := Lib.hid (want_hit_st g l v v2 L2 (d + 1) bad 46 wr hst hv46)
            clear hst
            go_wp2_with fail
            refine HW.out.mono ?_
            rintro x w5 ⟨rfl, j1, j2⟩
            have HNN := Lib.hid (HN.out (v2 :: L2).length (by simp at hlen HLN ⊢; omega) g l (v2 :: L2) (d + 1) bad w5 rfl (by simp at hlen hdM ⊢; omega) j2)
            have hB5 := HBK.out.chg j1 (by simp; omega)
            have hO5 : OwnI w5 (w1.heap.size + 1) (.slice A n1 c) ((u :: vs').map fun y => (y.n : Int)) := HOWN.out.chg j1 (fun k hk hm => by
              rw [List.mem_singleton] at hm
              subst hm
              have := HOWN.out.blk_ge _ hk
              omega)
            have HH := Lib.hid (And.intro hB5 (And.intro hO5 (And.intro (HCH.out.trans j1 (by simp)) (Nat.lt_of_lt_of_le hbs j1.size))))
            clear hB5 hO5 j1 j2
            go_wp2_with fail
            refine HNN.out.mono ?_
            rintro x w6 ⟨vv, rfl, j3, j4⟩
            obtain ⟨hB5, hO5, hC5, hs5⟩ := HH.out
            have hB6 := hB5.chg j3 (by simp; omega)
            have hO6 : OwnI w6 (w1.heap.size + 1) (.slice A n1 c) ((u :: vs').map fun y => (y.n : Int)) := hO5.chg j3 (fun k hk hm => by
              rw [List.mem_singleton] at hm
              subst hm
              have := hO5.blk_ge _ hk
              omega)
            obtain ⟨d2, c5, f5, hg6, hd2', hfin⟩ := bnd_end (t := t) HK.out hu (by omega) HVS2.out hv46 HE.out hw1 (hC5.trans j3 (by simp)) hB6 hO6 j4
            have hd3 : d2 ≤ 10000 := by simp only [List.length_append, List.length_cons] at hdM hd2'; omega
            have k0 : w6.cell? ⟨w1.heap.size, 0, none⟩ = some (.bool each) := hB6.cell 0
            have k1 : w6.cell? ⟨w1.heap.size, 1, none⟩ = some (.slice A n1 c) := hB6.cell 1
            have k2 : w6.cell? ⟨w1.heap.size, 2, none⟩ = some .nilIface := hB6.cell 2
            have z0 := hB6.frozen 0
            have z1 := hB6.frozen 1
            have z2 := hB6.frozen 2
            have hne : ¬ w1.heap.size = g := by omega
            have hne2 : ¬ g = w1.heap.size := by omega
            have FIN := Lib.hid hfin
            clear hB5 hO5 hC5 hB6 hO6 j3 j4 hfin hd2'
            go_wp2_with fail
            refine bodyPost_ret (v := .iface 156 (.agg #[.bool each, .slice A n1 c, ifV vv])) (by simp [results, Tryz.results45, go_sem, *]) rfl FIN.out
          · have HW := Lib.hid (want_miss_st g l v L1 (d + 1) bad 46 wr hst hv46)
            clear hst
            go_wp2_with fail
            refine HW.out.mono ?_
            rintro x w5 ⟨rfl, j1, j2⟩
            have HNN := Lib.hid (not_failed g l _ _ _ _ w5 j2 (by decide))
            obtain ⟨c5, f5⟩ := j2.deepc
            have c5 : w5.cell? ⟨g, 5, none⟩ = some (.int .i64 ((d : Int) + 1)) := c5
            have hg5 := j2.lt
            have hB5 : Blk w5 w1.heap.size 156 (bndC each (.slice A n1 c) .nilIface) := HBK.out.chg j1 (by simp; omega)
            have hbs5 : w1.heap.size < w5.heap.size := Nat.lt_of_lt_of_le hbs j1.size
            have k0 : w5.cell? ⟨w1.heap.size, 0, none⟩ = some (.bool each) := hB5.cell 0
            have k1 : w5.cell? ⟨w1.heap.size, 1, none⟩ = some (.slice A n1 c) := hB5.cell 1
            have k2 : w5.cell? ⟨w1.heap.size, 2, none⟩ = some .nilIface := hB5.cell 2
            have z2 := hB5.frozen 2
            have hne : ¬ w1.heap.size = g := by omega
            have hne2 : ¬ g = w1.heap.size := by omega
            have FIN : Hid (Out .not g l (t :: u :: (vs' ++ v :: L1)) d bad w (.returned (.iface 156 (.agg #[.bool each, .slice A n1 c, noE]))) ((w5.setCell ⟨w1.heap.size, 2, none⟩ noE).setCell ⟨g, 5, none⟩ (.int .i64 (d : Nat)))) := Lib.hid (
              Out.other ⟨(_, _), rfl, ((HCH.out.trans j1 (by simp)).setCell (.inr hw1) _).setCell (.inl (by simp)) _, 10, v.at_, d, _, .bndS HK.out hu (by omega) HVS2.out HV.out hv46, .inl rfl, Nat.le_refl _, by omega, (j2.far hB5 2).setDeep d⟩)
            clear hB5 j1 j2
            go_wp2_with fail
            refine HNN.out.mono ?_
            rintro x w6 ⟨rfl, rfl⟩
            go_wp2_with fail
            refine bodyPost_ret (v := .iface 156 (.agg #[.bool each, .slice A n1 c, noE])) (by simp [results, Tryz.results45, go_sem, *]) rfl FIN.out
  · have hu1 : ((u.kind : Int) != 118) = true := by simp; omega
    go_wp2_with fail
    refine (fail_st g l u M (d + 1) bad 10 _ HST.out).mono ?_
    rintro x w2 ⟨rfl, k1, k2⟩
    go_wp2_with fail
    refine bodyPost_ret (v := noE) (by simp [results, Tryz.results45, go_sem, *]) rfl (Out.other ⟨(_, _), rfl, HC.out.trans k1 (by simp), 10, u.at_, d + 1, _, .bndW HK.out hu, .inl rfl, by omega, by simp <;> omega, k2⟩)
/-- 'not' and 'level', at any number of tokens -/
theorem parser_all (n : Nat) : NotC n ∧ LevC 1 n := by
  induction n using Nat.strongRecOn with
  | _ n ih =>
    have hn : NotC n := not_any n (bnd_any n fun m hm => (ih m hm).1) (fun m hm => (ih m hm).1) (fun m hm => (ih m hm).2) lev_fail
    refine ⟨hn, lev_all n fun m hm => ?_⟩
    rcases Nat.lt_or_ge m n with h | h
    · exact (ih m h).1
    · obtain rfl : m = n := by omega
      exact hn
end Go.Proofs.YtpjciaomhfeeeaaGreatDoor
