/- Contracts: Order.Copy, Same, Swap; slices.Equal. -/
import Derived.Test.YtomibgonhdkhdaaOrderA
import Derived.Test.YtomibgonhdkhdaaCyc
import Derived.Deep.RegionHeld3
namespace Go.Proofs.Ytomibgonhdkhdaa
open Go.RowKit
set_option linter.unusedSimpArgs false
set_option linter.unusedVariables false

set_option maxHeartbeats 400000 in
theorem equal_any (A B : Option Addr) (n m c d : Nat) (xs ys : List Int) (w : World) (hx : xs.length = n) (hy : ys.length = m) (hn : n ≤ 9223372036854775807) (hm : m ≤ 9223372036854775807)
    (ha : Ints w w.heap.size A xs) (hb : Ints w w.heap.size B ys) :
    Calls Try.prog 37 #[.slice A n c, .slice B m d] w fun e w' => e = .returned (.bool (decide (xs = ys))) ∧ ∃ k, w' = w.drewN k := by
  have Hx := Lib.hid hx
  have Hy := Lib.hid hy
  clear hx hy
  by_cases hnm : n = m
  · subst hnm
    go_enter Try.func37, Try.ntmps37
    go_wp2
    go_loopw [5, 13] (fun _ i wr => ∃ k q : Nat, k ≤ n ∧ i = .int .i64 k ∧ wr = w.drewN q ∧ ∀ j, j < k → xs[j]?.getD 0 = ys[j]?.getD 0) (fun _ i _ => n - (intOf i).toNat)
    case atStart => exact ⟨0, 0, Nat.zero_le _, rfl, rfl, by omega⟩
    case round =>
      obtain ⟨k, q, hk, rfl, rfl, hno⟩ := hrel
      have HN := Lib.hid hno
      clear hno
      by_cases hlt : k < n
      · obtain ⟨b, off, rfl, hb1, hc⟩ := ha (by rw [Hx.out]; omega)
        have hck := hc k (by rw [Hx.out]; omega)
        obtain ⟨b2, off2, rfl, hb2, hc2⟩ := hb (by rw [Hy.out]; omega)
        have hck2 := hc2 k (by rw [Hy.out]; omega)
        clear hc hc2
        go_wp2
        go_quiet (fail)
        go_wp2
        · go_ret
          have hne : ¬ xs[k]?.getD 0 = ys[k]?.getD 0 := by simp_all
          refine ⟨?_, _, World.drewN_drewN _ _ _⟩
          show Ending.returned (.bool false) = _
          rw [decide_eq_false]
          intro h; rw [h] at hne; exact hne rfl
        · go_roundw
          case rel => exact ⟨k+1, _, by omega, by go_num, rfl, fun j hj => by
              rcases Nat.lt_succ_iff_lt_or_eq.1 hj with h | h
              · exact HN.out j h
              · subst h; simp_all⟩
          case measure => simp [intOf]; omega
      · go_wp2
        go_ret
        refine ⟨?_, _, rfl⟩
        show Ending.returned (.bool true) = _
        rw [decide_eq_true]
        exact list_eq_of (by rw [Hx.out, Hy.out]) (fun j hj => HN.out j (by rw [Hx.out] at hj; omega))
  · have hne : ((n : Int) == (m : Int)) = false := by rw [beq_eq_false_iff_ne]; omega
    have hne2 : ((n : Int) != (m : Int)) = true := by rw [bne_iff_ne]; omega
    go_enter Try.func37, Try.ntmps37
    go_wp2
    go_ret
    refine ⟨?_, 0, rfl⟩
    show Ending.returned (.bool false) = _
    rw [decide_eq_false]
    intro h; apply hnm; rw [← Hx.out, ← Hy.out, h]

set_option maxHeartbeats 1000000 in
theorem orderCopy_any (F : List Nat) (g : Nat) (ps ls : List Int) (w : World) (hn : ps.length ≤ 1000000) (h : OrdAt w F g ps ls) :
    Calls Try.prog 25 #[.pointer (some ⟨g, 0, none⟩)] w fun e w' => ∃ g' F', e = .returned (.pointer (some ⟨g', 0, none⟩)) ∧ OrdAt w' F' g' ps ls ∧ (∀ k ∈ F', w.heap.size ≤ k) ∧ Below w.heap.size w w' := by
  obtain ⟨A, n, c, A', c', hB, h1, h2, hl1, hl2, _, _⟩ := h
  have hlt := hB.lt
  have hc0 : ∀ W, Below w.heap.size w W → W.cell? ⟨g, 0, none⟩ = some (.slice A n c) := fun W hW => (hW.cell (p := ⟨g, 0, none⟩) hlt).trans (hB.cell 0)
  have hc1 : ∀ W, Below w.heap.size w W → W.cell? ⟨g, 1, none⟩ = some (.slice A' n c') := fun W hW => (hW.cell (p := ⟨g, 1, none⟩) hlt).trans (hB.cell 1)
  have H1 := Lib.hid hl1
  have H2 := Lib.hid hl2
  have hn2 : n ≤ 1000000 := by rw [← hl1]; exact hn
  have hI1 := OwnI.ints h1
  have hI2 := OwnI.ints h2
  have C0 := Lib.hid hc0
  have C1 := Lib.hid hc1
  have hk0 := hc0 _ (Below.refl _ _)
  have hk1 := hc1 _ (Below.refl _ _)
  clear hl1 hl2 hn h1 h2 hB hc0 hc1
  go_enter Try.func25, Try.ntmps25
  go_wp2_with fail
  have K1 : Hid (∀ W, Below w.heap.size w W → Ints W W.heap.size A ps) := Lib.hid (fun W hW => hI1.on hW)
  have K2 : Hid (∀ W, Below w.heap.size w W → Ints W W.heap.size A' ls) := Lib.hid (fun W hW => hI2.on hW)
  go_region_held3 (fun w' => w'.cell? ⟨g, 0, none⟩ = some (.slice A n c) ∧ w'.cell? ⟨g, 1, none⟩ = some (.slice A' n c')) (first | exact ⟨hk0, hk1⟩ | (refine ⟨C0.out _ ?_, C1.out _ ?_⟩ <;> first | assumption | exact hbel2.alloc hbel2.size _)) (first
    | (go_at_call 30; refine (clone_any A n c ps w.drew H1.out (by omega) (K1.out _ (Below.refl _ _).drew)).mono ?_; rintro e w1 ⟨v1, rfl, hown1, hb1⟩; obtain ⟨A5, n5, c5, rfl, hl5, hc5⟩ := OwnF.form hown1; have hbel1 : Below w.heap.size w w1 := (Below.refl _ _).drew.trans hb1)
    | (go_at_call 30; refine (clone_any A' n c' ls w1 H2.out (by omega) (K2.out _ hbel1)).mono ?_; rintro e w2 ⟨v2, rfl, hown2, hb2⟩; obtain ⟨A6, n6, c6, rfl, hl6, hc6⟩ := OwnF.form hown2; have hbel2 : Below w.heap.size w w2 := hbel1.trans (hb2.mono hbel1.size)))
  go_wp2_with fail
  go_ret
  have hs1 := hbel1.size
  have hs2 := hb2.size
  have hown1' := hown1.below hb2
  obtain rfl : n5 = n6 := by rw [← hl6, ← hl5, H1.out, H2.out]
  refine ⟨_, _, rfl, ⟨_, n5, c5, _, c6, ?_, (hown1'.alloc _).zero, (hown2.alloc _).zero, by rw [H1.out, ← hl5, H1.out], by rw [H2.out, ← hl5, H1.out], rfl, ?_⟩, ?_, hbel2.alloc hbel2.size _⟩
  · exact Blk.new _ _ _
  · have hc1 := OwnF.blk_ge hown1
    have hc2 := OwnF.blk_lt hown1
    have hc3 := OwnF.blk_ge hown2
    have hc4 := OwnF.blk_lt hown2
    have hs1' := hb1.size
    rw [List.nodup_cons, List.nodup_append]
    refine ⟨fun hm => ?_, ?_, ?_, fun a ha b hb e => ?_⟩
    · rcases List.mem_append.1 hm with h | h
      · have := hc2 _ h; omega
      · have := hc4 _ h; omega
    · unfold blk; cases (Value.slice A5 n5 c5).ownBlock <;> simp
    · unfold blk; cases (Value.slice A6 n5 c6).ownBlock <;> simp
    · have := hc2 a ha; have := hc3 b hb; omega
  · intro k hk
    rcases List.mem_cons.1 hk with rfl | hk
    · omega
    · rcases List.mem_append.1 hk with hk | hk
      · exact OwnF.blk_ge hown1 k hk
      · have := OwnF.blk_ge hown2 k hk; omega

theorem orderNil_copy (w : World) : Calls Try.prog 25 #[.pointer none] w fun e w' => e = .returned (.pointer none) ∧ w = w' := by
  go_enter Try.func25, Try.ntmps25
  go_wp2_with fail
  go_ret
  exact ⟨rfl, rfl⟩

set_option maxHeartbeats 1000000 in
theorem orderSame_any (F G : List Nat) (g k : Nat) (ps ls qs ms : List Int) (w : World) (h : OrdAt w F g ps ls) (h2 : OrdAt w G k qs ms) :
    Calls Try.prog 28 #[.pointer (some ⟨g, 0, none⟩), .pointer (some ⟨k, 0, none⟩)] w fun e w' => e = .returned (.bool (decide (ps = qs))) ∧ ∃ t, w' = w.drewN t := by
  obtain ⟨A, n, c, A', c', hB, h1, _, hl1, _, _, _⟩ := h
  obtain ⟨D, m, d, D', d', hB2, g1, _, hl2, _, _, _⟩ := h2
  have hc0 : w.cell? ⟨g, 0, none⟩ = some (.slice A n c) := hB.cell 0
  have hc1 : w.cell? ⟨k, 0, none⟩ = some (.slice D m d) := hB2.cell 0
  have H1 := Lib.hid hl1
  have H2 := Lib.hid hl2
  have hn := OwnF.len_le h1
  rw [hl1] at hn
  have hm := OwnF.len_le g1
  rw [hl2] at hm
  have hI1 := OwnI.ints h1
  have hI2 := OwnI.ints g1
  have hq := fun t => equal_any A D n m c d ps qs (w.drewN t) H1.out H2.out hn hm (hI1.drewN' t) (hI2.drewN' t)
  have HQ := Lib.hid hq
  clear hl1 hl2 h1 g1 hB hB2 hq
  go_enter Try.func28, Try.ntmps28
  go_wp2_with fail
  go_quiet ((exact Calls.quiet_of (HQ.out _)))
  go_wp2_with fail
  go_ret
  exact ⟨rfl, _, rfl⟩
theorem orderSame_nil1 (a : Addr) (w : World) : Calls Try.prog 28 #[.pointer (some a), .pointer none] w fun e w' => e = .returned (.bool false) ∧ w = w' := by
  go_enter Try.func28, Try.ntmps28
  go_wp2_with fail
  go_ret
  exact ⟨rfl, rfl⟩
theorem orderSame_nil2 (a : Addr) (w : World) : Calls Try.prog 28 #[.pointer none, .pointer (some a)] w fun e w' => e = .returned (.bool false) ∧ w = w' := by
  go_enter Try.func28, Try.ntmps28
  go_wp2_with fail
  go_ret
  exact ⟨rfl, rfl⟩
theorem orderSame_nil3 (w : World) : Calls Try.prog 28 #[.pointer none, .pointer none] w fun e w' => e = .returned (.bool true) ∧ w = w' := by
  go_enter Try.func28, Try.ntmps28
  go_wp2_with fail
  go_ret
  exact ⟨rfl, rfl⟩

theorem fits_swap {ps ls : List Int} (h : IsPerm ps ∧ InvOf ps ls) {k : Nat} (hk : k + 1 < ps.length) :
    IsPerm (swapL ps k) ∧ InvOf (swapL ps k) ((ls.set (ps[k]?.getD 0).toNat ((k : Int) + 1)).set (ps[k + 1]?.getD 0).toNat (k : Int)) := by
  obtain ⟨hp, hi⟩ := h
  refine ⟨hp.swap hk, ?_, fun i hil => ?_⟩
  · rw [List.length_set, List.length_set, swapL_length]; exact hi.1
  · rw [swapL_length] at hil
    have ga := hp.get (k := k) (by omega)
    have gb := hp.get hk
    have gi := hp.get hil
    have hne : (ps[k]?.getD 0).toNat ≠ (ps[k + 1]?.getD 0).toNat := fun e => by
      have := hp.inj (i := k) (j := k + 1) (by omega) hk (by omega); omega
    have hl := hi.1
    rw [swapL_get ps k i hk]
    by_cases h1 : i = k
    · rw [if_pos h1, List.getElem?_set_self (by rw [List.length_set]; omega), h1]; rfl
    · rw [if_neg h1]
      by_cases h2 : i = k + 1
      · rw [if_pos h2, List.getElem?_set_ne (fun e => hne e.symm), List.getElem?_set_self (by omega), h2]
        show (k : Int) + 1 = _
        omega
      · rw [if_neg h2]
        have e1 : (ps[k]?.getD 0).toNat ≠ (ps[i]?.getD 0).toNat := fun e => by
          have := hp.inj (i := k) (j := i) (by omega) hil (by omega); omega
        have e2 : (ps[k + 1]?.getD 0).toNat ≠ (ps[i]?.getD 0).toNat := fun e => by
          have := hp.inj (i := k + 1) (j := i) hk hil (by omega); omega
        rw [List.getElem?_set_ne e2, List.getElem?_set_ne e1]
        exact hi.2 i hil

set_option maxHeartbeats 4000000 in
theorem orderSwap_yes (F : List Nat) (g : Nat) (ps ls : List Int) (q : Int) (w : World) (h : OrdAt w F g ps ls) (hp : IsPerm ps) (hv : InvOf ps ls) (h0 : 0 ≤ q) (h1 : q + 1 < ps.length) :
    Calls Try.prog 26 #[.pointer (some ⟨g, 0, none⟩), .int .i64 q] w fun e w' => ∃ ms, e = .returned (.int .u8 0) ∧ OrdAt w' F g (swapL ps q.toNat) ms ∧ InvOf (swapL ps q.toNat) ms ∧ Chg F w w' := by
  obtain ⟨k, rfl⟩ := Int.eq_ofNat_of_zero_le h0
  rw [Int.toNat_natCast]
  have hk : k + 1 < ps.length := by omega
  have hfs := fits_swap ⟨hp, hv⟩ hk
  have ga := hp.get (k := k) (by omega)
  have gb := hp.get hk
  have hne : ps[k]?.getD 0 ≠ ps[k + 1]?.getD 0 := fun e => by
    have := hp.inj (i := k) (j := k + 1) (by omega) hk e; omega
  obtain ⟨A, n, c, A', c', hB, g1, g2, hl1, hl2, hF, hnd⟩ := h
  rw [hl1] at hk ga gb h1
  have hn16 : n ≤ 16 := by rw [← hl1]; exact hp.1
  obtain ⟨gv, cv, hv1, _, hgv⟩ := OwnF.head g1 (by omega)
  obtain ⟨gl, cl, hv2, _, hgl⟩ := OwnF.head g2 (by omega)
  rw [hl1] at hv1
  rw [hl2] at hv2
  injection hv1 with e1 _ e2
  injection hv2 with e3 _ e4
  subst e1 e2 e3 e4
  have hgF : F = [g, gv, gl] := by rw [hF]; simp [blk, Value.ownBlock]
  rw [hgF] at hnd
  have hd1 : g ≠ gv := fun e => by simp [e] at hnd
  have hd2 : g ≠ gl := fun e => by simp [e] at hnd
  have hd3 : gv ≠ gl := fun e => by simp [e] at hnd
  have hc0 : w.cell? ⟨g, 0, none⟩ = some (.slice (some ⟨gv, 0, none⟩) n c) := hB.cell 0
  have hc1 : w.cell? ⟨g, 1, none⟩ = some (.slice (some ⟨gl, 0, none⟩) n c') := hB.cell 1
  obtain ⟨s1, s2, s3, s4, hsw⟩ := OwnI.swap g1 k hk
  have H1 := Lib.hid hl1
  have H2 := Lib.hid hl2
  have HFs := Lib.hid hfs
  have HFe := Lib.hid hgF
  generalize hx : ps[k]?.getD 0 = x at *
  generalize hy : ps[k + 1]?.getD 0 = y at *
  obtain ⟨a, rfl⟩ := Int.eq_ofNat_of_zero_le ga.1
  obtain ⟨b, rfl⟩ := Int.eq_ofNat_of_zero_le gb.1
  have ha : a < n := by omega
  have hb : b < n := by omega
  have hab : a ≠ b := by omega
  have hLa := OwnF.at_ g2 a (by omega)
  have hLb := OwnF.at_ g2 b (by omega)
  rw [List.getElem?_eq_getElem (by omega)] at hLa hLb
  simp only [Option.map_some] at hLa hLb
  generalize ls[a]'(by omega) = la at hLa
  generalize ls[b]'(by omega) = lb at hLb
  obtain ⟨hLa1, hLa2⟩ := hLa
  obtain ⟨hLb1, hLb2⟩ := hLb
  -- the worlds: behind the exchange in the first list; behind both stores into the second
  have HB := Lib.hid hB
  have HG2 := Lib.hid g2
  have HSW := Lib.hid hsw
  have hin1 : (k : Int) + 1 < (n : Int) := by omega
  have hin0 : (k : Int) < (n : Int) := by omega
  have hp2 : ((k : Int) + 1).toNat = k + 1 := by omega
  have hpp : (0 : Int) ≤ (k : Int) + 1 := by omega
  have han : (a : Int) < (n : Int) := by omega
  have hbn : (b : Int) < (n : Int) := by omega
  clear hB g1 g2 hsw hfs hp hv hl1 hl2 hgF hF hne hx hy ga gb hnd h0 h1
  go_enter Try.func26, Try.ntmps26
  go_wp2_with fail
  go_quiet (fail)
  go_wp2_with fail
  go_region
  have hO1 : Chg [g, gv, gl] w (((w.drewN (nq + 1)).setCell ⟨gv, k, none⟩ (.int .i64 (b : Int))).setCell ⟨gv, k + 1, none⟩ (.int .i64 (a : Int))) := (((Chg.refl _ w).drewN _).setCell (.inl (by simp)) _).setCell (.inl (by simp)) _
  have hB1 : Blk (((w.drewN (nq + 1)).setCell ⟨gv, k, none⟩ (.int .i64 (b : Int))).setCell ⟨gv, k + 1, none⟩ (.int .i64 (a : Int))) g 49 #[.slice (some ⟨gv, 0, none⟩) n c, .slice (some ⟨gl, 0, none⟩) n c'] :=
    Blk.far (Blk.far HB.out (p := ⟨gv, k, none⟩) hd1 _) (p := ⟨gv, k + 1, none⟩) hd1 _
  have hS1 : OwnI (((w.drewN (nq + 1)).setCell ⟨gv, k, none⟩ (.int .i64 (b : Int))).setCell ⟨gv, k + 1, none⟩ (.int .i64 (a : Int))) 0 (.slice (some ⟨gv, 0, none⟩) n c) (swapL ps k) := HSW.out
  have hL1 : OwnI (((w.drewN (nq + 1)).setCell ⟨gv, k, none⟩ (.int .i64 (b : Int))).setCell ⟨gv, k + 1, none⟩ (.int .i64 (a : Int))) 0 (.slice (some ⟨gl, 0, none⟩) n c') ls :=
    HG2.out.chg ((((Chg.refl [gv] w).drewN (nq + 1)).setCell (p := ⟨gv, k, none⟩) (.inl (by simp)) (.int .i64 (b : Int))).setCell (p := ⟨gv, k + 1, none⟩) (.inl (by simp)) (.int .i64 (a : Int))) (fun j hj => by simp [mem_blk, Value.ownBlock] at hj; simp; omega)
  go_wp2_with fail
  generalize (((w.drewN (nq + 1)).setCell ⟨gv, k, none⟩ (.int .i64 (b : Int))).setCell ⟨gv, k + 1, none⟩ (.int .i64 (a : Int))) = W at *
  clear hc0 hc1 s1 s2 s3 s4 HSW HB HG2 hLa1 hLa2 hLb1 hLb2
  have hc1 : W.cell? ⟨g, 1, none⟩ = some (.slice (some ⟨gl, 0, none⟩) n c') := hB1.cell 1
  have hLa := OwnF.at_ hL1 a (by rw [H2.out]; exact ha)
  have hLb := OwnF.at_ hL1 b (by rw [H2.out]; exact hb)
  rw [List.getElem?_eq_getElem (by rw [H2.out]; exact ha)] at hLa
  rw [List.getElem?_eq_getElem (by rw [H2.out]; exact hb)] at hLb
  simp only [Option.map_some] at hLa hLb
  generalize ls[a]'(by rw [H2.out]; exact ha) = la at hLa
  generalize ls[b]'(by rw [H2.out]; exact hb) = lb at hLb
  obtain ⟨hLa1, hLa2⟩ := hLa
  obtain ⟨hLb1, hLb2⟩ := hLb
  have hst := OwnF.set_ (OwnF.set_ hL1 a ((k : Int) + 1)) b (k : Int)
  have HST := Lib.hid hst
  have HB1 := Lib.hid hB1
  have HS1 := Lib.hid hS1
  clear hst hB1 hS1 hL1
  go_region
  all_goals go_wp2_with fail
  all_goals go_ret
  have hfi := HFs.out.2
  rw [Int.toNat_natCast, Int.toNat_natCast] at hfi
  have hch : Chg [gl] W ((W.setCell ⟨gl, a, none⟩ (.int .i64 ((k : Int) + 1))).setCell ⟨gl, b, none⟩ (.int .i64 (k : Int))) := ((Chg.refl [gl] W).setCell (p := ⟨gl, a, none⟩) (.inl (by simp)) _).setCell (p := ⟨gl, b, none⟩) (.inl (by simp)) _
  have hS2 : OwnI ((W.setCell ⟨gl, a, none⟩ (.int .i64 ((k : Int) + 1))).setCell ⟨gl, b, none⟩ (.int .i64 (k : Int))) 0 (.slice (some ⟨gv, 0, none⟩) n c) (swapL ps k) := HS1.out.chg hch (fun j hj => by simp [mem_blk, Value.ownBlock] at hj; simp; omega)
  have hall := hO1.trans (hch.mono (G := [g, gv, gl]) (fun x hx => .inl (by simp at hx; subst hx; simp))) (fun x hx => .inl hx)
  refine ⟨_, rfl, ⟨_, n, c, _, c', Blk.far (Blk.far HB1.out (p := ⟨gl, a, none⟩) hd2 _) (p := ⟨gl, b, none⟩) hd2 _, hS2, HST.out, by rw [swapL_length]; exact H1.out, by rw [List.length_set, List.length_set]; exact H2.out, ?_, ?_⟩, hfi, ?_⟩
  · rw [HFe.out]; simp [blk, Value.ownBlock]
  · rw [HFe.out]; simp [hd1, hd2, hd3]
  · rw [HFe.out]; exact hall.drew

theorem orderSwap_no (F : List Nat) (g : Nat) (ps ls : List Int) (q : Int) (w : World) (h : OrdAt w F g ps ls) (hno : q < 0 ∨ (ps.length : Int) - 1 ≤ q) :
    Calls Try.prog 26 #[.pointer (some ⟨g, 0, none⟩), .int .i64 q] w fun e w' => e = .returned (.int .u8 3) ∧ w = w' := by
  obtain ⟨A, n, c, A', c', hB, g1, g2, hl1, hl2, hF, hnd⟩ := h
  have hc0 : w.cell? ⟨g, 0, none⟩ = some (.slice A n c) := hB.cell 0
  have hn := OwnF.len_le g1
  rw [hl1] at hno hn
  clear hl1 hl2 hB g1 g2 hF hnd
  rcases hno with h | h
  · go_enter Try.func26, Try.ntmps26
    go_wp2_with fail
    go_ret
    exact ⟨rfl, rfl⟩
  · by_cases h0 : q < 0
    · clear h
      go_enter Try.func26, Try.ntmps26
      go_wp2_with fail
      go_ret
      exact ⟨rfl, rfl⟩
    · go_enter Try.func26, Try.ntmps26
      go_wp2_with fail
      go_ret
      exact ⟨rfl, rfl⟩
theorem orderNil_swap (q : Int) (w : World) : Calls Try.prog 26 #[.pointer none, .int .i64 q] w fun e w' => e = .returned (.int .u8 2) ∧ w = w' := by
  go_enter Try.func26, Try.ntmps26
  go_wp2_with fail
  go_ret
  exact ⟨rfl, rfl⟩
end Go.Proofs.Ytomibgonhdkhdaa
