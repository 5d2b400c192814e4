/- Contract of the law's halves. -/
import Derived.Test.YtfcklfpgjadfmaaUnf13
import Derived.Test.YtfcklfpgjadfmaaZddHit
namespace Go.Proofs.Ytfcklfpgjadfmaa
open Go.RowKit Go.Sort
set_option linter.unusedSimpArgs false
set_option linter.unusedVariables false

theorem mkP_same13 {room : Nat} {S : List Nd} {l a b e : Nat} (h : mkP true room S l a b = (some e, S)) : (red true a b = true ∧ e = a) ∨ (red true a b = false ∧ idOf (csOf true S) (ndRec true ⟨l, a, b⟩) = some e) := by
  unfold mkP at h
  split at h
  · rename_i hr
    injection h with h _
    injection h with h
    exact .inl ⟨hr, h.symm⟩
  · rename_i hr
    right
    refine ⟨by simpa using hr, ?_⟩
    rw [idOf_csOf]
    split at h
    · rename_i hm
      injection h with h _
      rw [if_pos hm, h]
    · split at h
      · injection h with _ h
        have := congrArg List.length h
        simp at this
      · injection h with h _
        cases h
/-- Make of the halves of an edge that was made: it tells the edge again -/
theorem zmake_same (F : List Nat) (g n room : Nat) (S : List Nd) (l a b e : Nat) (w : World) (hn : n ≤ 16) (hl : l < n) (ha : Ld S a (l + 1)) (hb : Ld S b (l + 1)) (h : StoreAt w F g n room (csOf true S) []) (hm : mkP true room S l a b = (some e, S)) :
    Calls Try.prog 36 #[.pointer (some ⟨g, 0, none⟩), .int .i64 (l : Nat), .agg #[.int .u8 0, .int .u32 (a : Nat)], .agg #[.int .u8 0, .int .u32 (b : Nat)]] w fun r w' => r = .returned (.tuple #[.agg #[.int .u8 0, .int .u32 (e : Nat)], .int .u8 (0 : Nat)]) ∧ Below w.heap.size w w' := by
  have h1 := leads_csOf (z := true) hn (by omega) ha
  have h2 := leads_csOf (z := true) hn (by omega) hb
  have e1 : ((l + 1 : Nat) : Int) = (l : Int) + 1 := by omega
  rw [e1] at h1 h2
  have hlen := csOf_len_le h
  have hwa := ha.wf hlen h.ok.room20
  have hwb := hb.wf hlen h.ok.room20
  rcases mkP_same13 hm with ⟨hr, rfl⟩ | ⟨hr, hid⟩
  · exact zmake_red F g n room _ l ⟨0, e⟩ ⟨0, b⟩ w h hwa hwb ⟨by omega, by omega⟩ h1 h2 (by rw [redE_csOf]; exact hr)
  · exact zmake_hit F g n room e _ l ⟨0, a⟩ ⟨0, b⟩ w h hwa hwb ⟨by omega, by omega⟩ h1 h2 (by rw [redE_csOf]; simp [hr]) hid
set_option maxRecDepth 100000 in
set_option maxHeartbeats 4000000 in
theorem half13_any (n room g : Nat) (hn : n ≤ 16) (F : List Nat) (S : List Nd) (hI : SInv true n S) : ∀ (k : Nat) (t : List Bool) (l b off c e : Nat) (w : World), t.length = 2 ^ k → l + k ≤ n → k ≤ 6 → 2 ^ k ≤ c →
    TabAt w [] b off t → StoreAt w F g n room (csOf true S) [] → Den S e (tmOf true k t l) → Ld S e l →
    Calls Try.prog 41 #[.pointer (some ⟨g, 0, none⟩), .agg #[.int .u8 0, .int .u32 (e : Nat)], .slice (some ⟨b, off, none⟩) (2 ^ k) c, .int .i64 (l : Nat)] w fun r w' => r = .returned (.bool true) ∧ Below w.heap.size w w' := by
  intro k
  induction k with
  | zero =>
    intro t l b off c e w ht hl hk hc hT hS hD hL
    have h0 := hT.cell 0 (by rw [ht]; exact Nat.one_pos)
    have hx : (t.head? == some true) = t[0]?.getD false := by
      cases t with
      | nil => simp at ht
      | cons x r => cases x <;> rfl
    rw [tmOf, hx] at hD
    generalize t[0]?.getD false = x at *
    have he : e = if x then 1 else 0 := by
      generalize hU : Tm.leaf x = U at hD
      cases hD with
      | zero => injection hU with hU; subst hU; rfl
      | one => injection hU with hU; subst hU; rfl
      | node i nd A B _ _ _ => cases hU
    rw [Nat.add_zero] at h0
    rw [Nat.pow_zero] at hc ⊢
    have hblt := hT.lt
    have hT0 := hT
    clear hT
    have hEN := fun W => end13_any x (l : Int) W
    obtain ⟨v, hv⟩ : ∃ v : Int, v = (e : Nat) := ⟨_, rfl⟩
    rw [← hv]
    have hv2 : (if x then 1 else 0 : Int) = v := by rw [hv, he]; cases x <;> rfl
    simp only [hv2, Edg.cells] at hEN
    have hEQ := fun W => eql_edge 0 v 0 v true (by simp) W
    clear ht hT0 hS hD hL hx he hv hv2
    obtain ⟨W, hW⟩ : ∃ W, W = w.alloc (.cells #[.int .u8 0, .int .u32 v] 35) := ⟨_, rfl⟩
    have hbW : Below w.heap.size w W := by rw [hW]; exact (Below.refl _ _).alloc (Nat.le_refl _) _
    have hBW : Blk W w.heap.size 35 #[.int .u8 0, .int .u32 v] := by rw [hW]; exact Blk.new w _ _
    have h0' : W.cell? ⟨b, off, none⟩ = some (.bool x) := (hbW.cell (p := ⟨b, off, none⟩) hblt).trans h0
    have C1 := Lib.hid (regrown_calls (W := W) (fun W' hW' => (hEN W').mono fun _ _ ⟨he, hb⟩ => ⟨he, hW'.trans (hb.mono hW'.size)⟩))
    have HWW := Lib.hid hW
    have HBW := Lib.hid hBW
    have HbW := Lib.hid hbW
    have H0 := Lib.hid h0'
    clear hEN hbW hBW h0' h0 hblt
    go_enter Try.func41, Try.ntmps41
    go_wp2_with fail
    rw [← HWW.out]
    clear hW
    have c1 := C1.out
    have j0 : ∀ d os, (grow (redrawn W d) os).cell? ⟨w.heap.size, 0, none⟩ = some (.int .u8 0) := fun d os => cell_regrown (HBW.out.cell 0) d os
    have j1 : ∀ d os, (grow (redrawn W d) os).cell? ⟨w.heap.size, 1, none⟩ = some (.int .u32 v) := fun d os => cell_regrown (HBW.out.cell 1) d os
    have j2 : ∀ d os, (grow (redrawn W d) os).cell? ⟨b, off, none⟩ = some (.bool x) := fun d os => cell_regrown H0.out d os
    refine wp_region_quiet_below (by kernel_rfl) (by kernel_rfl) ?_
    repeat (first | go_big_quiet_step (first | with_reducible exact c1 _ _ | fail) | quiet_step (first | with_reducible exact c1 _ _ | fail))
    refine wpQuiet_nil ?_
    intro w2 hw'
    have hbel2 : Below W.heap.size W w2 := regrown_below hw'
    clear hw' j0 j1 j2 c1
    go_wp2_with fail
    go_ret
    exact ⟨rfl, HbW.out.trans (hbel2.mono HbW.out.size)⟩
  | succ k ih =>
    intro t l b off c e w ht hl hk hc hT hS hD hL
    have hp : 2 ^ (k + 1) = 2 * 2 ^ k := by rw [Nat.pow_succ, Nat.mul_comm]
    have hm1 : 1 ≤ 2 ^ k := Nat.one_le_two_pow
    have hm2 : 2 ^ k ≤ 2 ^ 16 := Nat.pow_le_pow_right (by omega) (by omega)
    have hl1 : (t.take (2 ^ k)).length = 2 ^ k := by rw [List.length_take]; omega
    have hl2 : (t.drop (2 ^ k)).length = 2 ^ k := by rw [List.length_drop]; omega
    have hv := viewE_csOf (z := true) hn (by omega) hL
    obtain ⟨d1, d2, q1, q2, hmk⟩ := viewP_spec (room := room) hI (by omega) ht hD hL
    have hT1 : TabAt w [] b off (t.take (2 ^ k)) := hT.take _
    have hT2 : TabAt w [] b (off + 2 ^ k) (t.drop (2 ^ k)) := hT.drop _
    have hlen := csOf_len_le hS
    have hwe : (⟨0, (e : Int)⟩ : Edg).Wf := hD.wf hlen hS.ok.room20
    generalize (viewP true S e l).1 = x at *
    generalize (viewP true S e l).2 = y at *
    have hwx : (⟨0, (x : Int)⟩ : Edg).Wf := q1.wf hlen hS.ok.room20
    have hwy : (⟨0, (y : Int)⟩ : Edg).Wf := q2.wf hlen hS.ok.room20
    have IH1 := fun (W : World) (hW : Below w.heap.size w W) => ih (t.take (2 ^ k)) (l + 1) b off c x W hl1 (by omega) (by omega) (by omega) (hT1.on hW) (hS.on hW) d1 q1
    have IH2 := fun (W : World) (hW : Below w.heap.size w W) => ih (t.drop (2 ^ k)) (l + 1) b (off + 2 ^ k) (c - 2 ^ k) y W hl2 (by omega) (by omega) (by omega) (hT2.on hW) (hS.on hW) d2 q2
    have hr1 := leads_csOf (z := true) hn (by omega) q1
    have hr2 := leads_csOf (z := true) hn (by omega) q2
    have hRT := fun (E : Edg) (hE : E.Wf) (hq : leads (csOf true S) n (fmOf true) E ((l + 1 : Nat) : Int) = true) (W : World) (hW : Below w.heap.size w W) => zright_any F g n room (csOf true S) E ((l + 1 : Nat) : Int) W (hS.on hW) hE
    have hVW := fun (W : World) (hW : Below w.heap.size w W) => zview_any F g n room (csOf true S) ⟨0, e⟩ l W (hS.on hW) hwe
    have hMK := fun (W : World) (hW : Below w.heap.size w W) => zmake_same F g n room S l x y e W hn (by omega) q1 q2 (hS.on hW) hmk
    rw [hv] at hVW
    have R1 : ∀ W, Below w.heap.size w W → Calls Try.prog 31 #[.pointer (some ⟨g, 0, none⟩), .agg #[.int .u8 0, .int .u32 (x : Nat)], .int .i64 ((l : Int) + 1)] W fun r w' => r = .returned (.bool true) ∧ Below W.heap.size W w' := fun W hW => (hRT ⟨0, x⟩ hwx hr1 W hW).mono fun _ _ ⟨he, hb⟩ => ⟨he.trans (ret_bool hr1), hb⟩
    have R2 : ∀ W, Below w.heap.size w W → Calls Try.prog 31 #[.pointer (some ⟨g, 0, none⟩), .agg #[.int .u8 0, .int .u32 (y : Nat)], .int .i64 ((l : Int) + 1)] W fun r w' => r = .returned (.bool true) ∧ Below W.heap.size W w' := fun W hW => (hRT ⟨0, y⟩ hwy hr2 W hW).mono fun _ _ ⟨he, hb⟩ => ⟨he.trans (ret_bool hr2), hb⟩
    rw [hp] at ht hc ⊢
    generalize 2 ^ k = m at *
    have hcm : ¬ c = m := by omega
    have hcast : ((l + 1 : Nat) : Int) = (l : Int) + 1 := rfl
    rw [hcast] at IH1 IH2
    simp only [Edg.cells] at hVW
    have H1 := Lib.hid IH1
    have H2 := Lib.hid IH2
    have HR1 := Lib.hid R1
    have HR2 := Lib.hid R2
    have HVW := Lib.hid hVW
    have HMK := Lib.hid hMK
    have hh := half_of m
    have h2m : 2 * m - m = m := by omega
    have hEQ := fun W => eql_edge 0 e 0 e true (by simp) W
    have HX := Lib.hid hwx
    clear IH1 IH2 R1 R2 hVW hMK hRT hr1 hr2 hwx hwy hwe hv d1 d2 q1 q2 hmk hT hT1 hT2 hS hD hL ih hl1 hl2 ht hp hlen hcast
    obtain ⟨W, hW⟩ : ∃ W, W = w.alloc (.cells #[.int .u8 0, .int .u32 (e : Nat)] 35) := ⟨_, rfl⟩
    have hbW : Below w.heap.size w W := by rw [hW]; exact (Below.refl _ _).alloc (Nat.le_refl _) _
    have hBW : Blk W w.heap.size 35 #[.int .u8 0, .int .u32 (e : Nat)] := by rw [hW]; exact Blk.new w _ _
    have HWW := Lib.hid hW
    have HbW := Lib.hid hbW
    have HBW := Lib.hid hBW
    go_enter Try.func41, Try.ntmps41
    go_wp2_with fail
    rw [← HWW.out]
    have a0 : W.cell? ⟨w.heap.size, 0, none⟩ = some (.int .u8 0) := hBW.cell 0
    have a1 : W.cell? ⟨w.heap.size, 1, none⟩ = some (.int .u32 (e : Nat)) := hBW.cell 1
    clear hW hbW hBW
    go_wp2_with fail
    refine (HVW.out _ HbW.out).mono ?_
    rintro r w1 ⟨rfl, hb1⟩
    clear a0 a1
    obtain ⟨V, hV⟩ : ∃ V, V = (w1.alloc (.cells #[.int .u8 0, .int .u32 (x : Nat)] 35)).alloc (.cells #[.int .u8 0, .int .u32 (y : Nat)] 35) := ⟨_, rfl⟩
    have hbV : Below W.heap.size W V := by rw [hV]; exact (hb1.alloc hb1.size _).alloc (by have := hb1.size; simp; omega) _
    have hB0 : Blk V w.heap.size 35 #[.int .u8 0, .int .u32 (e : Nat)] := by rw [hV]; exact ((HBW.out.on' hb1).alloc _).alloc _
    have hB1 : Blk V w1.heap.size 35 #[.int .u8 0, .int .u32 (x : Nat)] := by rw [hV]; exact (Blk.new w1 _ _).alloc _
    have hB2 : Blk V (w1.heap.size + 1) 35 #[.int .u8 0, .int .u32 (y : Nat)] := by rw [hV]; exact Blk.new_at (by simp) _ _
    have HVV := Lib.hid hV
    have HbV := Lib.hid (HbW.out.trans (hbV.mono HbW.out.size))
    have FB : Hid (∀ W', Below V.heap.size V W' → Blk W' w.heap.size 35 #[.int .u8 0, .int .u32 (e : Nat)] ∧ Blk W' w1.heap.size 35 #[.int .u8 0, .int .u32 (x : Nat)] ∧ Blk W' (w1.heap.size + 1) 35 #[.int .u8 0, .int .u32 (y : Nat)]) := Lib.hid fun W' hW' => ⟨hB0.on' hW', hB1.on' hW', hB2.on' hW'⟩
    clear hb1 hbV hB0 hB1 hB2
    go_wp2_with fail
    rw [← HVV.out]
    clear hV
    refine (HR1.out _ HbV.out).mono ?_
    rintro r w2 ⟨rfl, hb2⟩
    have b0 : w2.cell? ⟨w1.heap.size + 1, 0, none⟩ = some (.int .u8 0) := (FB.out w2 hb2).2.2.cell 0
    have b1 : w2.cell? ⟨w1.heap.size + 1, 1, none⟩ = some (.int .u32 (y : Nat)) := (FB.out w2 hb2).2.2.cell 1
    go_wp2_with fail
    refine (HR2.out _ (HbV.out.trans (hb2.mono HbV.out.size))).mono ?_
    rintro r w3 ⟨rfl, hb3⟩
    have HB3 := Lib.hid (hb2.trans (hb3.mono hb2.size))
    clear b0 b1 hb2 hb3
    have a0 : w3.cell? ⟨w1.heap.size, 0, none⟩ = some (.int .u8 0) := (FB.out w3 HB3.out).2.1.cell 0
    have a1 : w3.cell? ⟨w1.heap.size, 1, none⟩ = some (.int .u32 (x : Nat)) := (FB.out w3 HB3.out).2.1.cell 1
    have b0 : w3.cell? ⟨w1.heap.size + 1, 0, none⟩ = some (.int .u8 0) := (FB.out w3 HB3.out).2.2.cell 0
    have b1 : w3.cell? ⟨w1.heap.size + 1, 1, none⟩ = some (.int .u32 (y : Nat)) := (FB.out w3 HB3.out).2.2.cell 1
    go_wp2_with fail
    refine (HMK.out _ (HbV.out.trans (HB3.out.mono HbV.out.size))).mono ?_
    rintro r w4 ⟨rfl, hb4⟩
    have hb4' := HB3.out.trans (hb4.mono HB3.out.size)
    clear a0 a1 b0 b1 hb4
    obtain ⟨U, hU⟩ : ∃ U, U = w4.alloc (.cells #[.int .u8 0, .int .u32 (e : Nat)] 35) := ⟨_, rfl⟩
    have hbU : Below V.heap.size V U := by rw [hU]; exact hb4'.alloc hb4'.size _
    have hK : Blk U w4.heap.size 35 #[.int .u8 0, .int .u32 (e : Nat)] := by rw [hU]; exact Blk.new w4 _ _
    have HUU := Lib.hid hU
    have HbU := Lib.hid hbU
    have HK := Lib.hid hK
    have HwU := Lib.hid (HbV.out.trans (hbU.mono HbV.out.size))
    clear hb4' hbU hK
    go_wp2_with fail
    rw [← HUU.out]
    clear hU
    have c1 := regrown_calls (W := U) (fun W' hW' => (H1.out W' (HwU.out.trans (hW'.mono HwU.out.size))).mono fun _ _ ⟨he, hb⟩ => ⟨he, hW'.trans (hb.mono hW'.size)⟩)
    have c2 := regrown_calls (W := U) (fun W' hW' => (H2.out W' (HwU.out.trans (hW'.mono HwU.out.size))).mono fun _ _ ⟨he, hb⟩ => ⟨he, hW'.trans (hb.mono hW'.size)⟩)
    have j0 : ∀ d os, (grow (redrawn U d) os).cell? ⟨w.heap.size, 0, none⟩ = some (.int .u8 0) := fun d os => cell_regrown ((FB.out U HbU.out).1.cell 0) d os
    have j1 : ∀ d os, (grow (redrawn U d) os).cell? ⟨w.heap.size, 1, none⟩ = some (.int .u32 (e : Nat)) := fun d os => cell_regrown ((FB.out U HbU.out).1.cell 1) d os
    have j2 : ∀ d os, (grow (redrawn U d) os).cell? ⟨w1.heap.size, 0, none⟩ = some (.int .u8 0) := fun d os => cell_regrown ((FB.out U HbU.out).2.1.cell 0) d os
    have j3 : ∀ d os, (grow (redrawn U d) os).cell? ⟨w1.heap.size, 1, none⟩ = some (.int .u32 (x : Nat)) := fun d os => cell_regrown ((FB.out U HbU.out).2.1.cell 1) d os
    have j4 : ∀ d os, (grow (redrawn U d) os).cell? ⟨w1.heap.size + 1, 0, none⟩ = some (.int .u8 0) := fun d os => cell_regrown ((FB.out U HbU.out).2.2.cell 0) d os
    have j5 : ∀ d os, (grow (redrawn U d) os).cell? ⟨w1.heap.size + 1, 1, none⟩ = some (.int .u32 (y : Nat)) := fun d os => cell_regrown ((FB.out U HbU.out).2.2.cell 1) d os
    have j6 : ∀ d os, (grow (redrawn U d) os).cell? ⟨w4.heap.size, 0, none⟩ = some (.int .u8 0) := fun d os => cell_regrown (HK.out.cell 0) d os
    have j7 : ∀ d os, (grow (redrawn U d) os).cell? ⟨w4.heap.size, 1, none⟩ = some (.int .u32 (e : Nat)) := fun d os => cell_regrown (HK.out.cell 1) d os
    refine wp_region_quiet_below (by kernel_rfl) (by kernel_rfl) ?_
    repeat (first | go_big_quiet_step (first | with_reducible exact c1 _ _ | with_reducible exact c2 _ _ | fail) | quiet_step (first | with_reducible exact c1 _ _ | with_reducible exact c2 _ _ | fail))
    refine wpQuiet_nil ?_
    intro w5 hw'
    have hbel5 : Below U.heap.size U w5 := regrown_below hw'
    clear hw' j0 j1 j2 j3 j4 j5 j6 j7 c1 c2
    go_wp2_with fail
    go_ret
    exact ⟨rfl, HwU.out.trans (hbel5.mono HwU.out.size)⟩
end Go.Proofs.Ytfcklfpgjadfmaa
