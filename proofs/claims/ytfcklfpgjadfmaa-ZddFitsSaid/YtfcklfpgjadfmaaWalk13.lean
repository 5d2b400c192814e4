/- The walks of ZddHalves, ZddTerms, ZddFits. -/
import Derived.Test.YtfcklfpgjadfmaaHalf13
import Derived.Test.YtfcklfpgjadfmaaRef12T
import Derived.Test.YtfcklfpgjadfmaaParts12
namespace Go.Proofs.Ytfcklfpgjadfmaa
open Go.RowKit Go.Sort
set_option linter.unusedSimpArgs false
set_option linter.unusedVariables false

theorem u64_wf13 {n : Int} (h : (Lit.int .u64 n).wf = true) : 0 ≤ n ∧ n ≤ 18446744073709551615 := by simpa [Lit.wf, IntKind.min, IntKind.max, IntKind.signed, IntKind.bits] using h
/-- in a store with so much room everything can be made -/
theorem made_lots13 {n : Nat} (hn : n ≤ 6) {t : List Bool} (ht : t.length = 2 ^ n) {S : List Nd} (hS : SInv true n S) (hl : S.length ≤ 100) :
    ∃ e, (madeP true 400 n t 0 S).1 = some e ∧ SInv true n (madeP true 400 n t 0 S).2 ∧ (madeP true 400 n t 0 S).2.length ≤ S.length + 63 ∧ S <+: (madeP true 400 n t 0 S).2 ∧ Den (madeP true 400 n t 0 S).2 e (tmOf true n t 0) ∧ Ld (madeP true 400 n t 0 S).2 e 0 := by
  have m := madeP_spec (room := 400) n t 0 S ht (by omega) hS
  have g := madeP_grow true 400 n t 0 S
  have h64 : 2 ^ n ≤ 2 ^ 6 := Nat.pow_le_pow_right (by omega) hn
  have hlen : (madeP true 400 n t 0 S).2.length ≤ S.length + 63 := by have := g.2.1; omega
  cases h : (madeP true 400 n t 0 S).1 with
  | none => have := (m.no h).1; omega
  | some e => exact ⟨e, rfl, m.inv, hlen, m.pre, (m.yes e h).1, (m.yes e h).2⟩
set_option maxRecDepth 100000 in
set_option maxHeartbeats 4000000 in
theorem zhalves_walk (n0 a : Int) (w : World) (wa : (Lit.int .u64 a).wf = true) : Calls Try.prog 12 #[.int .i64 n0, .int .u64 a] w fun e w' => e = .returned (.bool true) ∧ Below w.heap.size w w' := by
  obtain ⟨ha0, ha1⟩ := u64_wf13 wa
  have HA := Lib.hid (And.intro ha0 ha1)
  clear wa ha0 ha1
  by_cases hin : n0 < 0 ∨ 6 < n0
  · rcases hin with hh | hh
    all_goals
      go_enter Try.func12, Try.ntmps12
      go_wp2_with fail
      refine (zalive_any _).mono ?_
      rintro e w1 ⟨rfl, hb1⟩
      go_wp2_with fail
      go_ret
      exact ⟨rfl, hb1⟩
  · obtain ⟨n, rfl⟩ := Int.eq_ofNat_of_zero_le (a := n0) (by omega)
    have hn : n ≤ 6 := by omega
    have hd1 : ¬ (n : Int) < 0 := by omega
    have hd2 : ¬ 6 < (n : Int) := by omega
    have HN := Lib.hid hn
    clear hin
    go_enter Try.func12, Try.ntmps12
    go_wp2_with fail
    refine (zalive_any _).mono ?_
    rintro e w1 ⟨rfl, hb1⟩
    have HB1 := Lib.hid hb1
    clear hb1
    go_wp2_with fail
    refine (storeNew_yes n 400 _ (by omega) (by omega) (by omega) (by omega)).mono ?_
    rintro e w2 ⟨⟨g, F, rfl, hS, hF⟩, hb2⟩
    have hS0 : StoreAt w2 F g n 400 (csOf true []) [] := hS
    have HS := Lib.hid hS0
    have HF := Lib.hid hF
    have HB2 := Lib.hid hb2
    clear hS hS0 hF hb2
    go_wp2_with fail
    refine (bits12_any n HN.out a HA.out.1 HA.out.2 _).mono ?_
    rintro e w3 ⟨b, t, rfl, ht, hbs, hT, hb3⟩
    obtain ⟨x, hx, hI, hlen, hpre, hD, hL⟩ := made_lots13 HN.out ht (SInv.nil true n) (by simp)
    have hT3 : TabAt w3 F b 0 t := ⟨hT.lt, fun hm => by have := HS.out.lt _ hm; omega, hT.cell⟩
    have hmade := made13_any n 400 g (by omega) n t 0 b 0 (2 ^ n) F [] w3 ht (by omega) HN.out (Nat.le_refl _) hT3 (SInv.nil true n) (HS.out.on hb3)
    have hhalf := fun F2 W => half13_any n 400 g (by omega) F2 _ hI n t 0 b 0 (2 ^ n) x W ht (by omega) HN.out (Nat.le_refl _)
    rw [hx] at hmade
    generalize (madeP true 400 n t 0 []).2 = S at *
    generalize 2 ^ n = N at *
    have HM := Lib.hid hmade
    have HH := Lib.hid (fun F2 W h1 h2 => hhalf F2 W h1 h2 hD hL)
    have HT := Lib.hid hT3
    have HB3 := Lib.hid (HB1.out.trans ((HB2.out.trans (hb3.mono HB2.out.size)).mono HB1.out.size))
    have hbig : ∀ k ∈ F, w.heap.size ≤ k := fun k hk => by have := HF.out k hk; have := HB1.out.size; omega
    have HBIG := Lib.hid hbig
    clear hmade hhalf hx hI hlen hpre hD hL hT hT3 hb3 hbs ht hbig
    go_wp2_with fail
    refine HM.out.mono ?_
    rintro e w4 ⟨rfl, hT4⟩
    obtain ⟨⟨F2, hS2, hF2⟩, hc⟩ := hT4
    have hT5 := HT.out.turn hc hF2
    have HS2 := Lib.hid hS2
    have HT5 := Lib.hid hT5.nil_
    have HB4 := Lib.hid (HB3.out.trans (hc.below (B := w.heap.size) HB3.out.size HBIG.out))
    simp only [edO, Edg.cells, Option.isSome]
    clear hS2 hF2 hc hT5
    go_wp2_with fail
    refine (HH.out F2 _ (HT5.out.on ((Below.refl _ _).alloc (Nat.le_refl _) (.cells #[.int .u8 0, .int .u32 (x : Nat)] 35))) (HS2.out.on ((Below.refl _ _).alloc (Nat.le_refl _) (.cells #[.int .u8 0, .int .u32 (x : Nat)] 35)))).mono ?_
    rintro e w5 ⟨rfl, hb5⟩
    go_wp2_with fail
    go_ret
    have hs4 := HB4.out.size
    exact ⟨rfl, (HB4.out.alloc hs4 _).trans (hb5.mono (by simp; omega))⟩

theorem made_same13 {n : Nat} {t u : List Bool} (ht : t.length = 2 ^ n) (hu : u.length = 2 ^ n) {S S1 : List Nd} {x y : Nat} (hpre : S1 <+: S) (hI : SInv true n S) (h1 : Den S1 x (tmOf true n t 0)) (h2 : Den S y (tmOf true n u 0)) : (⟨0, (x : Int)⟩ : Edg) = ⟨0, (y : Int)⟩ ↔ t = u := by
  have h1' := h1.mono hpre
  constructor
  · intro h
    injection h with _ h
    have : x = y := by omega
    subst this
    exact tmOf_inj ht hu (h1'.fun_ h2)
  · intro h
    subst h
    rw [h1'.inj hI.nodup h2]
set_option maxRecDepth 100000 in
set_option maxHeartbeats 4000000 in
theorem zterms_walk (n0 a a2 : Int) (w : World) (wa : (Lit.int .u64 a).wf = true) (wa2 : (Lit.int .u64 a2).wf = true) : Calls Try.prog 6 #[.int .i64 n0, .int .u64 a, .int .u64 a2] w fun e w' => e = .returned (.bool true) ∧ Below w.heap.size w w' := by
  have HA := Lib.hid (u64_wf13 wa)
  have HA2 := Lib.hid (u64_wf13 wa2)
  clear wa wa2
  by_cases hin : n0 < 0 ∨ 6 < n0
  · rcases hin with hh | hh
    all_goals
      go_enter Try.func6, Try.ntmps6
      go_wp2_with fail
      refine (zalive_any _).mono ?_
      rintro e w1 ⟨rfl, hb1⟩
      go_wp2_with fail
      go_ret
      exact ⟨rfl, hb1⟩
  · obtain ⟨n, rfl⟩ := Int.eq_ofNat_of_zero_le (a := n0) (by omega)
    have hn : n ≤ 6 := by omega
    have hd1 : ¬ (n : Int) < 0 := by omega
    have hd2 : ¬ 6 < (n : Int) := by omega
    have HN := Lib.hid hn
    clear hin
    go_enter Try.func6, Try.ntmps6
    go_wp2_with fail
    refine (zalive_any _).mono ?_
    rintro e w1 ⟨rfl, hb1⟩
    have HB1 := Lib.hid hb1
    clear hb1
    go_wp2_with fail
    refine (storeNew_yes n 400 _ (by omega) (by omega) (by omega) (by omega)).mono ?_
    rintro e w2 ⟨⟨g, F, rfl, hS, hF⟩, hb2⟩
    have hS0 : StoreAt w2 F g n 400 (csOf true []) [] := hS
    have HS := Lib.hid hS0
    have HF := Lib.hid hF
    have HB2 := Lib.hid hb2
    clear hS hS0 hF hb2
    go_wp2_with fail
    refine (bits12_any n HN.out a HA.out.1 HA.out.2 _).mono ?_
    rintro e w3 ⟨b, t, rfl, ht, hbs, hT, hb3⟩
    have HHt := Lib.hid ht
    have HTt := Lib.hid hT
    have HBt := Lib.hid hbs
    have HB3 := Lib.hid hb3
    clear ht hT hbs hb3
    go_wp2_with fail
    refine (bits12_any n HN.out a2 HA2.out.1 HA2.out.2 _).mono ?_
    rintro e w4 ⟨b2, u, rfl, hu, hbs2, hU, hb4⟩
    have ht := HHt.out
    have hb34 := HB3.out.trans (hb4.mono HB3.out.size)
    obtain ⟨x, hx, hI, hlen, hpre, hD, hL⟩ := made_lots13 HN.out ht (SInv.nil true n) (by simp)
    obtain ⟨y, hy, hI2, hlen2, hpre2, hD2, hL2⟩ := made_lots13 HN.out hu hI (by simp at hlen; omega)
    have hT0 := HTt.out.on hb4
    have hT4 : TabAt w4 F b 0 t := ⟨hT0.lt, fun hm => by have := HS.out.lt _ hm; have := HBt.out; omega, hT0.cell⟩
    have hU4 : TabAt w4 F b2 0 u := ⟨hU.lt, fun hm => by have := HS.out.lt _ hm; have := HB3.out.size; omega, hU.cell⟩
    have hmade := made13_any n 400 g (by omega) n t 0 b 0 (2 ^ n) F [] w4 ht (by omega) HN.out (Nat.le_refl _) hT4 (SInv.nil true n) (HS.out.on hb34)
    have hmade2 := fun F2 W h1 h2 => made13_any n 400 g (by omega) n u 0 b2 0 (2 ^ n) F2 (madeP true 400 n t 0 []).2 W hu (by omega) HN.out (Nat.le_refl _) h1 hI h2
    have hsame := made_same13 ht hu hpre2 hI2 hD hD2
    have hlow := low_tmOf true n t 0 (by omega)
    have hdeep := deep_tmOf true n t 0
    have hlow2 := low_tmOf true n u 0 (by omega)
    have hdeep2 := deep_tmOf true n u 0
    have hunf := fun F2 W h => unfold13_any n 400 g F2 _ (hD.mono hpre2) n W hlow hdeep HN.out h
    have hunf2 := fun F2 W h => unfold13_any n 400 g F2 _ hD2 n W hlow2 hdeep2 HN.out h
    have hterm := fun W h => term13_any n t 0 b 0 (2 ^ n) W ht (by omega) HN.out h (Nat.le_refl _)
    have hterm2 := fun W h => term13_any n u 0 b2 0 (2 ^ n) W hu (by omega) HN.out h (Nat.le_refl _)
    have hwx : (⟨0, (x : Int)⟩ : Edg).Wf := hL.wf (room := 400) (by simp at hlen; omega) (by omega)
    have hwy : (⟨0, (y : Int)⟩ : Edg).Wf := hL2.wf (room := 400) (by simp at hlen; omega) (by omega)
    have hr1 := leads_csOf (z := true) (n := n) (by omega) (Nat.zero_le _) (hL.mono hpre2)
    have hr2 := leads_csOf (z := true) (n := n) (by omega) (Nat.zero_le _) hL2
    have htu := fun (W : World) (h1 : TabAt W [] b 0 t) (h2 : TabAt W [] b2 0 u) => tsame_any (some ⟨b, 0, none⟩) (some ⟨b2, 0, none⟩) (2 ^ n) (2 ^ n) (2 ^ n) (2 ^ n) t u W ht hu (by have := HN.out; have : 2 ^ n ≤ 2 ^ 6 := Nat.pow_le_pow_right (by omega) (by omega); omega) (by have := HN.out; have : 2 ^ n ≤ 2 ^ 6 := Nat.pow_le_pow_right (by omega) (by omega); omega) h1.bools h2.bools
    have hsh := render_short (T := tmOf true n t 0) (by have := HN.out; omega)
    have hsh2 := render_short (T := tmOf true n u 0) (by have := HN.out; omega)
    rw [hx] at hmade
    simp only [hy] at hmade2
    generalize (madeP true 400 n u 0 (madeP true 400 n t 0 []).2).2 = S2 at *
    generalize (madeP true 400 n t 0 []).2 = S at *
    generalize 2 ^ n = N at *
    have hRT := fun (F2 : List Nat) (W : World) (h : StoreAt W F2 g n 400 (csOf true S2) []) => zright_any F2 g n 400 (csOf true S2) ⟨0, x⟩ 0 W h hwx
    have hRT2 := fun (F2 : List Nat) (W : World) (h : StoreAt W F2 g n 400 (csOf true S2) []) => zright_any F2 g n 400 (csOf true S2) ⟨0, y⟩ 0 W h hwy
    simp only [Edg.cells] at hRT hRT2
    have R1 := fun F2 W h => (hRT F2 W h).mono fun _ _ ⟨he, hb⟩ => (⟨he.trans (ret_bool hr1), hb⟩ : _ ∧ _)
    have R2 := fun F2 W h => (hRT2 F2 W h).mono fun _ _ ⟨he, hb⟩ => (⟨he.trans (ret_bool hr2), hb⟩ : _ ∧ _)
    generalize render (tmOf true n t 0) = rt at *
    generalize render (tmOf true n u 0) = ru at *
    have HM := Lib.hid hmade
    have HM2 := Lib.hid hmade2
    have HSM := Lib.hid hsame
    have HUN := Lib.hid hunf
    have HUN2 := Lib.hid hunf2
    have HTE := Lib.hid hterm
    have HTE2 := Lib.hid hterm2
    have HR1 := Lib.hid R1
    have HR2 := Lib.hid R2
    have HTU := Lib.hid htu
    have HT := Lib.hid hT4
    have HU := Lib.hid hU4
    have HSH := Lib.hid (And.intro hsh hsh2)
    have hB24 := HB2.out.trans (hb34.mono HB2.out.size)
    have HB4 := Lib.hid (HB1.out.trans (hB24.mono HB1.out.size))
    have hbig : ∀ k ∈ F, w.heap.size ≤ k := fun k hk => by have := HF.out k hk; have := HB1.out.size; omega
    have HBIG := Lib.hid hbig
    clear hmade hmade2 hsame hunf hunf2 hterm hterm2 hRT hRT2 R1 R2 hr1 hr2 htu hx hy hI hI2 hlen hlen2 hpre hpre2 hD hD2 hL hL2 hT0 hT4 hU hU4 hb4 hb34 hB24 hbs2 ht hu hbig hlow hdeep hlow2 hdeep2 hwx hwy hsh hsh2
    go_wp2_with fail
    refine HM.out.mono ?_
    rintro e w5 ⟨rfl, hT5⟩
    obtain ⟨⟨F2, hS2, hF2⟩, hc⟩ := hT5
    have HT5 := Lib.hid ((HT.out.turn hc hF2).on ((Below.refl _ _).alloc (Nat.le_refl _) (.cells #[.int .u8 0, .int .u32 (x : Nat)] 35)))
    have HU5 := Lib.hid ((HU.out.turn hc hF2).on ((Below.refl _ _).alloc (Nat.le_refl _) (.cells #[.int .u8 0, .int .u32 (x : Nat)] 35)))
    have HS5 := Lib.hid (hS2.on ((Below.refl _ _).alloc (Nat.le_refl _) (.cells #[.int .u8 0, .int .u32 (x : Nat)] 35)))
    have hb5 := HB4.out.trans (hc.below (B := w.heap.size) HB4.out.size HBIG.out)
    have HB5 := Lib.hid (hb5.alloc hb5.size (.cells #[.int .u8 0, .int .u32 (x : Nat)] 35))
    have HF2 : Hid (∀ k ∈ F2, w.heap.size ≤ k) := Lib.hid (fun k hk => by
      rcases hF2 k hk with h | h
      · exact HBIG.out k h
      · have := HB4.out.size; omega)
    have HNF : Hid (w5.heap.size ∉ F2) := Lib.hid (fun h => by have := hS2.lt _ h; omega)
    have HK := Lib.hid (Blk.new w5 35 #[.int .u8 0, .int .u32 (x : Nat)])
    simp only [edO, Edg.cells, Option.isSome]
    clear hS2 hF2 hc hb5
    go_wp2_with fail
    refine (HM2.out F2 _ HU5.out HS5.out).mono ?_
    rintro e w6 ⟨rfl, hT6⟩
    obtain ⟨⟨F3, hS3, hF3⟩, hc⟩ := hT6
    have hk6 := HK.out.chg hc HNF.out
    obtain ⟨U, hUU⟩ : ∃ U, U = w6.alloc (.cells #[.int .u8 0, .int .u32 (y : Nat)] 35) := ⟨_, rfl⟩
    have hb6 := HB5.out.trans (hc.below (B := w.heap.size) HB5.out.size HF2.out)
    have hbU : Below w.heap.size w U := by rw [hUU]; exact hb6.alloc hb6.size _
    have hb6U : Below w6.heap.size w6 U := by rw [hUU]; exact (Below.refl _ _).alloc (Nat.le_refl _) _
    have HUU := Lib.hid hUU
    have HT6 := Lib.hid ((HT5.out.turn hc hF3).nil_.on hb6U)
    have HU6 := Lib.hid ((HU5.out.turn hc hF3).nil_.on hb6U)
    have HS6 := Lib.hid (hS3.on hb6U)
    have HBU := Lib.hid hbU
    have HK1 := Lib.hid (hk6.on' hb6U)
    have hK2 : Blk U w6.heap.size 35 #[.int .u8 0, .int .u32 (y : Nat)] := by rw [hUU]; exact Blk.new _ _ _
    have HK2 := Lib.hid hK2
    simp only [edO, Edg.cells, Option.isSome]
    clear hS3 hF3 hc hk6 hb6 hbU hb6U hK2
    go_wp2_with fail
    rw [← HUU.out]
    clear hUU
    obtain ⟨q, hq⟩ : ∃ q, q = decide (t = u) := ⟨_, rfl⟩
    have hEQ := fun W => eql_edge 0 x 0 y q (by rw [hq]; exact decide_eq_decide.2 HSM.out) W
    have c1 := regrown_calls (W := U) (fun W' hW' => (HR1.out F3 W' (HS6.out.on hW')).mono fun _ _ ⟨he, hb⟩ => ⟨he, hW'.trans (hb.mono hW'.size)⟩)
    have c2 := regrown_calls (W := U) (fun W' hW' => (HR2.out F3 W' (HS6.out.on hW')).mono fun _ _ ⟨he, hb⟩ => ⟨he, hW'.trans (hb.mono hW'.size)⟩)
    have c3 := regrown_calls (W := U) (fun W' hW' => (HTU.out W' (HT6.out.on hW') (HU6.out.on hW')).mono fun _ _ ⟨he, hb⟩ => ⟨he, by obtain ⟨k, rfl⟩ := hb; exact below_drewN hW' k⟩)
    rw [← hq] at c3
    have j0 : ∀ d os, (grow (redrawn U d) os).cell? ⟨w5.heap.size, 0, none⟩ = some (.int .u8 0) := fun d os => cell_regrown (HK1.out.cell 0) d os
    have j1 : ∀ d os, (grow (redrawn U d) os).cell? ⟨w5.heap.size, 1, none⟩ = some (.int .u32 (x : Nat)) := fun d os => cell_regrown (HK1.out.cell 1) d os
    have j2 : ∀ d os, (grow (redrawn U d) os).cell? ⟨w6.heap.size, 0, none⟩ = some (.int .u8 0) := fun d os => cell_regrown (HK2.out.cell 0) d os
    have j3 : ∀ d os, (grow (redrawn U d) os).cell? ⟨w6.heap.size, 1, none⟩ = some (.int .u32 (y : Nat)) := fun d os => cell_regrown (HK2.out.cell 1) d os
    clear hq
    have hSH := HSH.out
    obtain ⟨hsh, hsh2⟩ := hSH
    cases q
    all_goals
      refine wp_region_quiet_below (by kernel_rfl) (by kernel_rfl) ?_
      repeat (first | go_big_quiet_step (first | with_reducible exact c1 _ _ | with_reducible exact c2 _ _ | with_reducible exact c3 _ _ | fail) | quiet_step (first | with_reducible exact c1 _ _ | with_reducible exact c2 _ _ | with_reducible exact c3 _ _ | fail))
      refine wpQuiet_nil ?_
      intro w7 hw'
      have hbel7 : Below U.heap.size U w7 := regrown_below hw'
      clear hw' j0 j1 j2 j3 c1 c2 c3
      have HB7 := Lib.hid hbel7
      have k0 : w7.cell? ⟨w5.heap.size, 0, none⟩ = some (.int .u8 0) := (HK1.out.on' hbel7).cell 0
      have k1 : w7.cell? ⟨w5.heap.size, 1, none⟩ = some (.int .u32 (x : Nat)) := (HK1.out.on' hbel7).cell 1
      clear hbel7
      go_wp2_with fail
      refine (HUN.out F3 _ (HS6.out.on HB7.out)).mono ?_
      rintro e w8 ⟨rfl, hb8⟩
      have HB8 := Lib.hid (HB7.out.trans (hb8.mono HB7.out.size))
      clear k0 k1 hb8
      unfold strV
      go_wp2_with fail
      refine (HTE.out _ (HT6.out.on HB8.out)).mono ?_
      rintro e w9 ⟨rfl, hb9⟩
      have HB9 := Lib.hid (HB8.out.trans (hb9.mono HB8.out.size))
      have k0 : w9.cell? ⟨w6.heap.size, 0, none⟩ = some (.int .u8 0) := (HK2.out.on' HB9.out).cell 0
      have k1 : w9.cell? ⟨w6.heap.size, 1, none⟩ = some (.int .u32 (y : Nat)) := (HK2.out.on' HB9.out).cell 1
      clear hb9
      unfold strV
      go_wp2_with fail
      refine (HUN2.out F3 _ (HS6.out.on HB9.out)).mono ?_
      rintro e w10 ⟨rfl, hb10⟩
      have HB10 := Lib.hid (HB9.out.trans (hb10.mono HB9.out.size))
      clear k0 k1 hb10
      unfold strV
      go_wp2_with fail
      refine (HTE2.out _ (HU6.out.on HB10.out)).mono ?_
      rintro e w11 ⟨rfl, hb11⟩
      have HB11 := Lib.hid (HB10.out.trans (hb11.mono HB10.out.size))
      clear hb11
      unfold strV
      go_wp2_with fail
      go_ret
      exact ⟨rfl, HBU.out.trans (HB11.out.mono HBU.out.size)⟩

theorem spots_len13 : ∀ s : List UInt8, (spots s).length ≤ s.length
  | [] => Nat.le_refl _
  | c :: r => by
    rw [spots]
    have := spots_len13 r
    split <;> simp <;> omega
/-- what the count of nodes is, in any room -/
theorem made_fits13 {n room : Nat} {t : List Bool} (hn : n ≤ 6) (ht : t.length = 2 ^ n) :
    ((madeP true room n t 0 []).1 = none ∧ (madeP true room n t 0 []).2.length = room ∧ room < (dd (spots (render (tmOf true n t 0)))).length) ∨
    (∃ e, (madeP true room n t 0 []).1 = some e ∧ (madeP true room n t 0 []).2.length = (dd (spots (render (tmOf true n t 0)))).length ∧ (dd (spots (render (tmOf true n t 0)))).length ≤ room ∧ Den (madeP true room n t 0 []).2 e (tmOf true n t 0)) := by
  have m := madeP_spec (room := room) n t 0 [] ht (by omega) (SInv.nil true n)
  have hr : (madeP true room n t 0 []).2.length ≤ room := (madeP_grow true room n t 0 []).2.2.1 (Nat.zero_le _)
  have hc := made_count m hr
  rw [parts_count _ (low_tmOf true n t 0 (by omega))]
  cases h : (madeP true room n t 0 []).1 with
  | none => exact .inl ⟨rfl, (hc.2 h).1, (hc.2 h).2⟩
  | some e => exact .inr ⟨e, rfl, hc.1 e h, by have := hc.1 e h; omega, (m.yes e h).1⟩
set_option maxRecDepth 100000 in
set_option maxHeartbeats 4000000 in
theorem zfits_walk (n0 room0 a : Int) (w : World) (wa : (Lit.int .u64 a).wf = true) : Calls Try.prog 4 #[.int .i64 n0, .int .i64 room0, .int .u64 a] w fun e w' => e = .returned (.bool true) ∧ Below w.heap.size w w' := by
  have HA := Lib.hid (u64_wf13 wa)
  clear wa
  by_cases hin : n0 < 0 ∨ 6 < n0 ∨ room0 < 0 ∨ 70 < room0
  · have hout : n0 < 0 ∨ 6 < n0 ∨ (0 ≤ n0 ∧ n0 ≤ 6 ∧ room0 < 0) ∨ (0 ≤ n0 ∧ n0 ≤ 6 ∧ 70 < room0) := by omega
    clear hin
    rcases hout with hh | hh | ⟨hh0, hh1, hh⟩ | ⟨hh0, hh1, hh⟩
    all_goals
      go_enter Try.func4, Try.ntmps4
      go_wp2_with fail
      refine (zalive_any _).mono ?_
      rintro e w1 ⟨rfl, hb1⟩
      go_wp2_with fail
      all_goals
        go_ret
        exact ⟨rfl, hb1⟩
  · obtain ⟨n, rfl⟩ := Int.eq_ofNat_of_zero_le (a := n0) (by omega)
    obtain ⟨room, rfl⟩ := Int.eq_ofNat_of_zero_le (a := room0) (by omega)
    have hn : n ≤ 6 := by omega
    have hr : room ≤ 70 := by omega
    have hd1 : ¬ (n : Int) < 0 := by omega
    have hd2 : ¬ 6 < (n : Int) := by omega
    have hd3 : ¬ (room : Int) < 0 := by omega
    have hd4 : ¬ 70 < (room : Int) := by omega
    have HN := Lib.hid hn
    have HRO := Lib.hid hr
    clear hin
    go_enter Try.func4, Try.ntmps4
    go_wp2_with fail
    refine (zalive_any _).mono ?_
    rintro e w1 ⟨rfl, hb1⟩
    have HB1 := Lib.hid hb1
    clear hb1
    go_wp2_with fail
    refine (storeNew_yes n room _ (by omega) (by omega) (by omega) (by omega)).mono ?_
    rintro e w2 ⟨⟨g, F, rfl, hS, hF⟩, hb2⟩
    have hS0 : StoreAt w2 F g n room (csOf true []) [] := hS
    have HS := Lib.hid hS0
    have HF := Lib.hid hF
    have HB2 := Lib.hid hb2
    clear hS hS0 hF hb2
    go_wp2_with fail
    refine (bits12_any n HN.out a HA.out.1 HA.out.2 _).mono ?_
    rintro e w3 ⟨b, t, rfl, ht, hbs, hT, hb3⟩
    have hT3 : TabAt w3 F b 0 t := ⟨hT.lt, fun hm => by have := HS.out.lt _ hm; omega, hT.cell⟩
    have hmade := fun (W : World) h1 h2 => made13_any n room g (by omega) n t 0 b 0 (2 ^ n) F [] W ht (by omega) HN.out (Nat.le_refl _) h1 (SInv.nil true n) h2
    have hlow := low_tmOf true n t 0 (by omega)
    have hdeep := deep_tmOf true n t 0
    have hunf := fun F2 S (x : Nat) (hD : Den S x (tmOf true n t 0)) W h => unfold13_any n room g F2 S hD n W hlow hdeep HN.out h
    have hterm := fun W h => term13_any n t 0 b 0 (2 ^ n) W ht (by omega) HN.out h (Nat.le_refl _)
    have hsh := render_short (T := tmOf true n t 0) (by have := HN.out; omega)
    have hpar := parts12_any (render (tmOf true n t 0)) (by omega)
    have hfit := made_fits13 (n := n) (room := room) HN.out ht
    have HS3 := Lib.hid (HS.out.on hb3)
    have HB3 := Lib.hid (HB1.out.trans ((HB2.out.trans (hb3.mono HB2.out.size)).mono HB1.out.size))
    have hbig : ∀ k ∈ F, w.heap.size ≤ k := fun k hk => by have := HF.out k hk; have := HB1.out.size; omega
    have HBIG := Lib.hid hbig
    generalize madeP true room n t 0 [] = R at *
    generalize 2 ^ n = N at *
    have HFIT0 := hfit
    generalize hrt : render (tmOf true n t 0) = rt at *
    generalize hwn : (dd (spots rt)).length = want at *
    have hwant : want ≤ 1000000 := by
      have h1 := nodup_le (nodup_dd (spots rt)) (m := spots rt) (fun x hx => (mem_dd _ x).1 hx)
      have h2 := spots_len13 rt
      omega
    have HM := Lib.hid hmade
    have HUN := Lib.hid hunf
    have HTE := Lib.hid hterm
    have HPA := Lib.hid hpar
    have HT := Lib.hid hT3
    have HTN := Lib.hid hT
    have HFIT := Lib.hid hfit
    clear hmade hunf hterm hpar hT3 hT hfit HFIT0 hbig ht hbs hlow hdeep hrt hwn hb3
    go_wp2_with fail
    refine (HTE.out _ HTN.out).mono ?_
    rintro e w4 ⟨rfl, hb4⟩
    have HB4 := Lib.hid hb4
    clear hb4
    unfold strV
    go_wp2_with fail
    refine (HPA.out _).mono ?_
    rintro e w5 ⟨⟨A, c, rfl⟩, hb5⟩
    have HB5 := Lib.hid (HB4.out.trans (hb5.mono HB4.out.size))
    clear hb5
    go_wp2_with fail
    refine (HM.out _ (HT.out.on HB5.out) (HS3.out.on HB5.out)).mono ?_
    rintro e w6 ⟨rfl, hT6⟩
    obtain ⟨⟨F2, hS2, hF2⟩, hc⟩ := hT6
    have hb35 := HB3.out.trans (HB5.out.mono HB3.out.size)
    have HB6 := Lib.hid (hb35.trans (hc.below (B := w.heap.size) hb35.size HBIG.out))
    obtain ⟨o, S⟩ := R
    rcases HFIT.out with ⟨h1, h2, h3⟩ | ⟨x, h1, h2, h3, h4⟩
    all_goals
      simp only at h1 h2
      subst h1
    · have HH2 := Lib.hid h2
      simp only [edO, Edg.nil, Edg.cells, Option.isSome]
      have HS6 := Lib.hid (hS2.on ((Below.refl _ _).alloc (Nat.le_refl _) (.cells #[.int .u8 0, .int .u32 0] 35)))
      have hln := fun W h => storeLen_any F2 g n room (csOf true S) [] W h
      rw [cntC_csOf, h2] at hln
      have HLN := Lib.hid hln
      clear hS2 hF2 hc hb35 h2 hln
      go_wp2_with fail
      refine (HLN.out _ HS6.out).mono ?_
      rintro e w' ⟨rfl, rfl⟩
      go_wp2_with fail
      go_ret
      exact ⟨rfl, HB6.out.alloc HB6.out.size _⟩
    · have HH2 := Lib.hid h2
      simp only [edO, Edg.nil, Edg.cells, Option.isSome]
      have HS6 := Lib.hid (hS2.on ((Below.refl _ _).alloc (Nat.le_refl _) (.cells #[.int .u8 0, .int .u32 (x : Nat)] 35)))
      have hln := fun W h => storeLen_any F2 g n room (csOf true S) [] W h
      rw [cntC_csOf, h2] at hln
      have HLN := Lib.hid hln
      have HU := Lib.hid (HUN.out F2 S x h4)
      clear hS2 hF2 hc hb35 h2 h4 hln
      go_wp2_with fail
      refine (HLN.out _ HS6.out).mono ?_
      rintro e w' ⟨rfl, rfl⟩
      go_wp2_with fail
      refine (HU.out _ HS6.out).mono ?_
      rintro e w7 ⟨rfl, hb7⟩
      have HB7 := Lib.hid hb7
      clear hb7
      unfold strV
      go_wp2_with fail
      go_ret
      have hs6 := HB6.out.size
      exact ⟨rfl, (HB6.out.alloc hs6 _).trans (HB7.out.mono (by simp; omega))⟩
end Go.Proofs.Ytfcklfpgjadfmaa
