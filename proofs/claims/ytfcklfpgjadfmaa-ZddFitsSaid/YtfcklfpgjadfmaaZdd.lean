/- Contracts: zdd.found, Make, Right. -/
import Derived.Test.YtfcklfpgjadfmaaDiaC
namespace Go.Proofs.Ytfcklfpgjadfmaa
open Go.RowKit Go.Sort
set_option linter.unusedSimpArgs false
set_option linter.unusedVariables false

set_option maxRecDepth 100000 in
set_option maxHeartbeats 4000000 in
theorem zfound_any (F : List Nat) (g n room : Nat) (cs : List (Option Rec)) (r : Rec) (w : World) (h : StoreAt w F g n room cs []) (hr : r.Wf) :
    Calls Try.prog 69 #[.pointer (some ⟨g, 0, none⟩), .agg r.cells.toArray] w fun e w' => e = .returned (.tuple #[.agg (fE (findP n room cs r)).cells.toArray, .int .u8 (findP n room cs r).2.1]) ∧ Turns (fun W X => StoreAt W X g n room (findP n room cs r).2.2 []) F w w' := by
  have HST := Lib.hid h
  have HR := Lib.hid hr
  have hF := Lib.hid h.lt
  have hFP := findP_cases n room cs r h.ok
  obtain ⟨x, hx⟩ : ∃ x, x = findP n room cs r := ⟨_, rfl⟩
  have HX := Lib.hid hx
  rw [← hx] at hFP
  rw [← hx]
  obtain ⟨id, er, cs2⟩ := x
  simp only at hFP ⊢
  have H2 : Hid (Below w.heap.size w ((w.alloc (.cells r.cells.toArray 69)).alloc (.cells #[.int .u8 0, .int .u32 0] 35))) := Lib.hid (((Below.refl _ _).alloc (Nat.le_refl _) _).alloc (by simp) _)
  have hfind := find_store F g n room cs r _ (HST.out.on H2.out) HR.out
  rw [← hx] at hfind
  have HFN := Lib.hid hfind
  obtain ⟨f, t, b, ⟨lt, lp⟩, ⟨ht, hp⟩⟩ := r
  simp only [Rec.cells] at HFN H2 ⊢
  clear h hr hx hfind
  rcases hFP with ⟨he, hid⟩ | ⟨he, hid, he2, he3⟩

  · subst he
    have HE := Lib.hid hid
    clear hid
    go_enter Try.func69, Try.ntmps69
    go_wp2_with fail
    refine HFN.out.mono ?_
    rintro e w1 ⟨rfl, hT⟩
    have HT := Lib.hid hT
    have hB := (Blk.new (w.alloc (.cells #[.int .u8 f, .int .u8 t, .int .u8 b, .int .u8 lt, .int .u32 lp, .int .u8 ht, .int .u32 hp] 69)) 35 #[.int .u8 0, .int .u32 0]).chg hT.2 (fun hm => by have := hF.out _ hm; simp at this; omega)
    simp only [World.size_alloc] at hB
    have n0 : w1.cell? ⟨w.heap.size + 1, 0, none⟩ = some (.int .u8 0) := hB.cell 0
    have n1 : w1.cell? ⟨w.heap.size + 1, 1, none⟩ = some (.int .u32 0) := hB.cell 1
    have z0 := hB.frozen 0
    have z1 := hB.frozen 1
    clear hT hB
    go_wp2_with fail
    refine bodyPost_ret (v := .tuple #[.agg (fE (id, 0, cs2)).cells.toArray, .int .u8 (0 : Nat)]) ?_ rfl ⟨rfl, ?_⟩
    · simp [results, Try.results69, go_sem, fE, Edg.cells, Edg.nil, *]
    · exact store_turns_down H2.out hF.out HT.out (((Chg.refl [w.heap.size + 1] w1).setCell (.inl (by simp)) _).setCell (.inl (by simp)) _) (by simp)
  · subst hid
    have HE := Lib.hid he
    clear he
    go_enter Try.func69, Try.ntmps69
    go_wp2_with fail
    refine HFN.out.mono ?_
    rintro e w1 ⟨rfl, hT⟩
    have HT := Lib.hid hT
    have hB := (Blk.new (w.alloc (.cells #[.int .u8 f, .int .u8 t, .int .u8 b, .int .u8 lt, .int .u32 lp, .int .u8 ht, .int .u32 hp] 69)) 35 #[.int .u8 0, .int .u32 0]).chg hT.2 (fun hm => by have := hF.out _ hm; simp at this; omega)
    simp only [World.size_alloc] at hB
    have n0 : w1.cell? ⟨w.heap.size + 1, 0, none⟩ = some (.int .u8 0) := hB.cell 0
    have n1 : w1.cell? ⟨w.heap.size + 1, 1, none⟩ = some (.int .u32 0) := hB.cell 1
    have z0 := hB.frozen 0
    have z1 := hB.frozen 1
    clear hT hB
    have he4 : ((er : Int) == 0) = false := by simp; omega
    have he5 : ((er : Int) != 0) = true := by simp; omega
    clear he2 he3
    go_wp2_with fail
    refine bodyPost_ret (v := .tuple #[.agg (fE (0, er, cs2)).cells.toArray, .int .u8 er]) ?_ rfl ⟨rfl, ?_⟩
    · simp [results, Try.results69, go_sem, fE, Edg.cells, Edg.nil, *]
    · exact store_turns_down H2.out hF.out HT.out (((Chg.refl [w.heap.size + 1] w1).setCell (.inl (by simp)) _).setCell (.inl (by simp)) _) (by simp)

set_option maxRecDepth 100000 in
set_option maxHeartbeats 4000000 in
theorem zmake_any (F : List Nat) (g n room : Nat) (cs : List (Option Rec)) (l : Int) (lo hi : Edg) (w : World) (h : StoreAt w F g n room cs []) (hlo : lo.Wf) (hhi : hi.Wf) :
    Calls Try.prog 36 #[.pointer (some ⟨g, 0, none⟩), .int .i64 l, .agg lo.cells.toArray, .agg hi.cells.toArray] w fun e w' => e = .returned (.tuple #[.agg (makeE true n room cs l lo hi).1.cells.toArray, .int .u8 (makeE true n room cs l lo hi).2.1]) ∧ Turns (fun W X => StoreAt W X g n room (makeE true n room cs l lo hi).2.2 []) F w w' := by
  have HST := Lib.hid h
  have HOK := Lib.hid h.ok
  have HLW := Lib.hid hlo
  have HHW := Lib.hid hhi
  have hF := Lib.hid h.lt
  obtain ⟨lt, lp⟩ := lo
  obtain ⟨ht, hp⟩ := hi
  simp only [Edg.cells]
  have H3 : Hid (Below w.heap.size w (((w.alloc (.cells #[.int .u8 lt, .int .u32 lp] 35)).alloc (.cells #[.int .u8 ht, .int .u32 hp] 35)).alloc (.cells #[.int .u8 0, .int .u32 0] 35))) := Lib.hid ((((Below.refl _ _).alloc (Nat.le_refl _) _).alloc (by simp) _).alloc (by simp; omega) _)
  obtain ⟨W, hW⟩ : ∃ W, W = (((w.alloc (.cells #[.int .u8 lt, .int .u32 lp] 35)).alloc (.cells #[.int .u8 ht, .int .u32 hp] 35)).alloc (.cells #[.int .u8 0, .int .u32 0] 35)) := ⟨_, rfl⟩
  have hB0 : Blk W w.heap.size 35 #[.int .u8 lt, .int .u32 lp] := by rw [hW]; exact ((Blk.new w _ _).alloc _).alloc _
  have hB1 : Blk W (w.heap.size + 1) 35 #[.int .u8 ht, .int .u32 hp] := by rw [hW]; exact (Blk.new_at (by simp) _ _).alloc _
  have hB2 : Blk W (w.heap.size + 2) 35 #[.int .u8 0, .int .u32 0] := by rw [hW]; exact Blk.new_at (by simp) _ _
  rw [← hW] at H3
  have HSW := Lib.hid (HST.out.on H3.out)
  have HWS : Hid (W.heap.size = w.heap.size + 3) := Lib.hid (by rw [hW]; simp)
  have FB : Hid (∀ W', Below W.heap.size W W' → Blk W' w.heap.size 35 #[.int .u8 lt, .int .u32 lp] ∧ Blk W' (w.heap.size + 1) 35 #[.int .u8 ht, .int .u32 hp] ∧ Blk W' (w.heap.size + 2) 35 #[.int .u8 0, .int .u32 0]) := Lib.hid fun W' hW' => ⟨hB0.on' hW', hB1.on' hW', hB2.on' hW'⟩
  have HWW := Lib.hid hW
  have hLD : ∀ (e : Edg), e.Wf → ∀ W', Below W.heap.size W W' → Calls Try.prog 59 #[.pointer (some ⟨g, 0, none⟩), .int .u8 2, .agg e.cells.toArray, .int .i64 (l + 1)] W' fun r w' => r = .returned (.bool (leads cs n 2 e (l + 1))) ∧ Below W.heap.size W w' := fun e he W' hW' => (leads_any F g n room cs [] 2 e (l + 1) W' (HSW.out.on hW') (by omega) he).mono fun _ _ ⟨q1, q2⟩ => ⟨q1, hW'.trans (q2.mono hW'.size)⟩
  have HLO := Lib.hid (hLD _ HLW.out)
  have HHI := Lib.hid (hLD _ HHW.out)
  have HVA := Lib.hid (fun (W' : World) (hW' : Below W.heap.size W W') => storeVars_any F g n room cs [] W' (HSW.out.on hW'))
  simp only [Edg.cells] at HLO HHI
  have HFI := Lib.hid (fun (W' : World) (hW' : Below W.heap.size W W') (r : Rec) (hr : r.Wf) => zfound_any F g n room cs r W' (HSW.out.on hW') hr)
  clear h hlo hhi hB0 hB1 hB2 hLD
  by_cases h0 : l < 0
  · have HMK : Hid (makeE true n room cs l ⟨lt, lp⟩ ⟨ht, hp⟩ = (.nil, 3, cs)) := Lib.hid (makeE_var (.inl h0))
    go_enter Try.func36, Try.ntmps36
    go_wp2_with fail
    rw [← HWW.out]
    clear hW
    obtain ⟨hb0, hb1, hb2⟩ := FB.out W (Below.refl _ _)
    have a0 : W.cell? ⟨w.heap.size, 0, none⟩ = some (.int .u8 lt) := hb0.cell 0
    have a1 : W.cell? ⟨w.heap.size, 1, none⟩ = some (.int .u32 lp) := hb0.cell 1
    have b0 : W.cell? ⟨w.heap.size + 1, 0, none⟩ = some (.int .u8 ht) := hb1.cell 0
    have b1 : W.cell? ⟨w.heap.size + 1, 1, none⟩ = some (.int .u32 hp) := hb1.cell 1
    have n0 : W.cell? ⟨w.heap.size + 2, 0, none⟩ = some (.int .u8 0) := hb2.cell 0
    have n1 : W.cell? ⟨w.heap.size + 2, 1, none⟩ = some (.int .u32 0) := hb2.cell 1
    have z0 := hb2.frozen 0
    have z1 := hb2.frozen 1
    clear hb0 hb1 hb2
    go_wp2_with fail
    rw [HMK.out]
    refine bodyPost_ret (v := .tuple #[.agg #[.int .u8 0, .int .u32 0], .int .u8 (3 : Nat)]) ?_ rfl ⟨rfl, ?_⟩
    · simp [results, Try.results36, go_sem, *]
    · have hT := (turns_of_below (A := fun W X => StoreAt W X g n room cs []) (HSW.out.on (Below.refl _ _)) (Below.refl _ _))
      first
        | (with_reducible exact store_turns_down H3.out hF.out hT (Chg.refl [] _) (by simp))
        | exact store_turns_down H3.out hF.out hT (chg2 _ (w.heap.size + 2) _ _) (fun k hk => by have := HWS.out; simp at hk; omega)
  · by_cases h1 : (n : Int) ≤ l
    · have HMK : Hid (makeE true n room cs l ⟨lt, lp⟩ ⟨ht, hp⟩ = (.nil, 3, cs)) := Lib.hid (makeE_var (.inr h1))
      go_enter Try.func36, Try.ntmps36
      go_wp2_with fail
      rw [← HWW.out]
      clear hW
      obtain ⟨hb0, hb1, hb2⟩ := FB.out W (Below.refl _ _)
      have a0 : W.cell? ⟨w.heap.size, 0, none⟩ = some (.int .u8 lt) := hb0.cell 0
      have a1 : W.cell? ⟨w.heap.size, 1, none⟩ = some (.int .u32 lp) := hb0.cell 1
      have b0 : W.cell? ⟨w.heap.size + 1, 0, none⟩ = some (.int .u8 ht) := hb1.cell 0
      have b1 : W.cell? ⟨w.heap.size + 1, 1, none⟩ = some (.int .u32 hp) := hb1.cell 1
      have n0 : W.cell? ⟨w.heap.size + 2, 0, none⟩ = some (.int .u8 0) := hb2.cell 0
      have n1 : W.cell? ⟨w.heap.size + 2, 1, none⟩ = some (.int .u32 0) := hb2.cell 1
      have z0 := hb2.frozen 0
      have z1 := hb2.frozen 1
      clear hb0 hb1 hb2
      refine (HVA.out _ (Below.refl _ _)).mono ?_
      rintro e w' ⟨rfl, rfl⟩
      go_wp2_with fail
      rw [HMK.out]
      refine bodyPost_ret (v := .tuple #[.agg #[.int .u8 0, .int .u32 0], .int .u8 (3 : Nat)]) ?_ rfl ⟨rfl, ?_⟩
      · simp [results, Try.results36, go_sem, *]
      · have hT := (turns_of_below (A := fun W X => StoreAt W X g n room cs []) (HSW.out.on (Below.refl _ _)) (Below.refl _ _))
        first
          | (with_reducible exact store_turns_down H3.out hF.out hT (Chg.refl [] _) (by simp))
          | exact store_turns_down H3.out hF.out hT (chg2 _ (w.heap.size + 2) _ _) (fun k hk => by have := HWS.out; simp at hk; omega)
    · have HL : Hid (0 ≤ l ∧ l < n) := Lib.hid ⟨by omega, by omega⟩
      have hd : decide ((n : Int) ≤ l) = false := by simpa using h1
      have e1 : IntKind.i64.wrap (l + 1) = l + 1 := IntWalk.i64_in _ (by have := HOK.out.n16; have := HL.out; omega)
      cases hlo : leads cs n 2 ⟨lt, lp⟩ (l + 1)
      · have HLT := Lib.hid hlo
        have HMK : Hid (makeE true n room cs l ⟨lt, lp⟩ ⟨ht, hp⟩ = (.nil, 1, cs)) := Lib.hid (makeE_arg HL.out (.inl (by simpa [fmOf] using hlo)))
        clear hlo
        go_enter Try.func36, Try.ntmps36
        go_wp2_with fail
        rw [← HWW.out]
        clear hW
        obtain ⟨hb0, hb1, hb2⟩ := FB.out W (Below.refl _ _)
        have a0 : W.cell? ⟨w.heap.size, 0, none⟩ = some (.int .u8 lt) := hb0.cell 0
        have a1 : W.cell? ⟨w.heap.size, 1, none⟩ = some (.int .u32 lp) := hb0.cell 1
        have b0 : W.cell? ⟨w.heap.size + 1, 0, none⟩ = some (.int .u8 ht) := hb1.cell 0
        have b1 : W.cell? ⟨w.heap.size + 1, 1, none⟩ = some (.int .u32 hp) := hb1.cell 1
        have n0 : W.cell? ⟨w.heap.size + 2, 0, none⟩ = some (.int .u8 0) := hb2.cell 0
        have n1 : W.cell? ⟨w.heap.size + 2, 1, none⟩ = some (.int .u32 0) := hb2.cell 1
        have z0 := hb2.frozen 0
        have z1 := hb2.frozen 1
        clear hb0 hb1 hb2
        refine (HVA.out _ (Below.refl _ _)).mono ?_
        rintro e w' ⟨rfl, rfl⟩
        go_wp2_with fail
        refine (HLO.out _ (Below.refl _ _)).mono ?_
        rintro e w1 ⟨rfl, hbel1⟩
        rw [HLT.out]
        clear a0 a1 b0 b1 n0 n1 z0 z1
        obtain ⟨hb0, hb1, hb2⟩ := FB.out w1 hbel1
        have a0 : w1.cell? ⟨w.heap.size, 0, none⟩ = some (.int .u8 lt) := hb0.cell 0
        have a1 : w1.cell? ⟨w.heap.size, 1, none⟩ = some (.int .u32 lp) := hb0.cell 1
        have b0 : w1.cell? ⟨w.heap.size + 1, 0, none⟩ = some (.int .u8 ht) := hb1.cell 0
        have b1 : w1.cell? ⟨w.heap.size + 1, 1, none⟩ = some (.int .u32 hp) := hb1.cell 1
        have n0 : w1.cell? ⟨w.heap.size + 2, 0, none⟩ = some (.int .u8 0) := hb2.cell 0
        have n1 : w1.cell? ⟨w.heap.size + 2, 1, none⟩ = some (.int .u32 0) := hb2.cell 1
        have z0 := hb2.frozen 0
        have z1 := hb2.frozen 1
        clear hb0 hb1 hb2
        go_wp2_with fail
        rw [HMK.out]
        refine bodyPost_ret (v := .tuple #[.agg #[.int .u8 0, .int .u32 0], .int .u8 (1 : Nat)]) ?_ rfl ⟨rfl, ?_⟩
        · simp [results, Try.results36, go_sem, *]
        · have hT := (turns_of_below (A := fun W X => StoreAt W X g n room cs []) (HSW.out.on hbel1) hbel1)
          first
            | (with_reducible exact store_turns_down H3.out hF.out hT (Chg.refl [] _) (by simp))
            | exact store_turns_down H3.out hF.out hT (chg2 _ (w.heap.size + 2) _ _) (fun k hk => by have := HWS.out; simp at hk; omega)
      · have HLT := Lib.hid hlo
        cases hhi : leads cs n 2 ⟨ht, hp⟩ (l + 1)
        · have HHT := Lib.hid hhi
          have HMK : Hid (makeE true n room cs l ⟨lt, lp⟩ ⟨ht, hp⟩ = (.nil, 1, cs)) := Lib.hid (makeE_arg HL.out (.inr (by simpa [fmOf] using hhi)))
          clear hlo hhi
          go_enter Try.func36, Try.ntmps36
          go_wp2_with fail
          rw [← HWW.out]
          clear hW
          obtain ⟨hb0, hb1, hb2⟩ := FB.out W (Below.refl _ _)
          have a0 : W.cell? ⟨w.heap.size, 0, none⟩ = some (.int .u8 lt) := hb0.cell 0
          have a1 : W.cell? ⟨w.heap.size, 1, none⟩ = some (.int .u32 lp) := hb0.cell 1
          have b0 : W.cell? ⟨w.heap.size + 1, 0, none⟩ = some (.int .u8 ht) := hb1.cell 0
          have b1 : W.cell? ⟨w.heap.size + 1, 1, none⟩ = some (.int .u32 hp) := hb1.cell 1
          have n0 : W.cell? ⟨w.heap.size + 2, 0, none⟩ = some (.int .u8 0) := hb2.cell 0
          have n1 : W.cell? ⟨w.heap.size + 2, 1, none⟩ = some (.int .u32 0) := hb2.cell 1
          have z0 := hb2.frozen 0
          have z1 := hb2.frozen 1
          clear hb0 hb1 hb2
          refine (HVA.out _ (Below.refl _ _)).mono ?_
          rintro e w' ⟨rfl, rfl⟩
          go_wp2_with fail
          refine (HLO.out _ (Below.refl _ _)).mono ?_
          rintro e w1 ⟨rfl, hbel1⟩
          rw [HLT.out]
          clear a0 a1 b0 b1 n0 n1 z0 z1
          have b0' : w1.cell? ⟨w.heap.size + 1, 0, none⟩ = some (.int .u8 ht) := (FB.out w1 hbel1).2.1.cell 0
          have b1' : w1.cell? ⟨w.heap.size + 1, 1, none⟩ = some (.int .u32 hp) := (FB.out w1 hbel1).2.1.cell 1
          go_wp2_with fail
          refine (HHI.out _ hbel1).mono ?_
          rintro e w2 ⟨rfl, hbel2⟩
          rw [HHT.out]
          clear b0' b1'
          obtain ⟨hb0, hb1, hb2⟩ := FB.out w2 hbel2
          have a0 : w2.cell? ⟨w.heap.size, 0, none⟩ = some (.int .u8 lt) := hb0.cell 0
          have a1 : w2.cell? ⟨w.heap.size, 1, none⟩ = some (.int .u32 lp) := hb0.cell 1
          have b0 : w2.cell? ⟨w.heap.size + 1, 0, none⟩ = some (.int .u8 ht) := hb1.cell 0
          have b1 : w2.cell? ⟨w.heap.size + 1, 1, none⟩ = some (.int .u32 hp) := hb1.cell 1
          have n0 : w2.cell? ⟨w.heap.size + 2, 0, none⟩ = some (.int .u8 0) := hb2.cell 0
          have n1 : w2.cell? ⟨w.heap.size + 2, 1, none⟩ = some (.int .u32 0) := hb2.cell 1
          have z0 := hb2.frozen 0
          have z1 := hb2.frozen 1
          clear hb0 hb1 hb2
          go_wp2_with fail
          rw [HMK.out]
          refine bodyPost_ret (v := .tuple #[.agg #[.int .u8 0, .int .u32 0], .int .u8 (1 : Nat)]) ?_ rfl ⟨rfl, ?_⟩
          · simp [results, Try.results36, go_sem, *]
          · have hT := (turns_of_below (A := fun W X => StoreAt W X g n room cs []) (HSW.out.on hbel2) hbel2)
            first
              | (with_reducible exact store_turns_down H3.out hF.out hT (Chg.refl [] _) (by simp))
              | exact store_turns_down H3.out hF.out hT (chg2 _ (w.heap.size + 2) _ _) (fun k hk => by have := HWS.out; simp at hk; omega)
        · have HHT := Lib.hid hhi
          by_cases hred : redE true ⟨lt, lp⟩ ⟨ht, hp⟩ = true
          · have HMK : Hid (makeE true n room cs l ⟨lt, lp⟩ ⟨ht, hp⟩ = (⟨lt, lp⟩, 0, cs)) := Lib.hid (makeE_red HL.out (by simpa [fmOf] using hlo) (by simpa [fmOf] using hhi) hred)
            have hred' : (hp == 0) = true := by simpa [redE] using hred
            clear hlo hhi hred
            go_enter Try.func36, Try.ntmps36
            go_wp2_with fail
            rw [← HWW.out]
            clear hW
            obtain ⟨hb0, hb1, hb2⟩ := FB.out W (Below.refl _ _)
            have a0 : W.cell? ⟨w.heap.size, 0, none⟩ = some (.int .u8 lt) := hb0.cell 0
            have a1 : W.cell? ⟨w.heap.size, 1, none⟩ = some (.int .u32 lp) := hb0.cell 1
            have b0 : W.cell? ⟨w.heap.size + 1, 0, none⟩ = some (.int .u8 ht) := hb1.cell 0
            have b1 : W.cell? ⟨w.heap.size + 1, 1, none⟩ = some (.int .u32 hp) := hb1.cell 1
            have n0 : W.cell? ⟨w.heap.size + 2, 0, none⟩ = some (.int .u8 0) := hb2.cell 0
            have n1 : W.cell? ⟨w.heap.size + 2, 1, none⟩ = some (.int .u32 0) := hb2.cell 1
            have z0 := hb2.frozen 0
            have z1 := hb2.frozen 1
            clear hb0 hb1 hb2
            refine (HVA.out _ (Below.refl _ _)).mono ?_
            rintro e w' ⟨rfl, rfl⟩
            go_wp2_with fail
            refine (HLO.out _ (Below.refl _ _)).mono ?_
            rintro e w1 ⟨rfl, hbel1⟩
            rw [HLT.out]
            clear a0 a1 b0 b1 n0 n1 z0 z1
            have b0' : w1.cell? ⟨w.heap.size + 1, 0, none⟩ = some (.int .u8 ht) := (FB.out w1 hbel1).2.1.cell 0
            have b1' : w1.cell? ⟨w.heap.size + 1, 1, none⟩ = some (.int .u32 hp) := (FB.out w1 hbel1).2.1.cell 1
            go_wp2_with fail
            refine (HHI.out _ hbel1).mono ?_
            rintro e w2 ⟨rfl, hbel2⟩
            rw [HHT.out]
            clear b0' b1'
            obtain ⟨hb0, hb1, hb2⟩ := FB.out w2 hbel2
            have a0 : w2.cell? ⟨w.heap.size, 0, none⟩ = some (.int .u8 lt) := hb0.cell 0
            have a1 : w2.cell? ⟨w.heap.size, 1, none⟩ = some (.int .u32 lp) := hb0.cell 1
            have b0 : w2.cell? ⟨w.heap.size + 1, 0, none⟩ = some (.int .u8 ht) := hb1.cell 0
            have b1 : w2.cell? ⟨w.heap.size + 1, 1, none⟩ = some (.int .u32 hp) := hb1.cell 1
            have n0 : w2.cell? ⟨w.heap.size + 2, 0, none⟩ = some (.int .u8 0) := hb2.cell 0
            have n1 : w2.cell? ⟨w.heap.size + 2, 1, none⟩ = some (.int .u32 0) := hb2.cell 1
            have z0 := hb2.frozen 0
            have z1 := hb2.frozen 1
            clear hb0 hb1 hb2
            go_wp2_with fail
            rw [HMK.out]
            refine bodyPost_ret (v := .tuple #[.agg #[.int .u8 lt, .int .u32 lp], .int .u8 (0 : Nat)]) ?_ rfl ⟨rfl, ?_⟩
            · simp [results, Try.results36, go_sem, *]
            · have hT := (turns_of_below (A := fun W X => StoreAt W X g n room cs []) (HSW.out.on hbel2) hbel2)
              first
                | (with_reducible exact store_turns_down H3.out hF.out hT (Chg.refl [] _) (by simp))
                | exact store_turns_down H3.out hF.out hT (chg2 _ (w.heap.size + 2) _ _) (fun k hk => by have := HWS.out; simp at hk; omega)
          · have HMK : Hid (makeE true n room cs l ⟨lt, lp⟩ ⟨ht, hp⟩ = (fE (findP n room cs ⟨2, l, l, ⟨lt, lp⟩, ⟨ht, hp⟩⟩), (findP n room cs ⟨2, l, l, ⟨lt, lp⟩, ⟨ht, hp⟩⟩).2.1, (findP n room cs ⟨2, l, l, ⟨lt, lp⟩, ⟨ht, hp⟩⟩).2.2)) := Lib.hid (makeE_find (room := room) HL.out (by simpa [fmOf] using hlo) (by simpa [fmOf] using hhi) hred)
            have hl16 : l < 16 := by have := HOK.out.n16; have := HL.out; omega
            have e2 : IntKind.u8.wrap l = l := u8_in _ (by have := HL.out; omega)
            have HRW : Hid (Rec.Wf ⟨2, l, l, ⟨lt, lp⟩, ⟨ht, hp⟩⟩) := Lib.hid ⟨by simp, ⟨by have := HL.out; simp only; omega, by simp only; omega⟩, ⟨by have := HL.out; simp only; omega, by simp only; omega⟩, HLW.out, HHW.out⟩
            have hred' : (hp == 0) = false := by simpa [redE] using hred
            clear hlo hhi hred
            go_enter Try.func36, Try.ntmps36
            go_wp2_with fail
            rw [← HWW.out]
            clear hW
            obtain ⟨hb0, hb1, hb2⟩ := FB.out W (Below.refl _ _)
            have a0 : W.cell? ⟨w.heap.size, 0, none⟩ = some (.int .u8 lt) := hb0.cell 0
            have a1 : W.cell? ⟨w.heap.size, 1, none⟩ = some (.int .u32 lp) := hb0.cell 1
            have b0 : W.cell? ⟨w.heap.size + 1, 0, none⟩ = some (.int .u8 ht) := hb1.cell 0
            have b1 : W.cell? ⟨w.heap.size + 1, 1, none⟩ = some (.int .u32 hp) := hb1.cell 1
            have n0 : W.cell? ⟨w.heap.size + 2, 0, none⟩ = some (.int .u8 0) := hb2.cell 0
            have n1 : W.cell? ⟨w.heap.size + 2, 1, none⟩ = some (.int .u32 0) := hb2.cell 1
            have z0 := hb2.frozen 0
            have z1 := hb2.frozen 1
            clear hb0 hb1 hb2
            refine (HVA.out _ (Below.refl _ _)).mono ?_
            rintro e w' ⟨rfl, rfl⟩
            go_wp2_with fail
            refine (HLO.out _ (Below.refl _ _)).mono ?_
            rintro e w1 ⟨rfl, hbel1⟩
            rw [HLT.out]
            clear a0 a1 b0 b1 n0 n1 z0 z1
            have b0' : w1.cell? ⟨w.heap.size + 1, 0, none⟩ = some (.int .u8 ht) := (FB.out w1 hbel1).2.1.cell 0
            have b1' : w1.cell? ⟨w.heap.size + 1, 1, none⟩ = some (.int .u32 hp) := (FB.out w1 hbel1).2.1.cell 1
            go_wp2_with fail
            refine (HHI.out _ hbel1).mono ?_
            rintro e w2 ⟨rfl, hbel2⟩
            rw [HHT.out]
            clear b0' b1'
            obtain ⟨hb0, hb1, hb2⟩ := FB.out w2 hbel2
            have a0 : w2.cell? ⟨w.heap.size, 0, none⟩ = some (.int .u8 lt) := hb0.cell 0
            have a1 : w2.cell? ⟨w.heap.size, 1, none⟩ = some (.int .u32 lp) := hb0.cell 1
            have b0 : w2.cell? ⟨w.heap.size + 1, 0, none⟩ = some (.int .u8 ht) := hb1.cell 0
            have b1 : w2.cell? ⟨w.heap.size + 1, 1, none⟩ = some (.int .u32 hp) := hb1.cell 1
            have n0 : w2.cell? ⟨w.heap.size + 2, 0, none⟩ = some (.int .u8 0) := hb2.cell 0
            have n1 : w2.cell? ⟨w.heap.size + 2, 1, none⟩ = some (.int .u32 0) := hb2.cell 1
            have z0 := hb2.frozen 0
            have z1 := hb2.frozen 1
            clear hb0 hb1 hb2
            go_wp2_with fail
            refine (HFI.out _ hbel2 ⟨2, l, l, ⟨lt, lp⟩, ⟨ht, hp⟩⟩ HRW.out).mono ?_
            rintro e w3 ⟨rfl, hT⟩
            have HT := Lib.hid hT
            have hB2 := (FB.out _ hbel2).2.2.chg hT.2 (fun hm => by have := hF.out _ hm; omega)
            have n0' : w3.cell? ⟨w.heap.size + 2, 0, none⟩ = some (.int .u8 0) := hB2.cell 0
            have n1' : w3.cell? ⟨w.heap.size + 2, 1, none⟩ = some (.int .u32 0) := hB2.cell 1
            have z0' := hB2.frozen 0
            have z1' := hB2.frozen 1
            clear hT hB2 a0 a1 b0 b1 n0 n1 z0 z1
            generalize findP n room cs ⟨2, l, l, ⟨lt, lp⟩, ⟨ht, hp⟩⟩ = x at *
            obtain ⟨id, er, cs2⟩ := x
            obtain ⟨ft, fp, hfe⟩ : ∃ ft fp, fE (id, er, cs2) = ⟨ft, fp⟩ := ⟨_, _, rfl⟩
            rw [hfe]
            have HFE := Lib.hid hfe
            clear hfe
            simp only [Edg.cells]
            go_wp2_with fail
            rw [HMK.out]
            refine bodyPost_ret (v := .tuple #[.agg #[.int .u8 ft, .int .u32 fp], .int .u8 er]) ?_ rfl ⟨by rw [HFE.out], ?_⟩
            · simp [results, Try.results36, go_sem, *]
            · exact store_turns_down (H3.out.trans (hbel2.mono H3.out.size)) hF.out HT.out (chg2 _ (w.heap.size + 2) _ _) (fun k hk => by have := HWS.out; have := hbel2.size; simp at hk; omega)

end Go.Proofs.Ytfcklfpgjadfmaa
