/- Make of edges whose node is there, or that need none: nothing turns. -/
import Derived.Test.YtfcklfpgjadfmaaFindHit
import Derived.Test.YtfcklfpgjadfmaaZdd
namespace Go.Proofs.Ytfcklfpgjadfmaa
open Go.RowKit Go.Sort
set_option linter.unusedSimpArgs false
set_option linter.unusedVariables false

set_option maxHeartbeats 2000000 in
theorem zfound_hit (F : List Nat) (g n room id : Nat) (cs : List (Option Rec)) (r : Rec) (w : World) (h : StoreAt w F g n room cs []) (hr : r.Wf) (hit : idOf cs r = some id) :
    Calls Try.prog 69 #[.pointer (some ⟨g, 0, none⟩), .agg r.cells.toArray] w fun e w' => e = .returned (.tuple #[.agg (⟨0, (id : Nat)⟩ : Edg).cells.toArray, .int .u8 (0 : Nat)]) ∧ Below w.heap.size w w' := by
  have HST := Lib.hid h
  have HR := Lib.hid hr
  have hF := Lib.hid h.lt
  have H2 : Hid (Below w.heap.size w ((w.alloc (.cells r.cells.toArray 69)).alloc (.cells #[.int .u8 0, .int .u32 0] 35))) := Lib.hid (((Below.refl _ _).alloc (Nat.le_refl _) _).alloc (by simp) _)
  have hfind := find_hit F g n room id cs r _ (HST.out.on H2.out) HR.out hit
  have HFN := Lib.hid hfind
  obtain ⟨f, t, b, ⟨lt, lp⟩, ⟨ht, hp⟩⟩ := r
  simp only [Rec.cells] at HFN H2 ⊢
  have hidb := idOf_le hit
  have hlen := h.ok.len
  have hr20 := h.ok.room20
  have hE : id ≤ 4294967295 := by omega
  clear h hr hit hfind hidb hlen hr20
  have HE := Lib.hid hE
  clear hE
  go_enter Try.func69, Try.ntmps69
  go_wp2_with fail
  refine HFN.out.mono ?_
  rintro e w1 ⟨rfl, hb1⟩
  have HB1 := Lib.hid hb1
  have hB := (Blk.new (w.alloc (.cells #[.int .u8 f, .int .u8 t, .int .u8 b, .int .u8 lt, .int .u32 lp, .int .u8 ht, .int .u32 hp] 69)) 35 #[.int .u8 0, .int .u32 0]).on' hb1
  simp only [World.size_alloc] at hB
  have n0 : w1.cell? ⟨w.heap.size + 1, 0, none⟩ = some (.int .u8 0) := hB.cell 0
  have n1 : w1.cell? ⟨w.heap.size + 1, 1, none⟩ = some (.int .u32 0) := hB.cell 1
  have z0 := hB.frozen 0
  have z1 := hB.frozen 1
  clear hb1 hB
  go_wp2_with fail
  refine bodyPost_ret (v := .tuple #[.agg (⟨0, (id : Nat)⟩ : Edg).cells.toArray, .int .u8 (0 : Nat)]) ?_ rfl ⟨rfl, ?_⟩
  · simp [results, Try.results69, go_sem, fE, Edg.cells, Edg.nil, *]
  · exact (((H2.out.trans (HB1.out.mono H2.out.size)).setCell (by simp) _).setCell (by simp) _)

set_option maxRecDepth 100000 in
set_option maxHeartbeats 4000000 in
theorem zmake_red (F : List Nat) (g n room : Nat) (cs : List (Option Rec)) (l : Int) (lo hi : Edg) (w : World) (h : StoreAt w F g n room cs []) (hlo : lo.Wf) (hhi : hi.Wf) (hl : 0 ≤ l ∧ l < n) (h1 : leads cs n 2 lo (l + 1) = true) (h2 : leads cs n 2 hi (l + 1) = true) (h3 : redE true lo hi = true) :
    Calls Try.prog 36 #[.pointer (some ⟨g, 0, none⟩), .int .i64 l, .agg lo.cells.toArray, .agg hi.cells.toArray] w fun e w' => e = .returned (.tuple #[.agg lo.cells.toArray, .int .u8 (0 : Nat)]) ∧ Below w.heap.size w w' := by
  have HL := Lib.hid hl
  have HLT := Lib.hid h1
  have HHT := Lib.hid h2
  have HRED := Lib.hid h3
  clear hl h1 h2 h3
  have HST := Lib.hid h
  have HOK := Lib.hid h.ok
  have HLW := Lib.hid hlo
  have HHW := Lib.hid hhi
  have hF := Lib.hid h.lt
  obtain ⟨lt, lp⟩ := lo
  obtain ⟨ht, hp⟩ := hi
  simp only [Edg.cells]
  have H3 : Hid (Below w.heap.size w (((w.alloc (.cells #[.int .u8 lt, .int .u32 lp] 35)).alloc (.cells #[.int .u8 ht, .int .u32 hp] 35)).alloc (.cells #[.int .u8 0, .int .u32 0] 35))) := Lib.hid ((((Below.refl _ _).alloc (Nat.le_refl _) _).alloc (by simp) _).alloc (by simp; omega) _)
  obtain ⟨W, hW⟩ : ∃ W, W = (((w.alloc (.cells #[.int .u8 lt, .int .u32 lp] 35)).alloc (.cells #[.int .u8 ht, .int .u32 hp] 35)).alloc (.cells #[.int .u8 0, .int .u32 0] 35)) := ⟨_, rfl⟩
  have hB0 : Blk W w.heap.size 35 #[.int .u8 lt, .int .u32 lp] := by rw [hW]; exact ((Blk.new w _ _).alloc _).alloc _
  have hB1 : Blk W (w.heap.size + 1) 35 #[.int .u8 ht, .int .u32 hp] := by rw [hW]; exact (Blk.new_at (by simp) _ _).alloc _
  have hB2 : Blk W (w.heap.size + 2) 35 #[.int .u8 0, .int .u32 0] := by rw [hW]; exact Blk.new_at (by simp) _ _
  rw [← hW] at H3
  have HSW := Lib.hid (HST.out.on H3.out)
  have HWS : Hid (W.heap.size = w.heap.size + 3) := Lib.hid (by rw [hW]; simp)
  have FB : Hid (∀ W', Below W.heap.size W W' → Blk W' w.heap.size 35 #[.int .u8 lt, .int .u32 lp] ∧ Blk W' (w.heap.size + 1) 35 #[.int .u8 ht, .int .u32 hp] ∧ Blk W' (w.heap.size + 2) 35 #[.int .u8 0, .int .u32 0]) := Lib.hid fun W' hW' => ⟨hB0.on' hW', hB1.on' hW', hB2.on' hW'⟩
  have HWW := Lib.hid hW
  have hLD : ∀ (e : Edg), e.Wf → ∀ W', Below W.heap.size W W' → Calls Try.prog 59 #[.pointer (some ⟨g, 0, none⟩), .int .u8 2, .agg e.cells.toArray, .int .i64 (l + 1)] W' fun r w' => r = .returned (.bool (leads cs n 2 e (l + 1))) ∧ Below W.heap.size W w' := fun e he W' hW' => (leads_any F g n room cs [] 2 e (l + 1) W' (HSW.out.on hW') (by omega) he).mono fun _ _ ⟨q1, q2⟩ => ⟨q1, hW'.trans (q2.mono hW'.size)⟩
  have HLO := Lib.hid (hLD _ HLW.out)
  have HHI := Lib.hid (hLD _ HHW.out)
  have HVA := Lib.hid (fun (W' : World) (hW' : Below W.heap.size W W') => storeVars_any F g n room cs [] W' (HSW.out.on hW'))
  simp only [Edg.cells] at HLO HHI
  clear h hlo hhi hB0 hB1 hB2 hLD
  have hl0 : ¬ l < 0 := by have := HL.out; omega
  have hl1 : ¬ (n : Int) ≤ l := by have := HL.out; omega
  have hd : decide ((n : Int) ≤ l) = false := by simpa using hl1
  have e1 : IntKind.i64.wrap (l + 1) = l + 1 := IntWalk.i64_in _ (by have := HOK.out.n16; have := HL.out; omega)
  have hred := HRED.out
  have hred' : (hp == 0) = true := by simpa [redE] using hred
  clear hred
  go_enter Try.func36, Try.ntmps36
  go_wp2_with fail
  rw [← HWW.out]
  clear hW
  obtain ⟨hb0, hb1, hb2⟩ := FB.out W (Below.refl _ _)
  have a0 : W.cell? ⟨w.heap.size, 0, none⟩ = some (.int .u8 lt) := hb0.cell 0
  have a1 : W.cell? ⟨w.heap.size, 1, none⟩ = some (.int .u32 lp) := hb0.cell 1
  have b0 : W.cell? ⟨w.heap.size + 1, 0, none⟩ = some (.int .u8 ht) := hb1.cell 0
  have b1 : W.cell? ⟨w.heap.size + 1, 1, none⟩ = some (.int .u32 hp) := hb1.cell 1
  have n0 : W.cell? ⟨w.heap.size + 2, 0, none⟩ = some (.int .u8 0) := hb2.cell 0
  have n1 : W.cell? ⟨w.heap.size + 2, 1, none⟩ = some (.int .u32 0) := hb2.cell 1
  have z0 := hb2.frozen 0
  have z1 := hb2.frozen 1
  clear hb0 hb1 hb2
  refine (HVA.out _ (Below.refl _ _)).mono ?_
  rintro e w' ⟨rfl, rfl⟩
  go_wp2_with fail
  refine (HLO.out _ (Below.refl _ _)).mono ?_
  rintro e w1 ⟨rfl, hbel1⟩
  rw [HLT.out]
  clear a0 a1 b0 b1 n0 n1 z0 z1
  have b0' : w1.cell? ⟨w.heap.size + 1, 0, none⟩ = some (.int .u8 ht) := (FB.out w1 hbel1).2.1.cell 0
  have b1' : w1.cell? ⟨w.heap.size + 1, 1, none⟩ = some (.int .u32 hp) := (FB.out w1 hbel1).2.1.cell 1
  go_wp2_with fail
  refine (HHI.out _ hbel1).mono ?_
  rintro e w2 ⟨rfl, hbel2⟩
  rw [HHT.out]
  clear b0' b1'
  obtain ⟨hb0, hb1, hb2⟩ := FB.out w2 hbel2
  have a0 : w2.cell? ⟨w.heap.size, 0, none⟩ = some (.int .u8 lt) := hb0.cell 0
  have a1 : w2.cell? ⟨w.heap.size, 1, none⟩ = some (.int .u32 lp) := hb0.cell 1
  have b0 : w2.cell? ⟨w.heap.size + 1, 0, none⟩ = some (.int .u8 ht) := hb1.cell 0
  have b1 : w2.cell? ⟨w.heap.size + 1, 1, none⟩ = some (.int .u32 hp) := hb1.cell 1
  have n0 : w2.cell? ⟨w.heap.size + 2, 0, none⟩ = some (.int .u8 0) := hb2.cell 0
  have n1 : w2.cell? ⟨w.heap.size + 2, 1, none⟩ = some (.int .u32 0) := hb2.cell 1
  have z0 := hb2.frozen 0
  have z1 := hb2.frozen 1
  clear hb0 hb1 hb2
  go_wp2_with fail
  refine bodyPost_ret (v := .tuple #[.agg #[.int .u8 lt, .int .u32 lp], .int .u8 (0 : Nat)]) ?_ rfl ⟨rfl, ?_⟩
  · simp [results, Try.results36, go_sem, *]
  · have hbb := H3.out.trans (hbel2.mono H3.out.size)
    first | (with_reducible exact hbb) | exact (hbb.setCell (by simp only; omega) _).setCell (by simp only; omega) _

set_option maxRecDepth 100000 in
set_option maxHeartbeats 4000000 in
theorem zmake_hit (F : List Nat) (g n room id : Nat) (cs : List (Option Rec)) (l : Int) (lo hi : Edg) (w : World) (h : StoreAt w F g n room cs []) (hlo : lo.Wf) (hhi : hi.Wf) (hl : 0 ≤ l ∧ l < n) (h1 : leads cs n 2 lo (l + 1) = true) (h2 : leads cs n 2 hi (l + 1) = true) (h3 : ¬ redE true lo hi = true) (hit : idOf cs ⟨2, l, l, lo, hi⟩ = some id) :
    Calls Try.prog 36 #[.pointer (some ⟨g, 0, none⟩), .int .i64 l, .agg lo.cells.toArray, .agg hi.cells.toArray] w fun e w' => e = .returned (.tuple #[.agg (⟨0, (id : Nat)⟩ : Edg).cells.toArray, .int .u8 (0 : Nat)]) ∧ Below w.heap.size w w' := by
  have HL := Lib.hid hl
  have HLT := Lib.hid h1
  have HHT := Lib.hid h2
  have HRED := Lib.hid h3
  have HIT := Lib.hid hit
  clear hit
  clear hl h1 h2 h3
  have HST := Lib.hid h
  have HOK := Lib.hid h.ok
  have HLW := Lib.hid hlo
  have HHW := Lib.hid hhi
  have hF := Lib.hid h.lt
  obtain ⟨lt, lp⟩ := lo
  obtain ⟨ht, hp⟩ := hi
  simp only [Edg.cells]
  have H3 : Hid (Below w.heap.size w (((w.alloc (.cells #[.int .u8 lt, .int .u32 lp] 35)).alloc (.cells #[.int .u8 ht, .int .u32 hp] 35)).alloc (.cells #[.int .u8 0, .int .u32 0] 35))) := Lib.hid ((((Below.refl _ _).alloc (Nat.le_refl _) _).alloc (by simp) _).alloc (by simp; omega) _)
  obtain ⟨W, hW⟩ : ∃ W, W = (((w.alloc (.cells #[.int .u8 lt, .int .u32 lp] 35)).alloc (.cells #[.int .u8 ht, .int .u32 hp] 35)).alloc (.cells #[.int .u8 0, .int .u32 0] 35)) := ⟨_, rfl⟩
  have hB0 : Blk W w.heap.size 35 #[.int .u8 lt, .int .u32 lp] := by rw [hW]; exact ((Blk.new w _ _).alloc _).alloc _
  have hB1 : Blk W (w.heap.size + 1) 35 #[.int .u8 ht, .int .u32 hp] := by rw [hW]; exact (Blk.new_at (by simp) _ _).alloc _
  have hB2 : Blk W (w.heap.size + 2) 35 #[.int .u8 0, .int .u32 0] := by rw [hW]; exact Blk.new_at (by simp) _ _
  rw [← hW] at H3
  have HSW := Lib.hid (HST.out.on H3.out)
  have HWS : Hid (W.heap.size = w.heap.size + 3) := Lib.hid (by rw [hW]; simp)
  have FB : Hid (∀ W', Below W.heap.size W W' → Blk W' w.heap.size 35 #[.int .u8 lt, .int .u32 lp] ∧ Blk W' (w.heap.size + 1) 35 #[.int .u8 ht, .int .u32 hp] ∧ Blk W' (w.heap.size + 2) 35 #[.int .u8 0, .int .u32 0]) := Lib.hid fun W' hW' => ⟨hB0.on' hW', hB1.on' hW', hB2.on' hW'⟩
  have HWW := Lib.hid hW
  have hLD : ∀ (e : Edg), e.Wf → ∀ W', Below W.heap.size W W' → Calls Try.prog 59 #[.pointer (some ⟨g, 0, none⟩), .int .u8 2, .agg e.cells.toArray, .int .i64 (l + 1)] W' fun r w' => r = .returned (.bool (leads cs n 2 e (l + 1))) ∧ Below W.heap.size W w' := fun e he W' hW' => (leads_any F g n room cs [] 2 e (l + 1) W' (HSW.out.on hW') (by omega) he).mono fun _ _ ⟨q1, q2⟩ => ⟨q1, hW'.trans (q2.mono hW'.size)⟩
  have HLO := Lib.hid (hLD _ HLW.out)
  have HHI := Lib.hid (hLD _ HHW.out)
  have HVA := Lib.hid (fun (W' : World) (hW' : Below W.heap.size W W') => storeVars_any F g n room cs [] W' (HSW.out.on hW'))
  simp only [Edg.cells] at HLO HHI
  have HFI := Lib.hid (fun (W' : World) (hW' : Below W.heap.size W W') (r : Rec) (hr : r.Wf) (hq : idOf cs r = some id) => zfound_hit F g n room id cs r W' (HSW.out.on hW') hr hq)
  clear h hlo hhi hB0 hB1 hB2 hLD
  have hl0 : ¬ l < 0 := by have := HL.out; omega
  have hl1 : ¬ (n : Int) ≤ l := by have := HL.out; omega
  have hd : decide ((n : Int) ≤ l) = false := by simpa using hl1
  have e1 : IntKind.i64.wrap (l + 1) = l + 1 := IntWalk.i64_in _ (by have := HOK.out.n16; have := HL.out; omega)
  have hred := HRED.out
  have hl16 : l < 16 := by have := HOK.out.n16; have := HL.out; omega
  have e2 : IntKind.u8.wrap l = l := u8_in _ (by have := HL.out; omega)
  have HRW : Hid (Rec.Wf ⟨2, l, l, ⟨lt, lp⟩, ⟨ht, hp⟩⟩) := Lib.hid ⟨by simp, ⟨by have := HL.out; simp only; omega, by simp only; omega⟩, ⟨by have := HL.out; simp only; omega, by simp only; omega⟩, HLW.out, HHW.out⟩
  have hred' : (hp == 0) = false := by simpa [redE] using hred
  clear hred
  go_enter Try.func36, Try.ntmps36
  go_wp2_with fail
  rw [← HWW.out]
  clear hW
  obtain ⟨hb0, hb1, hb2⟩ := FB.out W (Below.refl _ _)
  have a0 : W.cell? ⟨w.heap.size, 0, none⟩ = some (.int .u8 lt) := hb0.cell 0
  have a1 : W.cell? ⟨w.heap.size, 1, none⟩ = some (.int .u32 lp) := hb0.cell 1
  have b0 : W.cell? ⟨w.heap.size + 1, 0, none⟩ = some (.int .u8 ht) := hb1.cell 0
  have b1 : W.cell? ⟨w.heap.size + 1, 1, none⟩ = some (.int .u32 hp) := hb1.cell 1
  have n0 : W.cell? ⟨w.heap.size + 2, 0, none⟩ = some (.int .u8 0) := hb2.cell 0
  have n1 : W.cell? ⟨w.heap.size + 2, 1, none⟩ = some (.int .u32 0) := hb2.cell 1
  have z0 := hb2.frozen 0
  have z1 := hb2.frozen 1
  clear hb0 hb1 hb2
  refine (HVA.out _ (Below.refl _ _)).mono ?_
  rintro e w' ⟨rfl, rfl⟩
  go_wp2_with fail
  refine (HLO.out _ (Below.refl _ _)).mono ?_
  rintro e w1 ⟨rfl, hbel1⟩
  rw [HLT.out]
  clear a0 a1 b0 b1 n0 n1 z0 z1
  have b0' : w1.cell? ⟨w.heap.size + 1, 0, none⟩ = some (.int .u8 ht) := (FB.out w1 hbel1).2.1.cell 0
  have b1' : w1.cell? ⟨w.heap.size + 1, 1, none⟩ = some (.int .u32 hp) := (FB.out w1 hbel1).2.1.cell 1
  go_wp2_with fail
  refine (HHI.out _ hbel1).mono ?_
  rintro e w2 ⟨rfl, hbel2⟩
  rw [HHT.out]
  clear b0' b1'
  obtain ⟨hb0, hb1, hb2⟩ := FB.out w2 hbel2
  have a0 : w2.cell? ⟨w.heap.size, 0, none⟩ = some (.int .u8 lt) := hb0.cell 0
  have a1 : w2.cell? ⟨w.heap.size, 1, none⟩ = some (.int .u32 lp) := hb0.cell 1
  have b0 : w2.cell? ⟨w.heap.size + 1, 0, none⟩ = some (.int .u8 ht) := hb1.cell 0
  have b1 : w2.cell? ⟨w.heap.size + 1, 1, none⟩ = some (.int .u32 hp) := hb1.cell 1
  have n0 : w2.cell? ⟨w.heap.size + 2, 0, none⟩ = some (.int .u8 0) := hb2.cell 0
  have n1 : w2.cell? ⟨w.heap.size + 2, 1, none⟩ = some (.int .u32 0) := hb2.cell 1
  have z0 := hb2.frozen 0
  have z1 := hb2.frozen 1
  clear hb0 hb1 hb2
  go_wp2_with fail
  refine (HFI.out _ hbel2 ⟨2, l, l, ⟨lt, lp⟩, ⟨ht, hp⟩⟩ HRW.out HIT.out).mono ?_
  rintro e w3 ⟨rfl, hb3⟩
  have HB3 := Lib.hid (hbel2.trans (hb3.mono hbel2.size))
  have hB2 := (FB.out _ HB3.out).2.2
  have n0' : w3.cell? ⟨w.heap.size + 2, 0, none⟩ = some (.int .u8 0) := hB2.cell 0
  have n1' : w3.cell? ⟨w.heap.size + 2, 1, none⟩ = some (.int .u32 0) := hB2.cell 1
  have z0' := hB2.frozen 0
  have z1' := hB2.frozen 1
  clear hb3 hB2 a0 a1 b0 b1 n0 n1 z0 z1
  simp only [Edg.cells]
  go_wp2_with fail
  refine bodyPost_ret (v := .tuple #[.agg #[.int .u8 0, .int .u32 (id : Nat)], .int .u8 (0 : Nat)]) ?_ rfl ⟨rfl, ?_⟩
  · simp [results, Try.results36, go_sem, *]
  · have hbb := H3.out.trans (HB3.out.mono H3.out.size)
    first | (with_reducible exact hbb) | exact (hbb.setCell (by simp only; omega) _).setCell (by simp only; omega) _
end Go.Proofs.Ytfcklfpgjadfmaa
