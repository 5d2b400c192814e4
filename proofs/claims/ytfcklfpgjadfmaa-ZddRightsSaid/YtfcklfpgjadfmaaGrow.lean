/- Contract: index.grow. -/
import Derived.Test.YtfcklfpgjadfmaaFind
import Derived.StillTailTactics
import Derived.Deep.RegionHeld3
namespace Go.Proofs.Ytfcklfpgjadfmaa
open Go.RowKit
set_option linter.unusedSimpArgs false
set_option linter.unusedVariables false

theorem info_slot : (Try.prog.info? 121).map (fun i => (i.zero, i.size, i.bytes)) = some (some (.agg (slotEnc none).toArray), 9, 28) := by kernel_rfl
theorem slot_size : (Try.prog.info? 121).map (·.size) = some 9 := by kernel_rfl
theorem wpL_gen {P : Program} {ops : Array Oper} {l : List Oper} {Q : Exit → Act → World → Prop} {a : Act} {w : World} (R : World → Prop) (h : R w) (k : ∀ W, R W → wpList P ops Q l a W) : wpList P ops Q l a w := k w h

/-- what a round of the growth leaves -/
def GrowRel (w : World) (g b0 n k : Nat) (old : List (Option (Rec × Nat))) (j : Nat) (wr : World) : Prop :=
  ∃ b' c' new, Blk wr g 107 #[.slice (some ⟨b', 0, none⟩) (2 * n) c', .int .i64 (k : Nat)] ∧ OwnS 9 slotEnc 121 wr w.heap.size (.slice (some ⟨b', 0, none⟩) (2 * n) c') new ∧ new.length = 2 * n ∧
    Moved hsh old new j ∧ Chg [g] w wr
theorem keep9 {W w : World} {b p : Nat} {v0 v1 v2 v3 v4 v5 v6 v7 v8 : Value} (h : Below W.heap.size W w) {b' : Nat} (hb : b' = b) : Chg [b] W (((((((((w.setCell ⟨b', p, none⟩ v0).setCell ⟨b', p + 1, none⟩ v1).setCell ⟨b', p + 2, none⟩ v2).setCell ⟨b', p + 3, none⟩ v3).setCell ⟨b', p + 4, none⟩ v4).setCell ⟨b', p + 5, none⟩ v5).setCell ⟨b', p + 6, none⟩ v6).setCell ⟨b', p + 7, none⟩ v7).setCell ⟨b', p + 8, none⟩ v8) := by
  subst hb
  have hm : b' ∈ [b'] := by simp
  exact (((((((((chg_of_below h).setCell (.inl hm) _).setCell (.inl hm) _).setCell (.inl hm) _).setCell (.inl hm) _).setCell (.inl hm) _).setCell (.inl hm) _).setCell (.inl hm) _).setCell (.inl hm) _).setCell (.inl hm) _
theorem set9_eq (w : World) (b p : Nat) (v0 v1 v2 v3 v4 v5 v6 v7 v8 : Value) : (((((((((w.setCell ⟨b, p, none⟩ v0).setCell ⟨b, p + 1, none⟩ v1).setCell ⟨b, p + 2, none⟩ v2).setCell ⟨b, p + 3, none⟩ v3).setCell ⟨b, p + 4, none⟩ v4).setCell ⟨b, p + 5, none⟩ v5).setCell ⟨b, p + 6, none⟩ v6).setCell ⟨b, p + 7, none⟩ v7).setCell ⟨b, p + 8, none⟩ v8) = w.setCells b p [v0, v1, v2, v3, v4, v5, v6, v7, v8] := rfl
set_option maxRecDepth 100000 in
set_option maxHeartbeats 4000000 in
theorem grow_any (F : List Nat) (g k : Nat) (sl : List (Option (Rec × Nat))) (w : World) (hS : SlotsAt w F g sl k) (hn : Hid (∃ q, q ≤ 39 ∧ sl.length = 2 ^ q)) (h20 : sl.length ≤ 4194304) (ht : Tab hsh sl) (hok : SlotsOk sl) :
    Calls Try.prog 87 #[.pointer (some ⟨g, 0, none⟩)] w fun e w' => e = .returned (.tuple #[]) ∧ GrowRel w g 0 sl.length k sl sl.length w' := by
  obtain ⟨A, n, c, hB, hO, hln, rfl, hnd⟩ := hS
  have hpos : 0 < sl.length := by obtain ⟨q, hq, h⟩ := hn.out; rw [h]; exact Nat.two_pow_pos q
  obtain ⟨b, c0, hv, _, hbl, hcl⟩ := OwnS.head hO hpos
  injection hv with e1 e2 e3
  subst e1
  subst e3
  rw [hln] at hn e2 h20 hpos ⊢
  clear e2
  have hlt := hB.lt
  have hb : b ≠ g := by
    rintro rfl
    simp [blk, Value.ownBlock] at hnd
  have hc0 : w.cell? ⟨g, 0, none⟩ = some (.slice (some ⟨b, 0, none⟩) n c) := hB.cell 0
  have hf0 : w.frozen? ⟨g, 0, none⟩ = false := hB.frozen 0
  have HB := Lib.hid hB
  have HO := Lib.hid hO
  have HL := Lib.hid hln
  have HTb := Lib.hid ht
  have HOK := Lib.hid hok
  obtain ⟨i0, hi, hz0, hz1, hz2⟩ := info_parts info_slot
  have hN2 : Hid (∃ q, q ≤ 40 ∧ 2 * n = 2 ^ q) := Lib.hid (by obtain ⟨q, hq, h⟩ := hn.out; exact ⟨q + 1, by omega, by rw [h, Nat.pow_succ]; omega⟩)
  clear hB hO hln hnd ht hok
  have e5 : IntKind.i64.wrap (2 * (n : Int)) = 2 * (n : Int) := IntWalk.i64_in _ (by omega)
  go_enter Try.func87, Try.ntmps87
  have H1 : Hid (28 * (2 * n) ≤ 281474976710656) := Lib.hid (by omega)
  have H2 : Hid (2 * n ≤ maxLen) := Lib.hid (by unfold maxLen; omega)
  go_wp2_with (refine wp_makeS (α := Option (Rec × Nat)) slotEnc_len (by decide) none Try.underlying105 hi hz0 hz1 hz2 rfl _ rfl (.tmp 12) (.tmp 12) rfl (2 * (n : Int)) (2 * (n : Int)) (2 * n) rfl rfl (by simp) (by simp) H1.out H2.out ?_; intro w1 hown1 hbel1 hlt1; have HO1 := Lib.hid hown1; have HB1 := Lib.hid hbel1; clear hown1 hbel1; have hcg1 : w1.cell? ⟨g, 0, none⟩ = _ := (HB1.out.cell (p := ⟨g, 0, none⟩) hlt).trans hc0; have hfg1 : w1.frozen? ⟨g, 0, none⟩ = false := (HB1.out.frozen (p := ⟨g, 0, none⟩) hlt).trans hf0)
  have hOold : ∀ W, Chg [g] w W → OwnS 9 slotEnc 121 W 0 (.slice (some ⟨b, 0, none⟩) n c) sl := fun W hW => HO.out.chg hW (fun x hx hm => by simp [mem_blk, Value.ownBlock] at hx hm; omega)
  have HOLD := Lib.hid hOold
  clear hOold hcg1 hfg1 hc0 hf0
  go_loopw [18] (fun s18 wr => ∃ j : Nat, j ≤ n ∧ s18 = .int .i64 j ∧ GrowRel w g 0 n k sl j wr) (fun s18 _ => n - (intOf s18).toNat)
  case atStart =>
    refine ⟨0, Nat.zero_le _, rfl, _, _, _, ((HB.out.on' HB1.out).set_ 0 _), ?_, by simp, Moved.zero hsh sl (2 * n), (chg_of_below HB1.out).setCell (.inl (by simp)) _⟩
    have := HO1.out.chg (F := [g]) ((Chg.refl [g] w1).setCell (p := ⟨g, 0, none⟩) (.inl (by simp)) (.slice (some ⟨w.heap.size, 0, none⟩) (2 * n) (2 * n))) (fun x hx hm => by simp [mem_blk, Value.ownBlock] at hx hm; omega)
    exact this
  case round =>
    obtain ⟨j, hj, rfl, hgr⟩ := hrel
    have hgr0 := hgr
    obtain ⟨b', c', new, hB', hO', hl', hM, hch⟩ := hgr
    have hszr := hch.size
    have hblr : b < wr.heap.size := by omega
    have HG0 := Lib.hid hgr0
    by_cases hjn : j < n
    · obtain ⟨x, hx⟩ : ∃ x, sl[j]? = some x := ⟨_, List.getElem?_eq_getElem (by rw [HL.out]; exact hjn)⟩
      have hat := (OwnS.at_ slotEnc_len (HOLD.out _ hch) j x hx).1
      have HX := Lib.hid hx
      cases x with
      | none =>
        have c0 : wr.cell? ⟨b, j * 9, none⟩ = some (.int .u8 0) := hat 0 _ rfl
        have c1 : wr.cell? ⟨b, j * 9 + 1, none⟩ = some (.int .u8 0) := hat 1 _ rfl
        have c2 : wr.cell? ⟨b, j * 9 + 2, none⟩ = some (.int .u8 0) := hat 2 _ rfl
        have c3 : wr.cell? ⟨b, j * 9 + 3, none⟩ = some (.int .u8 0) := hat 3 _ rfl
        have c4 : wr.cell? ⟨b, j * 9 + 4, none⟩ = some (.int .u32 0) := hat 4 _ rfl
        have c5 : wr.cell? ⟨b, j * 9 + 5, none⟩ = some (.int .u8 0) := hat 5 _ rfl
        have c6 : wr.cell? ⟨b, j * 9 + 6, none⟩ = some (.int .u32 0) := hat 6 _ rfl
        have c7 : wr.cell? ⟨b, j * 9 + 7, none⟩ = some (.int .u32 0) := hat 7 _ rfl
        have c8 : wr.cell? ⟨b, j * 9 + 8, none⟩ = some (.bool false) := hat 8 _ rfl
        have HR := Lib.hid (show GrowRel w g 0 n k sl j wr from hgr0)
        clear hat hx hgr0 hB' hO' hl' hM hch
        go_wp2_with fail
        go_roundw
        case rel =>
          obtain ⟨b', c', new, hB', hO', hl', hM, hch⟩ := HR.out
          exact ⟨j + 1, by omega, by go_num, b', c', new, hB'.alloc _, hO'.alloc _, hl', hM.skip hsh HX.out, hch.alloc _⟩
        case measure => simp [intOf]; omega
      | some y =>
        obtain ⟨⟨f, t, bt, ⟨lt, lp⟩, ⟨ht, hp⟩⟩, id⟩ := y
        have c0 : wr.cell? ⟨b, j * 9, none⟩ = some (.int .u8 f) := hat 0 _ rfl
        have c1 : wr.cell? ⟨b, j * 9 + 1, none⟩ = some (.int .u8 t) := hat 1 _ rfl
        have c2 : wr.cell? ⟨b, j * 9 + 2, none⟩ = some (.int .u8 bt) := hat 2 _ rfl
        have c3 : wr.cell? ⟨b, j * 9 + 3, none⟩ = some (.int .u8 lt) := hat 3 _ rfl
        have c4 : wr.cell? ⟨b, j * 9 + 4, none⟩ = some (.int .u32 lp) := hat 4 _ rfl
        have c5 : wr.cell? ⟨b, j * 9 + 5, none⟩ = some (.int .u8 ht) := hat 5 _ rfl
        have c6 : wr.cell? ⟨b, j * 9 + 6, none⟩ = some (.int .u32 hp) := hat 6 _ rfl
        have c7 : wr.cell? ⟨b, j * 9 + 7, none⟩ = some (.int .u32 id) := hat 7 _ rfl
        have c8 : wr.cell? ⟨b, j * 9 + 8, none⟩ = some (.bool true) := hat 8 _ rfl
        clear hat hx hgr0 hB' hO' hl' hM hch
        go_wp2_with fail
        refine wp_gen (fun W => (∃ b' c' new, b' < wr.heap.size ∧ Blk W g 107 #[.slice (some ⟨b', 0, none⟩) (2 * n) c', .int .i64 (k : Nat)] ∧ OwnS 9 slotEnc 121 W w.heap.size (.slice (some ⟨b', 0, none⟩) (2 * n) c') new ∧ new.length = 2 * n ∧ Moved hsh sl new j ∧ Chg [g] w W) ∧ Blk W wr.heap.size 121 #[.int .u8 f, .int .u8 t, .int .u8 bt, .int .u8 lt, .int .u32 lp, .int .u8 ht, .int .u32 hp, .int .u32 id, .bool true]) ⟨?_, Blk.new_at rfl _ _⟩ ?_
        · obtain ⟨b', c', new, hB', hO', hl', hM, hch⟩ := HG0.out
          exact ⟨b', c', new, hO'.blk_lt b' (by simp [mem_blk, Value.ownBlock]), hB'.alloc _, hO'.alloc _, hl', hM, hch.alloc _⟩
        rintro W ⟨⟨b2, c2', new2, hb2r, hB2, hO2, hl2, hM2, hch2⟩, hK⟩
        have hHW := hK.lt
        have hgW := hB2.lt
        have HB2 := Lib.hid hB2
        have HO2 := Lib.hid hO2
        have HL2 := Lib.hid hl2
        have HM2 := Lib.hid hM2
        have HCH2 := Lib.hid hch2
        have HKK := Lib.hid hK
        have hb2W : b2 < W.heap.size := hO2.blk_lt b2 (by simp [mem_blk, Value.ownBlock])
        have hb2g : b2 ≠ g := by
          have := hO2.blk_ge b2 (by simp [mem_blk, Value.ownBlock])
          omega
        have HRW : Hid (Rec.Wf ⟨f, t, bt, ⟨lt, lp⟩, ⟨ht, hp⟩⟩) := Lib.hid (HOK.out j _ id HX.out).1
        have HAT : Hid (At sl j ⟨f, t, bt, ⟨lt, lp⟩, ⟨ht, hp⟩⟩ id) := HX
        have HCN : Hid (cnt new2 < new2.length) := Lib.hid (by
          have h1 := hM2.cnt
          have h2 := cnt_take_le sl j
          have h3 : cnt sl ≤ sl.length := List.countP_le_length
          have h4 := HL.out
          omega)
        have hKb : ¬ wr.heap.size ∈ [b2] := by simp; omega
        have FACTS : Hid (∀ W', Chg [b2] W W' → W'.cell? ⟨g, 0, none⟩ = some (.slice (some ⟨b2, 0, none⟩) (2 * n) c2') ∧ W'.cell? ⟨wr.heap.size, 0, none⟩ = some (.int .u8 f) ∧ W'.cell? ⟨wr.heap.size, 1, none⟩ = some (.int .u8 t) ∧ W'.cell? ⟨wr.heap.size, 2, none⟩ = some (.int .u8 bt) ∧ W'.cell? ⟨wr.heap.size, 3, none⟩ = some (.int .u8 lt) ∧ W'.cell? ⟨wr.heap.size, 4, none⟩ = some (.int .u32 lp) ∧ W'.cell? ⟨wr.heap.size, 5, none⟩ = some (.int .u8 ht) ∧ W'.cell? ⟨wr.heap.size, 6, none⟩ = some (.int .u32 hp) ∧ W'.cell? ⟨wr.heap.size, 7, none⟩ = some (.int .u32 id) ∧ W'.cell? ⟨wr.heap.size, 8, none⟩ = some (.bool true)) := Lib.hid fun W' hW' => 
          ⟨(hW'.cell (p := ⟨g, 0, none⟩) hgW (by simp; omega)).trans (hB2.cell 0), (hW'.cell (p := ⟨wr.heap.size, 0, none⟩) hHW hKb).trans (hK.cell 0), (hW'.cell (p := ⟨wr.heap.size, 1, none⟩) hHW hKb).trans (hK.cell 1), (hW'.cell (p := ⟨wr.heap.size, 2, none⟩) hHW hKb).trans (hK.cell 2), (hW'.cell (p := ⟨wr.heap.size, 3, none⟩) hHW hKb).trans (hK.cell 3), (hW'.cell (p := ⟨wr.heap.size, 4, none⟩) hHW hKb).trans (hK.cell 4), (hW'.cell (p := ⟨wr.heap.size, 5, none⟩) hHW hKb).trans (hK.cell 5), (hW'.cell (p := ⟨wr.heap.size, 6, none⟩) hHW hKb).trans (hK.cell 6), (hW'.cell (p := ⟨wr.heap.size, 7, none⟩) hHW hKb).trans (hK.cell 7), (hW'.cell (p := ⟨wr.heap.size, 8, none⟩) hHW hKb).trans (hK.cell 8)⟩
        have SLOTS : Hid (∀ W', Below W.heap.size W W' → SlotsAt W' [g, b2] g new2 k) := Lib.hid fun W' hW' =>
          ⟨_, 2 * n, c2', hB2.on' hW', (hO2.chg (F := []) (chg_of_below hW') (by simp)).mono (Nat.zero_le _), hl2, by simp [blk, Value.ownBlock], by simp; exact fun e => hb2g e.symm⟩
        have SPOT : Hid (∀ p, Stops hsh new2 ⟨f, t, bt, ⟨lt, lp⟩, ⟨ht, hp⟩⟩ p → ∀ W', Below W.heap.size W W' → W'.cell? ⟨b2, p * 9, none⟩ = some (.int .u8 0) ∧ W'.cell? ⟨b2, p * 9 + 1, none⟩ = some (.int .u8 0) ∧ W'.cell? ⟨b2, p * 9 + 2, none⟩ = some (.int .u8 0) ∧ W'.cell? ⟨b2, p * 9 + 3, none⟩ = some (.int .u8 0) ∧ W'.cell? ⟨b2, p * 9 + 4, none⟩ = some (.int .u32 0) ∧ W'.cell? ⟨b2, p * 9 + 5, none⟩ = some (.int .u8 0) ∧ W'.cell? ⟨b2, p * 9 + 6, none⟩ = some (.int .u32 0) ∧ W'.cell? ⟨b2, p * 9 + 7, none⟩ = some (.int .u32 0) ∧ W'.cell? ⟨b2, p * 9 + 8, none⟩ = some (.bool false) ∧ ∀ i, i < 9 → W'.frozen? ⟨b2, p * 9 + i, none⟩ = false) := Lib.hid fun p hst W' hW' => by
          have hn := hM2.none_ hsh HTb.out HX.out hst
          have h1 := (OwnS.at_ slotEnc_len (hO2.chg (F := []) (chg_of_below hW') (by simp)) p _ hn)
          refine ⟨h1.1 0 _ rfl, h1.1 1 _ rfl, h1.1 2 _ rfl, h1.1 3 _ rfl, h1.1 4 _ rfl, h1.1 5 _ rfl, h1.1 6 _ rfl, h1.1 7 _ rfl, h1.1 8 _ rfl, fun i hi => (h1.2 i hi).2⟩
        clear hB2 hO2 hl2 hM2 hch2 hK c0 c1 c2 c3 c4 c5 c6 c7 c8
        have hk0 := FACTS.out _ (Chg.refl _ _)
        have HN3 : Hid (∃ q, q ≤ 40 ∧ new2.length = 2 ^ q) := Lib.hid (by rw [HL2.out]; exact hN2.out)
        have HFND := find_any [g, b2] g k new2 ⟨f, t, bt, ⟨lt, lp⟩, ⟨ht, hp⟩⟩ W.drew (SLOTS.out W.drew (Below.refl _ _).drew) HN3 HCN.out HRW.out
        have HFN := Lib.hid HFND
        clear HFND
        go_region_held3 (fun w' => w'.cell? ⟨g, 0, none⟩ = some (.slice (some ⟨b2, 0, none⟩) (2 * n) c2') ∧ w'.cell? ⟨wr.heap.size, 0, none⟩ = some (.int .u8 f) ∧ w'.cell? ⟨wr.heap.size, 1, none⟩ = some (.int .u8 t) ∧ w'.cell? ⟨wr.heap.size, 2, none⟩ = some (.int .u8 bt) ∧ w'.cell? ⟨wr.heap.size, 3, none⟩ = some (.int .u8 lt) ∧ w'.cell? ⟨wr.heap.size, 4, none⟩ = some (.int .u32 lp) ∧ w'.cell? ⟨wr.heap.size, 5, none⟩ = some (.int .u8 ht) ∧ w'.cell? ⟨wr.heap.size, 6, none⟩ = some (.int .u32 hp) ∧ w'.cell? ⟨wr.heap.size, 7, none⟩ = some (.int .u32 id) ∧ w'.cell? ⟨wr.heap.size, 8, none⟩ = some (.bool true)) ((refine FACTS.out _ ?_; first | (with_reducible exact Chg.refl _ _) | (with_reducible exact (Chg.refl _ _).drew) | (with_reducible exact chg_of_below hbel6) | exact keep9 hbel6 rfl)) (first | (go_at_call 85; refine HFN.out.mono ?_; rintro e w6 ⟨⟨p, rfl, hst⟩, hb6⟩; have hbel6 : Below W.heap.size W w6 := (Below.refl _ _).drew.trans hb6; have HST := Lib.hid hst; clear hst hb6; have hpn := HST.out.1; rw [HL2.out] at hpn; have hp1 : (p : Int) < 2 * (n : Int) := (by omega); obtain ⟨d0, d1, d2, d3, d4, d5, d6, d7, d8, df⟩ := (SPOT.out p HST.out) w6 hbel6; have z0 : w6.frozen? ⟨b2, p * 9, none⟩ = false := (df 0 (by decide)); have z1 := df 1 (by decide); have z2 := df 2 (by decide); have z3 := df 3 (by decide); have z4 := df 4 (by decide); have z5 := df 5 (by decide); have z6 := df 6 (by decide); have z7 := df 7 (by decide); have z8 := df 8 (by decide); clear df))
        have hKEEP := keep9 (b := b2) (p := p * 9) (v0 := .int .u8 f) (v1 := .int .u8 t) (v2 := .int .u8 bt) (v3 := .int .u8 lt) (v4 := .int .u32 lp) (v5 := .int .u8 ht) (v6 := .int .u32 hp) (v7 := .int .u32 id) (v8 := .bool true) hbel6 rfl
        have hEQ := set9_eq w6 b2 (p * 9) (.int .u8 f) (.int .u8 t) (.int .u8 bt) (.int .u8 lt) (.int .u32 lp) (.int .u8 ht) (.int .u32 hp) (.int .u32 id) (.bool true)
        have hNEW : GrowRel w g 0 n k sl (j + 1) (w6.setCells b2 (p * 9) [.int .u8 f, .int .u8 t, .int .u8 bt, .int .u8 lt, .int .u32 lp, .int .u8 ht, .int .u32 hp, .int .u32 id, .bool true]) := by
          rw [hEQ] at hKEEP
          have hO6 := HO2.out.chg (F := []) (chg_of_below hbel6) (by simp)
          have hge := HO2.out.blk_ge b2 (by simp [mem_blk, Value.ownBlock])
          exact ⟨b2, c2', new2.set p (some (⟨f, t, bt, ⟨lt, lp⟩, ⟨ht, hp⟩⟩, id)), HB2.out.chg hKEEP (by simp; omega), OwnS.set_ slotEnc_len hO6 p HST.out.1 (some (⟨f, t, bt, ⟨lt, lp⟩, ⟨ht, hp⟩⟩, id)), by rw [List.length_set]; exact HL2.out, HM2.out.put hsh HTb.out HAT.out HST.out, HCH2.out.trans hKEEP (fun x hx => .inr (by simp at hx; omega))⟩
        rw [← hEQ] at hNEW
        have HNEW := Lib.hid hNEW
        clear hNEW hEQ hKEEP d0 d1 d2 d3 d4 d5 d6 d7 d8 z0 z1 z2 z3 z4 z5 z6 z7 z8 hk0
        go_wp2_with fail
        go_roundw
        case rel => exact ⟨j + 1, by omega, by go_num, HNEW.out⟩
        case measure => simp [intOf]; omega
    · have hjn' : j = n := by omega
      have HR := Lib.hid (show GrowRel w g 0 n k sl n wr from hjn' ▸ hgr0)
      clear hgr0 hB' hO' hl' hM hch hjn'
      go_wp2_with fail
      go_end0
      exact ⟨rfl, HR.out⟩
end Go.Proofs.Ytfcklfpgjadfmaa
