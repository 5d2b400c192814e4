/- Contract: the document's Holds. -/
import Derived.Test.YtpjciaomhfeeeaaGreatMah
import Derived.Test.YtpjciaomhfeeeaaGreatMaa
import Derived.Test.YtpjciaomhfeeeaaGreatMai
namespace Go.Proofs.YtpjciaomhfeeeaaGreat
open Go.RowKit Go.Sort
set_option linter.unusedSimpArgs false
set_option linter.unusedVariables false

section
variable {cs : List (Option Rec)} {n f : Int} {b : Nat → Bool} {k a : Nat} {e : Edg}
theorem holdsD_zero (h : e.pos = 0) : holdsD cs n f b (k + 1) e a = false := by rw [holdsD, if_pos h]
theorem holdsD_end (h : e.pos ≠ 0) (hr : recAt cs e.pos = none) (hn : n ≤ a) : holdsD cs n f b (k + 1) e a = true := by rw [holdsD, if_neg h, hr]; simp [hn]
theorem holdsD_out (h : e.pos ≠ 0) (hr : recAt cs e.pos = none) (hn : ¬ n ≤ a) : holdsD cs n f b (k + 1) e a = if (f == 2 || f == 4 || (f == 5 && decide (e.tag ≤ a))) && b a then false else holdsD cs n f b k e (a + 1) := by rw [holdsD, if_neg h, hr]; simp [hn]
theorem holdsD_out' (h : e.pos ≠ 0) {r : Rec} (hr : recAt cs e.pos = some r) (hn : (a : Int) < r.top) : holdsD cs n f b (k + 1) e a = if (f == 2 || f == 4 || (f == 5 && decide (e.tag ≤ a))) && b a then false else holdsD cs n f b k e (a + 1) := by rw [holdsD, if_neg h, hr]; simp [hn]
theorem holdsD_in (h : e.pos ≠ 0) {r : Rec} (hr : recAt cs e.pos = some r) (hn : ¬ (a : Int) < r.top) : holdsD cs n f b (k + 1) e a = holdsD cs n f b k (if someD f b r.top.toNat r.bot.toNat then r.hi else r.lo) (r.bot.toNat + 1) := by rw [holdsD, if_neg h, hr]; simp [hn]
end
theorem bit_cases (x a : Nat) : (x / pow2 a % 2 = 0 ∧ x.testBit a = false) ∨ (x / pow2 a % 2 = 1 ∧ x.testBit a = true) := by
  rw [Nat.testBit_eq_decide_div_mod_eq, show (2 : Nat) ^ a = pow2 a from rfl]
  rcases Nat.mod_two_eq_zero_or_one (x / pow2 a) with h | h <;> simp [h]

/-- the contract of Holds with fuel k -/
def HoldsAt (F : List Nat) (g n room : Nat) (rs : List Rec) (f : Int) (x k : Nat) : Prop := ∀ (e : Edg) (a : Nat) (w : World), RefAt w F g n room rs → e.Wf → a ≤ n → n + 1 ≤ a + k → Fit (rs.map some) f e a →
    Calls Tryz.prog 61 #[.pointer (some ⟨g, 0, none⟩), .int .u8 f, .agg e.cells.toArray, .int .i64 (a : Int), .int .i64 (x : Int)] w fun r w' => r = .returned (.bool (holdsD (rs.map some) n f x.testBit k e a)) ∧ Below w.heap.size w w'

set_option maxRecDepth 100000 in
set_option maxHeartbeats 8000000 in
theorem holds_step (F : List Nat) (g n room : Nat) (rs : List Rec) (f : Int) (x k : Nat) (hf : f = 1 ∨ f = 2 ∨ f = 3 ∨ f = 4 ∨ f = 5) (hn : n ≤ 16) (hlen : rs.length ≤ 1048576) (hwf : ∀ r ∈ rs, r.Wf) (hc : Chain (rs.map some) n) (hx : x ≤ 9223372036854775807)
    (ih : HoldsAt F g n room rs f x k) : HoldsAt F g n room rs f x (k + 1) := by
  intro e a w h he ha hk hF
  have HST := Lib.hid h
  have HE := Lib.hid he
  have HC := Lib.hid (And.intro hwf hc)
  have HFT := Lib.hid hF
  have HI := Lib.hid ih
  clear ih hwf hc hF
  obtain ⟨t, p⟩ := e
  obtain ⟨e1, e2, e3, e4⟩ := he
  simp only [Edg.cells] at e1 e2 e3 e4 ⊢
  obtain ⟨W, hW⟩ : ∃ W, W = w.alloc (.cells #[.int .u8 t, .int .u32 p] 26) := ⟨_, rfl⟩
  have hbW : Below w.heap.size w W := by rw [hW]; exact (Below.refl _ _).alloc (Nat.le_refl _) _
  have hK : Blk W w.heap.size 26 #[.int .u8 t, .int .u32 p] := by rw [hW]; exact Blk.new w _ _
  have HSW := Lib.hid (HST.out.on hbW)
  obtain ⟨A, len, c, hB, hO, hl, hFe, hnd⟩ := HSW.out
  have a0 : W.cell? ⟨w.heap.size, 0, none⟩ = some (.int .u8 t) := hK.cell 0
  have a1 : W.cell? ⟨w.heap.size, 1, none⟩ = some (.int .u32 p) := hK.cell 1
  have a2 : W.cell? ⟨g, 0, none⟩ = some (.slice A len c) := hB.cell 0
  have a3 : W.cell? ⟨g, 3, none⟩ = some (.int .i64 (n : Nat)) := hB.cell 3
  have HWW := Lib.hid hW
  have HbW := Lib.hid hbW
  have HO := Lib.hid hO
  have HL := Lib.hid hl
  clear h hbW hK hB hO hl hFe hnd
  go_enter Tryz.func61, Tryz.ntmps61
  go_wp2_with fail
  rw [← HWW.out]
  clear hW
  refine (refAt_any F g n room rs p _ HSW.out e3 e4 hlen).mono ?_
  rintro e w' ⟨rfl, rfl⟩
  by_cases hp0 : p = 0
  · have HR : Hid (holdsD (rs.map some) n f x.testBit (k + 1) ⟨t, p⟩ a = false) := Lib.hid (holdsD_zero hp0)
    subst hp0
    generalize plcOf rs.length 0 = q
    go_wp2_with fail
    go_ret
    exact ⟨by rw [HR.out]; rfl, HbW.out⟩
  have hpb : (p == 0) = false := by simpa using hp0
  by_cases h3 : 2 ≤ p ∧ p < (len : Int) + 2
  · have hq : plcOf rs.length p = p - 2 := by unfold plcOf; rw [if_pos (by have := HL.out; omega)]
    rw [hq]
    obtain ⟨j, hj⟩ := Int.eq_ofNat_of_zero_le (show 0 ≤ p - 2 by omega)
    obtain ⟨r, hr⟩ : ∃ r, rs[j]? = some r := ⟨_, List.getElem?_eq_getElem (by have := HL.out; omega)⟩
    have hrc : recAt (rs.map some) p = some r := by rw [recAt_map, if_pos (by have := HL.out; omega), hj, Int.toNat_natCast, hr]
    have HRC := Lib.hid hrc
    obtain ⟨f1, f2⟩ := HFT.out r hrc
    have HC5 := Lib.hid (HC.out.2 _ _ hrc)
    obtain ⟨c1, c2, c3, c4, c5⟩ := HC5.out
    have hrw := HC.out.1 r (List.mem_of_getElem? hr)
    have HRW := Lib.hid hrw
    obtain ⟨b, c0, hv, _, hbl, hcl⟩ := OwnS.head HO.out (by rw [nodesOf_len]; have := (List.getElem?_eq_some_iff.1 hr).1; omega)
    injection hv with v1 v2 v3
    subst v1
    subst v3
    have hat := (OwnS.at_ nodeEnc_len HO.out j _ (nodesOf_get hr)).1
    have hjl : j < len := by omega
    obtain ⟨rf, rt, rb, ⟨rlt, rlp⟩, ⟨rht, rhp⟩⟩ := r
    obtain ⟨⟨w1, w2⟩, ⟨w3, w4⟩, ⟨w5, w6⟩, _, _⟩ := hrw
    simp only at w1 w2 w3 w4 w5 w6 f1 f2 c1 c2 c3
    have k0 : W.cell? ⟨b, j * 8 + 1, none⟩ = some (.int .u8 rf) := hat 1 _ rfl
    have k1 : W.cell? ⟨b, j * 8 + 2, none⟩ = some (.int .u8 rt) := hat 2 _ rfl
    have k2 : W.cell? ⟨b, j * 8 + 3, none⟩ = some (.int .u8 rb) := hat 3 _ rfl
    have k3 : W.cell? ⟨b, j * 8 + 4, none⟩ = some (.int .u8 rlt) := hat 4 _ rfl
    have k4 : W.cell? ⟨b, j * 8 + 5, none⟩ = some (.int .u32 rlp) := hat 5 _ rfl
    have k5 : W.cell? ⟨b, j * 8 + 6, none⟩ = some (.int .u8 rht) := hat 6 _ rfl
    have k6 : W.cell? ⟨b, j * 8 + 7, none⟩ = some (.int .u32 rhp) := hat 7 _ rfl
    rw [hj]
    have han : (a : Int) < (n : Int) := by omega
    clear hq hat hr hrc v2 hcl c4 c5
    by_cases hta0 : (a : Int) < rt
    · have HR := Lib.hid (holdsD_out' (cs := rs.map some) (n := (n : Int)) (f := f) (b := x.testBit) (k := k) (a := a) (e := ⟨t, p⟩) hp0 HRC.out hta0)
      have HLT : Hid (∀ r, recAt (rs.map some) (⟨t, p⟩ : Edg).pos = some r → (a : Int) < r.top) := Lib.hid (fun r' hr' => by
        have h1 := HRC.out
        simp only at hr'
        rw [h1] at hr'; injection hr' with hr'; rw [← hr']; exact hta0)
      go_wp2_with fail
      refine (value_any (x : Int) (a : Int) _ (by omega) (by omega) (by omega)).mono ?_
      rintro e w' ⟨rfl, rfl⟩
      rw [Int.toNat_natCast, Int.toNat_natCast]
      rcases bit_cases x a with ⟨hv, hb⟩ | ⟨hv, hb⟩
      · have hvv := hv
        rw [hv]
        clear hv
        rw [hb] at HR
        clear hb hvv
        rcases hf with rfl | rfl | rfl | rfl | rfl
        · have HCL := Lib.hid (HI.out ⟨t, p⟩ (a + 1) W HSW.out HE.out (by omega) (by omega) (HFT.out.up HLT.out))
          rw [show ((a + 1 : Nat) : Int) = (a : Int) + 1 by omega] at HCL
          simp only [Edg.cells] at HCL
          go_wp2_with fail
          refine HCL.out.mono ?_
          rintro e w' ⟨rfl, hb2⟩
          have HB2 := Lib.hid hb2
          clear hb2
          go_wp2_with fail
          go_ret
          exact ⟨by rw [HR.out]; simp, HbW.out.trans (HB2.out.mono HbW.out.size)⟩
        · have HCL := Lib.hid (HI.out ⟨t, p⟩ (a + 1) W HSW.out HE.out (by omega) (by omega) (HFT.out.up HLT.out))
          rw [show ((a + 1 : Nat) : Int) = (a : Int) + 1 by omega] at HCL
          simp only [Edg.cells] at HCL
          go_wp2_with fail
          refine HCL.out.mono ?_
          rintro e w' ⟨rfl, hb2⟩
          have HB2 := Lib.hid hb2
          clear hb2
          go_wp2_with fail
          go_ret
          exact ⟨by rw [HR.out]; simp, HbW.out.trans (HB2.out.mono HbW.out.size)⟩
        · have HCL := Lib.hid (HI.out ⟨t, p⟩ (a + 1) W HSW.out HE.out (by omega) (by omega) (HFT.out.up HLT.out))
          rw [show ((a + 1 : Nat) : Int) = (a : Int) + 1 by omega] at HCL
          simp only [Edg.cells] at HCL
          go_wp2_with fail
          refine HCL.out.mono ?_
          rintro e w' ⟨rfl, hb2⟩
          have HB2 := Lib.hid hb2
          clear hb2
          go_wp2_with fail
          go_ret
          exact ⟨by rw [HR.out]; simp, HbW.out.trans (HB2.out.mono HbW.out.size)⟩
        · have HCL := Lib.hid (HI.out ⟨t, p⟩ (a + 1) W HSW.out HE.out (by omega) (by omega) (HFT.out.up HLT.out))
          rw [show ((a + 1 : Nat) : Int) = (a : Int) + 1 by omega] at HCL
          simp only [Edg.cells] at HCL
          go_wp2_with fail
          refine HCL.out.mono ?_
          rintro e w' ⟨rfl, hb2⟩
          have HB2 := Lib.hid hb2
          clear hb2
          go_wp2_with fail
          go_ret
          exact ⟨by rw [HR.out]; simp, HbW.out.trans (HB2.out.mono HbW.out.size)⟩
        by_cases hta : t ≤ (a : Int)
        · have hx3 : decide (t ≤ (a : Int)) = true := by simpa using hta
          have HCL := Lib.hid (HI.out ⟨t, p⟩ (a + 1) W HSW.out HE.out (by omega) (by omega) (HFT.out.up HLT.out))
          rw [show ((a + 1 : Nat) : Int) = (a : Int) + 1 by omega] at HCL
          simp only [Edg.cells] at HCL
          go_wp2_with fail
          refine HCL.out.mono ?_
          rintro e w' ⟨rfl, hb2⟩
          have HB2 := Lib.hid hb2
          clear hb2
          go_wp2_with fail
          go_ret
          exact ⟨by rw [HR.out]; simp [hta], HbW.out.trans (HB2.out.mono HbW.out.size)⟩
        · have hx3 : decide (t ≤ (a : Int)) = false := by simpa using hta
          have HCL := Lib.hid (HI.out ⟨t, p⟩ (a + 1) W HSW.out HE.out (by omega) (by omega) (HFT.out.up HLT.out))
          rw [show ((a + 1 : Nat) : Int) = (a : Int) + 1 by omega] at HCL
          simp only [Edg.cells] at HCL
          go_wp2_with fail
          refine HCL.out.mono ?_
          rintro e w' ⟨rfl, hb2⟩
          have HB2 := Lib.hid hb2
          clear hb2
          go_wp2_with fail
          go_ret
          exact ⟨by rw [HR.out]; simp [hta], HbW.out.trans (HB2.out.mono HbW.out.size)⟩
      · have hvv := hv
        rw [hv]
        clear hv
        rw [hb] at HR
        clear hb hvv
        rcases hf with rfl | rfl | rfl | rfl | rfl
        · have HCL := Lib.hid (HI.out ⟨t, p⟩ (a + 1) W HSW.out HE.out (by omega) (by omega) (HFT.out.up HLT.out))
          rw [show ((a + 1 : Nat) : Int) = (a : Int) + 1 by omega] at HCL
          simp only [Edg.cells] at HCL
          go_wp2_with fail
          refine HCL.out.mono ?_
          rintro e w' ⟨rfl, hb2⟩
          have HB2 := Lib.hid hb2
          clear hb2
          go_wp2_with fail
          go_ret
          exact ⟨by rw [HR.out]; simp, HbW.out.trans (HB2.out.mono HbW.out.size)⟩
        · go_wp2_with fail
          go_ret
          exact ⟨by rw [HR.out]; simp, HbW.out⟩
        · have HCL := Lib.hid (HI.out ⟨t, p⟩ (a + 1) W HSW.out HE.out (by omega) (by omega) (HFT.out.up HLT.out))
          rw [show ((a + 1 : Nat) : Int) = (a : Int) + 1 by omega] at HCL
          simp only [Edg.cells] at HCL
          go_wp2_with fail
          refine HCL.out.mono ?_
          rintro e w' ⟨rfl, hb2⟩
          have HB2 := Lib.hid hb2
          clear hb2
          go_wp2_with fail
          go_ret
          exact ⟨by rw [HR.out]; simp, HbW.out.trans (HB2.out.mono HbW.out.size)⟩
        · go_wp2_with fail
          go_ret
          exact ⟨by rw [HR.out]; simp, HbW.out⟩
        by_cases hta : t ≤ (a : Int)
        · have hx3 : decide (t ≤ (a : Int)) = true := by simpa using hta
          go_wp2_with fail
          go_ret
          exact ⟨by rw [HR.out]; simp [hta], HbW.out⟩
        · have hx3 : decide (t ≤ (a : Int)) = false := by simpa using hta
          have HCL := Lib.hid (HI.out ⟨t, p⟩ (a + 1) W HSW.out HE.out (by omega) (by omega) (HFT.out.up HLT.out))
          rw [show ((a + 1 : Nat) : Int) = (a : Int) + 1 by omega] at HCL
          simp only [Edg.cells] at HCL
          go_wp2_with fail
          refine HCL.out.mono ?_
          rintro e w' ⟨rfl, hb2⟩
          have HB2 := Lib.hid hb2
          clear hb2
          go_wp2_with fail
          go_ret
          exact ⟨by rw [HR.out]; simp [hta], HbW.out.trans (HB2.out.mono HbW.out.size)⟩
    · have HR := Lib.hid (holdsD_in (cs := rs.map some) (n := (n : Int)) (f := f) (b := x.testBit) (k := k) (a := a) (e := ⟨t, p⟩) hp0 HRC.out hta0)
      obtain rfl : rt = (a : Int) := by omega
      go_wp2_with fail
      refine (value_any (x : Int) (a : Int) _ (by omega) (by omega) (by omega)).mono ?_
      rintro e w' ⟨rfl, rfl⟩
      rw [Int.toNat_natCast, Int.toNat_natCast]
      generalize x / pow2 a % 2 = v0
      go_wp2_with fail
      clear k0 k1 k2 k3 k4 k5 k6 a2 a3
      obtain ⟨o, rfl⟩ := Int.eq_ofNat_of_zero_le (show 0 ≤ rb by omega)
      simp only [Int.toNat_natCast] at HR
      obtain ⟨W2, hW2⟩ : ∃ W2, W2 = W.alloc (.cells #[.int .u8 f, .int .u8 (a : Int), .int .u8 (o : Int), .int .u8 rlt, .int .u32 rlp, .int .u8 rht, .int .u32 rhp] 62) := ⟨_, rfl⟩
      have hb2 : Below W.heap.size W W2 := by rw [hW2]; exact (Below.refl _ _).alloc (Nat.le_refl _) _
      have hK2 : Blk W2 W.heap.size 62 #[.int .u8 f, .int .u8 (a : Int), .int .u8 (o : Int), .int .u8 rlt, .int .u32 rlp, .int .u8 rht, .int .u32 rhp] := by rw [hW2]; exact Blk.new W _ _
      have q1 : W2.cell? ⟨W.heap.size, 1, none⟩ = some (.int .u8 (a : Int)) := hK2.cell 1
      have q2 : W2.cell? ⟨W.heap.size, 2, none⟩ = some (.int .u8 (o : Int)) := hK2.cell 2
      have q3 : W2.cell? ⟨W.heap.size, 3, none⟩ = some (.int .u8 rlt) := hK2.cell 3
      have q4 : W2.cell? ⟨W.heap.size, 4, none⟩ = some (.int .u32 rlp) := hK2.cell 4
      have q5 : W2.cell? ⟨W.heap.size, 5, none⟩ = some (.int .u8 rht) := hK2.cell 5
      have q6 : W2.cell? ⟨W.heap.size, 6, none⟩ = some (.int .u32 rhp) := hK2.cell 6
      rw [← hW2]
      have HB2 := Lib.hid (HbW.out.trans (hb2.mono HbW.out.size))
      have HS2 := Lib.hid (HSW.out.on hb2)
      clear hW2 hb2 hK2
      go_loop [15, 16] (fun s i => ∃ q : Nat, a ≤ q ∧ q ≤ o + 1 ∧ i = .int .i64 (q : Int) ∧ s = .bool ((List.range (q - a)).any (fun k => x.testBit (a + k)))) (fun _ i => o + 1 - (intOf i).toNat)
      case atStart => exact ⟨a, Nat.le_refl _, by omega, rfl, by simp⟩
      case round =>
        obtain ⟨q, hq1, hq2, rfl, rfl⟩ := hrel
        by_cases hqo : q ≤ o
        · have hqo' : (q : Int) ≤ (o : Int) := by omega
          have HS := Lib.hid (show (List.range (q + 1 - a)).any (fun k => x.testBit (a + k)) = ((List.range (q - a)).any (fun k => x.testBit (a + k)) || x.testBit q) by
            rw [show q + 1 - a = (q - a) + 1 by omega, List.range_succ, List.any_append]; simp [show a + (q - a) = q by omega])
          cases hs : (List.range (q - a)).any (fun k => x.testBit (a + k))
          · rw [hs] at HS
            clear hs
            go_wp2_with fail
            refine (value_any (x : Int) (q : Int) _ (by omega) (by omega) (by omega)).mono ?_
            rintro e w' ⟨rfl, rfl⟩
            rw [Int.toNat_natCast, Int.toNat_natCast]
            rcases bit_cases x q with ⟨hv, hb⟩ | ⟨hv, hb⟩
            · rw [hb] at HS
              rw [hv]
              clear hv hb
              go_wp2_with fail
              go_round
              case rel => exact ⟨q + 1, by omega, by omega, by go_num, by rw [HS.out]; rfl⟩
              case measure => simp [intOf]; omega
            · rw [hb] at HS
              rw [hv]
              clear hv hb
              go_wp2_with fail
              go_round
              case rel => exact ⟨q + 1, by omega, by omega, by go_num, by rw [HS.out]; rfl⟩
              case measure => simp [intOf]; omega
          · rw [hs] at HS
            clear hs
            go_wp2_with fail
            go_round
            case rel => exact ⟨q + 1, by omega, by omega, by go_num, by rw [HS.out]; rfl⟩
            case measure => simp [intOf]; omega
        · obtain rfl : q = o + 1 := by omega
          have hqo' : ¬ ((o + 1 : Nat) : Int) ≤ (o : Int) := by omega
          by_cases hf3 : f = 3
          · subst hf3
            have HSD : Hid (someD 3 x.testBit a o = (List.range (o + 1 - a)).any (fun k => x.testBit (a + k))) := Lib.hid (by unfold someD; rw [if_pos rfl])
            cases hs : (List.range (o + 1 - a)).any (fun k => x.testBit (a + k))
            · have HSM : someD 3 x.testBit a o = false := by rw [HSD.out, hs]
              clear hs HSD
              have HR2 : Hid (holdsD (rs.map some) (n : Int) 3 x.testBit (k + 1) ⟨t, p⟩ a = holdsD (rs.map some) (n : Int) 3 x.testBit k ⟨rlt, rlp⟩ (o + 1)) := Lib.hid (by rw [HR.out, if_neg (by rw [HSM]; simp)])
              have HCL := Lib.hid (HI.out ⟨rlt, rlp⟩ (o + 1) W2 HS2.out HRW.out.2.2.2.1 (by omega) (by omega) (fun r' hr' => ⟨(HC5.out.2.2.2.1 r' hr').1.trans f1, (HC5.out.2.2.2.1 r' hr').2⟩))
              rw [show ((o + 1 : Nat) : Int) = (o : Int) + 1 by omega] at HCL
              simp only [Edg.cells] at HCL
              go_wp2_with fail
              refine HCL.out.mono ?_
              rintro e w' ⟨rfl, hb3⟩
              have HB3 := Lib.hid hb3
              clear hb3
              go_wp2_with fail
              go_ret
              exact ⟨by rw [HR2.out]; rfl, HB2.out.trans (HB3.out.mono HB2.out.size)⟩
            · have HSM : someD 3 x.testBit a o = true := by rw [HSD.out, hs]
              clear hs HSD
              have HR2 : Hid (holdsD (rs.map some) (n : Int) 3 x.testBit (k + 1) ⟨t, p⟩ a = holdsD (rs.map some) (n : Int) 3 x.testBit k ⟨rht, rhp⟩ (o + 1)) := Lib.hid (by rw [HR.out, if_pos HSM])
              have HCL := Lib.hid (HI.out ⟨rht, rhp⟩ (o + 1) W2 HS2.out HRW.out.2.2.2.2 (by omega) (by omega) (fun r' hr' => ⟨(HC5.out.2.2.2.2 r' hr').1.trans f1, (HC5.out.2.2.2.2 r' hr').2⟩))
              rw [show ((o + 1 : Nat) : Int) = (o : Int) + 1 by omega] at HCL
              simp only [Edg.cells] at HCL
              go_wp2_with fail
              refine HCL.out.mono ?_
              rintro e w' ⟨rfl, hb3⟩
              have HB3 := Lib.hid hb3
              clear hb3
              go_wp2_with fail
              go_ret
              exact ⟨by rw [HR2.out]; rfl, HB2.out.trans (HB3.out.mono HB2.out.size)⟩
          · have hx3 : (f != 3) = true := by simp [hf3]
            have HSD : Hid (someD f x.testBit a o = x.testBit o) := Lib.hid (by unfold someD; rw [if_neg hf3])
            generalize (List.range (o + 1 - a)).any (fun k => x.testBit (a + k)) = s0
            go_wp2_with fail
            refine (value_any (x : Int) (o : Int) _ (by omega) (by omega) (by omega)).mono ?_
            rintro e w' ⟨rfl, rfl⟩
            rw [Int.toNat_natCast, Int.toNat_natCast]
            rcases bit_cases x o with ⟨hv, hb⟩ | ⟨hv, hb⟩
            · have HSM : someD f x.testBit a o = false := by rw [HSD.out, hb]
              rw [hv]
              clear hv hb HSD
              have HR2 : Hid (holdsD (rs.map some) (n : Int) f x.testBit (k + 1) ⟨t, p⟩ a = holdsD (rs.map some) (n : Int) f x.testBit k ⟨rlt, rlp⟩ (o + 1)) := Lib.hid (by rw [HR.out, if_neg (by rw [HSM]; simp)])
              have HCL := Lib.hid (HI.out ⟨rlt, rlp⟩ (o + 1) W2 HS2.out HRW.out.2.2.2.1 (by omega) (by omega) (fun r' hr' => ⟨(HC5.out.2.2.2.1 r' hr').1.trans f1, (HC5.out.2.2.2.1 r' hr').2⟩))
              rw [show ((o + 1 : Nat) : Int) = (o : Int) + 1 by omega] at HCL
              simp only [Edg.cells] at HCL
              go_wp2_with fail
              refine HCL.out.mono ?_
              rintro e w' ⟨rfl, hb3⟩
              have HB3 := Lib.hid hb3
              clear hb3
              go_wp2_with fail
              go_ret
              exact ⟨by rw [HR2.out]; rfl, HB2.out.trans (HB3.out.mono HB2.out.size)⟩
            · have HSM : someD f x.testBit a o = true := by rw [HSD.out, hb]
              rw [hv]
              clear hv hb HSD
              have HR2 : Hid (holdsD (rs.map some) (n : Int) f x.testBit (k + 1) ⟨t, p⟩ a = holdsD (rs.map some) (n : Int) f x.testBit k ⟨rht, rhp⟩ (o + 1)) := Lib.hid (by rw [HR.out, if_pos HSM])
              have HCL := Lib.hid (HI.out ⟨rht, rhp⟩ (o + 1) W2 HS2.out HRW.out.2.2.2.2 (by omega) (by omega) (fun r' hr' => ⟨(HC5.out.2.2.2.2 r' hr').1.trans f1, (HC5.out.2.2.2.2 r' hr').2⟩))
              rw [show ((o + 1 : Nat) : Int) = (o : Int) + 1 by omega] at HCL
              simp only [Edg.cells] at HCL
              go_wp2_with fail
              refine HCL.out.mono ?_
              rintro e w' ⟨rfl, hb3⟩
              have HB3 := Lib.hid hb3
              clear hb3
              go_wp2_with fail
              go_ret
              exact ⟨by rw [HR2.out]; rfl, HB2.out.trans (HB3.out.mono HB2.out.size)⟩
  · have hq : plcOf rs.length p = -1 := by unfold plcOf; rw [if_neg (by have := HL.out; omega)]
    have hrc : recAt (rs.map some) p = none := by rw [recAt_map, if_neg (by have := HL.out; omega)]
    have HRC := Lib.hid hrc
    rw [hq]
    clear hq hrc h3
    by_cases han : (n : Int) ≤ (a : Int)
    · have HR := Lib.hid (holdsD_end (cs := rs.map some) (n := (n : Int)) (f := f) (b := x.testBit) (k := k) (a := a) (e := ⟨t, p⟩) hp0 HRC.out han)
      go_wp2_with fail
      go_ret
      exact ⟨by rw [HR.out]; rfl, HbW.out⟩
    · have HR := Lib.hid (holdsD_out (cs := rs.map some) (n := (n : Int)) (f := f) (b := x.testBit) (k := k) (a := a) (e := ⟨t, p⟩) hp0 HRC.out han)
      have HLT : Hid (∀ r, recAt (rs.map some) (⟨t, p⟩ : Edg).pos = some r → (a : Int) < r.top) := Lib.hid (fun r' hr' => by
        have h1 := HRC.out
        simp only at hr'
        rw [h1] at hr'; cases hr')
      go_wp2_with fail
      refine (value_any (x : Int) (a : Int) _ (by omega) (by omega) (by omega)).mono ?_
      rintro e w' ⟨rfl, rfl⟩
      rw [Int.toNat_natCast, Int.toNat_natCast]
      rcases bit_cases x a with ⟨hv, hb⟩ | ⟨hv, hb⟩
      · have hvv := hv
        rw [hv]
        clear hv
        rw [hb] at HR
        clear hb hvv
        rcases hf with rfl | rfl | rfl | rfl | rfl
        · have HCL := Lib.hid (HI.out ⟨t, p⟩ (a + 1) W HSW.out HE.out (by omega) (by omega) (HFT.out.up HLT.out))
          rw [show ((a + 1 : Nat) : Int) = (a : Int) + 1 by omega] at HCL
          simp only [Edg.cells] at HCL
          go_wp2_with fail
          refine HCL.out.mono ?_
          rintro e w' ⟨rfl, hb2⟩
          have HB2 := Lib.hid hb2
          clear hb2
          go_wp2_with fail
          go_ret
          exact ⟨by rw [HR.out]; simp, HbW.out.trans (HB2.out.mono HbW.out.size)⟩
        · have HCL := Lib.hid (HI.out ⟨t, p⟩ (a + 1) W HSW.out HE.out (by omega) (by omega) (HFT.out.up HLT.out))
          rw [show ((a + 1 : Nat) : Int) = (a : Int) + 1 by omega] at HCL
          simp only [Edg.cells] at HCL
          go_wp2_with fail
          refine HCL.out.mono ?_
          rintro e w' ⟨rfl, hb2⟩
          have HB2 := Lib.hid hb2
          clear hb2
          go_wp2_with fail
          go_ret
          exact ⟨by rw [HR.out]; simp, HbW.out.trans (HB2.out.mono HbW.out.size)⟩
        · have HCL := Lib.hid (HI.out ⟨t, p⟩ (a + 1) W HSW.out HE.out (by omega) (by omega) (HFT.out.up HLT.out))
          rw [show ((a + 1 : Nat) : Int) = (a : Int) + 1 by omega] at HCL
          simp only [Edg.cells] at HCL
          go_wp2_with fail
          refine HCL.out.mono ?_
          rintro e w' ⟨rfl, hb2⟩
          have HB2 := Lib.hid hb2
          clear hb2
          go_wp2_with fail
          go_ret
          exact ⟨by rw [HR.out]; simp, HbW.out.trans (HB2.out.mono HbW.out.size)⟩
        · have HCL := Lib.hid (HI.out ⟨t, p⟩ (a + 1) W HSW.out HE.out (by omega) (by omega) (HFT.out.up HLT.out))
          rw [show ((a + 1 : Nat) : Int) = (a : Int) + 1 by omega] at HCL
          simp only [Edg.cells] at HCL
          go_wp2_with fail
          refine HCL.out.mono ?_
          rintro e w' ⟨rfl, hb2⟩
          have HB2 := Lib.hid hb2
          clear hb2
          go_wp2_with fail
          go_ret
          exact ⟨by rw [HR.out]; simp, HbW.out.trans (HB2.out.mono HbW.out.size)⟩
        by_cases hta : t ≤ (a : Int)
        · have hx3 : decide (t ≤ (a : Int)) = true := by simpa using hta
          have HCL := Lib.hid (HI.out ⟨t, p⟩ (a + 1) W HSW.out HE.out (by omega) (by omega) (HFT.out.up HLT.out))
          rw [show ((a + 1 : Nat) : Int) = (a : Int) + 1 by omega] at HCL
          simp only [Edg.cells] at HCL
          go_wp2_with fail
          refine HCL.out.mono ?_
          rintro e w' ⟨rfl, hb2⟩
          have HB2 := Lib.hid hb2
          clear hb2
          go_wp2_with fail
          go_ret
          exact ⟨by rw [HR.out]; simp [hta], HbW.out.trans (HB2.out.mono HbW.out.size)⟩
        · have hx3 : decide (t ≤ (a : Int)) = false := by simpa using hta
          have HCL := Lib.hid (HI.out ⟨t, p⟩ (a + 1) W HSW.out HE.out (by omega) (by omega) (HFT.out.up HLT.out))
          rw [show ((a + 1 : Nat) : Int) = (a : Int) + 1 by omega] at HCL
          simp only [Edg.cells] at HCL
          go_wp2_with fail
          refine HCL.out.mono ?_
          rintro e w' ⟨rfl, hb2⟩
          have HB2 := Lib.hid hb2
          clear hb2
          go_wp2_with fail
          go_ret
          exact ⟨by rw [HR.out]; simp [hta], HbW.out.trans (HB2.out.mono HbW.out.size)⟩
      · have hvv := hv
        rw [hv]
        clear hv
        rw [hb] at HR
        clear hb hvv
        rcases hf with rfl | rfl | rfl | rfl | rfl
        · have HCL := Lib.hid (HI.out ⟨t, p⟩ (a + 1) W HSW.out HE.out (by omega) (by omega) (HFT.out.up HLT.out))
          rw [show ((a + 1 : Nat) : Int) = (a : Int) + 1 by omega] at HCL
          simp only [Edg.cells] at HCL
          go_wp2_with fail
          refine HCL.out.mono ?_
          rintro e w' ⟨rfl, hb2⟩
          have HB2 := Lib.hid hb2
          clear hb2
          go_wp2_with fail
          go_ret
          exact ⟨by rw [HR.out]; simp, HbW.out.trans (HB2.out.mono HbW.out.size)⟩
        · go_wp2_with fail
          go_ret
          exact ⟨by rw [HR.out]; simp, HbW.out⟩
        · have HCL := Lib.hid (HI.out ⟨t, p⟩ (a + 1) W HSW.out HE.out (by omega) (by omega) (HFT.out.up HLT.out))
          rw [show ((a + 1 : Nat) : Int) = (a : Int) + 1 by omega] at HCL
          simp only [Edg.cells] at HCL
          go_wp2_with fail
          refine HCL.out.mono ?_
          rintro e w' ⟨rfl, hb2⟩
          have HB2 := Lib.hid hb2
          clear hb2
          go_wp2_with fail
          go_ret
          exact ⟨by rw [HR.out]; simp, HbW.out.trans (HB2.out.mono HbW.out.size)⟩
        · go_wp2_with fail
          go_ret
          exact ⟨by rw [HR.out]; simp, HbW.out⟩
        by_cases hta : t ≤ (a : Int)
        · have hx3 : decide (t ≤ (a : Int)) = true := by simpa using hta
          go_wp2_with fail
          go_ret
          exact ⟨by rw [HR.out]; simp [hta], HbW.out⟩
        · have hx3 : decide (t ≤ (a : Int)) = false := by simpa using hta
          have HCL := Lib.hid (HI.out ⟨t, p⟩ (a + 1) W HSW.out HE.out (by omega) (by omega) (HFT.out.up HLT.out))
          rw [show ((a + 1 : Nat) : Int) = (a : Int) + 1 by omega] at HCL
          simp only [Edg.cells] at HCL
          go_wp2_with fail
          refine HCL.out.mono ?_
          rintro e w' ⟨rfl, hb2⟩
          have HB2 := Lib.hid hb2
          clear hb2
          go_wp2_with fail
          go_ret
          exact ⟨by rw [HR.out]; simp [hta], HbW.out.trans (HB2.out.mono HbW.out.size)⟩
theorem holds_any (F : List Nat) (g n room : Nat) (rs : List Rec) (f : Int) (x : Nat) (hf : f = 1 ∨ f = 2 ∨ f = 3 ∨ f = 4 ∨ f = 5) (hn : n ≤ 16) (hlen : rs.length ≤ 1048576) (hwf : ∀ r ∈ rs, r.Wf) (hc : Chain (rs.map some) n) (hx : x ≤ 9223372036854775807) : ∀ k, HoldsAt F g n room rs f x k
  | 0 => fun _ _ _ _ _ ha hk _ => absurd hk (by omega)
  | k + 1 => holds_step F g n room rs f x k hf hn hlen hwf hc hx (holds_any F g n room rs f x hf hn hlen hwf hc hx k)
end Go.Proofs.YtpjciaomhfeeeaaGreat
