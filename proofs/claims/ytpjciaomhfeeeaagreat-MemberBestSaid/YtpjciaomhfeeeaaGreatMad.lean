/- Contracts: the document's tables of an edge by levels (17) and by variables (18), its members (22). Contracts: the document's table of an edge by variables (18), its members (22), what may be asked. -/
import Derived.Test.YtpjciaomhfeeeaaGreatMbTab
import Derived.Test.YtpjciaomhfeeeaaGreatHolW
section
namespace Go.Proofs.YtpjciaomhfeeeaaGreat
open Go.RowKit Go.Sort
set_option linter.unusedSimpArgs false
set_option linter.unusedVariables false

theorem info_bool17 : (Tryz.prog.info? 4).map (fun i => (i.zero, i.size, i.bytes)) = some (some (.bool false), 1, 1) := by kernel_rfl
set_option maxHeartbeats 1000000 in
theorem rput17 (x k b : Nat) (hx : x < 2 ^ k) (hk : k ≤ 16) (hb : b ≤ 1) (w : World) :
    Calls Tryz.prog 60 #[.int .i64 (x : Nat), .int .i64 (k : Nat), .int .i64 (b : Nat)] w fun e w' => e = .returned (.int .i64 ((x + b * 2 ^ k : Nat) : Int)) ∧ w = w' := by
  have hp : pow2 k ≤ 65536 := Nat.le_trans (Nat.pow_le_pow_right (by omega) hk) (by decide)
  have h0 : x / pow2 k % 2 = 0 := by rw [show pow2 k = 2 ^ k from rfl, Nat.div_eq_of_lt hx]
  have hs : ∀ W, Calls Tryz.prog 59 #[.int .i64 (k : Nat)] W fun e w' => e = .returned (.int .i64 (pow2 k : Nat)) ∧ W = w' := fun W => size_any (k : Int) W (by omega)
  have hv : ∀ W, Calls Tryz.prog 31 #[.int .i64 (x : Nat), .int .i64 (k : Nat)] W fun e w' => e = .returned (.int .i64 0) ∧ W = w' := fun W => by
    have h := value_any (x : Int) (k : Int) W (by omega) (by
      have : 2 ^ k ≤ 65536 := hp
      omega) (by omega)
    rw [Int.toNat_natCast, Int.toNat_natCast, h0] at h
    exact h
  have HS := Lib.hid hs
  have HV := Lib.hid hv
  have hx2 : x < 65536 := Nat.lt_of_lt_of_le hx hp
  rw [show 2 ^ k = pow2 k from rfl]
  generalize pow2 k = p at *
  clear hs hv h0 hx
  have hm : ((b : Int) - 0) * (p : Int) = ((b * p : Nat) : Int) := by simp
  have hbd : b * p ≤ 65536 := by
    have h1 : b = 0 ∨ b = 1 := by omega
    rcases h1 with rfl | rfl <;> simp <;> omega
  have hw1 : wrap64 ((b : Int) * (p : Int)) = ((b * p : Nat) : Int) := by
    rw [← Int.natCast_mul]; exact IntWalk.wrap64_in _ ⟨by omega, by omega⟩
  have hw2 : IntKind.i64.wrap ((b : Int) * (p : Int)) = ((b * p : Nat) : Int) := by
    rw [← Int.natCast_mul]; exact IntWalk.i64_in _ (by omega)
  have hw3 : wrap64 (((b : Int) - 0) * (p : Int)) = ((b * p : Nat) : Int) := by rw [hm]; exact IntWalk.wrap64_in _ ⟨by omega, by omega⟩
  generalize b * p = r at *
  clear hm
  go_enter Tryz.func60, Tryz.ntmps60
  go_wp2_with fail
  refine (HV.out _).mono ?_
  rintro e w' ⟨rfl, rfl⟩
  go_wp2_with fail
  refine (HS.out _).mono ?_
  rintro e w' ⟨rfl, rfl⟩
  go_wp2_with fail
  go_ret
  exact ⟨by first | rfl | exact ret_int (by omega), rfl⟩
/-- a list of truths behind a call -/
def BoolsOut (w : World) (N : Nat) (t : List Bool) (r : Ending) (w' : World) : Prop := ∃ g c, r = .returned (.slice (some ⟨g, 0, none⟩) N c) ∧ OwnF Value.bool 4 w' w.heap.size (.slice (some ⟨g, 0, none⟩) N c) t ∧ Below w.heap.size w w'
set_option maxRecDepth 100000 in
set_option maxHeartbeats 8000000 in
theorem rtab17_any (F : List Nat) (g n room : Nat) (rs : List Rec) (f : Int) (e : Edg) (w : World) (h : RefAt w F g n room rs) (hf : f = 1 ∨ f = 2 ∨ f = 3 ∨ f = 4 ∨ f = 5) (he : e.Wf) (hn : n ≤ 16) (hlen : rs.length ≤ 1048576) (hwf : ∀ r ∈ rs, r.Wf) (hc : Chain (rs.map some) n) (hF : Fit (rs.map some) f e 0) :
    Calls Tryz.prog 29 #[.pointer (some ⟨g, 0, none⟩), .int .u8 f, .agg e.cells.toArray, .int .i64 0] w (BoolsOut w (2 ^ n) (tabL (rs.map some) n f e)) := by
  obtain ⟨i0, hi, hz0, hz1, hz2⟩ := info_parts info_bool17
  have hN : 2 ^ n ≤ 65536 := Nat.le_trans (Nat.pow_le_pow_right (by omega) hn) (by decide)
  have hN1 : 0 < 2 ^ n := Nat.two_pow_pos n
  obtain ⟨W, hW⟩ : ∃ W, W = w.alloc (.cells #[.int .u8 e.tag, .int .u32 e.pos] 26) := ⟨_, rfl⟩
  have hbW : Below w.heap.size w W := by rw [hW]; exact (Below.refl _ _).alloc (Nat.le_refl _) _
  have hK : Blk W w.heap.size 26 #[.int .u8 e.tag, .int .u32 e.pos] := by rw [hW]; exact Blk.new w _ _
  have HSW := Lib.hid (h.on hbW)
  obtain ⟨A, len, c, hB, hO, hl, hFe, hnd⟩ := HSW.out
  have hc3 : W.cell? ⟨g, 3, none⟩ = some (.int .i64 (n : Nat)) := hB.cell 3
  have HB := Lib.hid hbW
  have HK := Lib.hid hK
  have HWW := Lib.hid hW
  have HSI : Hid (∀ W, Calls Tryz.prog 59 #[.int .i64 (n : Nat)] W fun e w' => e = .returned (.int .i64 (2 ^ n : Nat)) ∧ W = w') := Lib.hid (fun W => size_any (n : Int) W (by omega))
  have HOL : Hid (∀ (x : Nat) W, x < 2 ^ n → RefAt W F g n room rs → Calls Tryz.prog 61 #[.pointer (some ⟨g, 0, none⟩), .int .u8 f, .agg #[.int .u8 e.tag, .int .u32 e.pos], .int .i64 0, .int .i64 (x : Int)] W fun r w' => r = .returned (.bool (holdsD (rs.map some) n f x.testBit (n + 1) e 0)) ∧ Below W.heap.size W w') := Lib.hid (fun x W hx hW =>
    holds_any F g n room rs f x hf hn hlen hwf hc (by omega) (n + 1) e 0 W hW he (by omega) (by omega) hF)
  have HTL : Hid ((tabL (rs.map some) n f e).length = 2 ^ n) := Lib.hid (tabL_length _ _ _ _)
  have HTA : Hid (∀ y, y < 2 ^ n → (tabL (rs.map some) n f e)[y]?.getD false = holdsD (rs.map some) n f (revX y n n).testBit (n + 1) e 0) := Lib.hid (fun y hy => tabL_at hy)
  have HRL : Hid (∀ y k, revX y n k < 2 ^ k) := Lib.hid (fun y k => revX_lt y n k)
  have HRS : Hid (∀ y k, revX y n (k + 1) = revX y n k + (y / pow2 (n - 1 - k) % 2) * 2 ^ k) := Lib.hid (fun y k => rfl)
  have HPW : Hid (∀ k, k ≤ n → 2 ^ k ≤ 2 ^ n) := Lib.hid (fun k hk => Nat.pow_le_pow_right (by omega) hk)
  obtain ⟨T, hT⟩ : ∃ T, T = tabL (rs.map some) n f e := ⟨_, rfl⟩
  rw [← hT] at HTL HTA ⊢
  obtain ⟨hd, hhd⟩ : ∃ hd : (Nat → Bool) → Bool, hd = fun b => holdsD (rs.map some) n f b (n + 1) e 0 := ⟨_, rfl⟩
  have HTA' : Hid (∀ y, y < 2 ^ n → T[y]?.getD false = hd (revX y n n).testBit) := Lib.hid (fun y hy => by rw [hhd]; exact HTA.out y hy)
  have HOL' : Hid (∀ (x : Nat) W, x < 2 ^ n → RefAt W F g n room rs → Calls Tryz.prog 61 #[.pointer (some ⟨g, 0, none⟩), .int .u8 f, .agg #[.int .u8 e.tag, .int .u32 e.pos], .int .i64 0, .int .i64 (x : Int)] W fun r w' => r = .returned (.bool (hd x.testBit)) ∧ Below W.heap.size W w') := Lib.hid (fun x W h1 h2 => by rw [hhd]; exact HOL.out x W h1 h2)
  generalize hNN : 2 ^ n = N at *
  have HNN := Lib.hid hNN
  clear h hbW hK hB hO hl hFe hnd hc hwf he hF hT hhd HOL HTA hNN hlen
  unfold BoolsOut
  simp only [Edg.cells]
  go_enter Tryz.func29, Tryz.ntmps29
  go_upto_region 1 with fail
  rw [← HWW.out]
  clear hW
  go_wp2_with fail
  refine (HSI.out _).mono ?_
  rintro r w' ⟨rfl, rfl⟩
  clear hc3
  go_wp2_with (at_make; refine wp_make (f := Value.bool) Tryz.underlying42 hi hz0 hz1 hz2 rfl _ rfl _ _ rfl (N : Int) N rfl rfl rfl (by omega) (by unfold maxLen; omega) ?_; intro w1 hown1 hb1 hs1)
  have HO1 := Lib.hid (show OwnF Value.bool 4 w1 W.heap.size (.slice (some ⟨W.heap.size, 0, none⟩) N N) (mixL T N 0) from by rw [mixL_zero]; exact hown1)
  have HB1 := Lib.hid hb1
  clear hown1 hb1 hs1
  go_loopw [11] (fun i wr => ∃ y : Nat, y ≤ N ∧ i = .int .i64 y ∧ Hid (OwnF Value.bool 4 wr W.heap.size (.slice (some ⟨W.heap.size, 0, none⟩) N N) (mixL T N y) ∧ Below W.heap.size W wr)) (fun i _ => N - (intOf i).toNat)
  case atStart => exact ⟨0, Nat.zero_le _, rfl, Lib.hid ⟨HO1.out, HB1.out⟩⟩
  case round =>
    obtain ⟨y, hy, rfl, HR⟩ := hrel
    by_cases hyn : y < N
    · have hy' : (y : Int) < (N : Int) := by omega
      obtain ⟨wo, rfl⟩ : ∃ wo : World, wo = wr := ⟨_, rfl⟩
      go_wp2_with fail
      go_loop [12, 13] (fun x k => ∃ q : Nat, q ≤ n ∧ k = .int .i64 q ∧ x = .int .i64 (revX y n q : Nat)) (fun _ k => n - (intOf k).toNat)
      case atStart => exact ⟨0, Nat.zero_le _, rfl, rfl⟩
      case round =>
        obtain ⟨q, hq, rfl, rfl⟩ := hrel
        by_cases hqn : q < n
        · have hq1 : (q : Int) < (n : Int) := by omega
          have hval := fun W => value_any (y : Int) ((n - 1 - q : Nat) : Int) W (by omega) (by omega) (by omega)
          simp only [Int.toNat_natCast] at hval
          have hsub : ((n : Int) - 1 - (q : Int)) = ((n - 1 - q : Nat) : Int) := by omega
          rw [← hsub] at hval
          have HVA := Lib.hid hval
          have hb2 : y / pow2 (n - 1 - q) % 2 ≤ 1 := by omega
          have hpt := fun W => rput17 (revX y n q) q (y / pow2 (n - 1 - q) % 2) (HRL.out y q) (by omega) hb2 W
          rw [← HRS.out y q] at hpt
          have HPT := Lib.hid hpt
          have hrl := HRL.out y q
          have hpw := HPW.out q (by omega)
          generalize y / pow2 (n - 1 - q) % 2 = bb at *
          clear hval hsub hpt
          generalize hrx : revX y n q = rx at *
          have HRX := Lib.hid hrx
          clear hrx
          have hrx2 : rx < 65536 := by omega
          clear hrl hpw
          go_wp2_with fail
          refine (HVA.out _).mono ?_
          rintro r w' ⟨rfl, rfl⟩
          go_wp2_with fail
          refine (HPT.out _).mono ?_
          rintro r w' ⟨rfl, rfl⟩
          go_wp2_with fail
          go_round
          case rel => exact ⟨q + 1, by omega, by go_num, rfl⟩
          case measure => simp [intOf]; omega
        · obtain rfl : q = n := by omega
          have hx := HRL.out y q
          rw [HNN.out] at hx
          have hrun := HOL'.out (revX y q q) wo hx (HSW.out.on HR.out.2)
          have HTY := Lib.hid (HTA'.out y hyn)
          generalize hd (revX y q q).testBit = v at *
          have hk2 : Blk wo w.heap.size 26 #[.int .u8 e.tag, .int .u32 e.pos] := HK.out.onB HR.out.2
          have j0 : wo.cell? ⟨w.heap.size, 0, none⟩ = some (.int .u8 e.tag) := hk2.cell 0
          have j1 : wo.cell? ⟨w.heap.size, 1, none⟩ = some (.int .u32 e.pos) := hk2.cell 1
          have HRUN := Lib.hid hrun
          clear hrun hx hk2
          generalize revX y q q = rx at *
          go_wp2_with fail
          refine (HRUN.out).mono ?_
          rintro r w2 ⟨rfl, hb2⟩
          clear j0 j1
          have ho2 := HR.out.1.below hb2
          have hst := ho2.set_ y v
          rw [mixL_set HTL.out hyn HTY.out] at hst
          have hcl := ho2.at_ y (by rw [mixL_length HTL.out (by omega)]; exact hyn)
          rw [List.getElem?_eq_getElem (by rw [mixL_length HTL.out (by omega)]; exact hyn)] at hcl
          simp only [Option.map_some] at hcl
          obtain ⟨hcc, hcf⟩ := hcl
          have HST := Lib.hid hst
          have HB2 := Lib.hid (HR.out.2.trans (hb2.mono HR.out.2.size))
          generalize (mixL T N y)[y]'(by rw [mixL_length HTL.out (by omega)]; exact hyn) = ov at *
          clear hst ho2 hb2
          go_wp2_with fail
          go_roundw
          case rel => exact ⟨y + 1, by omega, by go_num, Lib.hid ⟨HST.out, HB2.out.setCell (p := ⟨W.heap.size, y, none⟩) (Nat.le_refl _) _⟩⟩
          case measure => simp [intOf]; omega
    · obtain rfl : y = N := by omega
      go_wp2_with fail
      go_ret
      exact ⟨_, _, rfl, by have := HR.out.1; rw [mixL_all HTL.out] at this; exact this.mono HB.out.size, HB.out.trans (HR.out.2.mono HB.out.size)⟩
end Go.Proofs.YtpjciaomhfeeeaaGreat
end

section
namespace Go.Proofs.YtpjciaomhfeeeaaGreat
open Go.RowKit Go.Sort
set_option linter.unusedSimpArgs false
set_option linter.unusedVariables false

set_option maxRecDepth 100000 in
set_option maxHeartbeats 8000000 in
theorem rtab18_any (F : List Nat) (g n room : Nat) (rs : List Rec) (f : Int) (e : Edg) (A : Option Addr) (len c : Nat) (ps : List Int) (w : World) (h : RefAt w F g n room rs) (hf : f = 1 ∨ f = 2 ∨ f = 3 ∨ f = 4 ∨ f = 5) (he : e.Wf) (hn : n ≤ 16) (hlen : rs.length ≤ 1048576) (hwf : ∀ r ∈ rs, r.Wf) (hc : Chain (rs.map some) n) (hF : Fit (rs.map some) f e 0)
    (hl : ps.length = n) (hll : ps.length = len) (hP : IsPerm ps) (hA : Ints w w.heap.size A ps) :
    Calls Tryz.prog 11 #[.pointer (some ⟨g, 0, none⟩), .slice A len c, .int .u8 f, .agg e.cells.toArray] w (BoolsOut w (2 ^ n) (tabV (rs.map some) n ps f e)) := by
  obtain ⟨i0, hi, hz0, hz1, hz2⟩ := info_parts info_bool17
  have hN : 2 ^ n ≤ 65536 := Nat.le_trans (Nat.pow_le_pow_right (by omega) hn) (by decide)
  have hN1 : 0 < 2 ^ n := Nat.two_pow_pos n
  obtain ⟨W, hW⟩ : ∃ W, W = w.alloc (.cells #[.int .u8 e.tag, .int .u32 e.pos] 26) := ⟨_, rfl⟩
  have hbW : Below w.heap.size w W := by rw [hW]; exact (Below.refl _ _).alloc (Nat.le_refl _) _
  have hK : Blk W w.heap.size 26 #[.int .u8 e.tag, .int .u32 e.pos] := by rw [hW]; exact Blk.new w _ _
  have j0 : W.cell? ⟨w.heap.size, 0, none⟩ = some (.int .u8 e.tag) := hK.cell 0
  have j1 : W.cell? ⟨w.heap.size, 1, none⟩ = some (.int .u32 e.pos) := hK.cell 1
  have HT := Lib.hid (rtab17_any F g n room rs f e W (h.on hbW) hf he hn hlen hwf hc hF)
  have HAW := Lib.hid (hA.on hbW)
  have HB := Lib.hid hbW
  have HWW := Lib.hid hW
  have HD := Lib.hid (fun (x : Nat) (W : World) (hx : x ≤ 9223372036854775807) hr => refDown_any A len c ps x W hll hP hx hr)
  have HDL : Hid (∀ x, rdown x ps < 2 ^ n) := Lib.hid (fun x => by have := rdown_lt x ps; rw [hl] at this; exact this)
  have HTL : Hid ((tabL (rs.map some) n f e).length = 2 ^ n) := Lib.hid (tabL_length _ _ _ _)
  have HVL : Hid ((tabV (rs.map some) n ps f e).length = 2 ^ n) := Lib.hid (tabV_length _ _ _ _ _)
  have HVA : Hid (∀ x, x < 2 ^ n → (tabV (rs.map some) n ps f e)[x]?.getD false = (tabL (rs.map some) n f e)[rdown x ps]?.getD false) := Lib.hid (fun x hx => tabV_at hx)
  unfold BoolsOut at HT ⊢
  generalize tabV (rs.map some) n ps f e = V at *
  generalize tabL (rs.map some) n f e = T at *
  generalize hNN : 2 ^ n = N at *
  clear h hbW hK hc hwf he hF hNN hlen hl hll hP hA hf
  simp only [Edg.cells] at HT ⊢
  go_enter Tryz.func11, Tryz.ntmps11
  go_upto_region 1 with fail
  rw [← HWW.out]
  clear hW
  go_wp2_with fail
  refine HT.out.mono ?_
  rintro r w1 ⟨gb, cb, rfl, hown, hb1⟩
  have HO1 := Lib.hid hown
  have HB1 := Lib.hid hb1
  clear j0 j1 hown hb1 HT
  go_wp2_with (at_make; refine wp_make (f := Value.bool) Tryz.underlying42 hi hz0 hz1 hz2 rfl _ rfl _ _ rfl (N : Int) N rfl rfl rfl (by omega) (by unfold maxLen; omega) ?_; intro w2 hown2 hb2 hs2)
  have HO2 := Lib.hid (show OwnF Value.bool 4 w2 w1.heap.size (.slice (some ⟨w1.heap.size, 0, none⟩) N N) (mixL V N 0) from by rw [mixL_zero]; exact hown2)
  have HB2 := Lib.hid hb2
  clear hown2 hb2 hs2
  go_loopw [11] (fun i wr => ∃ x : Nat, x ≤ N ∧ i = .int .i64 x ∧ Hid (OwnF Value.bool 4 wr w1.heap.size (.slice (some ⟨w1.heap.size, 0, none⟩) N N) (mixL V N x) ∧ Below w1.heap.size w1 wr)) (fun i _ => N - (intOf i).toNat)
  case atStart => exact ⟨0, Nat.zero_le _, rfl, Lib.hid ⟨HO2.out, HB2.out⟩⟩
  case round =>
    obtain ⟨x, hx, rfl, HR⟩ := hrel
    by_cases hxn : x < N
    · have hx' : (x : Int) < (N : Int) := by omega
      have hd := HDL.out x
      have hrun := HD.out x wr (by omega) ((HAW.out.on HB1.out).on HR.out.2)
      have hto := HO1.out.below HR.out.2
      have hcl := hto.at_ (rdown x ps) (by rw [HTL.out]; exact hd)
      have hst := HR.out.1.set_ x (V[x]?.getD false)
      rw [mixL_set HVL.out hxn rfl, HVA.out x hxn] at hst
      have hcx := HR.out.1.at_ x (by rw [mixL_length HVL.out (by omega)]; exact hxn)
      rw [List.getElem?_eq_getElem (by rw [mixL_length HVL.out (by omega)]; exact hxn)] at hcx
      rw [List.getElem?_eq_getElem (by rw [HTL.out]; exact hd)] at hcl hst
      simp only [Option.map_some, Option.getD_some] at hcx hcl hst
      have hgl := (HO1.out.lt gb rfl).2
      generalize T[rdown x ps]'(by rw [HTL.out]; exact hd) = tv at *
      generalize (mixL V N x)[x]'(by rw [mixL_length HVL.out (by omega)]; exact hxn) = ov at *
      generalize rdown x ps = dx at *
      obtain ⟨hcl1, hcl2⟩ := hcl
      obtain ⟨hcc, hcf⟩ := hcx
      have hd' : (dx : Int) < (N : Int) := by omega
      have HRUN := Lib.hid hrun
      have HST := Lib.hid hst
      have HGL := Lib.hid hgl
      clear hrun hst hto hgl
      go_wp2_with fail
      refine HRUN.out.mono ?_
      rintro r w' ⟨rfl, rfl⟩
      go_wp2_with fail
      go_roundw
      case rel => exact ⟨x + 1, by omega, by go_num, Lib.hid ⟨HST.out, HR.out.2.setCell (p := ⟨w1.heap.size, x, none⟩) (Nat.le_refl _) _⟩⟩
      case measure => simp [intOf]; omega
    · obtain rfl : x = N := by omega
      go_wp2_with fail
      go_ret
      exact ⟨_, _, rfl, by have := HR.out.1; rw [mixL_all HVL.out] at this; exact this.mono (Nat.le_trans HB.out.size HB1.out.size), (HB.out.trans (HB1.out.mono HB.out.size)).trans (HR.out.2.mono (Nat.le_trans HB.out.size HB1.out.size))⟩

set_option maxRecDepth 100000 in
set_option maxHeartbeats 8000000 in
theorem rall22_any (n : Nat) (A B : Option Addr) (len c d : Nat) (ps : List Int) (t : List Bool) (w : World) (hn : n ≤ 16) (hl : ps.length = n) (hll : ps.length = len) (hP : IsPerm ps) (hA : Ints w w.heap.size A ps) (ht : t.length = 2 ^ n) (hB : RowF Value.bool false w w.heap.size B t) :
    Calls Tryz.prog 10 #[.slice A len c, .slice B (2 ^ n : Nat) d] w fun r w' => ∃ v, r = .returned v ∧ OwnI w' w.heap.size v (memV t ps n (2 ^ n)) ∧ Below w.heap.size w w' := by
  obtain ⟨i0, hi, hz0, hz1, hz2⟩ := info_parts info_int
  have hN : 2 ^ n ≤ 65536 := Nat.le_trans (Nat.pow_le_pow_right (by omega) hn) (by decide)
  have hN1 : 0 < 2 ^ n := Nat.two_pow_pos n
  obtain rfl : n = len := by rw [← hl, hll]
  have HU : Hid (∀ (y : Nat) (W : World), y < 2 ^ n → Ints W W.heap.size A ps → Calls Tryz.prog 28 #[.slice A n c, .int .i64 y] W fun e w' => e = .returned (.int .i64 (upM ps n y : Nat)) ∧ W = w') := Lib.hid (fun y W hy hr => refUp_any A n c ps y W hll hP hy hr)
  have HUL : Hid (∀ y, upM ps n y < 2 ^ n) := Lib.hid (fun y => by have := upM_lt hP y; rw [hl] at this; exact this)
  have HMS : Hid (∀ k, memV t ps n (k + 1) = memV t ps n k ++ if t[upM ps n k]?.getD false then [((upM ps n k : Nat) : Int)] else []) := Lib.hid (fun k => memV_succ t ps n k)
  have HML : Hid (∀ k, (memV t ps n k).length ≤ k) := Lib.hid (fun k => memV_len t ps n k)
  have HM0 : Hid (memV t ps n 0 = []) := Lib.hid rfl
  obtain ⟨mv, hmv⟩ : ∃ mv : Nat → List Int, mv = memV t ps n := ⟨_, rfl⟩
  rw [← hmv] at HMS HML HM0 ⊢
  obtain ⟨um, hum⟩ : ∃ um : Nat → Nat, um = upM ps n := ⟨_, rfl⟩
  have HU' : Hid (∀ (y : Nat) (W : World), y < 2 ^ n → Ints W W.heap.size A ps → Calls Tryz.prog 28 #[.slice A n c, .int .i64 y] W fun e w' => e = .returned (.int .i64 (um y : Nat)) ∧ W = w') := Lib.hid (fun y W hy hr => by rw [hum]; exact HU.out y W hy hr)
  rw [← hum] at HUL HMS
  have HTL := Lib.hid ht
  have HAA := Lib.hid hA
  have HBB := Lib.hid hB
  generalize hNN : 2 ^ n = N at *
  clear hmv hum hl hll hP hA ht hB hNN HU
  go_enter Tryz.func10, Tryz.ntmps10
  go_wp2_with fail
  go_loopw [5, 6] (fun v i wr => ∃ y : Nat, y ≤ N ∧ i = .int .i64 y ∧ Hid (OwnI wr w.heap.size v (mv y) ∧ Below w.heap.size w wr)) (fun _ i _ => N - (intOf i).toNat)
  case atStart => exact ⟨0, Nat.zero_le _, rfl, Lib.hid ⟨by rw [HM0.out]; exact OwnF.nil_, Below.refl _ _⟩⟩
  case round =>
    obtain ⟨y, hy, rfl, HR⟩ := hrel
    by_cases hyn : y < N
    · have hy' : (y : Int) < (N : Int) := by omega
      have hu := HUL.out y
      have hrun := HU'.out y wr hyn (HAA.out.on HR.out.2)
      obtain ⟨b, off, rfl, hbl, hat⟩ := HBB.out (by rw [HTL.out]; omega)
      have hck := (HR.out.2.cell (p := ⟨b, off + um y, none⟩) hbl).trans (hat (um y) (by rw [HTL.out]; exact hu))
      have hms := HMS.out y
      have hml := HML.out y
      generalize t[um y]?.getD false = tv at *
      generalize um y = u at *
      have hu' : (u : Int) < (N : Int) := by omega
      have HRUN := Lib.hid hrun
      have HMS1 := Lib.hid hms
      have HOV := Lib.hid HR.out.1
      have HBV := Lib.hid HR.out.2
      obtain ⟨A1, n1, c1, rfl, hv1, hv2⟩ := HR.out.1.form
      have hm1 := HOV.out.len_le
      clear hrun hms hat HR hv1 hv2
      cases tv
      · go_wp2_with fail
        refine HRUN.out.mono ?_
        rintro r w' ⟨rfl, rfl⟩
        go_wp2_with fail
        go_roundw
        case rel => exact ⟨y + 1, by omega, by go_num, Lib.hid ⟨by rw [HMS1.out]; simpa using HOV.out, HBV.out⟩⟩
        case measure => simp [intOf]; omega
      · go_wp2_with fail
        refine HRUN.out.mono ?_
        rintro r w' ⟨rfl, rfl⟩
        go_wp2_with (at_builtin; refine wp_app1 (f := Value.int .i64) Tryz.underlying23 hi hz0 hz1 hz2 rfl (by omega) wr rfl _ _ rfl w.heap.size _ (mv y) (u : Int) 1 rfl HOV.out HBV.out.size (by omega) rfl rfl rfl ?_; intro v4 w4 hown4 hb4 hs4 hg4 hv4)
        have HO4 := Lib.hid hown4
        have HB4 := Lib.hid (HBV.out.trans hb4)
        clear hown4 hb4 hs4 hg4 hv4
        go_wp2_with fail
        go_roundw
        case rel => exact ⟨y + 1, by omega, by go_num, Lib.hid ⟨by rw [HMS1.out]; simpa using HO4.out, HB4.out⟩⟩
        case measure => simp [intOf]; omega
    · obtain rfl : y = N := by omega
      go_wp2_with fail
      go_ret
      exact ⟨_, rfl, HR.out.1, HR.out.2⟩
end Go.Proofs.YtpjciaomhfeeeaaGreat
end
