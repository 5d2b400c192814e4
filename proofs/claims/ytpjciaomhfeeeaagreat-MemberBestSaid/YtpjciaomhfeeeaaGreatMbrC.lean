/- Contract: member.start. -/
import Derived.Test.YtpjciaomhfeeeaaGreatMbrB
import Derived.Test.YtpjciaomhfeeeaaGreatCanA
import Derived.Test.YtpjciaomhfeeeaaGreatMn
namespace Go.Proofs.YtpjciaomhfeeeaaGreat
open Go Go.RowKit
set_option linter.unusedSimpArgs false
set_option linter.unusedVariables false

/-- why members may not be asked -/
def startC (cs : List (Option Rec)) (n no : Nat) (f : Int) (e : Edg) : Nat := if n ≠ no then 1 else mayC cs n f e 0
def StartOut (w : World) (cs : List (Option Rec)) (gs go n no : Nat) (f : Int) (e : Edg) (x : Ending) (w' : World) : Prop :=
  (startC cs n no f e ≠ 0 ∧ x = .returned (.tuple #[.pointer none, .agg Rst.nil.cells.toArray, .int .u8 (startC cs n no f e : Nat)])) ∨
  (startC cs n no f e = 0 ∧ ∃ cb, x = .returned (.tuple #[.pointer (some ⟨cb, 0, none⟩), .agg (atR cs e 0).cells.toArray, .int .u8 0]) ∧ CastAt w' cb gs go f n ∧ w.heap.size ≤ cb)
set_option maxRecDepth 200000 in
set_option maxHeartbeats 32000000 in
theorem start_any (F G : List Nat) (gs go n room : Nat) (cs : List (Option Rec)) (free : List Int) (ps ls : List Int) (f : Int) (e : Edg) (w : World) (h : StoreAt w F gs n room cs free) (hO : OrdAt w G go ps ls) (hf : 0 ≤ f ∧ f ≤ 255) (he : e.Wf) (hp : ps.length ≤ 16) :
    Calls Tryz.prog 23 #[.pointer (some ⟨gs, 0, none⟩), .pointer (some ⟨go, 0, none⟩), .int .u8 f, .agg #[.int .u8 e.tag, .int .u32 e.pos]] w fun x w' => StartOut w cs gs go n ps.length f e x w' ∧ Below w.heap.size w w' := by
  have hn16 := h.ok.n16
  obtain ⟨W, hW⟩ : ∃ W, W = (w.alloc (.cells #[.int .u8 e.tag, .int .u32 e.pos] 26)).alloc (.cells #[.bool false, .bool false, .int .u8 0, .int .u8 0, .int .u8 0, .int .u8 0, .int .u32 0, .int .u8 0, .int .u32 0, .int .u8 0, .int .u8 0] 72) := ⟨_, rfl⟩
  have hbW : Below w.heap.size w W := by rw [hW]; exact ((Below.refl _ _).alloc (Nat.le_refl _) _).alloc (by simp) _
  have hK : Blk W w.heap.size 26 #[.int .u8 e.tag, .int .u32 e.pos] := by rw [hW]; exact (Blk.new w _ _).alloc _
  have hZ : Blk W (w.heap.size + 1) 72 #[.bool false, .bool false, .int .u8 0, .int .u8 0, .int .u8 0, .int .u8 0, .int .u32 0, .int .u8 0, .int .u32 0, .int .u8 0, .int .u8 0] := by
    rw [hW]
    have := Blk.new (w.alloc (.cells #[.int .u8 e.tag, .int .u32 e.pos] 26)) 72 #[.bool false, .bool false, .int .u8 0, .int .u8 0, .int .u8 0, .int .u8 0, .int .u32 0, .int .u8 0, .int .u32 0, .int .u8 0, .int .u8 0]
    rwa [World.size_alloc] at this
  have hkl := hK.lt
  have hzl := hZ.lt
  have KB := Lib.hid hK
  have MB := Lib.hid hZ
  have HS := Lib.hid (h.on hbW)
  have HO := Lib.hid (hO.on hbW)
  have HB := Lib.hid hbW
  have HWW := Lib.hid hW
  have HV := Lib.hid (fun W h => storeVars_any F gs n room cs free W h)
  have HOV := Lib.hid (fun W h => orderVars_any G go ps ls W h)
  have HSZ := Lib.hid (fun W h => canSize_any F gs n room cs free f e 0 W h hf he)
  obtain ⟨no, hno⟩ : ∃ no, no = ps.length := ⟨_, rfl⟩
  rw [← hno] at HOV hp ⊢
  clear h hO hbW hK hZ hno
  have m0 : W.cell? ⟨w.heap.size + 1, 0, none⟩ = some (.bool false) := (MB.out).cell 0
  have f0 := (MB.out).frozen 0
  have m1 : W.cell? ⟨w.heap.size + 1, 1, none⟩ = some (.bool false) := (MB.out).cell 1
  have f1 := (MB.out).frozen 1
  have m2 : W.cell? ⟨w.heap.size + 1, 2, none⟩ = some (.int .u8 0) := (MB.out).cell 2
  have f2 := (MB.out).frozen 2
  have m3 : W.cell? ⟨w.heap.size + 1, 3, none⟩ = some (.int .u8 0) := (MB.out).cell 3
  have f3 := (MB.out).frozen 3
  have m4 : W.cell? ⟨w.heap.size + 1, 4, none⟩ = some (.int .u8 0) := (MB.out).cell 4
  have f4 := (MB.out).frozen 4
  have m5 : W.cell? ⟨w.heap.size + 1, 5, none⟩ = some (.int .u8 0) := (MB.out).cell 5
  have f5 := (MB.out).frozen 5
  have m6 : W.cell? ⟨w.heap.size + 1, 6, none⟩ = some (.int .u32 0) := (MB.out).cell 6
  have f6 := (MB.out).frozen 6
  have m7 : W.cell? ⟨w.heap.size + 1, 7, none⟩ = some (.int .u8 0) := (MB.out).cell 7
  have f7 := (MB.out).frozen 7
  have m8 : W.cell? ⟨w.heap.size + 1, 8, none⟩ = some (.int .u32 0) := (MB.out).cell 8
  have f8 := (MB.out).frozen 8
  have m9 : W.cell? ⟨w.heap.size + 1, 9, none⟩ = some (.int .u8 0) := (MB.out).cell 9
  have f9 := (MB.out).frozen 9
  have m10 : W.cell? ⟨w.heap.size + 1, 10, none⟩ = some (.int .u8 0) := (MB.out).cell 10
  have f10 := (MB.out).frozen 10
  have k0 : W.cell? ⟨w.heap.size, 0, none⟩ = some (.int .u8 e.tag) := KB.out.cell 0
  have k1 : W.cell? ⟨w.heap.size, 1, none⟩ = some (.int .u32 e.pos) := KB.out.cell 1
  go_enter Tryz.func23, Tryz.ntmps23
  go_upto_region 1 with fail
  rw [← HWW.out]
  clear hW
  go_wp2_with fail
  refine (HV.out _ HS.out).mono ?_
  rintro x w1 ⟨rfl, rfl⟩
  go_wp2_with fail
  refine (HOV.out _ HO.out).mono ?_
  rintro x w1 ⟨rfl, rfl⟩
  by_cases hnn : n = no
  · have t1 : ((n : Int) != (no : Int)) = false := by subst hnn; simp
    have t2 : (n != no) = false := by subst hnn; simp
    have HNN := Lib.hid hnn
    clear hnn
    go_wp2_with fail
    refine (HSZ.out _ HS.out).mono ?_
    rintro x w2 ⟨hz, hb2⟩
    have MB2 := Lib.hid (Blk.onB MB.out hb2)
    have KB2 := Lib.hid (Blk.onB KB.out hb2)
    have HS2 := Lib.hid (HS.out.on hb2)
    have HB2 := Lib.hid (HB.out.trans (hb2.mono HB.out.size))
    have hsz2 := hb2.size
    clear hb2 m0 f0 m1 f1 m2 f2 m3 f3 m4 f4 m5 f5 m6 f6 m7 f7 m8 f8 m9 f9 m10 f10 k0 k1
    rcases hz with ⟨hc0, rfl⟩ | ⟨hc0, V, hv, rfl⟩
    · have HCO : Hid (startC cs n no f e = mayC cs n f e 0 ∧ mayC cs n f e 0 ≠ 0) := Lib.hid ⟨by unfold startC; rw [if_neg (by simpa using HNN.out)], hc0⟩
      obtain ⟨code, hcode⟩ : ∃ code, code = mayC cs n f e 0 := ⟨_, rfl⟩
      rw [← hcode] at HCO hc0 ⊢
      have t3 : ((code : Int) != 0) = true := by simp; omega
      clear hc0 hcode
      have m0 : w2.cell? ⟨w.heap.size + 1, 0, none⟩ = some (.bool false) := (MB2.out).cell 0
      have f0 := (MB2.out).frozen 0
      have m1 : w2.cell? ⟨w.heap.size + 1, 1, none⟩ = some (.bool false) := (MB2.out).cell 1
      have f1 := (MB2.out).frozen 1
      have m2 : w2.cell? ⟨w.heap.size + 1, 2, none⟩ = some (.int .u8 0) := (MB2.out).cell 2
      have f2 := (MB2.out).frozen 2
      have m3 : w2.cell? ⟨w.heap.size + 1, 3, none⟩ = some (.int .u8 0) := (MB2.out).cell 3
      have f3 := (MB2.out).frozen 3
      have m4 : w2.cell? ⟨w.heap.size + 1, 4, none⟩ = some (.int .u8 0) := (MB2.out).cell 4
      have f4 := (MB2.out).frozen 4
      have m5 : w2.cell? ⟨w.heap.size + 1, 5, none⟩ = some (.int .u8 0) := (MB2.out).cell 5
      have f5 := (MB2.out).frozen 5
      have m6 : w2.cell? ⟨w.heap.size + 1, 6, none⟩ = some (.int .u32 0) := (MB2.out).cell 6
      have f6 := (MB2.out).frozen 6
      have m7 : w2.cell? ⟨w.heap.size + 1, 7, none⟩ = some (.int .u8 0) := (MB2.out).cell 7
      have f7 := (MB2.out).frozen 7
      have m8 : w2.cell? ⟨w.heap.size + 1, 8, none⟩ = some (.int .u32 0) := (MB2.out).cell 8
      have f8 := (MB2.out).frozen 8
      have m9 : w2.cell? ⟨w.heap.size + 1, 9, none⟩ = some (.int .u8 0) := (MB2.out).cell 9
      have f9 := (MB2.out).frozen 9
      have m10 : w2.cell? ⟨w.heap.size + 1, 10, none⟩ = some (.int .u8 0) := (MB2.out).cell 10
      have f10 := (MB2.out).frozen 10
      go_wp2_with fail
      refine bodyPost_gen (fun V => Blk V (w.heap.size + 1) 72 #[.bool false, .bool false, .int .u8 0, .int .u8 0, .int .u8 0, .int .u8 0, .int .u32 0, .int .u8 0, .int .u32 0, .int .u8 0, .int .u8 0] ∧ Below w.heap.size w V) ⟨(MB2.out).rest11 _ _ _ _ _ _ _ _ _ _ _, below_rest11 _ _ _ _ _ _ _ _ _ _ _ (Nat.le_succ _) (HB2.out)⟩ ?_
      rintro V ⟨hv, hbv⟩
      have v0 : V.cell? ⟨w.heap.size + 1, 0, none⟩ = some (.bool false) := hv.cell 0
      have v1 : V.cell? ⟨w.heap.size + 1, 1, none⟩ = some (.bool false) := hv.cell 1
      have v2 : V.cell? ⟨w.heap.size + 1, 2, none⟩ = some (.int .u8 0) := hv.cell 2
      have v3 : V.cell? ⟨w.heap.size + 1, 3, none⟩ = some (.int .u8 0) := hv.cell 3
      have v4 : V.cell? ⟨w.heap.size + 1, 4, none⟩ = some (.int .u8 0) := hv.cell 4
      have v5 : V.cell? ⟨w.heap.size + 1, 5, none⟩ = some (.int .u8 0) := hv.cell 5
      have v6 : V.cell? ⟨w.heap.size + 1, 6, none⟩ = some (.int .u32 0) := hv.cell 6
      have v7 : V.cell? ⟨w.heap.size + 1, 7, none⟩ = some (.int .u8 0) := hv.cell 7
      have v8 : V.cell? ⟨w.heap.size + 1, 8, none⟩ = some (.int .u32 0) := hv.cell 8
      have v9 : V.cell? ⟨w.heap.size + 1, 9, none⟩ = some (.int .u8 0) := hv.cell 9
      have v10 : V.cell? ⟨w.heap.size + 1, 10, none⟩ = some (.int .u8 0) := hv.cell 10
      have HBV := Lib.hid hbv
      clear hv hbv m0 f0 m1 f1 m2 f2 m3 f3 m4 f4 m5 f5 m6 f6 m7 f7 m8 f8 m9 f9 m10 f10
      refine bodyPost_ret (v := .tuple #[.pointer none, .agg #[.bool false, .bool false, .int .u8 0, .int .u8 0, .int .u8 0, .int .u8 0, .int .u32 0, .int .u8 0, .int .u32 0, .int .u8 0, .int .u8 0], .int .u8 (code : Nat)]) ?_ rfl ⟨.inl ⟨by rw [HCO.out.1]; exact HCO.out.2, by rw [HCO.out.1]; rfl⟩, HBV.out⟩
      simp [results, Tryz.results23, go_sem, *]
    · have HCO : Hid (startC cs n no f e = 0) := Lib.hid (by unfold startC; rw [if_neg (by simpa using HNN.out)]; exact hc0)
      clear hc0 hv
      have k0 : w2.cell? ⟨w.heap.size, 0, none⟩ = some (.int .u8 e.tag) := KB2.out.cell 0
      have k1 : w2.cell? ⟨w.heap.size, 1, none⟩ = some (.int .u32 e.pos) := KB2.out.cell 1
      go_upto_region 8 with fail
      go_wp2_with fail
      refine (HV.out _ HS2.out).mono ?_
      rintro x w3 ⟨rfl, rfl⟩
      have hcast : CastAt (w2.alloc (.cells #[.pointer (some ⟨gs, 0, none⟩), .pointer (some ⟨go, 0, none⟩), .int .u8 f, .int .i64 (n : Nat)] 76)) w2.heap.size gs go f n := Blk.new _ _ _
      have hba : Below w2.heap.size w2 (w2.alloc (.cells #[.pointer (some ⟨gs, 0, none⟩), .pointer (some ⟨go, 0, none⟩), .int .u8 f, .int .i64 (n : Nat)] 76)) := (Below.refl _ _).alloc (Nat.le_refl _) _
      have HAT := mat_any F gs go n room w2.heap.size cs free f e 0 _ (HS2.out.on hba) he hcast
      obtain ⟨y, hy⟩ : ∃ y, y = atR cs e 0 := ⟨_, rfl⟩
      rw [← hy] at HAT
      have HY := Lib.hid hy
      have HAT2 := Lib.hid HAT
      have HBA := Lib.hid (And.intro hba hcast)
      clear hcast hba HAT hy
      have e2 : w.heap.size < w2.heap.size := by omega
      have e3 : w.heap.size + 1 < w2.heap.size := by omega
      go_wp2_with fail
      refine HAT2.out.mono ?_
      rintro x w4 ⟨rfl, hb4⟩
      have hc4 := Blk.onB HBA.out.2 hb4
      have hz4 := Blk.onB (Blk.onB MB2.out HBA.out.1) hb4
      have HB4 := Lib.hid (HB2.out.trans ((HBA.out.1.trans (hb4.mono HBA.out.1.size)).mono HB2.out.size))
      have HC4 := Lib.hid hc4
      have MB4 := Lib.hid hz4
      have m0 : w4.cell? ⟨w.heap.size + 1, 0, none⟩ = some (.bool false) := (hz4).cell 0
      have f0 := (hz4).frozen 0
      have m1 : w4.cell? ⟨w.heap.size + 1, 1, none⟩ = some (.bool false) := (hz4).cell 1
      have f1 := (hz4).frozen 1
      have m2 : w4.cell? ⟨w.heap.size + 1, 2, none⟩ = some (.int .u8 0) := (hz4).cell 2
      have f2 := (hz4).frozen 2
      have m3 : w4.cell? ⟨w.heap.size + 1, 3, none⟩ = some (.int .u8 0) := (hz4).cell 3
      have f3 := (hz4).frozen 3
      have m4 : w4.cell? ⟨w.heap.size + 1, 4, none⟩ = some (.int .u8 0) := (hz4).cell 4
      have f4 := (hz4).frozen 4
      have m5 : w4.cell? ⟨w.heap.size + 1, 5, none⟩ = some (.int .u8 0) := (hz4).cell 5
      have f5 := (hz4).frozen 5
      have m6 : w4.cell? ⟨w.heap.size + 1, 6, none⟩ = some (.int .u32 0) := (hz4).cell 6
      have f6 := (hz4).frozen 6
      have m7 : w4.cell? ⟨w.heap.size + 1, 7, none⟩ = some (.int .u8 0) := (hz4).cell 7
      have f7 := (hz4).frozen 7
      have m8 : w4.cell? ⟨w.heap.size + 1, 8, none⟩ = some (.int .u32 0) := (hz4).cell 8
      have f8 := (hz4).frozen 8
      have m9 : w4.cell? ⟨w.heap.size + 1, 9, none⟩ = some (.int .u8 0) := (hz4).cell 9
      have f9 := (hz4).frozen 9
      have m10 : w4.cell? ⟨w.heap.size + 1, 10, none⟩ = some (.int .u8 0) := (hz4).cell 10
      have f10 := (hz4).frozen 10
      have hsz4 := hc4.lt
      clear hz4 hb4 hc4 k0 k1
      unfold Rst.cells
      go_wp2_with fail
      refine bodyPost_gen (fun V => Blk V (w.heap.size + 1) 72 #[.bool y.inn, .bool y.node, .int .u8 y.r.form, .int .u8 y.r.top, .int .u8 y.r.bot, .int .u8 y.r.lo.tag, .int .u32 y.r.lo.pos, .int .u8 y.r.hi.tag, .int .u32 y.r.hi.pos, .int .u8 y.tag, .int .u8 y.l] ∧ Below w.heap.size w V ∧ CastAt V w2.heap.size gs go f n) ⟨(MB4.out).rest11 _ _ _ _ _ _ _ _ _ _ _, below_rest11 _ _ _ _ _ _ _ _ _ _ _ (Nat.le_succ _) (HB4.out), (Blk.far (Blk.far (Blk.far (Blk.far (Blk.far (Blk.far (Blk.far (Blk.far (Blk.far (Blk.far (Blk.far HC4.out (p := ⟨w.heap.size + 1, 0, none⟩) (by simp; omega) _) (p := ⟨w.heap.size + 1, 1, none⟩) (by simp; omega) _) (p := ⟨w.heap.size + 1, 2, none⟩) (by simp; omega) _) (p := ⟨w.heap.size + 1, 3, none⟩) (by simp; omega) _) (p := ⟨w.heap.size + 1, 4, none⟩) (by simp; omega) _) (p := ⟨w.heap.size + 1, 5, none⟩) (by simp; omega) _) (p := ⟨w.heap.size + 1, 6, none⟩) (by simp; omega) _) (p := ⟨w.heap.size + 1, 7, none⟩) (by simp; omega) _) (p := ⟨w.heap.size + 1, 8, none⟩) (by simp; omega) _) (p := ⟨w.heap.size + 1, 9, none⟩) (by simp; omega) _) (p := ⟨w.heap.size + 1, 10, none⟩) (by simp; omega) _)⟩ ?_
      rintro V ⟨hv, hbv, hca⟩
      have v0 : V.cell? ⟨w.heap.size + 1, 0, none⟩ = some (.bool y.inn) := hv.cell 0
      have v1 : V.cell? ⟨w.heap.size + 1, 1, none⟩ = some (.bool y.node) := hv.cell 1
      have v2 : V.cell? ⟨w.heap.size + 1, 2, none⟩ = some (.int .u8 y.r.form) := hv.cell 2
      have v3 : V.cell? ⟨w.heap.size + 1, 3, none⟩ = some (.int .u8 y.r.top) := hv.cell 3
      have v4 : V.cell? ⟨w.heap.size + 1, 4, none⟩ = some (.int .u8 y.r.bot) := hv.cell 4
      have v5 : V.cell? ⟨w.heap.size + 1, 5, none⟩ = some (.int .u8 y.r.lo.tag) := hv.cell 5
      have v6 : V.cell? ⟨w.heap.size + 1, 6, none⟩ = some (.int .u32 y.r.lo.pos) := hv.cell 6
      have v7 : V.cell? ⟨w.heap.size + 1, 7, none⟩ = some (.int .u8 y.r.hi.tag) := hv.cell 7
      have v8 : V.cell? ⟨w.heap.size + 1, 8, none⟩ = some (.int .u32 y.r.hi.pos) := hv.cell 8
      have v9 : V.cell? ⟨w.heap.size + 1, 9, none⟩ = some (.int .u8 y.tag) := hv.cell 9
      have v10 : V.cell? ⟨w.heap.size + 1, 10, none⟩ = some (.int .u8 y.l) := hv.cell 10
      have HBV := Lib.hid hbv
      clear hv hbv m0 f0 m1 f1 m2 f2 m3 f3 m4 f4 m5 f5 m6 f6 m7 f7 m8 f8 m9 f9 m10 f10
      refine bodyPost_ret (v := .tuple #[.pointer (some ⟨w2.heap.size, 0, none⟩), .agg #[.bool y.inn, .bool y.node, .int .u8 y.r.form, .int .u8 y.r.top, .int .u8 y.r.bot, .int .u8 y.r.lo.tag, .int .u32 y.r.lo.pos, .int .u8 y.r.hi.tag, .int .u32 y.r.hi.pos, .int .u8 y.tag, .int .u8 y.l], .int .u8 0]) ?_ rfl ⟨.inr ⟨HCO.out, w2.heap.size, by rw [← HY.out]; rfl, hca, by omega⟩, HBV.out⟩
      simp [results, Tryz.results23, go_sem, *]
  · have t1 : ((n : Int) != (no : Int)) = true := by simp; omega
    have t2 : (n != no) = true := by simpa using hnn
    have HCO : Hid (startC cs n no f e = 1) := Lib.hid (by unfold startC; rw [if_pos hnn])
    clear hnn
    go_wp2_with fail
    refine bodyPost_gen (fun V => Blk V (w.heap.size + 1) 72 #[.bool false, .bool false, .int .u8 0, .int .u8 0, .int .u8 0, .int .u8 0, .int .u32 0, .int .u8 0, .int .u32 0, .int .u8 0, .int .u8 0] ∧ Below w.heap.size w V) ⟨(MB.out).rest11 _ _ _ _ _ _ _ _ _ _ _, below_rest11 _ _ _ _ _ _ _ _ _ _ _ (Nat.le_succ _) (HB.out)⟩ ?_
    rintro V ⟨hv, hbv⟩
    have v0 : V.cell? ⟨w.heap.size + 1, 0, none⟩ = some (.bool false) := hv.cell 0
    have v1 : V.cell? ⟨w.heap.size + 1, 1, none⟩ = some (.bool false) := hv.cell 1
    have v2 : V.cell? ⟨w.heap.size + 1, 2, none⟩ = some (.int .u8 0) := hv.cell 2
    have v3 : V.cell? ⟨w.heap.size + 1, 3, none⟩ = some (.int .u8 0) := hv.cell 3
    have v4 : V.cell? ⟨w.heap.size + 1, 4, none⟩ = some (.int .u8 0) := hv.cell 4
    have v5 : V.cell? ⟨w.heap.size + 1, 5, none⟩ = some (.int .u8 0) := hv.cell 5
    have v6 : V.cell? ⟨w.heap.size + 1, 6, none⟩ = some (.int .u32 0) := hv.cell 6
    have v7 : V.cell? ⟨w.heap.size + 1, 7, none⟩ = some (.int .u8 0) := hv.cell 7
    have v8 : V.cell? ⟨w.heap.size + 1, 8, none⟩ = some (.int .u32 0) := hv.cell 8
    have v9 : V.cell? ⟨w.heap.size + 1, 9, none⟩ = some (.int .u8 0) := hv.cell 9
    have v10 : V.cell? ⟨w.heap.size + 1, 10, none⟩ = some (.int .u8 0) := hv.cell 10
    have HBV := Lib.hid hbv
    clear hv hbv m0 f0 m1 f1 m2 f2 m3 f3 m4 f4 m5 f5 m6 f6 m7 f7 m8 f8 m9 f9 m10 f10
    refine bodyPost_ret (v := .tuple #[.pointer none, .agg #[.bool false, .bool false, .int .u8 0, .int .u8 0, .int .u8 0, .int .u8 0, .int .u32 0, .int .u8 0, .int .u32 0, .int .u8 0, .int .u8 0], .int .u8 1]) ?_ rfl ⟨.inl ⟨by rw [HCO.out]; decide, by rw [HCO.out]; rfl⟩, HBV.out⟩
    simp [results, Tryz.results23, go_sem, *]
end Go.Proofs.YtpjciaomhfeeeaaGreat
