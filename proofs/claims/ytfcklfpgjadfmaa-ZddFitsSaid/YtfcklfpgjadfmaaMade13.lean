/- Contract of the law's Made: a table made from below. -/
import Derived.Test.YtfcklfpgjadfmaaRef13T
import Derived.Test.YtfcklfpgjadfmaaMadeW
import Derived.Test.YtfcklfpgjadfmaaZddNil
namespace Go.Proofs.Ytfcklfpgjadfmaa
open Go.RowKit Go.Sort
set_option linter.unusedSimpArgs false
set_option linter.unusedVariables false

set_option maxRecDepth 100000 in
set_option maxHeartbeats 4000000 in
theorem made13_any (n room g : Nat) (hn : n ≤ 16) : ∀ (k : Nat) (t : List Bool) (l b off c : Nat) (F : List Nat) (S : List Nd) (w : World), t.length = 2 ^ k → l + k ≤ n → k ≤ 6 → 2 ^ k ≤ c →
    TabAt w F b off t → SInv true n S → StoreAt w F g n room (csOf true S) [] →
    Calls Try.prog 27 #[.pointer (some ⟨g, 0, none⟩), .slice (some ⟨b, off, none⟩) (2 ^ k) c, .int .i64 (l : Nat)] w fun e w' =>
      e = .returned (.tuple #[.agg (edO (madeP true room k t l S).1).cells.toArray, .bool (madeP true room k t l S).1.isSome]) ∧ Turns (fun W X => StoreAt W X g n room (csOf true (madeP true room k t l S).2) []) F w w' := by
  intro k
  induction k with
  | zero =>
    intro t l b off c F S w ht hl hk hc hT hI hS
    have h0 := hT.cell 0 (by rw [ht]; exact Nat.one_pos)
    have hx : bitE t = if t[0]?.getD false then 1 else 0 := by
      cases t with
      | nil => simp at ht
      | cons x r => cases x <;> rfl
    rw [madeP, hx]
    generalize t[0]?.getD false = x at *
    clear hx
    have hlt := hT.lt
    have HS := Lib.hid hS
    have HF := Lib.hid hS.lt
    rw [Nat.add_zero] at h0
    rw [Nat.pow_zero] at hc ⊢
    have HB0 := Lib.hid ((Below.refl w.heap.size w).alloc (Nat.le_refl _) (.cells #[.int .u8 0, .int .u32 0] 35))
    have HBK := Lib.hid (Blk.new w 35 #[.int .u8 0, .int .u32 0])
    clear ht hT hS hI
    have hEN0 := fun W => end13_any x (l : Int) W
    cases x
    all_goals
      have hEN := Lib.hid hEN0
      clear hEN0
      go_enter Try.func27, Try.ntmps27
      go_wp2_with fail
      refine (hEN.out _).mono ?_
      rintro e w1 ⟨rfl, hb1⟩
      have hB := HBK.out.on' hb1
      have n0 : w1.cell? ⟨w.heap.size, 0, none⟩ = some (.int .u8 0) := hB.cell 0
      have n1 : w1.cell? ⟨w.heap.size, 1, none⟩ = some (.int .u32 0) := hB.cell 1
      have z0 := hB.frozen 0
      have z1 := hB.frozen 1
      have hlt1 := hB.lt
      have HB1 := Lib.hid hb1
      simp only [Edg.cells]
      clear hb1 hB
      go_wp2_with fail
      refine bodyPost_ret (v := .tuple #[.agg #[_, _], .bool true]) ?_ rfl ⟨rfl, ?_⟩
      · simp [results, Try.results27, go_sem, edO, Edg.cells, Edg.nil, *]
      · exact store_turns_down HB0.out HF.out (turns_of_below (A := fun W X => StoreAt W X g n room (csOf true S) []) (HS.out.on (HB0.out.trans (HB1.out.mono HB0.out.size))) HB1.out) (chg2 _ w.heap.size _ _) (fun k hk => by simp at hk ⊢; omega)
  | succ k ih =>
    intro t l b off c F S w ht hl hk hc hT hI hS
    have hp : 2 ^ (k + 1) = 2 * 2 ^ k := by rw [Nat.pow_succ, Nat.mul_comm]
    have hm1 : 1 ≤ 2 ^ k := Nat.one_le_two_pow
    have hm2 : 2 ^ k ≤ 2 ^ 16 := Nat.pow_le_pow_right (by omega) (by omega)
    have hl1 : (t.take (2 ^ k)).length = 2 ^ k := by rw [List.length_take]; omega
    have hl2 : (t.drop (2 ^ k)).length = 2 ^ k := by rw [List.length_drop]; omega
    have m1 := madeP_spec (room := room) k (t.take (2 ^ k)) (l + 1) S hl1 (by omega) hI
    have m2 := madeP_spec (room := room) k (t.drop (2 ^ k)) (l + 1) _ hl2 (by omega) m1.inv
    have hno := fun h => madeP_no (z := true) (room := room) (k := k) (l := l) (t := t) (S := S) h
    have hyes := fun a b h1 h2 => madeP_yes (z := true) (room := room) (k := k) (l := l) (a := a) (b := b) (t := t) (S := S) h1 h2
    have hT1 : TabAt w F b off (t.take (2 ^ k)) := hT.take _
    have hT2 : TabAt w F b (off + 2 ^ k) (t.drop (2 ^ k)) := hT.drop _
    have IH1 := fun (W : World) (hW : Below w.heap.size w W) => ih (t.take (2 ^ k)) (l + 1) b off c F S W hl1 (by omega) (by omega) (by omega) (hT1.on hW) hI (hS.on hW)
    have IH2 := fun (F1 : List Nat) (W : World) (h1 : TabAt W F1 b (off + 2 ^ k) (t.drop (2 ^ k))) h2 => ih (t.drop (2 ^ k)) (l + 1) b (off + 2 ^ k) (c - 2 ^ k) F1 _ W hl2 (by omega) (by omega) (by omega) h1 m1.inv h2
    generalize madeP true room (k + 1) t l S = R at *
    rw [hp] at ht hc ⊢
    generalize madeP true room k (t.drop (2 ^ k)) (l + 1) (madeP true room k (t.take (2 ^ k)) (l + 1) S).2 = r2 at *
    generalize madeP true room k (t.take (2 ^ k)) (l + 1) S = r1 at *
    have hmk := fun a b h1 h2 => makeE_edO (z := true) (room := room) (l := l) hn (by omega) ((m1.yes a h1).2.mono m2.pre) (m2.yes b h2).2
    have hwa := fun a (hr : room ≤ 1048576) (hS : r1.2.length ≤ room) h1 => ((m1.yes a h1).2).wf hS hr
    have hwb := fun a (hr : room ≤ 1048576) (hS : r2.2.length ≤ room) h1 => ((m2.yes a h1).2).wf hS hr
    have hpre := m2.pre.length_le
    have HS := Lib.hid hS
    have HF := Lib.hid hS.lt
    have HR := Lib.hid hS.ok.room20
    generalize 2 ^ k = m at *
    have hcm : ¬ c = m := by omega
    have hcast : ((l + 1 : Nat) : Int) = (l : Int) + 1 := rfl
    rw [hcast] at IH1 IH2
    have H1 := Lib.hid IH1
    have H2 := Lib.hid IH2
    have HNO := Lib.hid hno
    have HYES := Lib.hid hyes
    have HMK := Lib.hid hmk
    have HT2 := Lib.hid hT2
    have HWA := Lib.hid hwa
    have HWB := Lib.hid hwb
    have HPR := Lib.hid hpre
    have HB0 := Lib.hid ((Below.refl w.heap.size w).alloc (Nat.le_refl _) (.cells #[.int .u8 0, .int .u32 0] 35))
    have HBK := Lib.hid (Blk.new w 35 #[.int .u8 0, .int .u32 0])
    have hh := half_of m
    have h2m : 2 * m - m = m := by omega
    clear IH1 IH2 hno hyes hmk hT hT1 hT2 hS hI m1 m2 ih hl1 hl2 ht hp hwa hwb hpre
    obtain ⟨oa, S1⟩ := r1
    obtain ⟨ob, S2⟩ := r2
    obtain ⟨ta, pa, hea⟩ : ∃ ta pa, edO oa = ⟨ta, pa⟩ := ⟨_, _, rfl⟩
    obtain ⟨tb, pb, heb⟩ : ∃ ta pa, edO ob = ⟨ta, pa⟩ := ⟨_, _, rfl⟩
    obtain ⟨sa, hsa⟩ : ∃ s, s = oa.isSome := ⟨_, rfl⟩
    obtain ⟨sb, hsb⟩ : ∃ s, s = ob.isSome := ⟨_, rfl⟩
    simp only [hea, heb, ← hsa, ← hsb, Edg.cells] at H1 H2
    have HEA := Lib.hid hea
    have HEB := Lib.hid heb
    have HSA := Lib.hid hsa
    have HSB := Lib.hid hsb
    clear hea heb hsa hsb
    go_enter Try.func27, Try.ntmps27
    go_wp2_with fail
    refine (H1.out _ HB0.out).mono ?_
    rintro e w1 ⟨rfl, hT1⟩
    obtain ⟨⟨F1, hS1, hF1⟩, hc1⟩ := hT1
    have hF1' : ∀ k ∈ F1, k ∈ F ∨ w.heap.size + 1 ≤ k := fun k hk => (hF1 k hk).imp id (fun h => by simpa using h)
    have hnF : ∀ G : List Nat, (∀ k ∈ G, k ∈ F ∨ w.heap.size + 1 ≤ k) → ¬ w.heap.size ∈ G := fun G hG hm => by
      rcases hG _ hm with h | h
      · have := HF.out _ h; omega
      · omega
    have hB1 := HBK.out.chg hc1 (hnF F (fun k hk => .inl hk))
    have hs1 := hc1.size
    rw [World.size_alloc] at hs1
    have HNF := Lib.hid hnF
    have HF1 := Lib.hid hF1'
    have HC1 := Lib.hid hc1
    have HS1 := Lib.hid hS1
    have HBB1 := Lib.hid hB1
    clear hF1 hF1' hnF hc1 hS1 hB1
    go_wp2_with fail
    refine (H2.out F1 _ (HT2.out.turn (((chg_of_below HB0.out).trans HC1.out (fun x hx => .inl hx)).alloc (.cells #[.int .u8 ta, .int .u32 pa] 35)) (fun k hk => (HF1.out k hk).imp id (fun h => by omega)))
      (HS1.out.on ((Below.refl _ _).alloc (Nat.le_refl _) (.cells #[.int .u8 ta, .int .u32 pa] 35)))).mono ?_
    rintro e w2 ⟨rfl, hT2⟩
    have HJ2 := Lib.hid (Turns.join (F := F) ((HC1.out).alloc (.cells #[.int .u8 ta, .int .u32 pa] 35)) (fun k hk => (HF1.out k hk).imp id (fun h => by rw [World.size_alloc]; omega)) hT2)
    obtain ⟨⟨F2, hS2, hF2⟩, hc2⟩ := hT2
    have hs2 := hc2.size
    rw [World.size_alloc] at hs2
    have hF2' : ∀ k ∈ F2, k ∈ F ∨ w.heap.size + 1 ≤ k := fun k hk => by
      rcases hF2 k hk with h | h
      · exact HF1.out k h
      · rw [World.size_alloc] at h; right; omega
    have hBa := (Blk.new w1 35 #[.int .u8 ta, .int .u32 pa]).chg hc2 (fun hm => by have := HS1.out.lt _ hm; omega)
    have hB2 := (HBB1.out.alloc (.cells #[.int .u8 ta, .int .u32 pa] 35)).chg hc2 (HNF.out F1 HF1.out)
    have n0 : w2.cell? ⟨w.heap.size, 0, none⟩ = some (.int .u8 0) := hB2.cell 0
    have n1 : w2.cell? ⟨w.heap.size, 1, none⟩ = some (.int .u32 0) := hB2.cell 1
    have z0 := hB2.frozen 0
    have z1 := hB2.frozen 1
    have hlt2 := hB2.lt
    have HF2 := Lib.hid hF2'
    have HS2 := Lib.hid hS2
    have HBB2 := Lib.hid hB2
    have HBA := Lib.hid hBa
    clear hF2 hF2' hc2 hS2 hB2 hBa
    have hfail : sa = false ∨ sb = false ∨ (sa = true ∧ sb = true) := by cases sa <;> cases sb <;> simp
    rcases hfail with rfl | rfl | ⟨rfl, rfl⟩
    · have HR0 : Hid (R = (none, S2)) := Lib.hid (HNO.out (.inl (by
        have := HSA.out
        cases oa with
        | none => rfl
        | some a => cases this)))
      go_wp2_with fail
      rw [HR0.out]
      refine bodyPost_ret (v := .tuple #[.agg (edO none).cells.toArray, .bool false]) ?_ rfl ⟨rfl, ?_⟩
      · simp [results, Try.results27, go_sem, edO, Edg.cells, Edg.nil, *]
      · exact store_turns_down HB0.out HF.out HJ2.out ((chg2 _ w.heap.size _ _).alloc _) (fun k hk => by simp at hk ⊢; omega)
    · have HR0 : Hid (R = (none, S2)) := Lib.hid (HNO.out (.inr (by
        have := HSB.out
        cases ob with
        | none => rfl
        | some a => cases this)))
      cases sa
      all_goals
        go_wp2_with fail
        rw [HR0.out]
        refine bodyPost_ret (v := .tuple #[.agg (edO none).cells.toArray, .bool false]) ?_ rfl ⟨rfl, ?_⟩
        · simp [results, Try.results27, go_sem, edO, Edg.cells, Edg.nil, *]
        · exact store_turns_down HB0.out HF.out HJ2.out ((chg2 _ w.heap.size _ _).alloc _) (fun k hk => by simp at hk ⊢; omega)
    · obtain ⟨a, rfl⟩ : ∃ a, oa = some a := by
        have := HSA.out
        cases oa with
        | none => cases this
        | some a => exact ⟨a, rfl⟩
      obtain ⟨b1, rfl⟩ : ∃ a, ob = some a := by
        have := HSB.out
        cases ob with
        | none => cases this
        | some a => exact ⟨a, rfl⟩
      have hE := HMK.out a b1 rfl rfl
      have hR := HYES.out a b1 rfl rfl
      rw [← hR] at hE
      have hSl := csOf_len_le HS2.out
      have hwa := HWA.out a HR.out (by have := HPR.out; omega) rfl
      have hwb := HWB.out b1 HR.out hSl rfl
      have e1 : (⟨0, (a : Int)⟩ : Edg) = ⟨ta, pa⟩ := HEA.out
      have e2 : (⟨0, (b1 : Int)⟩ : Edg) = ⟨tb, pb⟩ := HEB.out
      rw [e1] at hwa
      rw [e2] at hwb
      rw [e1, e2] at hE
      have HE := Lib.hid hE
      have HW1 := Lib.hid hwa
      have HW2 := Lib.hid hwb
      have a0 : w2.cell? ⟨w1.heap.size, 0, none⟩ = some (.int .u8 ta) := HBA.out.cell 0
      have a1 : w2.cell? ⟨w1.heap.size, 1, none⟩ = some (.int .u32 pa) := HBA.out.cell 1
      have hlt12 : w1.heap.size < w2.heap.size := by omega
      clear hE hR hSl hwa hwb e1 e2
      go_wp2_with fail
      refine (zmake_any F2 g n room _ l ⟨ta, pa⟩ ⟨tb, pb⟩ _ (HS2.out.on ((Below.refl _ _).alloc (Nat.le_refl _) (.cells #[.int .u8 tb, .int .u32 pb] 35))) HW1.out HW2.out).mono ?_
      rintro e w3 ⟨rfl, hT3⟩
      rw [HE.out] at hT3 ⊢
      have HJ3 := Lib.hid (Turns.join (F := F) ((HJ2.out.2).alloc (.cells #[.int .u8 tb, .int .u32 pb] 35)) (fun k hk => (HF2.out k hk).imp id (fun h => by rw [World.size_alloc]; omega)) hT3)
      have hB3 := (HBB2.out.alloc (.cells #[.int .u8 tb, .int .u32 pb] 35)).chg hT3.2 (HNF.out F2 HF2.out)
      have m0 : w3.cell? ⟨w.heap.size, 0, none⟩ = some (.int .u8 0) := hB3.cell 0
      have m1 : w3.cell? ⟨w.heap.size, 1, none⟩ = some (.int .u32 0) := hB3.cell 1
      have y0 := hB3.frozen 0
      have y1 := hB3.frozen 1
      have hlt3 := hB3.lt
      obtain ⟨o, S3⟩ := R
      clear hT3 hB3 n0 n1 z0 z1 a0 a1 hlt2
      cases o with
      | none =>
        simp only [edO, Edg.nil, Edg.cells, Option.isSome]
        go_wp2_with fail
        refine bodyPost_ret (v := .tuple #[.agg (edO none).cells.toArray, .bool false]) ?_ rfl ⟨rfl, ?_⟩
        · simp [results, Try.results27, go_sem, edO, Edg.cells, Edg.nil, *]
        · exact store_turns_down HB0.out HF.out HJ3.out ((chg2 _ w.heap.size _ _).alloc _) (fun k hk => by simp at hk ⊢; omega)
      | some v =>
        simp only [edO, Edg.nil, Edg.cells, Option.isSome]
        go_wp2_with fail
        refine bodyPost_ret (v := .tuple #[.agg (edO (some v)).cells.toArray, .bool true]) ?_ rfl ⟨rfl, ?_⟩
        · simp [results, Try.results27, go_sem, edO, Edg.cells, Edg.nil, *]
        · exact store_turns_down HB0.out HF.out HJ3.out ((chg2 _ w.heap.size _ _).alloc _) (fun k hk => by simp at hk ⊢; omega)
end Go.Proofs.Ytfcklfpgjadfmaa
