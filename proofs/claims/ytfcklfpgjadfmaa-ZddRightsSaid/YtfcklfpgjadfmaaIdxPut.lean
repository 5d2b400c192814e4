/- Contracts: index.New, Get, Put. -/
import Derived.Test.YtfcklfpgjadfmaaGrow
namespace Go.Proofs.Ytfcklfpgjadfmaa
open Go.RowKit
set_option linter.unusedSimpArgs false
set_option linter.unusedVariables false

/-- block g is an index in which m finds; k: how many keys -/
def IdxAt (w : World) (F : List Nat) (g : Nat) (m : Rec → Option Nat) (k : Nat) : Prop :=
  ∃ sl, SlotsAt w F g sl k ∧ (∃ q, 3 ≤ q ∧ q ≤ 22 ∧ sl.length = 2 ^ q) ∧ Tab hsh sl ∧ cnt sl = k ∧ 2 * k ≤ sl.length ∧ SlotsOk sl ∧ ∀ r id, m r = some id ↔ Look sl r id
theorem IdxAt.chg {w w' : World} {F G : List Nat} {g k : Nat} {m : Rec → Option Nat} (h : IdxAt w F g m k) (hb : Chg G w w') (hd : ∀ k ∈ F, ¬ k ∈ G) : IdxAt w' F g m k := by
  obtain ⟨sl, h1, h2⟩ := h
  exact ⟨sl, h1.chg hb hd, h2⟩
theorem IdxAt.lt {w : World} {F : List Nat} {g k : Nat} {m : Rec → Option Nat} (h : IdxAt w F g m k) : ∀ k ∈ F, k < w.heap.size := by
  obtain ⟨sl, h1, h2⟩ := h
  exact h1.lt
theorem IdxAt.on {w w' : World} {F : List Nat} {g k : Nat} {m : Rec → Option Nat} (h : IdxAt w F g m k) (hb : Below w.heap.size w w') : IdxAt w' F g m k := h.chg (G := []) (chg_of_below hb) (fun _ _ h => by cases h)

def upd (m : Rec → Option Nat) (r : Rec) (id : Nat) : Rec → Option Nat := fun r' => if r' = r then some id else m r'
theorem SlotsOk.set_ {sl : List (Option (Rec × Nat))} (h : SlotsOk sl) {r : Rec} {id p : Nat} (hr : r.Wf) (hid : id ≤ 4294967295) (hp : p < sl.length) : SlotsOk (sl.set p (some (r, id))) := fun i k id' ha => by
  rcases ha.of_set hp with ⟨_, rfl, rfl⟩ | ⟨_, ha⟩
  · exact ⟨hr, hid⟩
  · exact h i k id' ha
/-- behind a growth -/
theorem idx_grown {w w' : World} {g k : Nat} {m : Rec → Option Nat} {sl : List (Option (Rec × Nat))} (h : GrowRel w g 0 sl.length k sl sl.length w') (hq : ∃ q, 3 ≤ q ∧ q ≤ 21 ∧ sl.length = 2 ^ q) (hk : cnt sl = k) (hk2 : k ≤ sl.length) (hok : SlotsOk sl) (hm : ∀ r id, m r = some id ↔ Look sl r id) (hg : g < w.heap.size) :
    ∃ F', IdxAt w' F' g m k ∧ (∀ x ∈ F', x = g ∨ w.heap.size ≤ x) := by
  obtain ⟨b', c', new, hB, hO, hl, hM, hch⟩ := h
  have hge := hO.blk_ge b' (by simp [mem_blk, Value.ownBlock])
  refine ⟨[g, b'], ⟨new, ⟨_, 2 * sl.length, c', hB, hO.mono (Nat.zero_le _), hl, by simp [blk, Value.ownBlock], by simp; omega⟩, ?_, hM.tab, ?_, by omega, ?_, fun r id => ?_⟩, by simp; exact .inr hge⟩
  · obtain ⟨q, h3, h21, hq⟩ := hq
    exact ⟨q + 1, by omega, by omega, by rw [hl, hq, Nat.pow_succ]; omega⟩
  · rw [hM.cnt, List.take_length, hk]
  · intro i r id ha
    obtain ⟨i', _, ha'⟩ := (hM.look r id).1 ⟨i, ha⟩
    exact hok i' r id ha'
  · rw [hm, hM.all]
set_option maxRecDepth 100000 in
set_option maxHeartbeats 4000000 in
theorem idxPut_new (F : List Nat) (g k : Nat) (m : Rec → Option Nat) (r : Rec) (id : Nat) (w : World) (h : IdxAt w F g m k) (hm : m r = none) (hr : r.Wf) (hid : id ≤ 4294967295) (hk : k + 1 ≤ 1048576) :
    Calls Try.prog 77 #[.pointer (some ⟨g, 0, none⟩), .agg r.cells.toArray, .int .u32 id] w fun e w' => e = .returned (.tuple #[.int .u32 0, .bool false]) ∧ Turns (fun W X => IdxAt W X g (upd m r id) (k + 1)) F w w' := by
  obtain ⟨sl, hS, hq, ht, hcn, h2k, hok, hlook⟩ := h
  have hS0 := hS
  obtain ⟨A, n, c, hB, hO, hln, rfl, hnd⟩ := hS
  have hpos : 0 < sl.length := by obtain ⟨q, hq, _, h⟩ := hq; rw [h]; exact Nat.two_pow_pos q
  obtain ⟨b, c0, hv, _, hblt, hcl⟩ := OwnS.head hO hpos
  injection hv with e1 e2 e3
  subst e1
  subst e3
  have hlt := hB.lt
  have hbg : b ≠ g := by
    rintro rfl
    simp [blk, Value.ownBlock] at hnd
  have hn22 : n ≤ 4194304 := by
    obtain ⟨q, _, h22, h⟩ := hq
    have : 2 ^ q ≤ 2 ^ 22 := Nat.pow_le_pow_right (by omega) h22
    omega
  have hn8 : 8 ≤ n := by
    obtain ⟨q, h3, _, h⟩ := hq
    have : 2 ^ 3 ≤ 2 ^ q := Nat.pow_le_pow_right (by omega) h3
    omega
  have HN40 : Hid (∃ q, q ≤ 40 ∧ sl.length = 2 ^ q) := Lib.hid (by obtain ⟨q, _, h22, h⟩ := hq; exact ⟨q, by omega, h⟩)
  have HCN : Hid (cnt sl < sl.length) := Lib.hid (by omega)
  have hne : ¬ g = w.heap.size := by omega
  have hbne : ¬ b = w.heap.size := by omega
  have HS0 := Lib.hid hS0
  have HB := Lib.hid hB
  have HO := Lib.hid hO
  have HL := Lib.hid hln
  have HQ := Lib.hid hq
  have HTab := Lib.hid ht
  have HC := Lib.hid hcn
  have H2K : Hid (2 * k ≤ n) := Lib.hid (by omega)
  have HOK := Lib.hid hok
  have HLK := Lib.hid hlook
  have HM := Lib.hid hm
  have HR := Lib.hid hr
  obtain ⟨f, t, bt, ⟨lt, lp⟩, ⟨ht', hp'⟩⟩ := r
  simp only [Rec.cells]
  clear hS0 hB hO hln hq ht hcn h2k hok hlook hm hr e2 hnd hpos hcl
  go_enter Try.func77, Try.ntmps77
  go_wp2_with fail
  refine (find_any _ g k sl ⟨f, t, bt, ⟨lt, lp⟩, ⟨ht', hp'⟩⟩ _ (HS0.out.on ((Below.refl _ _).alloc (Nat.le_refl _) _)) HN40 HCN.out HR.out).mono ?_
  rintro e w1 ⟨⟨p, rfl, hst⟩, hb1⟩
  have HST := Lib.hid hst
  have hpn : p < n := by have := hst.1; rw [HL.out] at this; exact this
  have hnone : sl[p]? = some none := by
    rcases hst.2.2 with h1 | ⟨id2, h1⟩
    · exact h1
    · have := (HLK.out _ id2).2 ⟨p, h1⟩
      rw [HM.out] at this
      cases this
  have HNO := Lib.hid hnone
  have hbW : Below w.heap.size w w1 := ((Below.refl _ _).alloc (Nat.le_refl _) _).trans (hb1.mono (by simp))
  have hK : Blk w1 w.heap.size 73 #[.int .u8 f, .int .u8 t, .int .u8 bt, .int .u8 lt, .int .u32 lp, .int .u8 ht', .int .u32 hp'] := (Blk.new w _ _).on' hb1
  have hBW := HB.out.on' hbW
  have hOW := HO.out.chg (F := []) (chg_of_below hbW) (by simp)
  have hat := OwnS.at_ slotEnc_len hOW p none hnone
  have hTW : w1.there b (p * 9) 9 := hat.2
  have hxW : w1.cell? ⟨b, p * 9 + 8, none⟩ = some (.bool false) := hat.1 8 _ rfl
  have hcg0 : w1.cell? ⟨g, 0, none⟩ = some (.slice (some ⟨b, 0, none⟩) n c) := hBW.cell 0
  have hcg1 : w1.cell? ⟨g, 1, none⟩ = some (.int .i64 (k : Nat)) := hBW.cell 1
  have k0 := hK.cell 0
  have k1 := hK.cell 1
  have k2 := hK.cell 2
  have k3 := hK.cell 3
  have k4 := hK.cell 4
  have k5 := hK.cell 5
  have k6 := hK.cell 6
  have HBW := Lib.hid hBW
  have HOW := Lib.hid hOW
  have HTW := Lib.hid hTW
  have HbW := Lib.hid hbW
  clear hBW hTW hbW hb1 hK hst hnone hOW hat
  go_wp2_with fail
  go_still_tail 9, (by kernel_rfl)
  refine wpList_store_mid rfl 121 (.tmp 48) (.tmp 47) rfl b (p * 9) #[.int .u8 f, .int .u8 t, .int .u8 bt, .int .u8 lt, .int .u32 lp, .int .u8 ht', .int .u32 hp', .int .u32 id, .bool true] rfl rfl HTW.out slot_size (all_oneCell_toArray (slotEnc_one (some (⟨f, t, bt, ⟨lt, lp⟩, ⟨ht', hp'⟩⟩, id)))) ?_
  refine wpL_gen (fun W => Chg [g, b] w W ∧ Blk W g 107 #[.slice (some ⟨b, 0, none⟩) n c, .int .i64 (k : Nat)] ∧ OwnS 9 slotEnc 121 W 0 (.slice (some ⟨b, 0, none⟩) n c) (sl.set p (some (⟨f, t, bt, ⟨lt, lp⟩, ⟨ht', hp'⟩⟩, id)))) ⟨?_, ?_, ?_⟩ ?_
  · exact ((chg_of_below HbW.out).drew).setCells (.inl (by simp)) _ _
  · exact (setCells_other (fun e => hbg e.symm) _ _ _).trans HBW.out
  · exact OwnS.set_ slotEnc_len HOW.out p (by rw [HL.out]; exact hpn) (some (⟨f, t, bt, ⟨lt, lp⟩, ⟨ht', hp'⟩⟩, id))
  rintro W ⟨hch, hB2, hO2⟩
  have hcg0' : W.cell? ⟨g, 0, none⟩ = some (.slice (some ⟨b, 0, none⟩) n c) := hB2.cell 0
  have hcg1' : W.cell? ⟨g, 1, none⟩ = some (.int .i64 (k : Nat)) := hB2.cell 1
  have hfz : W.frozen? ⟨g, 1, none⟩ = false := hB2.frozen 1
  have HCH := Lib.hid hch
  have HB2 := Lib.hid hB2
  have HO2 := Lib.hid hO2
  have e1 : IntKind.i64.wrap ((k : Int) + 1) = (k : Int) + 1 := IntWalk.i64_in _ (by omega)
  have e2 : IntKind.i64.wrap (2 * ((k : Int) + 1)) = 2 * ((k : Int) + 1) := IntWalk.i64_in _ (by omega)
  have HPUT := Lib.hid (HTab.out.put hsh HST.out id)
  have HLP := Lib.hid (fun r2 id2 => Stops.look_put hsh HTab.out HST.out id r2 id2)
  have HCP := Lib.hid (cnt_set_none HST.out.1 HNO.out (⟨f, t, bt, ⟨lt, lp⟩, ⟨ht', hp'⟩⟩, id))
  have HOK2 := Lib.hid (HOK.out.set_ (p := p) HR.out hid (by rw [HL.out]; exact hpn))
  have HUPD : Hid (∀ r2 id2, upd m ⟨f, t, bt, ⟨lt, lp⟩, ⟨ht', hp'⟩⟩ id r2 = some id2 ↔ Look (sl.set p (some (⟨f, t, bt, ⟨lt, lp⟩, ⟨ht', hp'⟩⟩, id))) r2 id2) := Lib.hid fun r2 id2 => by
    rw [HLP.out r2 id2]
    unfold upd
    split
    · rename_i h
      constructor
      · intro h2; injection h2 with h2; exact .inl ⟨h, h2.symm⟩
      · rintro (⟨_, h2⟩ | ⟨h2, _⟩)
        · rw [h2]
        · exact absurd h h2
    · rename_i h
      rw [HLK.out]
      constructor
      · intro h2; exact .inr ⟨h, h2⟩
      · rintro (⟨h2, _⟩ | ⟨_, h2⟩)
        · exact absurd h2 h
        · exact h2
  clear hch hB2 hO2 hcg0 hcg1 hxW k0 k1 k2 k3 k4 k5 k6
  by_cases hsm : 2 * (k + 1) ≤ n
  · have hd : decide ((n : Int) < 2 * ((k : Int) + 1)) = false := by simp; omega
    go_wp2_with fail
    go_quiet (fail)
    go_wp2_with fail
    go_ret2
    refine ⟨rfl, ⟨[g, b], ⟨_, ⟨some ⟨b, 0, none⟩, n, c, HB2.out.set_ 1 (.int .i64 (k + 1)), HO2.out.chg (F := [g]) (((Chg.refl _ _).setCell (.inl (by simp)) _).drewN _) (by simp [mem_blk, Value.ownBlock, hbg]), by rw [List.length_set]; exact HL.out, by simp [blk, Value.ownBlock], by simp; exact fun e => hbg e.symm⟩, ?_, HPUT.out, by rw [HCP.out, HC.out], by rw [List.length_set, HL.out]; omega, HOK2.out, HUPD.out⟩, by simp [blk, Value.ownBlock]⟩, ?_⟩
    · rw [List.length_set]; exact HQ.out
    · have h1 := (HCH.out.setCell (p := ⟨g, 1, none⟩) (.inl (by simp)) (.int .i64 (k + 1))).drewN nq
      refine h1.mono (fun x hx => .inl ?_)
      simpa [blk, Value.ownBlock] using hx
  · have hd : decide ((n : Int) < 2 * ((k : Int) + 1)) = true := by simp; omega
    go_wp2_with fail
    go_quiet (fail)
    go_wp2_with fail
    have hnew : SlotsAt ((W.setCell ⟨g, 1, none⟩ (.int .i64 (k + 1))).drewN nq) [g, b] g (sl.set p (some (⟨f, t, bt, ⟨lt, lp⟩, ⟨ht', hp'⟩⟩, id))) (k + 1) :=
      ⟨some ⟨b, 0, none⟩, n, c, HB2.out.set_ 1 (.int .i64 (k + 1)), HO2.out.chg (F := [g]) (((Chg.refl _ _).setCell (.inl (by simp)) _).drewN _) (by simp [mem_blk, Value.ownBlock, hbg]), by rw [List.length_set]; exact HL.out, by simp [blk, Value.ownBlock], by simp; exact fun e => hbg e.symm⟩
    have HN39 : Hid (∃ q, q ≤ 39 ∧ (sl.set p (some (⟨f, t, bt, ⟨lt, lp⟩, ⟨ht', hp'⟩⟩, id))).length = 2 ^ q) := Lib.hid (by rw [List.length_set]; obtain ⟨q, _, h22, h⟩ := HQ.out; exact ⟨q, by omega, h⟩)
    have HQ21 : Hid (∃ q, 3 ≤ q ∧ q ≤ 21 ∧ (sl.set p (some (⟨f, t, bt, ⟨lt, lp⟩, ⟨ht', hp'⟩⟩, id))).length = 2 ^ q) := Lib.hid (by
      rw [List.length_set]
      obtain ⟨q, h3, h22, h⟩ := HQ.out
      refine ⟨q, h3, ?_, h⟩
      rcases Nat.lt_or_ge q 22 with h4 | h4
      · omega
      · have : q = 22 := by omega
        subst this
        have := HL.out
        omega)
    have h1 := (HCH.out.setCell (p := ⟨g, 1, none⟩) (.inl (by simp)) (.int .i64 (k + 1))).drewN nq
    have H1 := Lib.hid h1
    have HNEW := Lib.hid hnew
    have hg4 := grow_any [g, b] g (k + 1) _ _ hnew HN39 (by rw [List.length_set, HL.out]; exact hn22) HPUT.out HOK2.out
    have HG4 := Lib.hid hg4
    clear hg4 hnew h1
    refine HG4.out.mono ?_
    rintro e w4 ⟨rfl, hgr⟩
    have HGR := Lib.hid hgr
    clear hgr
    go_wp2_with fail
    go_ret2
    obtain ⟨F', hi, hF'⟩ := idx_grown HGR.out HQ21.out (by rw [HCP.out, HC.out]) (by rw [List.length_set, HL.out]; have := H2K.out; omega) HOK2.out HUPD.out (HNEW.out.lt g (by simp))
    obtain ⟨b', c', new, hB', hO', hl', hM', hch'⟩ := HGR.out
    have hsz := H1.out.size
    refine ⟨rfl, ⟨F', hi, fun x hx => ?_⟩, ?_⟩
    · rcases hF' x hx with rfl | h
      · exact .inl (by simp)
      · right; omega
    · refine (H1.out.trans hch' (fun x hx => .inl ?_)).mono (fun x hx => .inl ?_)
      · simp at hx; simp [hx]
      · simpa [blk, Value.ownBlock] using hx
end Go.Proofs.Ytfcklfpgjadfmaa
