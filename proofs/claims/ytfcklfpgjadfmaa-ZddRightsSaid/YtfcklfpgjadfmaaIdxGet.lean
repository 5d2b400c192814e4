/- Contracts: index.New, Get. -/
import Derived.Test.YtfcklfpgjadfmaaIdxPut
namespace Go.Proofs.Ytfcklfpgjadfmaa
open Go.RowKit
set_option linter.unusedSimpArgs false
set_option linter.unusedVariables false

set_option maxHeartbeats 1000000 in
theorem idxNew_any (w : World) :
    Calls Try.prog 47 #[] w fun e w' => (∃ g F, e = .returned (.pointer (some ⟨g, 0, none⟩)) ∧ IdxAt w' F g (fun _ => none) 0 ∧ (∀ k ∈ F, w.heap.size ≤ k)) ∧ Below w.heap.size w w' := by
  obtain ⟨i0, hi, hz0, hz1, hz2⟩ := info_parts info_slot
  have H1 : Hid (28 * 8 ≤ 281474976710656) := Lib.hid (by omega)
  have H2 : Hid (8 ≤ maxLen) := Lib.hid (by unfold maxLen; omega)
  go_enter Try.func47, Try.ntmps47
  go_wp2_with (refine wp_makeS (α := Option (Rec × Nat)) slotEnc_len (by decide) none Try.underlying105 hi hz0 hz1 hz2 rfl _ rfl (.const (.int .i64 8)) (.const (.int .i64 8)) rfl 8 8 8 rfl rfl (by simp) (by simp) H1.out H2.out ?_; intro w1 hown1 hbel1 hlt1; have HO1 := Lib.hid hown1; have HB1 := Lib.hid hbel1; clear hown1 hbel1)
  go_ret
  refine ⟨⟨w1.heap.size, [w1.heap.size, w.heap.size], rfl, ⟨List.replicate 8 none, ⟨_, 8, 8, Blk.new _ _ _, (HO1.out.alloc _).mono (Nat.zero_le _), rfl, by simp [blk, Value.ownBlock], by simp; omega⟩, ⟨3, by omega, by omega, rfl⟩, Tab.blank hsh 8, cnt_blank 8, by simp, ?_, ?_⟩, by simp; omega⟩, HB1.out.alloc HB1.out.size _⟩
  · intro i r id ha
    exact (look_blank 8 r id ⟨i, ha⟩).elim
  · intro r id
    simp only [reduceCtorEq, false_iff]
    exact look_blank 8 r id
/-- what Get tells -/
def getV (x : Option Nat) : Value := match x with | some id => .tuple #[.int .u32 id, .bool true] | none => .tuple #[.int .u32 0, .bool false]
theorem getEnd_t {x7 : Int} {x8 : Bool} (h : (!x8) = false) : Ending.returned (.tuple #[.int .u32 x7, .bool true]) = .returned (.tuple #[.int .u32 x7, .bool x8]) := by
  have : x8 = true := by simpa using h
  rw [this]
theorem getEnd_f {x7 : Int} {x8 : Bool} (h : (!x8) = true) (h7 : x8 = false → x7 = 0) : Ending.returned (.tuple #[.int .u32 0, .bool false]) = .returned (.tuple #[.int .u32 x7, .bool x8]) := by
  have : x8 = false := by simpa using h
  rw [this, h7 this]
theorem keepA (W : World) (o : Obj) : Below W.heap.size W (W.drew.alloc o) := (Below.refl _ _).drew.alloc (Nat.le_refl _) _
theorem keepB (W : World) (o : Obj) : Below W.heap.size W (W.alloc o).drew := ((Below.refl _ _).alloc (Nat.le_refl _) _).drew
theorem keepC {W w : World} {o : Obj} (h : Below W.heap.size W w) : Below W.heap.size W (w.alloc o) := h.alloc h.size _
theorem keep9' {W w : World} {v0 v1 v2 v3 v4 v5 v6 v7 v8 : Value} (h : Below W.heap.size W w) : Below W.heap.size W (((((((((w.setCell ⟨W.heap.size, 0, none⟩ v0).setCell ⟨W.heap.size, 1, none⟩ v1).setCell ⟨W.heap.size, 2, none⟩ v2).setCell ⟨W.heap.size, 3, none⟩ v3).setCell ⟨W.heap.size, 4, none⟩ v4).setCell ⟨W.heap.size, 5, none⟩ v5).setCell ⟨W.heap.size, 6, none⟩ v6).setCell ⟨W.heap.size, 7, none⟩ v7).setCell ⟨W.heap.size, 8, none⟩ v8) := by
  have hm : W.heap.size ≤ W.heap.size := Nat.le_refl _
  exact ((((((((h.setCell hm _).setCell hm _).setCell hm _).setCell hm _).setCell hm _).setCell hm _).setCell hm _).setCell hm _).setCell hm _
set_option maxRecDepth 100000 in
set_option maxHeartbeats 4000000 in
theorem idxGet_any (F : List Nat) (g k : Nat) (m : Rec → Option Nat) (r : Rec) (w : World) (h : IdxAt w F g m k) (hr : r.Wf) :
    Calls Try.prog 74 #[.pointer (some ⟨g, 0, none⟩), .agg r.cells.toArray] w fun e w' => e = .returned (getV (m r)) ∧ Below w.heap.size w w' := by
  obtain ⟨sl, hS, hq, ht, hcn, h2k, hok, hlook⟩ := h
  have hS0 := hS
  obtain ⟨A, n, c, hB, hO, hln, rfl, hnd⟩ := hS
  have hpos : 0 < sl.length := by obtain ⟨q, hq, _, h⟩ := hq; rw [h]; exact Nat.two_pow_pos q
  obtain ⟨b, c0, hv, _, hblt, hcl⟩ := OwnS.head hO hpos
  injection hv with e1 e2 e3
  subst e1
  subst e3
  have hlt := hB.lt
  have hn22 : n ≤ 4194304 := by
    obtain ⟨q, _, h22, h⟩ := hq
    have : 2 ^ q ≤ 2 ^ 22 := Nat.pow_le_pow_right (by omega) h22
    omega
  have HN40 : Hid (∃ q, q ≤ 40 ∧ sl.length = 2 ^ q) := Lib.hid (by obtain ⟨q, _, h22, h⟩ := hq; exact ⟨q, by omega, h⟩)
  have HCN : Hid (cnt sl < sl.length) := Lib.hid (by omega)
  have hne : ¬ g = w.heap.size := by omega
  have hbne : ¬ b = w.heap.size := by omega
  have HS0 := Lib.hid hS0
  have HB := Lib.hid hB
  have HO := Lib.hid hO
  have HL := Lib.hid hln
  have HTab := Lib.hid ht
  have HLK := Lib.hid hlook
  have HR := Lib.hid hr
  obtain ⟨f, t, bt, ⟨lt, lp⟩, ⟨ht', hp'⟩⟩ := r
  simp only [Rec.cells]
  obtain ⟨W, hW⟩ : ∃ W, W = w.alloc (.cells #[.int .u8 f, .int .u8 t, .int .u8 bt, .int .u8 lt, .int .u32 lp, .int .u8 ht', .int .u32 hp'] 73) := ⟨_, rfl⟩
  have hbW : Below w.heap.size w W := by rw [hW]; exact (Below.refl _ _).alloc (Nat.le_refl _) _
  have hK : Blk W w.heap.size 73 #[.int .u8 f, .int .u8 t, .int .u8 bt, .int .u8 lt, .int .u32 lp, .int .u8 ht', .int .u32 hp'] := by rw [hW]; exact Blk.new w _ _
  have hkW := hK.lt
  have hgW : g < W.heap.size := by have := hbW.size; omega
  have hb2W : b < W.heap.size := by have := hbW.size; omega
  have FACTS : Hid (∀ W', Below W.heap.size W W' → W'.cell? ⟨g, 0, none⟩ = some (.slice (some ⟨b, 0, none⟩) n c) ∧ W'.cell? ⟨w.heap.size, 0, none⟩ = some (.int .u8 f) ∧ W'.cell? ⟨w.heap.size, 1, none⟩ = some (.int .u8 t) ∧ W'.cell? ⟨w.heap.size, 2, none⟩ = some (.int .u8 bt) ∧ W'.cell? ⟨w.heap.size, 3, none⟩ = some (.int .u8 lt) ∧ W'.cell? ⟨w.heap.size, 4, none⟩ = some (.int .u32 lp) ∧ W'.cell? ⟨w.heap.size, 5, none⟩ = some (.int .u8 ht') ∧ W'.cell? ⟨w.heap.size, 6, none⟩ = some (.int .u32 hp')) := Lib.hid fun W' hW' =>
    ⟨(hW'.cell (p := ⟨g, 0, none⟩) hgW).trans ((hB.on' hbW).cell 0), (hW'.cell (p := ⟨w.heap.size, 0, none⟩) hkW).trans (hK.cell 0), (hW'.cell (p := ⟨w.heap.size, 1, none⟩) hkW).trans (hK.cell 1), (hW'.cell (p := ⟨w.heap.size, 2, none⟩) hkW).trans (hK.cell 2), (hW'.cell (p := ⟨w.heap.size, 3, none⟩) hkW).trans (hK.cell 3), (hW'.cell (p := ⟨w.heap.size, 4, none⟩) hkW).trans (hK.cell 4), (hW'.cell (p := ⟨w.heap.size, 5, none⟩) hkW).trans (hK.cell 5), (hW'.cell (p := ⟨w.heap.size, 6, none⟩) hkW).trans (hK.cell 6)⟩
  have HbW := Lib.hid hbW
  have HWW := Lib.hid hW
  obtain ⟨p, hst⟩ := stops_ex hsh ⟨f, t, bt, ⟨lt, lp⟩, ⟨ht', hp'⟩⟩ HCN.out
  have hFN : ∀ W', Below W.heap.size W W' → Calls Try.prog 85 #[.pointer (some ⟨g, 0, none⟩), .agg #[.int .u8 f, .int .u8 t, .int .u8 bt, .int .u8 lt, .int .u32 lp, .int .u8 ht', .int .u32 hp']] W' fun e w' => e = .returned (.int .i64 (p : Nat)) ∧ Below W.heap.size W w' ∧ Below W'.heap.size W' w' := fun W' hW' => (find_any _ g k sl ⟨f, t, bt, ⟨lt, lp⟩, ⟨ht', hp'⟩⟩ W' (hS0.on (hbW.trans (hW'.mono hbW.size))) HN40 HCN.out HR.out).mono fun e w' h => by
    obtain ⟨⟨p', h1, h2⟩, h3⟩ := h
    rw [h2.uniq hsh hst] at h1
    exact ⟨h1, hW'.trans (h3.mono hW'.size), h3⟩
  have hpn : p < n := by have := hst.1; omega
  have hp1 : (p : Int) < (n : Int) := by omega
  have HFN := Lib.hid hFN
  have hOW := hO.chg (F := []) (chg_of_below hbW) (by simp)
  obtain ⟨x, hx⟩ : ∃ x, sl[p]? = some x := ⟨_, List.getElem?_eq_getElem (by omega)⟩
  have SPOT : ∀ W', Below W.heap.size W W' → W'.rangeAt b (p * 9) (slotEnc x) := fun W' hW' => (OwnS.at_ slotEnc_len (hOW.chg (F := []) (chg_of_below hW') (by simp)) p x hx).1
  have hmx : getV (m ⟨f, t, bt, ⟨lt, lp⟩, ⟨ht', hp'⟩⟩) = getV (x.map (·.2)) := by
    cases x with
    | none =>
      cases hm : m ⟨f, t, bt, ⟨lt, lp⟩, ⟨ht', hp'⟩⟩ with
      | none => rfl
      | some id =>
        have := hst.none_look hsh ht hx id
        exact absurd ((hlook _ id).1 hm) this
    | some y =>
      obtain ⟨r', id⟩ := y
      rcases hst.2.2 with h1 | ⟨id2, h1⟩
      · rw [hx] at h1; cases h1
      · have := At.inj h1 hx
        obtain ⟨rfl, rfl⟩ := this
        have h2 := (hlook ⟨f, t, bt, ⟨lt, lp⟩, ⟨ht', hp'⟩⟩ id2).2 ⟨p, h1⟩
        rw [h2]
        rfl
  have HMX := Lib.hid hmx
  have hnw : ¬ b = W.heap.size := by omega
  have hgw : ¬ g = W.heap.size := by omega
  have hkw : ¬ w.heap.size = W.heap.size := by omega
  obtain ⟨x0, x1, x2, x3, x4, x5, x6, x7, x8, hxe, hxv, hx7⟩ : ∃ x0 x1 x2 x3 x4 x5 x6 x7 x8, slotEnc x = [.int .u8 x0, .int .u8 x1, .int .u8 x2, .int .u8 x3, .int .u32 x4, .int .u8 x5, .int .u32 x6, .int .u32 x7, .bool x8] ∧ getV (x.map (·.2)) = .tuple #[.int .u32 x7, .bool x8] ∧ (x8 = false → x7 = 0) := by
    cases x with
    | none => exact ⟨_, _, _, _, _, _, _, _, _, rfl, rfl, fun _ => rfl⟩
    | some y => obtain ⟨⟨_, _, _, ⟨_, _⟩, ⟨_, _⟩⟩, _⟩ := y; exact ⟨_, _, _, _, _, _, _, _, _, rfl, rfl, fun h => by cases h⟩
  rw [hxe] at SPOT
  have HXV := Lib.hid hxv
  have HX7 := Lib.hid hx7
  have FACTS2 : Hid (∀ W', Below W.heap.size W W' → W'.cell? ⟨g, 0, none⟩ = some (.slice (some ⟨b, 0, none⟩) n c) ∧ W'.cell? ⟨w.heap.size, 0, none⟩ = some (.int .u8 f) ∧ W'.cell? ⟨w.heap.size, 1, none⟩ = some (.int .u8 t) ∧ W'.cell? ⟨w.heap.size, 2, none⟩ = some (.int .u8 bt) ∧ W'.cell? ⟨w.heap.size, 3, none⟩ = some (.int .u8 lt) ∧ W'.cell? ⟨w.heap.size, 4, none⟩ = some (.int .u32 lp) ∧ W'.cell? ⟨w.heap.size, 5, none⟩ = some (.int .u8 ht') ∧ W'.cell? ⟨w.heap.size, 6, none⟩ = some (.int .u32 hp') ∧
      W'.cell? ⟨b, p * 9, none⟩ = some (.int .u8 x0) ∧ W'.cell? ⟨b, p * 9 + 1, none⟩ = some (.int .u8 x1) ∧ W'.cell? ⟨b, p * 9 + 2, none⟩ = some (.int .u8 x2) ∧ W'.cell? ⟨b, p * 9 + 3, none⟩ = some (.int .u8 x3) ∧ W'.cell? ⟨b, p * 9 + 4, none⟩ = some (.int .u32 x4) ∧ W'.cell? ⟨b, p * 9 + 5, none⟩ = some (.int .u8 x5) ∧ W'.cell? ⟨b, p * 9 + 6, none⟩ = some (.int .u32 x6) ∧ W'.cell? ⟨b, p * 9 + 7, none⟩ = some (.int .u32 x7) ∧ W'.cell? ⟨b, p * 9 + 8, none⟩ = some (.bool x8)) := Lib.hid fun W' hW' => by
    obtain ⟨q0, q1, q2, q3, q4, q5, q6, q7⟩ := FACTS.out W' hW'
    have hr := SPOT W' hW'
    exact ⟨q0, q1, q2, q3, q4, q5, q6, q7, hr 0 _ rfl, hr 1 _ rfl, hr 2 _ rfl, hr 3 _ rfl, hr 4 _ rfl, hr 5 _ rfl, hr 6 _ rfl, hr 7 _ rfl, hr 8 _ rfl⟩
  have NEWC : Hid (∀ w6, Below (W.drew.alloc (.cells (slotEnc none).toArray 121)).heap.size (W.drew.alloc (.cells (slotEnc none).toArray 121)) w6 → Blk w6 W.heap.size 121 (slotEnc none).toArray) := Lib.hid fun w6 h => (Blk.new W.drew _ _).on' h
  clear hS0 hB hO hln hq ht hcn h2k hok hlook hr e2 hnd hpos hcl hFN hOW hbW hK hst hx SPOT hmx hxe hxv hx7 FACTS
  go_enter Try.func74, Try.ntmps74
  go_wp2_with fail
  rw [← HWW.out]
  clear hW
  go_region_held3 (fun w' => w'.cell? ⟨g, 0, none⟩ = some (.slice (some ⟨b, 0, none⟩) n c) ∧ w'.cell? ⟨w.heap.size, 0, none⟩ = some (.int .u8 f) ∧ w'.cell? ⟨w.heap.size, 1, none⟩ = some (.int .u8 t) ∧ w'.cell? ⟨w.heap.size, 2, none⟩ = some (.int .u8 bt) ∧ w'.cell? ⟨w.heap.size, 3, none⟩ = some (.int .u8 lt) ∧ w'.cell? ⟨w.heap.size, 4, none⟩ = some (.int .u32 lp) ∧ w'.cell? ⟨w.heap.size, 5, none⟩ = some (.int .u8 ht') ∧ w'.cell? ⟨w.heap.size, 6, none⟩ = some (.int .u32 hp') ∧ w'.cell? ⟨b, p * 9, none⟩ = some (.int .u8 x0) ∧ w'.cell? ⟨b, p * 9 + 1, none⟩ = some (.int .u8 x1) ∧ w'.cell? ⟨b, p * 9 + 2, none⟩ = some (.int .u8 x2) ∧ w'.cell? ⟨b, p * 9 + 3, none⟩ = some (.int .u8 x3) ∧ w'.cell? ⟨b, p * 9 + 4, none⟩ = some (.int .u32 x4) ∧ w'.cell? ⟨b, p * 9 + 5, none⟩ = some (.int .u8 x5) ∧ w'.cell? ⟨b, p * 9 + 6, none⟩ = some (.int .u32 x6) ∧ w'.cell? ⟨b, p * 9 + 7, none⟩ = some (.int .u32 x7) ∧ w'.cell? ⟨b, p * 9 + 8, none⟩ = some (.bool x8)) ((refine FACTS2.out _ ?_; with_reducible (first | exact Below.refl _ _ | exact (Below.refl _ _).drew | exact hbel6 | exact keepA W _ | exact keepB W _ | exact keepC hbel6 | exact keep9' hbel6 | fail))) (first | (go_at_call 85; refine (HFN.out _ ?_).mono ?_; (with_reducible first | exact keepA W _ | exact keepB W _); rintro e w6 ⟨rfl, hbel6, hb6⟩; have HNB := Lib.hid (NEWC.out w6 hb6); clear hb6; have hkz : ¬ w.heap.size = W.heap.size := (by omega); have n0 : w6.cell? ⟨W.heap.size, 0, none⟩ = some (.int .u8 0) := HNB.out.cell 0; have n1 : w6.cell? ⟨W.heap.size, 1, none⟩ = some (.int .u8 0) := HNB.out.cell 1; have n2 : w6.cell? ⟨W.heap.size, 2, none⟩ = some (.int .u8 0) := HNB.out.cell 2; have n3 : w6.cell? ⟨W.heap.size, 3, none⟩ = some (.int .u8 0) := HNB.out.cell 3; have n4 : w6.cell? ⟨W.heap.size, 4, none⟩ = some (.int .u32 0) := HNB.out.cell 4; have n5 : w6.cell? ⟨W.heap.size, 5, none⟩ = some (.int .u8 0) := HNB.out.cell 5; have n6 : w6.cell? ⟨W.heap.size, 6, none⟩ = some (.int .u32 0) := HNB.out.cell 6; have n7 : w6.cell? ⟨W.heap.size, 7, none⟩ = some (.int .u32 0) := HNB.out.cell 7; have n8 : w6.cell? ⟨W.heap.size, 8, none⟩ = some (.bool false) := HNB.out.cell 8; have z0 := HNB.out.frozen 0; have z1 := HNB.out.frozen 1; have z2 := HNB.out.frozen 2; have z3 := HNB.out.frozen 3; have z4 := HNB.out.frozen 4; have z5 := HNB.out.frozen 5; have z6 := HNB.out.frozen 6; have z7 := HNB.out.frozen 7; have z8 := HNB.out.frozen 8) | (go_at_call 85; refine (HFN.out _ ?_).mono ?_; (with_reducible exact (Below.refl _ _).drew); rintro e w6 ⟨rfl, hbel6, hb6⟩; clear hb6; have hnb : ¬ b = w6.heap.size := (by have := hbel6.size; omega); have hng : ¬ g = w6.heap.size := (by have := hbel6.size; omega); have hnk : ¬ w.heap.size = w6.heap.size := (by have := hbel6.size; omega)) | fail)
  all_goals
    go_wp2_with fail
    all_goals
      rename_i h8
      go_ret2
      refine ⟨?_, ?_⟩
      · rw [HMX.out, HXV.out]
        first
          | (have h9 : (!x8) = false := h8; exact getEnd_t h9)
          | (have h9 : (!x8) = true := h8; exact getEnd_f h9 HX7.out)
      · with_reducible first
          | exact HbW.out.trans ((keepC hbel6).mono HbW.out.size)
          | exact HbW.out.trans ((keep9' hbel6).mono HbW.out.size)
          | exact HbW.out.trans (hbel6.mono HbW.out.size)
end Go.Proofs.Ytfcklfpgjadfmaa
