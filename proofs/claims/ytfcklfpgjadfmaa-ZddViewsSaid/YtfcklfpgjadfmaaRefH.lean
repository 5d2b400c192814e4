/- Contract: the document's store's Has. -/
import Derived.Test.YtfcklfpgjadfmaaRefL
namespace Go.Proofs.Ytfcklfpgjadfmaa
open Go.RowKit Go.Sort
set_option linter.unusedSimpArgs false
set_option linter.unusedVariables false

theorem eql_rec (a b : Rec) (w : World) (x : Bool) (hx : decide (a = b) = x) : (binOp .eql 69 (.agg a.cells.toArray) (.agg b.cells.toArray)).run Try.prog w = .ok (.bool x) w := by
  obtain ⟨f, t, b0, ⟨lt, lp⟩, ⟨ht, hp⟩⟩ := a
  obtain ⟨f', t', b', ⟨lt', lp'⟩, ⟨ht', hp'⟩⟩ := b
  subst hx
  simp only [Rec.cells]
  by_cases hall : f = f' ∧ t = t' ∧ b0 = b' ∧ lt = lt' ∧ lp = lp' ∧ ht = ht' ∧ hp = hp'
  · obtain ⟨rfl, rfl, rfl, rfl, rfl, rfl, rfl⟩ := hall
    rw [decide_eq_true rfl]
    go_simp
  · rw [decide_eq_false (fun e => by
      injection e with e1 e2 e3 e4 e5
      injection e4 with e6 e7
      injection e5 with e8 e9
      exact hall ⟨e1, e2, e3, e6, e7, e8, e9⟩)]
    have H := Lib.hid hall
    clear hall
    go_simp
    intro q1 q2 q3 q4 q5 q6 q7
    exact H.out ⟨q1, q2, q3, q4, q5, q6, q7⟩
theorem idxOf_first {α : Type} [BEq α] [LawfulBEq α] : ∀ (l : List α) (k : Nat) (x : α), l[k]? = some x → (∀ j, j < k → l[j]? ≠ some x) → l.idxOf x = k
  | [], k, x, h, _ => by simp at h
  | y :: r, 0, x, h, _ => by simp at h; subst h; simp
  | y :: r, k + 1, x, h, ha => by
    have h0 := ha 0 (by omega)
    simp at h0
    rw [List.idxOf_cons, beq_eq_false_iff_ne.2 h0]
    simp only [cond_false]
    rw [idxOf_first r k x (by simpa using h) (fun j hj => by have := ha (j + 1) (by omega); simpa using this)]
theorem idOf_first {rs : List Rec} {k : Nat} {r : Rec} (h : rs[k]? = some r) (ha : ∀ j, j < k → rs[j]? ≠ some r) : idOf (rs.map some) r = some (k + 2) := by
  unfold idOf
  rw [if_pos (List.mem_map.2 ⟨r, List.mem_of_getElem? h, rfl⟩)]
  rw [idxOf_first (rs.map some) k (some r) (by rw [List.getElem?_map, h]; rfl) (fun j hj => by
    rw [List.getElem?_map]
    intro e
    cases hx : rs[j]? with
    | none => rw [hx] at e; cases e
    | some y =>
      rw [hx] at e
      injection e with e
      injection e with e
      exact ha j hj (by rw [hx, e]))]
theorem idOf_not {rs : List Rec} {r : Rec} (ha : ∀ j : Nat, j < rs.length → rs[j]? ≠ some r) : idOf (rs.map some) r = none := by
  unfold idOf
  rw [if_neg]
  intro hm
  obtain ⟨y, hy, e⟩ := List.mem_map.1 hm
  injection e with e
  subst e
  obtain ⟨j, hj⟩ := List.getElem?_of_mem hy
  exact ha j (List.getElem?_eq_some_iff.1 hj).1 hj
set_option maxRecDepth 100000 in
set_option maxHeartbeats 4000000 in
theorem refHas_any (F : List Nat) (g n room : Nat) (rs : List Rec) (r : Rec) (w : World) (h : RefAt w F g n room rs) (hlen : rs.length ≤ 1048576) :
    Calls Try.prog 78 #[.pointer (some ⟨g, 0, none⟩), .agg r.cells.toArray] w fun e w' => e = .returned (.int .u32 ((idOf (rs.map some) r).getD 0 : Nat)) ∧ Below w.heap.size w w' := by
  have HST := Lib.hid h
  obtain ⟨x, hx⟩ : ∃ x, x = (idOf (rs.map some) r).getD 0 := ⟨_, rfl⟩
  rw [← hx]
  have HX := Lib.hid hx
  have hEQ := fun (a : Rec) (W : World) (b : Bool) (hb : decide (a = r) = b) => eql_rec a r W b hb
  have HEQ := Lib.hid hEQ
  obtain ⟨f, t, b, ⟨lt, lp⟩, ⟨ht, hp⟩⟩ := r
  simp only [Rec.cells] at HEQ ⊢
  obtain ⟨W, hW⟩ : ∃ W, W = w.alloc (.cells #[.int .u8 f, .int .u8 t, .int .u8 b, .int .u8 lt, .int .u32 lp, .int .u8 ht, .int .u32 hp] 69) := ⟨_, rfl⟩
  have hbW : Below w.heap.size w W := by rw [hW]; exact (Below.refl _ _).alloc (Nat.le_refl _) _
  have hK : Blk W w.heap.size 69 #[.int .u8 f, .int .u8 t, .int .u8 b, .int .u8 lt, .int .u32 lp, .int .u8 ht, .int .u32 hp] := by rw [hW]; exact Blk.new w _ _
  obtain ⟨A, len, c, hB, hO, hl, hFe, hnd⟩ := HST.out.on hbW
  have HWW := Lib.hid hW
  have HbW := Lib.hid hbW
  have HK := Lib.hid hK
  have HB := Lib.hid hB
  have HO := Lib.hid hO
  have HL := Lib.hid hl
  rw [hl] at hlen
  clear h hbW hK hB hO hl hFe hnd hx hEQ
  go_enter Try.func78, Try.ntmps78
  go_wp2_with fail
  rw [← HWW.out]
  clear hW
  go_loopw [5] (fun s5 wr => Below W.heap.size W wr ∧ ∃ k : Nat, k ≤ len ∧ s5 = .int .i64 k ∧ ∀ j : Nat, j < k → rs[j]? ≠ some ⟨f, t, b, ⟨lt, lp⟩, ⟨ht, hp⟩⟩) (fun s5 _ => len - (intOf s5).toNat)
  case atStart => exact ⟨Below.refl _ _, 0, Nat.zero_le _, rfl, fun j hj => by omega⟩
  case round =>
    obtain ⟨hbr, k, hk, rfl, hall⟩ := hrel
    have HA := Lib.hid hall
    have hBr := HB.out.on' hbr
    have hKr := HK.out.on' hbr
    have hOr := HO.out.chg (F := []) (chg_of_below hbr) (by simp)
    have a2 : wr.cell? ⟨g, 0, none⟩ = some (.slice A len c) := hBr.cell 0
    have Hbr := Lib.hid hbr
    clear hall hBr hbr
    by_cases hkl : k < len
    · obtain ⟨r, hr⟩ : ∃ r, rs[k]? = some r := ⟨_, List.getElem?_eq_getElem (by rw [HL.out]; exact hkl)⟩
      obtain ⟨b9, c0, hv, _, hbl, hcl⟩ := OwnS.head hOr (by rw [nodesOf_len, HL.out]; omega)
      injection hv with e1 e2 e3
      subst e1
      subst e3
      have hat := (OwnS.at_ nodeEnc_len hOr k _ (nodesOf_get hr)).1
      have HR := Lib.hid hr
      have j0 := hKr.cell 0
      have j1 := hKr.cell 1
      have j2 := hKr.cell 2
      have j3 := hKr.cell 3
      have j4 := hKr.cell 4
      have j5 := hKr.cell 5
      have j6 := hKr.cell 6
      have hcast : ((k + 2 : Nat) : Int) = (k : Int) + 2 := by omega
      have ki : wr.cell? ⟨b9, k * 8, none⟩ = some (.int .u32 ((k : Int) + 2)) := by rw [← hcast]; exact hat 0 _ rfl
      by_cases he : r = ⟨f, t, b, ⟨lt, lp⟩, ⟨ht, hp⟩⟩
      · have hEQ := fun W0 => HEQ.out r W0 true (decide_eq_true he)
        have HID := idOf_first (by rw [hr, he]) HA.out
        have HXK : Hid (x = k + 2) := Lib.hid (by rw [HX.out, HID]; rfl)
        subst he
        have k0 : wr.cell? ⟨b9, k * 8 + 1, none⟩ = some (.int .u8 f) := hat 1 _ rfl
        have k1 : wr.cell? ⟨b9, k * 8 + 2, none⟩ = some (.int .u8 t) := hat 2 _ rfl
        have k2 : wr.cell? ⟨b9, k * 8 + 3, none⟩ = some (.int .u8 b) := hat 3 _ rfl
        have k3 : wr.cell? ⟨b9, k * 8 + 4, none⟩ = some (.int .u8 lt) := hat 4 _ rfl
        have k4 : wr.cell? ⟨b9, k * 8 + 5, none⟩ = some (.int .u32 lp) := hat 5 _ rfl
        have k5 : wr.cell? ⟨b9, k * 8 + 6, none⟩ = some (.int .u8 ht) := hat 6 _ rfl
        have k6 : wr.cell? ⟨b9, k * 8 + 7, none⟩ = some (.int .u32 hp) := hat 7 _ rfl
        simp only [Rec.cells] at hEQ
        clear HID hr hat hKr hOr hcl e2 hcast
        go_wp2_with fail
        go_quiet (fail)
        go_wp2_with fail
        go_ret
        exact ⟨ret_int (by rw [HXK.out]; omega), below_drewN (HbW.out.trans (Hbr.out.mono HbW.out.size)) _⟩
      · have hEQ := fun W0 => HEQ.out r W0 false (decide_eq_false he)
        have HNE := Lib.hid he
        obtain ⟨rf, rt, rb, ⟨rlt, rlp⟩, ⟨rht, rhp⟩⟩ := r
        have k0 : wr.cell? ⟨b9, k * 8 + 1, none⟩ = some (.int .u8 rf) := hat 1 _ rfl
        have k1 : wr.cell? ⟨b9, k * 8 + 2, none⟩ = some (.int .u8 rt) := hat 2 _ rfl
        have k2 : wr.cell? ⟨b9, k * 8 + 3, none⟩ = some (.int .u8 rb) := hat 3 _ rfl
        have k3 : wr.cell? ⟨b9, k * 8 + 4, none⟩ = some (.int .u8 rlt) := hat 4 _ rfl
        have k4 : wr.cell? ⟨b9, k * 8 + 5, none⟩ = some (.int .u32 rlp) := hat 5 _ rfl
        have k5 : wr.cell? ⟨b9, k * 8 + 6, none⟩ = some (.int .u8 rht) := hat 6 _ rfl
        have k6 : wr.cell? ⟨b9, k * 8 + 7, none⟩ = some (.int .u32 rhp) := hat 7 _ rfl
        simp only [Rec.cells] at hEQ
        clear he hr hat hKr hOr hcl e2 hcast
        go_wp2_with fail
        go_quiet (fail)
        go_wp2_with fail
        go_roundw
        case rel =>
          refine ⟨below_drewN Hbr.out _, k + 1, by omega, by go_num, fun j hj => ?_⟩
          rcases Nat.lt_or_ge j k with h | h
          · exact HA.out j h
          · obtain rfl : j = k := by omega
            rw [HR.out]
            intro e
            injection e with e
            exact HNE.out e
        case measure => simp [intOf]; omega
    · have hx0 : Hid (x = 0) := Lib.hid (by
        rw [HX.out, idOf_not (fun j hj => HA.out j (by rw [HL.out] at hj; omega))]; rfl)
      clear hKr hOr
      go_wp2_with fail
      go_ret
      exact ⟨ret_int (by rw [hx0.out]; rfl), HbW.out.trans (Hbr.out.mono HbW.out.size)⟩
end Go.Proofs.Ytfcklfpgjadfmaa
