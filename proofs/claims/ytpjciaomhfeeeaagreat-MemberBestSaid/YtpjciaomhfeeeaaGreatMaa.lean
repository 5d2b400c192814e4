/- The document's store in memory; contract of At. Contract: the document's store's Leads. Contract: the document's store's Has. -/
import Derived.Test.YtpjciaomhfeeeaaGreatMz
import Derived.Test.YtpjciaomhfeeeaaGreatMy
section
namespace Go.Proofs.YtpjciaomhfeeeaaGreat
open Go.RowKit Go.Sort
set_option linter.unusedSimpArgs false
set_option linter.unusedVariables false

def nodeEnc (x : Int × Rec) : List Value := .int .u32 x.1 :: x.2.cells
theorem nodeEnc_len (x : Int × Rec) : (nodeEnc x).length = 8 := rfl
theorem nodeEnc_one (x : Int × Rec) : ∀ u ∈ nodeEnc x, u.oneCell' = true := by simp [nodeEnc, Rec.cells, Value.oneCell']
/-- nodes with their ids -/
def nodesOf (rs : List Rec) : List (Int × Rec) := rs.mapIdx (fun i r => (((i + 2 : Nat) : Int), r))
theorem nodesOf_len (rs : List Rec) : (nodesOf rs).length = rs.length := by unfold nodesOf; simp
theorem nodesOf_get {rs : List Rec} {i : Nat} {r : Rec} (h : rs[i]? = some r) : (nodesOf rs)[i]? = some (((i + 2 : Nat) : Int), r) := by unfold nodesOf; rw [List.getElem?_mapIdx, h]; rfl
theorem nodesOf_snoc (rs : List Rec) (r : Rec) : nodesOf (rs ++ [r]) = nodesOf rs ++ [(((rs.length + 2 : Nat) : Int), r)] := by unfold nodesOf; rw [List.mapIdx_concat]
/-- block g is the document's store -/
def RefAt (w : World) (F : List Nat) (g n room : Nat) (rs : List Rec) : Prop :=
  ∃ (A : Option Addr) (len c : Nat), Blk w g 58 #[.slice A len c, .slice none 0 0, .int .u32 (rs.length : Nat), .int .i64 (n : Nat), .int .i64 (room : Nat)] ∧
    OwnS 8 nodeEnc 91 w 0 (.slice A len c) (nodesOf rs) ∧ rs.length = len ∧ F = g :: blk (.slice A len c) ∧ F.Nodup
section
variable {w w' : World} {F G : List Nat} {g n room : Nat} {rs : List Rec}
theorem RefAt.chg (h : RefAt w F g n room rs) (hb : Chg G w w') (hd : ∀ k ∈ F, ¬ k ∈ G) : RefAt w' F g n room rs := by
  obtain ⟨A, len, c, h1, h2, h3, rfl, h5⟩ := h
  exact ⟨A, len, c, h1.chg hb (hd g (by simp)), h2.chg hb (fun k hk => hd k (by simp [hk])), h3, rfl, h5⟩
theorem RefAt.on (h : RefAt w F g n room rs) (hb : Below w.heap.size w w') : RefAt w' F g n room rs := h.chg (G := []) (chg_of_below hb) (fun _ _ h => by cases h)
theorem RefAt.lt (h : RefAt w F g n room rs) : ∀ k ∈ F, k < w.heap.size := by
  obtain ⟨A, len, c, h1, h2, h3, rfl, h5⟩ := h
  intro k hk
  rcases List.mem_cons.1 hk with rfl | hk
  · exact h1.lt
  · exact OwnS.blk_lt h2 k hk
end
/-- the place of an id -/
def plcOf (len : Nat) (id : Int) : Int := if 2 ≤ id ∧ id < (len : Int) + 2 then id - 2 else -1
set_option maxHeartbeats 1000000 in
theorem refAt_any (F : List Nat) (g n room : Nat) (rs : List Rec) (id : Int) (w : World) (h : RefAt w F g n room rs) (h0 : 0 ≤ id) (h1 : id ≤ 4294967295) (hlen : rs.length ≤ 1048576) :
    Calls Tryz.prog 58 #[.pointer (some ⟨g, 0, none⟩), .int .u32 id] w fun e w' => e = .returned (.int .i64 (plcOf rs.length id)) ∧ w = w' := by
  obtain ⟨A, len, c, hB, hO, hl, rfl, hnd⟩ := h
  have hc0 : w.cell? ⟨g, 0, none⟩ = some (.slice A len c) := hB.cell 0
  have HL := Lib.hid hl
  have HO := Lib.hid hO
  rw [hl] at hlen
  rw [HL.out]
  clear hB hO hl hnd
  go_enter Tryz.func58, Tryz.ntmps58
  go_wp2_with fail
  go_loop [5] (fun s5 => ∃ k : Nat, k ≤ len ∧ s5 = .int .i64 k ∧ ∀ j : Nat, j < k → ¬ (j : Int) + 2 = id) (fun s5 => len - (intOf s5).toNat)
  case atStart => exact ⟨0, Nat.zero_le _, rfl, fun j hj => by omega⟩
  case round =>
    obtain ⟨k, hk, rfl, hall⟩ := hrel
    have HA := Lib.hid hall
    clear hall
    by_cases hkl : k < len
    · obtain ⟨r, hr⟩ : ∃ r, rs[k]? = some r := ⟨_, List.getElem?_eq_getElem (by rw [HL.out]; exact hkl)⟩
      obtain ⟨b, c0, hv, _, hbl, hcl⟩ := OwnS.head HO.out (by rw [nodesOf_len, HL.out]; omega)
      injection hv with e1 e2 e3
      subst e1
      subst e3
      have hid : w.cell? ⟨b, k * 8, none⟩ = some (.int .u32 ((k + 2 : Nat) : Int)) := (OwnS.at_ nodeEnc_len HO.out k _ (nodesOf_get hr)).1 0 _ rfl
      have hcast : ((k + 2 : Nat) : Int) = (k : Int) + 2 := by omega
      rw [hcast] at hid
      clear hcast hr e2 hcl
      by_cases he : (k : Int) + 2 = id
      · have HE := Lib.hid he
        have hb : ((k : Int) + 2 == id) = true := by simpa using he
        clear he
        go_wp2_with fail
        go_ret
        refine ⟨?_, rfl⟩
        have : plcOf len id = (k : Int) := by unfold plcOf; rw [if_pos (by have := HE.out; omega)]; have := HE.out; omega
        rw [this]; rfl
      · have HE := Lib.hid he
        have hb : ((k : Int) + 2 == id) = false := by simpa using he
        clear he
        go_wp2_with fail
        go_round
        case rel =>
          refine ⟨k + 1, by omega, by go_num, fun j hj => ?_⟩
          rcases Nat.lt_or_ge j k with h | h
          · exact HA.out j h
          · obtain rfl : j = k := by omega
            exact HE.out
        case measure => simp [intOf]; omega
    · have HP : Hid (plcOf len id = -1) := Lib.hid (by
        unfold plcOf
        rw [if_neg]
        rintro ⟨h2, h3⟩
        exact HA.out (id - 2).toNat (by omega) (by omega))
      go_wp2_with fail
      go_ret
      exact ⟨by rw [HP.out]; rfl, rfl⟩
theorem recAt_map (rs : List Rec) (id : Int) : recAt (rs.map some) id = if 2 ≤ id ∧ id < (rs.length : Int) + 2 then rs[(id - 2).toNat]? else none := by
  unfold recAt
  split
  · rename_i h
    rw [List.getElem?_map]
    split
    · cases rs[(id - 2).toNat]? <;> rfl
    · rw [List.getElem?_eq_none (by omega)]; rfl
  · rw [if_neg (by omega)]
end Go.Proofs.YtpjciaomhfeeeaaGreat
end

section
namespace Go.Proofs.YtpjciaomhfeeeaaGreat
open Go.RowKit Go.Sort
set_option linter.unusedSimpArgs false
set_option linter.unusedVariables false

set_option maxRecDepth 100000 in
set_option maxHeartbeats 4000000 in
theorem refLeads_any (F : List Nat) (g n room : Nat) (rs : List Rec) (f : Int) (e : Edg) (l : Int) (w : World) (h : RefAt w F g n room rs) (hf : 0 ≤ f ∧ f ≤ 255) (he : e.Wf) (hlen : rs.length ≤ 1048576) (hwf : ∀ r ∈ rs, r.Wf) :
    Calls Tryz.prog 27 #[.pointer (some ⟨g, 0, none⟩), .int .u8 f, .agg e.cells.toArray, .int .i64 l] w fun r w' => r = .returned (.bool (leads (rs.map some) n f e l)) ∧ Below w.heap.size w w' := by
  have HST := Lib.hid h
  have HE := Lib.hid he
  have HWF := Lib.hid hwf
  obtain ⟨t, p⟩ := e
  obtain ⟨e1, e2, e3, e4⟩ := he
  obtain ⟨f1, f2⟩ := hf
  simp only [Edg.cells] at e1 e2 e3 e4 ⊢
  obtain ⟨W, hW⟩ : ∃ W, W = w.alloc (.cells #[.int .u8 t, .int .u32 p] 26) := ⟨_, rfl⟩
  have hbW : Below w.heap.size w W := by rw [hW]; exact (Below.refl _ _).alloc (Nat.le_refl _) _
  have hK : Blk W w.heap.size 26 #[.int .u8 t, .int .u32 p] := by rw [hW]; exact Blk.new w _ _
  have HSW := Lib.hid (HST.out.on hbW)
  obtain ⟨A, len, c, hB, hO, hl, hFe, hnd⟩ := HSW.out
  have j0 : ∀ d os, (grow (redrawn W d) os).cell? ⟨g, 3, none⟩ = some (.int .i64 (n : Nat)) := fun d os => cell_regrown (hB.cell 3) d os
  have j1 : ∀ d os, (grow (redrawn W d) os).cell? ⟨w.heap.size, 0, none⟩ = some (.int .u8 t) := fun d os => cell_regrown (hK.cell 0) d os
  have j2 : ∀ d os, (grow (redrawn W d) os).cell? ⟨w.heap.size, 1, none⟩ = some (.int .u32 p) := fun d os => cell_regrown (hK.cell 1) d os
  have cPL := regrown_calls (W := W) (fun W' hW' => (refPlain_any f ⟨t, p⟩ l n W' ⟨f1, f2⟩ HE.out).mono fun _ _ ⟨q1, q2⟩ => ⟨q1, hW'.trans (q2.mono hW'.size)⟩)
  simp only [Edg.cells] at cPL
  have HWW := Lib.hid hW
  have HbW := Lib.hid hbW
  have HK := Lib.hid hK
  have HB := Lib.hid hB
  have HO := Lib.hid hO
  have HL := Lib.hid hl
  clear h hbW hK hB hO hl hFe hnd hwf
  cases hp : plain f ⟨t, p⟩ l n  
  · have HR : Hid (leads (rs.map some) n f ⟨t, p⟩ l = false) := Lib.hid (leads_no hp)
    rw [hp] at cPL
    clear hp
    go_enter Tryz.func27, Tryz.ntmps27
    go_wp2_with fail
    rw [← HWW.out]
    clear hW
    refine wp_region_quiet_below (by kernel_rfl) (by kernel_rfl) ?_
    repeat (first | go_big_quiet_step ((first | with_reducible exact cPL _ _ | fail)) | quiet_step ((first | with_reducible exact cPL _ _ | fail)))
    refine wpQuiet_nil ?_
    intro w6 hw'
    have hbel6 : Below W.heap.size W w6 := regrown_below hw'
    clear hw'
    clear cPL j0 j1 j2
    go_wp2_with fail
    go_ret
    exact ⟨by rw [HR.out]; rfl, HbW.out.trans (hbel6.mono HbW.out.size)⟩
  · have HP := Lib.hid hp
    rw [hp] at cPL
    clear hp
    go_enter Tryz.func27, Tryz.ntmps27
    go_wp2_with fail
    rw [← HWW.out]
    clear hW
    refine wp_region_quiet_below (by kernel_rfl) (by kernel_rfl) ?_
    repeat (first | go_big_quiet_step ((first | with_reducible exact cPL _ _ | fail)) | quiet_step ((first | with_reducible exact cPL _ _ | fail)))
    refine wpQuiet_nil ?_
    intro w6 hw'
    have hbel6 : Below W.heap.size W w6 := regrown_below hw'
    clear hw'
    clear cPL j0 j1 j2
    have a0 : w6.cell? ⟨w.heap.size, 0, none⟩ = some (.int .u8 t) := (HK.out.on' hbel6).cell 0
    have a1 : w6.cell? ⟨w.heap.size, 1, none⟩ = some (.int .u32 p) := (HK.out.on' hbel6).cell 1
    have hb6 := HB.out.on' hbel6
    have a2 : w6.cell? ⟨g, 0, none⟩ = some (.slice A len c) := hb6.cell 0
    have hO6 := HO.out.chg (F := []) (chg_of_below hbel6) (by simp)
    have hbx : w.heap.size < w6.heap.size := (HK.out.on' hbel6).lt
    have HO6 := Lib.hid hO6
    have HREF := Lib.hid (HSW.out.on hbel6)
    clear hb6 hO6
    go_wp2_with fail
    refine (refAt_any F g n room rs p _ HREF.out e3 e4 hlen).mono ?_
    rintro e w' ⟨rfl, rfl⟩
    by_cases h2 : p < 2
    · have HR : Hid (leads (rs.map some) n f ⟨t, p⟩ l = true) := Lib.hid (leads_low HP.out h2)
      generalize plcOf rs.length p = q
      go_wp2_with fail
      go_ret
      exact ⟨by rw [HR.out]; simp [h2], HbW.out.trans (hbel6.mono HbW.out.size)⟩
    · by_cases h3 : p < (len : Int) + 2
      · have hq : plcOf rs.length p = p - 2 := by unfold plcOf; rw [if_pos (by have := HL.out; omega)]
        rw [hq]
        obtain ⟨k, hk⟩ := Int.eq_ofNat_of_zero_le (show 0 ≤ p - 2 by omega)
        obtain ⟨r, hr⟩ : ∃ r, rs[k]? = some r := ⟨_, List.getElem?_eq_getElem (by have := HL.out; omega)⟩
        have hrc : recAt (rs.map some) p = some r := by rw [recAt_map, if_pos (by have := HL.out; omega), hk, Int.toNat_natCast, hr]
        have HR := Lib.hid (leads_some HP.out h2 hrc)
        have hrw := HWF.out r (List.mem_of_getElem? hr)
        obtain ⟨b, c0, hv, _, hbl, hcl⟩ := OwnS.head HO6.out (by rw [nodesOf_len]; have := (List.getElem?_eq_some_iff.1 hr).1; omega)
        injection hv with v1 v2 v3
        subst v1
        subst v3
        have hat := (OwnS.at_ nodeEnc_len HO6.out k _ (nodesOf_get hr)).1
        obtain ⟨rf, rt, rb, ⟨rlt, rlp⟩, ⟨rht, rhp⟩⟩ := r
        obtain ⟨⟨w1, w2⟩, ⟨w3, w4⟩, _, _, _⟩ := hrw
        simp only at w1 w2 w3 w4
        have k0 : w6.cell? ⟨b, k * 8 + 1, none⟩ = some (.int .u8 rf) := hat 1 _ rfl
        have k1 : w6.cell? ⟨b, k * 8 + 2, none⟩ = some (.int .u8 rt) := hat 2 _ rfl
        have k2 : w6.cell? ⟨b, k * 8 + 3, none⟩ = some (.int .u8 rb) := hat 3 _ rfl
        have k3 : w6.cell? ⟨b, k * 8 + 4, none⟩ = some (.int .u8 rlt) := hat 4 _ rfl
        have k4 : w6.cell? ⟨b, k * 8 + 5, none⟩ = some (.int .u32 rlp) := hat 5 _ rfl
        have k5 : w6.cell? ⟨b, k * 8 + 6, none⟩ = some (.int .u8 rht) := hat 6 _ rfl
        have k6 : w6.cell? ⟨b, k * 8 + 7, none⟩ = some (.int .u32 rhp) := hat 7 _ rfl
        rw [hk]
        have hkl : k < len := by omega
        have HKE := Lib.hid hk
        clear hq hk hat hr hrc v2 hcl
        by_cases g1 : rf = f
        · have hx1 : (rf == f) = true := by simpa using g1
          by_cases g2 : l ≤ rt
          · have hx2 : decide (l ≤ rt) = true := by simpa using g2
            by_cases g3 : t ≤ rt
            · have hx3 : decide (t ≤ rt) = true := by simpa using g3
              clear g1 g2 g3
              go_wp2_with fail
              go_ret
              exact ⟨by rw [HR.out, hx1, hx2, hx3]; rfl, HbW.out.trans (Below.mono (B' := w.heap.size) (keepC hbel6) HbW.out.size)⟩
            · have hx3 : decide (t ≤ rt) = false := by simpa using g3
              clear g1 g2 g3
              go_wp2_with fail
              go_ret
              exact ⟨by rw [HR.out, hx1, hx2, hx3]; rfl, HbW.out.trans (Below.mono (B' := w.heap.size) (keepC hbel6) HbW.out.size)⟩
          · have hx2 : decide (l ≤ rt) = false := by simpa using g2
            clear g1 g2
            go_wp2_with fail
            go_ret
            exact ⟨by rw [HR.out, hx1, hx2]; rfl, HbW.out.trans (Below.mono (B' := w.heap.size) (keepC hbel6) HbW.out.size)⟩
        · have hx1 : (rf == f) = false := by simpa using g1
          clear g1
          go_wp2_with fail
          go_ret
          exact ⟨by rw [HR.out, hx1]; rfl, HbW.out.trans (Below.mono (B' := w.heap.size) (keepC hbel6) HbW.out.size)⟩
      · have hq : plcOf rs.length p = -1 := by unfold plcOf; rw [if_neg (by have := HL.out; omega)]
        have HR : Hid (leads (rs.map some) n f ⟨t, p⟩ l = false) := Lib.hid (leads_none HP.out h2 (by show recAt (rs.map some) p = none; rw [recAt_map, if_neg (by have := HL.out; omega)]))
        rw [hq]
        clear hq
        go_wp2_with fail
        go_ret
        exact ⟨by rw [HR.out]; simp [h2], HbW.out.trans (hbel6.mono HbW.out.size)⟩
end Go.Proofs.YtpjciaomhfeeeaaGreat
end

section
namespace Go.Proofs.YtpjciaomhfeeeaaGreat
open Go.RowKit Go.Sort
set_option linter.unusedSimpArgs false
set_option linter.unusedVariables false

theorem eql_rec (a b : Rec) (w : World) (x : Bool) (hx : decide (a = b) = x) : (binOp .eql 62 (.agg a.cells.toArray) (.agg b.cells.toArray)).run Tryz.prog w = .ok (.bool x) w := by
  obtain ⟨f, t, b0, ⟨lt, lp⟩, ⟨ht, hp⟩⟩ := a
  obtain ⟨f', t', b', ⟨lt', lp'⟩, ⟨ht', hp'⟩⟩ := b
  subst hx
  simp only [Rec.cells]
  by_cases hall : f = f' ∧ t = t' ∧ b0 = b' ∧ lt = lt' ∧ lp = lp' ∧ ht = ht' ∧ hp = hp'
  · obtain ⟨rfl, rfl, rfl, rfl, rfl, rfl, rfl⟩ := hall
    rw [decide_eq_true rfl]
    go_simp
  · rw [decide_eq_false (fun e => by
      injection e with e1 e2 e3 e4 e5
      injection e4 with e6 e7
      injection e5 with e8 e9
      exact hall ⟨e1, e2, e3, e6, e7, e8, e9⟩)]
    have H := Lib.hid hall
    clear hall
    go_simp
    intro q1 q2 q3 q4 q5 q6 q7
    exact H.out ⟨q1, q2, q3, q4, q5, q6, q7⟩
theorem idxOf_first {α : Type} [BEq α] [LawfulBEq α] : ∀ (l : List α) (k : Nat) (x : α), l[k]? = some x → (∀ j, j < k → l[j]? ≠ some x) → l.idxOf x = k
  | [], k, x, h, _ => by simp at h
  | y :: r, 0, x, h, _ => by simp at h; subst h; simp
  | y :: r, k + 1, x, h, ha => by
    have h0 := ha 0 (by omega)
    simp at h0
    rw [List.idxOf_cons, beq_eq_false_iff_ne.2 h0]
    simp only [cond_false]
    rw [idxOf_first r k x (by simpa using h) (fun j hj => by have := ha (j + 1) (by omega); simpa using this)]
theorem idOf_first {rs : List Rec} {k : Nat} {r : Rec} (h : rs[k]? = some r) (ha : ∀ j, j < k → rs[j]? ≠ some r) : idOf (rs.map some) r = some (k + 2) := by
  unfold idOf
  rw [if_pos (List.mem_map.2 ⟨r, List.mem_of_getElem? h, rfl⟩)]
  rw [idxOf_first (rs.map some) k (some r) (by rw [List.getElem?_map, h]; rfl) (fun j hj => by
    rw [List.getElem?_map]
    intro e
    cases hx : rs[j]? with
    | none => rw [hx] at e; cases e
    | some y =>
      rw [hx] at e
      injection e with e
      injection e with e
      exact ha j hj (by rw [hx, e]))]
theorem idOf_not {rs : List Rec} {r : Rec} (ha : ∀ j : Nat, j < rs.length → rs[j]? ≠ some r) : idOf (rs.map some) r = none := by
  unfold idOf
  rw [if_neg]
  intro hm
  obtain ⟨y, hy, e⟩ := List.mem_map.1 hm
  injection e with e
  subst e
  obtain ⟨j, hj⟩ := List.getElem?_of_mem hy
  exact ha j (List.getElem?_eq_some_iff.1 hj).1 hj
set_option maxRecDepth 100000 in
set_option maxHeartbeats 4000000 in
theorem refHas_any (F : List Nat) (g n room : Nat) (rs : List Rec) (r : Rec) (w : World) (h : RefAt w F g n room rs) (hlen : rs.length ≤ 1048576) :
    Calls Tryz.prog 47 #[.pointer (some ⟨g, 0, none⟩), .agg r.cells.toArray] w fun e w' => e = .returned (.int .u32 ((idOf (rs.map some) r).getD 0 : Nat)) ∧ Below w.heap.size w w' := by
  have HST := Lib.hid h
  obtain ⟨x, hx⟩ : ∃ x, x = (idOf (rs.map some) r).getD 0 := ⟨_, rfl⟩
  rw [← hx]
  have HX := Lib.hid hx
  have hEQ := fun (a : Rec) (W : World) (b : Bool) (hb : decide (a = r) = b) => eql_rec a r W b hb
  have HEQ := Lib.hid hEQ
  obtain ⟨f, t, b, ⟨lt, lp⟩, ⟨ht, hp⟩⟩ := r
  simp only [Rec.cells] at HEQ ⊢
  obtain ⟨W, hW⟩ : ∃ W, W = w.alloc (.cells #[.int .u8 f, .int .u8 t, .int .u8 b, .int .u8 lt, .int .u32 lp, .int .u8 ht, .int .u32 hp] 62) := ⟨_, rfl⟩
  have hbW : Below w.heap.size w W := by rw [hW]; exact (Below.refl _ _).alloc (Nat.le_refl _) _
  have hK : Blk W w.heap.size 62 #[.int .u8 f, .int .u8 t, .int .u8 b, .int .u8 lt, .int .u32 lp, .int .u8 ht, .int .u32 hp] := by rw [hW]; exact Blk.new w _ _
  obtain ⟨A, len, c, hB, hO, hl, hFe, hnd⟩ := HST.out.on hbW
  have HWW := Lib.hid hW
  have HbW := Lib.hid hbW
  have HK := Lib.hid hK
  have HB := Lib.hid hB
  have HO := Lib.hid hO
  have HL := Lib.hid hl
  rw [hl] at hlen
  clear h hbW hK hB hO hl hFe hnd hx hEQ
  go_enter Tryz.func47, Tryz.ntmps47
  go_wp2_with fail
  rw [← HWW.out]
  clear hW
  go_loopw [5] (fun s5 wr => Below W.heap.size W wr ∧ ∃ k : Nat, k ≤ len ∧ s5 = .int .i64 k ∧ ∀ j : Nat, j < k → rs[j]? ≠ some ⟨f, t, b, ⟨lt, lp⟩, ⟨ht, hp⟩⟩) (fun s5 _ => len - (intOf s5).toNat)
  case atStart => exact ⟨Below.refl _ _, 0, Nat.zero_le _, rfl, fun j hj => by omega⟩
  case round =>
    obtain ⟨hbr, k, hk, rfl, hall⟩ := hrel
    have HA := Lib.hid hall
    have hBr := HB.out.on' hbr
    have hKr := HK.out.on' hbr
    have hOr := HO.out.chg (F := []) (chg_of_below hbr) (by simp)
    have a2 : wr.cell? ⟨g, 0, none⟩ = some (.slice A len c) := hBr.cell 0
    have Hbr := Lib.hid hbr
    clear hall hBr hbr
    by_cases hkl : k < len
    · obtain ⟨r, hr⟩ : ∃ r, rs[k]? = some r := ⟨_, List.getElem?_eq_getElem (by rw [HL.out]; exact hkl)⟩
      obtain ⟨b9, c0, hv, _, hbl, hcl⟩ := OwnS.head hOr (by rw [nodesOf_len, HL.out]; omega)
      injection hv with e1 e2 e3
      subst e1
      subst e3
      have hat := (OwnS.at_ nodeEnc_len hOr k _ (nodesOf_get hr)).1
      have HR := Lib.hid hr
      have j0 := hKr.cell 0
      have j1 := hKr.cell 1
      have j2 := hKr.cell 2
      have j3 := hKr.cell 3
      have j4 := hKr.cell 4
      have j5 := hKr.cell 5
      have j6 := hKr.cell 6
      have hcast : ((k + 2 : Nat) : Int) = (k : Int) + 2 := by omega
      have ki : wr.cell? ⟨b9, k * 8, none⟩ = some (.int .u32 ((k : Int) + 2)) := by rw [← hcast]; exact hat 0 _ rfl
      by_cases he : r = ⟨f, t, b, ⟨lt, lp⟩, ⟨ht, hp⟩⟩
      · have hEQ := fun W0 => HEQ.out r W0 true (decide_eq_true he)
        have HID := idOf_first (by rw [hr, he]) HA.out
        have HXK : Hid (x = k + 2) := Lib.hid (by rw [HX.out, HID]; rfl)
        subst he
        have k0 : wr.cell? ⟨b9, k * 8 + 1, none⟩ = some (.int .u8 f) := hat 1 _ rfl
        have k1 : wr.cell? ⟨b9, k * 8 + 2, none⟩ = some (.int .u8 t) := hat 2 _ rfl
        have k2 : wr.cell? ⟨b9, k * 8 + 3, none⟩ = some (.int .u8 b) := hat 3 _ rfl
        have k3 : wr.cell? ⟨b9, k * 8 + 4, none⟩ = some (.int .u8 lt) := hat 4 _ rfl
        have k4 : wr.cell? ⟨b9, k * 8 + 5, none⟩ = some (.int .u32 lp) := hat 5 _ rfl
        have k5 : wr.cell? ⟨b9, k * 8 + 6, none⟩ = some (.int .u8 ht) := hat 6 _ rfl
        have k6 : wr.cell? ⟨b9, k * 8 + 7, none⟩ = some (.int .u32 hp) := hat 7 _ rfl
        simp only [Rec.cells] at hEQ
        clear HID hr hat hKr hOr hcl e2 hcast
        go_wp2_with fail
        go_quiet (fail)
        go_wp2_with fail
        go_ret
        exact ⟨ret_int (by rw [HXK.out]; omega), below_drewN (HbW.out.trans (Hbr.out.mono HbW.out.size)) _⟩
      · have hEQ := fun W0 => HEQ.out r W0 false (decide_eq_false he)
        have HNE := Lib.hid he
        obtain ⟨rf, rt, rb, ⟨rlt, rlp⟩, ⟨rht, rhp⟩⟩ := r
        have k0 : wr.cell? ⟨b9, k * 8 + 1, none⟩ = some (.int .u8 rf) := hat 1 _ rfl
        have k1 : wr.cell? ⟨b9, k * 8 + 2, none⟩ = some (.int .u8 rt) := hat 2 _ rfl
        have k2 : wr.cell? ⟨b9, k * 8 + 3, none⟩ = some (.int .u8 rb) := hat 3 _ rfl
        have k3 : wr.cell? ⟨b9, k * 8 + 4, none⟩ = some (.int .u8 rlt) := hat 4 _ rfl
        have k4 : wr.cell? ⟨b9, k * 8 + 5, none⟩ = some (.int .u32 rlp) := hat 5 _ rfl
        have k5 : wr.cell? ⟨b9, k * 8 + 6, none⟩ = some (.int .u8 rht) := hat 6 _ rfl
        have k6 : wr.cell? ⟨b9, k * 8 + 7, none⟩ = some (.int .u32 rhp) := hat 7 _ rfl
        simp only [Rec.cells] at hEQ
        clear he hr hat hKr hOr hcl e2 hcast
        go_wp2_with fail
        go_quiet (fail)
        go_wp2_with fail
        go_roundw
        case rel =>
          refine ⟨below_drewN Hbr.out _, k + 1, by omega, by go_num, fun j hj => ?_⟩
          rcases Nat.lt_or_ge j k with h | h
          · exact HA.out j h
          · obtain rfl : j = k := by omega
            rw [HR.out]
            intro e
            injection e with e
            exact HNE.out e
        case measure => simp [intOf]; omega
    · have hx0 : Hid (x = 0) := Lib.hid (by
        rw [HX.out, idOf_not (fun j hj => HA.out j (by rw [HL.out] at hj; omega))]; rfl)
      clear hKr hOr
      go_wp2_with fail
      go_ret
      exact ⟨ret_int (by rw [hx0.out]; rfl), HbW.out.trans (Hbr.out.mono HbW.out.size)⟩
end Go.Proofs.YtpjciaomhfeeeaaGreat
end
