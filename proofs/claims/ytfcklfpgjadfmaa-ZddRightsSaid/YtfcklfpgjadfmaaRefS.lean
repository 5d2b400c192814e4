/- The document's store in memory; contract of At. -/
import Derived.Test.YtfcklfpgjadfmaaRefR
import Derived.Test.YtfcklfpgjadfmaaFindS
namespace Go.Proofs.Ytfcklfpgjadfmaa
open Go.RowKit Go.Sort
set_option linter.unusedSimpArgs false
set_option linter.unusedVariables false

def nodeEnc (x : Int × Rec) : List Value := .int .u32 x.1 :: x.2.cells
theorem nodeEnc_len (x : Int × Rec) : (nodeEnc x).length = 8 := rfl
theorem nodeEnc_one (x : Int × Rec) : ∀ u ∈ nodeEnc x, u.oneCell' = true := by simp [nodeEnc, Rec.cells, Value.oneCell']
/-- nodes with their ids -/
def nodesOf (rs : List Rec) : List (Int × Rec) := rs.mapIdx (fun i r => (((i + 2 : Nat) : Int), r))
theorem nodesOf_len (rs : List Rec) : (nodesOf rs).length = rs.length := by unfold nodesOf; simp
theorem nodesOf_get {rs : List Rec} {i : Nat} {r : Rec} (h : rs[i]? = some r) : (nodesOf rs)[i]? = some (((i + 2 : Nat) : Int), r) := by unfold nodesOf; rw [List.getElem?_mapIdx, h]; rfl
theorem nodesOf_snoc (rs : List Rec) (r : Rec) : nodesOf (rs ++ [r]) = nodesOf rs ++ [(((rs.length + 2 : Nat) : Int), r)] := by unfold nodesOf; rw [List.mapIdx_concat]
/-- block g is the document's store -/
def RefAt (w : World) (F : List Nat) (g n room : Nat) (rs : List Rec) : Prop :=
  ∃ (A : Option Addr) (len c : Nat), Blk w g 89 #[.slice A len c, .slice none 0 0, .int .u32 (rs.length : Nat), .int .i64 (n : Nat), .int .i64 (room : Nat)] ∧
    OwnS 8 nodeEnc 98 w 0 (.slice A len c) (nodesOf rs) ∧ rs.length = len ∧ F = g :: blk (.slice A len c) ∧ F.Nodup
section
variable {w w' : World} {F G : List Nat} {g n room : Nat} {rs : List Rec}
theorem RefAt.chg (h : RefAt w F g n room rs) (hb : Chg G w w') (hd : ∀ k ∈ F, ¬ k ∈ G) : RefAt w' F g n room rs := by
  obtain ⟨A, len, c, h1, h2, h3, rfl, h5⟩ := h
  exact ⟨A, len, c, h1.chg hb (hd g (by simp)), h2.chg hb (fun k hk => hd k (by simp [hk])), h3, rfl, h5⟩
theorem RefAt.on (h : RefAt w F g n room rs) (hb : Below w.heap.size w w') : RefAt w' F g n room rs := h.chg (G := []) (chg_of_below hb) (fun _ _ h => by cases h)
theorem RefAt.lt (h : RefAt w F g n room rs) : ∀ k ∈ F, k < w.heap.size := by
  obtain ⟨A, len, c, h1, h2, h3, rfl, h5⟩ := h
  intro k hk
  rcases List.mem_cons.1 hk with rfl | hk
  · exact h1.lt
  · exact OwnS.blk_lt h2 k hk
end
/-- the place of an id -/
def plcOf (len : Nat) (id : Int) : Int := if 2 ≤ id ∧ id < (len : Int) + 2 then id - 2 else -1
set_option maxHeartbeats 1000000 in
theorem refAt_any (F : List Nat) (g n room : Nat) (rs : List Rec) (id : Int) (w : World) (h : RefAt w F g n room rs) (h0 : 0 ≤ id) (h1 : id ≤ 4294967295) (hlen : rs.length ≤ 1048576) :
    Calls Try.prog 71 #[.pointer (some ⟨g, 0, none⟩), .int .u32 id] w fun e w' => e = .returned (.int .i64 (plcOf rs.length id)) ∧ w = w' := by
  obtain ⟨A, len, c, hB, hO, hl, rfl, hnd⟩ := h
  have hc0 : w.cell? ⟨g, 0, none⟩ = some (.slice A len c) := hB.cell 0
  have HL := Lib.hid hl
  have HO := Lib.hid hO
  rw [hl] at hlen
  rw [HL.out]
  clear hB hO hl hnd
  go_enter Try.func71, Try.ntmps71
  go_wp2_with fail
  go_loop [5] (fun s5 => ∃ k : Nat, k ≤ len ∧ s5 = .int .i64 k ∧ ∀ j : Nat, j < k → ¬ (j : Int) + 2 = id) (fun s5 => len - (intOf s5).toNat)
  case atStart => exact ⟨0, Nat.zero_le _, rfl, fun j hj => by omega⟩
  case round =>
    obtain ⟨k, hk, rfl, hall⟩ := hrel
    have HA := Lib.hid hall
    clear hall
    by_cases hkl : k < len
    · obtain ⟨r, hr⟩ : ∃ r, rs[k]? = some r := ⟨_, List.getElem?_eq_getElem (by rw [HL.out]; exact hkl)⟩
      obtain ⟨b, c0, hv, _, hbl, hcl⟩ := OwnS.head HO.out (by rw [nodesOf_len, HL.out]; omega)
      injection hv with e1 e2 e3
      subst e1
      subst e3
      have hid : w.cell? ⟨b, k * 8, none⟩ = some (.int .u32 ((k + 2 : Nat) : Int)) := (OwnS.at_ nodeEnc_len HO.out k _ (nodesOf_get hr)).1 0 _ rfl
      have hcast : ((k + 2 : Nat) : Int) = (k : Int) + 2 := by omega
      rw [hcast] at hid
      clear hcast hr e2 hcl
      by_cases he : (k : Int) + 2 = id
      · have HE := Lib.hid he
        have hb : ((k : Int) + 2 == id) = true := by simpa using he
        clear he
        go_wp2_with fail
        go_ret
        refine ⟨?_, rfl⟩
        have : plcOf len id = (k : Int) := by unfold plcOf; rw [if_pos (by have := HE.out; omega)]; have := HE.out; omega
        rw [this]; rfl
      · have HE := Lib.hid he
        have hb : ((k : Int) + 2 == id) = false := by simpa using he
        clear he
        go_wp2_with fail
        go_round
        case rel =>
          refine ⟨k + 1, by omega, by go_num, fun j hj => ?_⟩
          rcases Nat.lt_or_ge j k with h | h
          · exact HA.out j h
          · obtain rfl : j = k := by omega
            exact HE.out
        case measure => simp [intOf]; omega
    · have HP : Hid (plcOf len id = -1) := Lib.hid (by
        unfold plcOf
        rw [if_neg]
        rintro ⟨h2, h3⟩
        exact HA.out (id - 2).toNat (by omega) (by omega))
      go_wp2_with fail
      go_ret
      exact ⟨by rw [HP.out]; rfl, rfl⟩
theorem recAt_map (rs : List Rec) (id : Int) : recAt (rs.map some) id = if 2 ≤ id ∧ id < (rs.length : Int) + 2 then rs[(id - 2).toNat]? else none := by
  unfold recAt
  split
  · rename_i h
    rw [List.getElem?_map]
    split
    · cases rs[(id - 2).toNat]? <;> rfl
    · rw [List.getElem?_eq_none (by omega)]; rfl
  · rw [if_neg (by omega)]
end Go.Proofs.Ytfcklfpgjadfmaa
