/- Contracts: tokens cut (29): what Free and Text need. Contract: the document's Free (29). Contract: the document's Text (29). Contract: the document's Text (29): all tokens. -/
import Derived.Test.YtbhbhfplpbcfiaaGreatDoorMv
import Derived.Test.YtbhbhfplpbcfiaaGreatDoorExE
import Derived.Test.YtbhbhfplpbcfiaaGreatDoorExR
import Derived.IntWalk
import Derived.Deep.QuietTactic
import Derived.Test.YtbhbhfplpbcfiaaGreatDoorExB
import Derived.Test.YtbhbhfplpbcfiaaGreatDoorNum
import Derived.Deep.RegionHeld3
section
namespace Go.Proofs.YtbhbhfplpbcfiaaGreatDoor
open Go.RowKit Go.Sort
set_option linter.unusedSimpArgs false
set_option linter.unusedVariables false

theorem TkArg.take {w : World} {A : Option Addr} {n c : Nat} {L : List Tok} (h : TkArg w A n c L) {m : Nat} (hm : m ≤ n) : TkArg w A m c (L.take m) :=
  ⟨by rw [List.length_take, h.len]; omega, Nat.le_trans hm h.le, Nat.le_trans hm h.max, fun hn => by
    rw [List.length_take] at hn
    obtain ⟨b, off, e, hb, hc⟩ := h.row (by omega)
    exact ⟨b, off, e, hb, fun i x hx => hc i x (by
      rw [List.getElem?_take] at hx
      split at hx
      · exact hx
      · cases hx)⟩, fun t ht => h.n15 t (List.mem_of_mem_take ht), fun t ht => h.kind t (List.mem_of_mem_take ht)⟩
theorem TkArg.drop {w : World} {b off n c : Nat} {L : List Tok} (h : TkArg w (some ⟨b, off, none⟩) n c L) {m : Nat} (hm : m ≤ n) : TkArg w (some ⟨b, off + m * 3, none⟩) (n - m) (c - m) (L.drop m) :=
  ⟨by rw [List.length_drop, h.len], by have := h.le; omega, by have := h.max; omega, fun hn => by
    rw [List.length_drop] at hn
    obtain ⟨b', off', e, hb, hc⟩ := h.row (by omega)
    injection e with e
    injection e with e1 e2
    subst e1 e2
    exact ⟨b, off + m * 3, rfl, hb, fun i x hx => by
      have := hc (m + i) x (by rw [← hx, List.getElem?_drop])
      rw [show off + m * 3 + i * 3 = off + (m + i) * 3 by rw [Nat.add_mul]; omega]
      exact this⟩, fun t ht => h.n15 t (List.mem_of_mem_drop ht), fun t ht => h.kind t (List.mem_of_mem_drop ht)⟩
theorem RT.ne {C x} (h : RT C x) : C ≠ [] := by
  have := rt_depth h
  intro e
  rw [e] at this
  simp at this
/-- the address of tokens -/
theorem TkArg.addr {w : World} {A : Option Addr} {n c : Nat} {L : List Tok} (h : TkArg w A n c L) (hL : L ≠ []) : ∃ b off, A = some ⟨b, off, none⟩ ∧ b < w.heap.size := by
  obtain ⟨b, off, e, hb, _⟩ := h.row (List.length_pos_iff.2 hL)
  exact ⟨b, off, e, hb⟩
theorem stop_vars {t u : Tok} {vs C : List Tok} (ht : t.kind = 115 ∨ t.kind = 101) (hvs : ∀ y ∈ vs, y.kind = 118) (hu : u.kind = 46) : stopT (t :: (vs ++ u :: C)) = vs.length + 1 := by
  have : ∀ vs : List Tok, (∀ y ∈ vs, y.kind = 118) → stopT (vs ++ u :: C) = vs.length := by
    intro vs
    induction vs with
    | nil => intro _; simp [stopT, List.findIdx_cons, hu]
    | cons y vs ih =>
      intro h
      have hy : y.kind = 118 := h y (by simp)
      have := ih fun z hz => h z (by simp [hz])
      unfold stopT at this ⊢
      rw [List.cons_append, List.findIdx_cons, this]
      simp [hy]
  have h1 := this vs hvs
  unfold stopT at h1 ⊢
  rw [List.findIdx_cons, h1]
  rcases ht with ht | ht <;> simp [ht]
theorem bits_bnd {t u : Tok} {vs C : List Tok} (ht : t.kind = 115 ∨ t.kind = 101) (hvs : ∀ y ∈ vs, y.kind = 118) : bitsT ((t :: (vs ++ u :: C)).take (vs.length + 1)) = maskL (vs.map (·.n)) := by
  rw [List.take_succ_cons, List.take_left, bits_cons, if_neg (by omega), Nat.zero_or, bits_vars vs hvs]
theorem free_lt' {C x} (h : RT C x) (hC : ∀ t ∈ C, t.n ≤ 15) : x.freeN < 65536 := free_lt x (rt_small h hC)
/-- what Free tells of tokens -/
def RFreeC (C : List Tok) (x : Ex) : Prop := ∀ (A : Option Addr) (n c : Nat) (w : World), TkArg w A n c C → Calls Tryz.prog 14 #[.slice A n c] w fun e w' => e = .returned (.int .i64 (x.freeN : Nat)) ∧ ∃ k, w' = w.drewN k
theorem TkArg.rt {w : World} {A : Option Addr} {n c : Nat} {L : List Tok} (h : TkArg w A n c L) : ∀ t ∈ L, t.n ≤ 15 := h.n15
end Go.Proofs.YtbhbhfplpbcfiaaGreatDoor
end

section
namespace Go.Proofs.YtbhbhfplpbcfiaaGreatDoor
open Go.RowKit Go.Sort
set_option linter.unusedSimpArgs false
set_option linter.unusedVariables false

set_option maxRecDepth 100000 in
set_option maxHeartbeats 8000000 in
theorem rfree_op {C : List Tok} {i : Nat} {t : Tok} {a b : Ex} (hsp : splitT C = some i) (hi : C[i]? = some t) (hra : RT (C.take i) a) (hrb : RT (C.drop (i + 1)) b) (ha : RFreeC (C.take i) a) (hb : RFreeC (C.drop (i + 1)) b) : RFreeC C (.pair t.kind a b) := by
  intro A n c w h
  obtain ⟨b0, off, rfl, hb0⟩ := h.addr (fun e => by rw [e] at hi; cases hi)
  have hlen := h.len
  have hmax := h.max
  have hnc := h.le
  have hin : i < n := by
    rcases Nat.lt_or_ge i C.length with h | h
    · omega
    · rw [List.getElem?_eq_none h] at hi; cases hi
  have hin2 : i + 1 < n := by
    have := hrb.ne
    rcases Nat.lt_or_ge (i + 1) C.length with h | h
    · omega
    · rw [List.drop_eq_nil_of_le h] at this; exact absurd rfl this
  have HA := Lib.hid (fun W (hW : Below w.heap.size w W) => ha _ _ _ W ((h.take (Nat.le_of_lt hin)).on hW))
  have HB := Lib.hid (fun W (hW : Below w.heap.size w W) => hb _ _ _ W ((h.drop (m := i + 1) (by omega)).on hW))
  have HO := Lib.hid (fun W => ror_any a.freeN b.freeN (free_lt' hra fun t ht => h.n15 t (List.mem_of_mem_take ht)) (free_lt' hrb fun t ht => h.n15 t (List.mem_of_mem_drop ht)) false W)
  have HS := Lib.hid (rsplit_any _ n c C w h)
  rw [hsp] at HS
  have hv : scanV (some i) = (i : Int) := rfl
  rw [hv] at HS
  clear ha hb h hi hsp hra hrb hv hlen
  go_enter Tryz.func14, Tryz.ntmps14
  go_wp2_with fail
  refine HS.out.mono ?_
  rintro e w1 ⟨rfl, rfl⟩
  have e1 : IntKind.i64.wrap ((i : Int) + 1) = (i : Int) + 1 := IntWalk.i64_in _ ⟨by omega, by omega⟩
  go_wp2_with fail
  go_quiet ((first | (go_at_call 35; exact q_same (HO.out _)) | ((with_reducible show Calls _ _ #[.slice (some ⟨b0, off, none⟩) i c] _ _); exact Calls.quiet_of (HA.out _ (below_drewN (Below.refl _ _) _))) | ((with_reducible show Calls _ 14 _ _ _); exact Calls.quiet_of (HB.out _ (below_drewN (Below.refl _ _) _)))))
  go_wp2_with fail
  go_ret
  exact ⟨rfl, _, rfl⟩
set_option maxRecDepth 100000 in
set_option maxHeartbeats 8000000 in
theorem rfree_not {C : List Tok} {t : Tok} {x : Ex} (hsp : splitT (t :: C) = none) (ht : t.kind = 33) (hr : RT C x) (ih : RFreeC C x) : RFreeC (t :: C) (.not x) := by
  intro A n c w h
  obtain ⟨b0, off, q0, q1, q2, q3, q4⟩ := h.cells (k := 0) (t := t) rfl
  subst q0
  have hlen := h.len
  have hmax := h.max
  have hnc := h.le
  have hne := List.length_pos_iff.2 hr.ne
  rw [List.length_cons] at hlen
  rw [ht] at q2
  simp only [Nat.zero_mul, Nat.add_zero] at q2
  have HA := Lib.hid (fun W (hW : Below w.heap.size w W) => ih _ _ _ W ((h.drop (m := 1) (by omega)).on hW))
  have HS := Lib.hid (rsplit_any _ n c _ w h)
  rw [hsp] at HS
  rw [show scanV none = -1 from rfl] at HS
  have h2 : 1 < n := by omega
  clear ih h hsp hr q1 q3 q4 hlen hne ht
  go_enter Tryz.func14, Tryz.ntmps14
  go_wp2_with fail
  refine HS.out.mono ?_
  rintro e w1 ⟨rfl, rfl⟩
  go_wp2_with fail
  refine (HA.out _ (Below.refl _ _)).mono ?_
  rintro e w1 ⟨rfl, k, rfl⟩
  go_wp2_with fail
  go_ret
  exact ⟨rfl, _, rfl⟩
set_option maxRecDepth 100000 in
set_option maxHeartbeats 8000000 in
theorem rfree_par {C : List Tok} {t u : Tok} {x : Ex} (hsp : splitT (t :: (C ++ [u])) = none) (ht : t.kind = 40) (hr : RT C x) (ih : RFreeC C x) : RFreeC (t :: (C ++ [u])) x := by
  intro A n c w h
  obtain ⟨b0, off, q0, q1, q2, q3, q4⟩ := h.cells (k := 0) (t := t) rfl
  subst q0
  have hlen := h.len
  have hmax := h.max
  have hnc := h.le
  have hne := List.length_pos_iff.2 hr.ne
  rw [List.length_cons, List.length_append, List.length_cons, List.length_nil] at hlen
  rw [ht] at q2
  simp only [Nat.zero_mul, Nat.add_zero] at q2
  have hsub : TkArg w (some ⟨b0, off + 1 * 3, none⟩) (n - 1 - 1) (c - 1) C := by
    have := (h.take (m := n - 1) (by omega)).drop (m := 1) (by omega)
    rw [show n - 1 = C.length + 1 by omega, List.take_succ_cons, List.take_left] at this
    rw [show n - 1 = C.length + 1 by omega]
    exact this
  have HA := Lib.hid (fun W (hW : Below w.heap.size w W) => ih _ _ _ W (hsub.on hW))
  have HS := Lib.hid (rsplit_any _ n c _ w h)
  rw [hsp] at HS
  rw [show scanV none = -1 from rfl] at HS
  have h2 : 2 < n := by omega
  clear ih h hsp hr q1 q3 q4 hlen hne ht hsub
  go_enter Tryz.func14, Tryz.ntmps14
  go_wp2_with fail
  refine HS.out.mono ?_
  rintro e w1 ⟨rfl, rfl⟩
  go_wp2_with fail
  refine (HA.out _ (Below.refl _ _)).mono ?_
  rintro e w1 ⟨rfl, k, rfl⟩
  go_wp2_with fail
  go_ret
  exact ⟨rfl, _, rfl⟩
set_option maxRecDepth 100000 in
set_option maxHeartbeats 8000000 in
theorem rfree_bnd {C : List Tok} {t u : Tok} {vs : List Tok} {x : Ex} (hsp : splitT (t :: (vs ++ u :: C)) = none) (ht : t.kind = 115 ∨ t.kind = 101) (hvs : ∀ y ∈ vs, y.kind = 118) (hu : u.kind = 46) (hr : RT C x) (ih : RFreeC C x) :
    RFreeC (t :: (vs ++ u :: C)) (.bound (t.kind == 101) (vs.map (·.n)) x) := by
  intro A n c w h
  obtain ⟨b0, off, q0, q1, q2, q3, q4⟩ := h.cells (k := 0) (t := t) rfl
  subst q0
  have hlen := h.len
  have hmax := h.max
  have hnc := h.le
  have hne := List.length_pos_iff.2 hr.ne
  rw [List.length_cons, List.length_append, List.length_cons] at hlen
  simp only [Nat.zero_mul, Nat.add_zero] at q2
  have h15 := h.n15
  have hsub : TkArg w (some ⟨b0, off + (vs.length + 2) * 3, none⟩) (n - (vs.length + 2)) (c - (vs.length + 2)) C := by
    have := h.drop (m := vs.length + 2) (by omega)
    rw [List.drop_succ_cons, List.drop_length_add_append] at this
    exact this
  have HA := Lib.hid (fun W (hW : Below w.heap.size w W) => ih _ _ _ W (hsub.on hW))
  have HB := Lib.hid (fun W (hW : Below w.heap.size w W) => rbits_any _ _ _ _ W ((h.take (m := vs.length + 1) (by omega)).on hW))
  rw [bits_bnd ht hvs] at HB
  have HST := Lib.hid (fun W (hW : Below w.heap.size w W) => rstop_any _ _ _ _ W (h.on hW))
  rw [stop_vars ht hvs hu] at HST
  have HO := Lib.hid (fun W => ror_any x.freeN (maskL (vs.map (·.n))) (free_lt' hr fun y hy => h15 y (by simp [hy])) (mask_lt _ (fun v hv => by
    obtain ⟨y, hy, rfl⟩ := List.mem_map.1 hv
    exact h15 y (by simp [hy]))) true W)
  have HS := Lib.hid (rsplit_any _ n c _ w h)
  rw [hsp] at HS
  rw [show scanV none = -1 from rfl] at HS
  obtain ⟨k, hk⟩ : ∃ k, k = vs.length + 1 := ⟨_, rfl⟩
  have h2 : k + 1 < n := by omega
  rw [← hk] at HB HST
  rw [show vs.length + 2 = k + 1 by omega] at HA
  clear ih h hsp hr q1 q3 q4 hlen hne hsub hvs hu hk h15
  rcases ht with ht | ht
  all_goals
    rw [ht] at q2
    clear ht
    go_enter Tryz.func14, Tryz.ntmps14
    go_wp2_with fail
    refine HS.out.mono ?_
    rintro e w1 ⟨rfl, rfl⟩
    go_wp2_with fail
    refine (HST.out _ (Below.refl _ _)).mono ?_
    rintro e w1 ⟨rfl, rfl⟩
    go_wp2_with fail
    have e1 : IntKind.i64.wrap ((k : Int) + 1) = (k : Int) + 1 := IntWalk.i64_in _ ⟨by omega, by omega⟩
    go_quiet ((first | (go_at_call 35; exact q_same (HO.out _)) | (go_at_call 34; exact q_same (HB.out _ (below_drewN (Below.refl _ _) _))) | exact Calls.quiet_of (HA.out _ (below_drewN (Below.refl _ _) _))))
    go_wp2_with fail
    go_ret
    exact ⟨rfl, _, rfl⟩
set_option maxRecDepth 100000 in
set_option maxHeartbeats 8000000 in
theorem rfree_one {t : Tok} {x : Ex} (hsp : splitT [t] = none) (ht : t.kind = 118 ∨ t.kind = 48 ∨ t.kind = 49) (hx : x.freeN = bitsT [t]) : RFreeC [t] x := by
  intro A n c w h
  rw [hx]
  obtain ⟨b0, off, q0, q1, q2, q3, q4⟩ := h.cells (k := 0) (t := t) rfl
  subst q0
  have hlen := h.len
  simp only [Nat.zero_mul, Nat.add_zero] at q2
  rw [List.length_cons, List.length_nil] at hlen
  obtain rfl : n = 1 := by omega
  have hnc := h.le
  have HB := Lib.hid (fun W (hW : Below w.heap.size w W) => rbits_any _ _ _ _ W ((h.take (m := 1) (by omega)).on hW))
  rw [List.take_of_length_le (by simp)] at HB
  have HS := Lib.hid (rsplit_any _ 1 c _ w h)
  rw [hsp] at HS
  rw [show scanV none = -1 from rfl] at HS
  clear h hsp q1 q3 q4 hlen hx
  rcases ht with ht | ht | ht
  all_goals
    rw [ht] at q2
    clear ht
    go_enter Tryz.func14, Tryz.ntmps14
    go_wp2_with fail
    refine HS.out.mono ?_
    rintro e w1 ⟨rfl, rfl⟩
    go_wp2_with fail
    refine (HB.out _ (Below.refl _ _)).mono ?_
    rintro e w1 ⟨rfl, rfl⟩
    go_wp2_with fail
    go_ret
    exact ⟨rfl, 0, rfl⟩
theorem rfree_all {C : List Tok} {x : Ex} (h : RT C x) : RFreeC C x := by
  induction h with
  | op h1 h2 _ h4 h5 ih1 ih2 => exact rfree_op h1 h2 h4 h5 ih1 ih2
  | not h1 h2 h3 ih => exact rfree_not h1 h2 h3 ih
  | par h1 h2 _ h4 ih => exact rfree_par h1 h2 h4 ih
  | bnd h1 h2 h3 h4 h5 ih => exact rfree_bnd h1 h2 h3 h4 h5 ih
  | var h1 h2 => exact rfree_one h1 (.inl h2) (by rw [bits_cons, if_pos h2]; exact (Nat.or_zero _).symm)
  | const h1 h2 => exact rfree_one h1 (.inr h2) (by rw [bits_cons, if_neg (by omega)]; rfl)
end Go.Proofs.YtbhbhfplpbcfiaaGreatDoor
end

section
namespace Go.Proofs.YtbhbhfplpbcfiaaGreatDoor
open Go.RowKit Go.Sort
set_option linter.unusedSimpArgs false
set_option linter.unusedVariables false

/-- what Text tells of tokens -/
def RTextC (C : List Tok) (x : Ex) : Prop := ∀ (A : Option Addr) (n c : Nat) (w : World), TkArg w A n c C → Calls Tryz.prog 10 #[.slice A n c] w fun e w' => e = .returned (.string ⟨x.textE.toArray⟩) ∧ Below w.heap.size w w'
theorem kind_u8 {k : Nat} (h : k ≤ 127) : ((UInt8.ofNat k).toNat : Int) = (k : Int) := by
  have : (UInt8.ofNat k).toNat = k := by rw [UInt8.toNat_ofNat']; omega
  rw [this]
theorem newcell (w : World) (v : Value) (T : TypeId) : (w.alloc (.cells #[v] T)).cell? ⟨w.heap.size, 0, none⟩ = some v := by simp
set_option maxRecDepth 100000 in
set_option maxHeartbeats 8000000 in
theorem rtext_op {C : List Tok} {i : Nat} {t : Tok} {a b : Ex} (hsp : splitT C = some i) (hi : C[i]? = some t) (hra : RT (C.take i) a) (hrb : RT (C.drop (i + 1)) b) (ha : RTextC (C.take i) a) (hb : RTextC (C.drop (i + 1)) b) : RTextC C (.pair t.kind a b) := by
  intro A n c w h
  obtain ⟨b0, off, q0, hb0, q1, q2, q3⟩ := h.cells hi
  subst q0
  have hlen := h.len
  have hmax := h.max
  have hnc := h.le
  have hin : i < n := by
    rcases Nat.lt_or_ge i C.length with h | h
    · omega
    · rw [List.getElem?_eq_none h] at hi; cases hi
  have hin2 : i + 1 < n := by
    have := hrb.ne
    rcases Nat.lt_or_ge (i + 1) C.length with h | h
    · omega
    · rw [List.drop_eq_nil_of_le h] at this; exact absurd rfl this
  have h15 := h.n15
  have la : a.textE.length ≤ 400000 := by
    have := rt_len hra fun t ht => h15 t (List.mem_of_mem_take ht)
    rw [List.length_take] at this; omega
  have lb : b.textE.length ≤ 400000 := by
    have := rt_len hrb fun t ht => h15 t (List.mem_of_mem_drop ht)
    rw [List.length_drop] at this; omega
  have hk := kind_u8 (h.kind t (List.mem_of_getElem? hi))
  obtain ⟨k, hkk⟩ : ∃ k : UInt8, k = UInt8.ofNat t.kind := ⟨_, rfl⟩
  have HA := Lib.hid (fun W (hW : Below w.heap.size w W) => ha _ _ _ W ((h.take (Nat.le_of_lt hin)).on hW))
  have HB := Lib.hid (fun W (hW : Below w.heap.size w W) => hb _ _ _ W ((h.drop (m := i + 1) (by omega)).on hW))
  have HS := Lib.hid (rsplit_any _ n c C w h)
  rw [hsp] at HS
  rw [show scanV (some i) = (i : Int) from rfl] at HS
  show Calls Tryz.prog _ _ w fun e w' => e = .returned (.string ⟨(40 :: (a.textE ++ UInt8.ofNat t.kind :: (b.textE ++ [41]))).toArray⟩) ∧ _
  rw [← hkk] at hk ⊢
  rw [← hk] at q1
  have FACTS : Hid (∀ W', Below w.heap.size w W' → W'.cell? ⟨b0, off + i * 3, none⟩ = some (.int .u8 (k.toNat : Nat))) := Lib.hid (fun W' hW => (hW.cell (p := ⟨b0, off + i * 3, none⟩) hb0).trans q1)
  have CV := Lib.hid (fun W b cap h => conv_one k W b cap h)
  generalize a.textE = ta at *
  generalize b.textE = tb at *
  have c1 : (⟨#[40]⟩ : ByteArray) ++ ⟨ta.toArray⟩ = ⟨(40 :: ta).toArray⟩ := txt_append [40] ta
  have c2 : (⟨(40 :: ta).toArray⟩ : ByteArray) ++ ⟨#[k]⟩ = ⟨(40 :: (ta ++ [k])).toArray⟩ := txt_append (40 :: ta) [k]
  have c3 : (⟨(40 :: (ta ++ [k])).toArray⟩ : ByteArray) ++ ⟨tb.toArray⟩ = ⟨(40 :: (ta ++ k :: tb)).toArray⟩ := by
    rw [txt_append]; simp
  have c4 : (⟨(40 :: (ta ++ k :: tb)).toArray⟩ : ByteArray) ++ ⟨#[41]⟩ = ⟨(40 :: (ta ++ k :: (tb ++ [41]))).toArray⟩ := by
    rw [show (⟨#[41]⟩ : ByteArray) = ⟨[41].toArray⟩ from rfl, txt_append]; simp
  have e1 : IntKind.i64.wrap ((i : Int) + 1) = (i : Int) + 1 := IntWalk.i64_in _ ⟨by omega, by omega⟩
  have l1 : ¬ 9223372036854775807 < 1 + ta.length := by omega
  have l2 : ¬ 9223372036854775807 < ta.length + 1 + 1 := by omega
  have l3 : ¬ 9223372036854775807 < ta.length + 1 + 1 + tb.length := by omega
  have l4 : ¬ 9223372036854775807 < ta.length + (tb.length + 1) + 1 + 1 := by omega
  have g1 : i ≤ c := by omega
  have g2 : (i : Int) ≤ (c : Int) := by omega
  have g3 : (i : Int) + 1 ≤ (n : Int) := by omega
  have g4 : i + 1 ≤ n := by omega
  have g5 : ¬ c = i + 1 := by omega
  have g6 : i + 1 ≤ c := by omega
  have g7 : (0 : Int) ≤ (i : Int) + 1 := by omega
  have g8 : ((i : Int) + 1).toNat = i + 1 := by omega
  clear ha hb h hi hsp hra hrb hlen h15 q1 q2 q3 hk hkk
  go_enter Tryz.func10, Tryz.ntmps10
  go_wp2_with fail
  refine HS.out.mono ?_
  rintro e w1 ⟨rfl, rfl⟩
  go_wp2_with fail
  have HCV := CV.out
  have d0 := FACTS.out w (Below.refl _ _)
  go_region_with (first
    | ((with_reducible show Calls _ 10 #[.slice (some ⟨b0, off, none⟩) i c] _ _); refine (HA.out _ (by with_reducible (first | exact (Below.refl _ _).drew | exact ((Below.refl _ _).alloc (Nat.le_refl _) _).drew | exact (Below.refl _ _).alloc (Nat.le_refl _) _ | exact ((Below.refl _ _).drew).alloc (Nat.le_refl _) _ | exact Below.refl _ _))).mono ?_; rintro e wx ⟨rfl, hbx⟩; have hB1 : Below w.heap.size w wx := (by first | exact ((Below.refl w.heap.size w).drew).trans hbx | exact (((Below.refl w.heap.size w).alloc (Nat.le_refl _) _).drew).trans (hbx.mono (by simp)) | exact (((Below.refl w.heap.size w).drew).alloc (Nat.le_refl _) _).trans (hbx.mono (by simp))); have d1 := FACTS.out wx hB1; (try have nb1 : wx.cell? ⟨w.heap.size, 0, none⟩ = some (.int .u8 (k.toNat : Nat)) := (hbx.cell (p := ⟨w.heap.size, 0, none⟩) (by simp)).trans (newcell w _ _)); (try have nb1 : wx.cell? ⟨w.heap.size, 0, none⟩ = some (.int .u8 (k.toNat : Nat)) := (hbx.cell (p := ⟨w.heap.size, 0, none⟩) (by simp)).trans (newcell w.drew _ _)); clear hbx)
    | ((with_reducible show Calls _ 10 _ _ _); refine (HB.out _ (by with_reducible (first | exact hB1 | exact hB1.alloc hB1.size _ | exact (hB1.alloc hB1.size _).drew | exact hB1.drew))).mono ?_; rintro e wz ⟨rfl, hbz⟩; have hB2 : Below w.heap.size w wz := (by first | exact hB1.trans (hbz.mono hB1.size) | exact (hB1.alloc hB1.size _).trans (hbz.mono (by have := hB1.size; simp; omega)) | exact (hB1.alloc hB1.size _).drew.trans (hbz.mono (by have := hB1.size; simp; omega)) | exact hB1.drew.trans (hbz.mono hB1.size)); have d2 := FACTS.out wz hB2; (try have nb2 : wz.cell? ⟨wx.heap.size, 0, none⟩ = some (.int .u8 (k.toNat : Nat)) := (hbz.cell (p := ⟨wx.heap.size, 0, none⟩) (by simp)).trans (newcell wx _ _)); (try have nb2 : wz.cell? ⟨w.heap.size, 0, none⟩ = some (.int .u8 (k.toNat : Nat)) := (hbz.cell (p := ⟨w.heap.size, 0, none⟩) (Lib.lt_of_cell nb1)).trans nb1); clear hbz)
    | fail)
  all_goals
    go_wp2_with fail
    go_ret
    exact ⟨rfl, by first | exact hB2 | exact hB2.alloc hB2.size _⟩
end Go.Proofs.YtbhbhfplpbcfiaaGreatDoor
end

section
namespace Go.Proofs.YtbhbhfplpbcfiaaGreatDoor
open Go.RowKit Go.Sort
set_option linter.unusedSimpArgs false
set_option linter.unusedVariables false

set_option maxRecDepth 100000 in
set_option maxHeartbeats 8000000 in
theorem rtext_not {C : List Tok} {t : Tok} {x : Ex} (hsp : splitT (t :: C) = none) (ht : t.kind = 33) (hr : RT C x) (ih : RTextC C x) : RTextC (t :: C) (.not x) := by
  intro A n c w h
  obtain ⟨b0, off, q0, q1, q2, q3, q4⟩ := h.cells (k := 0) (t := t) rfl
  subst q0
  have hlen := h.len
  have hmax := h.max
  have hnc := h.le
  have hne := List.length_pos_iff.2 hr.ne
  rw [List.length_cons] at hlen
  rw [ht] at q2
  simp only [Nat.zero_mul, Nat.add_zero] at q2
  have HA := Lib.hid (fun W (hW : Below w.heap.size w W) => ih _ _ _ W ((h.drop (m := 1) (by omega)).on hW))
  have HS := Lib.hid (rsplit_any _ n c _ w h)
  rw [hsp] at HS
  rw [show scanV none = -1 from rfl] at HS
  have h2 : 1 < n := by omega
  have la : x.textE.length ≤ 400000 := by
    have := rt_len hr fun t ht => h.n15 t (by simp [ht])
    omega
  show Calls Tryz.prog _ _ w fun e w' => e = .returned (.string ⟨(33 :: x.textE).toArray⟩) ∧ _
  generalize x.textE = ta at *
  have c1 : (⟨#[33]⟩ : ByteArray) ++ ⟨ta.toArray⟩ = ⟨(33 :: ta).toArray⟩ := txt_append [33] ta
  have l1 : ¬ 9223372036854775807 < 1 + ta.length := by omega
  clear ih h hsp hr q1 q3 q4 hlen hne ht
  go_enter Tryz.func10, Tryz.ntmps10
  go_wp2_with fail
  refine HS.out.mono ?_
  rintro e w1 ⟨rfl, rfl⟩
  go_wp2_with fail
  refine (HA.out _ (Below.refl _ _)).mono ?_
  rintro e w1 ⟨rfl, hb⟩
  go_wp2_with fail
  go_ret
  exact ⟨rfl, hb⟩
set_option maxRecDepth 100000 in
set_option maxHeartbeats 8000000 in
theorem rtext_par {C : List Tok} {t u : Tok} {x : Ex} (hsp : splitT (t :: (C ++ [u])) = none) (ht : t.kind = 40) (hr : RT C x) (ih : RTextC C x) : RTextC (t :: (C ++ [u])) x := by
  intro A n c w h
  obtain ⟨b0, off, q0, q1, q2, q3, q4⟩ := h.cells (k := 0) (t := t) rfl
  subst q0
  have hlen := h.len
  have hmax := h.max
  have hnc := h.le
  have hne := List.length_pos_iff.2 hr.ne
  rw [List.length_cons, List.length_append, List.length_cons, List.length_nil] at hlen
  rw [ht] at q2
  simp only [Nat.zero_mul, Nat.add_zero] at q2
  have hsub : TkArg w (some ⟨b0, off + 1 * 3, none⟩) (n - 1 - 1) (c - 1) C := by
    have := (h.take (m := n - 1) (by omega)).drop (m := 1) (by omega)
    rw [show n - 1 = C.length + 1 by omega, List.take_succ_cons, List.take_left] at this
    rw [show n - 1 = C.length + 1 by omega]
    exact this
  have HA := Lib.hid (fun W (hW : Below w.heap.size w W) => ih _ _ _ W (hsub.on hW))
  have HS := Lib.hid (rsplit_any _ n c _ w h)
  rw [hsp] at HS
  rw [show scanV none = -1 from rfl] at HS
  have h2 : 2 < n := by omega
  clear ih h hsp hr q1 q3 q4 hlen hne ht hsub
  go_enter Tryz.func10, Tryz.ntmps10
  go_wp2_with fail
  refine HS.out.mono ?_
  rintro e w1 ⟨rfl, rfl⟩
  go_wp2_with fail
  refine (HA.out _ (Below.refl _ _)).mono ?_
  rintro e w1 ⟨rfl, hb⟩
  go_wp2_with fail
  go_ret
  exact ⟨rfl, hb⟩
set_option maxRecDepth 100000 in
set_option maxHeartbeats 8000000 in
theorem rtext_var {t : Tok} (hsp : splitT [t] = none) (ht : t.kind = 118) : RTextC [t] (.var t.n) := by
  intro A n c w h
  obtain ⟨b0, off, q0, q1, q2, q3, q4⟩ := h.cells (k := 0) (t := t) rfl
  subst q0
  have hlen := h.len
  have h15 := h.n15 t (by simp)
  simp only [Nat.zero_mul, Nat.add_zero] at q2 q3
  rw [List.length_cons, List.length_nil] at hlen
  obtain rfl : n = 1 := by omega
  have hnc := h.le
  have HS := Lib.hid (rsplit_any _ 1 c _ w h)
  rw [hsp] at HS
  rw [show scanV none = -1 from rfl] at HS
  rw [ht] at q2
  have HN := Lib.hid (fun W => num_any t.n W (by omega) (by omega))
  unfold txt at HN
  show Calls Tryz.prog _ _ w fun e w' => e = .returned (.string ⟨(120 :: Lib.decDigits t.n).toArray⟩) ∧ _
  have la := digs_len t.n (by omega)
  have c1 : (⟨#[120]⟩ : ByteArray) ++ ⟨(Lib.decDigits t.n).toArray⟩ = ⟨(120 :: Lib.decDigits t.n).toArray⟩ := txt_append [120] _
  have l1 : ¬ 9223372036854775807 < 1 + (Lib.decDigits t.n).length := by omega
  clear h hsp q1 q4 hlen ht
  go_enter Tryz.func10, Tryz.ntmps10
  go_wp2_with fail
  refine HS.out.mono ?_
  rintro e w1 ⟨rfl, rfl⟩
  go_wp2_with fail
  refine (HN.out _).mono ?_
  rintro e w1 ⟨rfl, hb⟩
  go_wp2_with fail
  go_ret
  exact ⟨rfl, hb⟩
set_option maxRecDepth 100000 in
set_option maxHeartbeats 8000000 in
theorem rtext_const {t : Tok} (hsp : splitT [t] = none) (ht : t.kind = 48 ∨ t.kind = 49) : RTextC [t] (.const (t.kind == 49)) := by
  intro A n c w h
  obtain ⟨b0, off, q0, q1, q2, q3, q4⟩ := h.cells (k := 0) (t := t) rfl
  subst q0
  have hlen := h.len
  simp only [Nat.zero_mul, Nat.add_zero] at q2 q3
  rw [List.length_cons, List.length_nil] at hlen
  obtain rfl : n = 1 := by omega
  have hnc := h.le
  have HS := Lib.hid (rsplit_any _ 1 c _ w h)
  rw [hsp] at HS
  rw [show scanV none = -1 from rfl] at HS
  clear h hsp q3 q4 hlen
  rcases ht with ht | ht
  · rw [ht] at q2 ⊢
    have CV := conv_one 48
    clear ht
    go_enter Tryz.func10, Tryz.ntmps10
    go_wp2_with fail
    refine HS.out.mono ?_
    rintro e w1 ⟨rfl, rfl⟩
    go_wp2_with fail
    go_ret
    exact ⟨rfl, (Below.refl _ _).alloc (Nat.le_refl _) _⟩
  · rw [ht] at q2 ⊢
    have CV := conv_one 49
    clear ht
    go_enter Tryz.func10, Tryz.ntmps10
    go_wp2_with fail
    refine HS.out.mono ?_
    rintro e w1 ⟨rfl, rfl⟩
    go_wp2_with fail
    go_ret
    exact ⟨rfl, (Below.refl _ _).alloc (Nat.le_refl _) _⟩
/-- bound variables, as they are written -/
def bwT (l : List Tok) : List UInt8 := l.flatMap fun t => 32 :: 120 :: Lib.decDigits t.n
theorem bwT_take {l : List Tok} {k : Nat} {t : Tok} (h : l[k]? = some t) : bwT (l.take (k + 1)) = bwT (l.take k) ++ (32 :: 120 :: Lib.decDigits t.n) := by
  rw [List.take_add_one, h]
  simp [bwT]
theorem bwT_len : ∀ (l : List Tok), (∀ t ∈ l, t.n ≤ 15) → (bwT l).length ≤ 4 * l.length
  | [], _ => by simp [bwT]
  | t :: l, h => by
    have := bwT_len l fun u hu => h u (by simp [hu])
    have h3 := dig_two (h t (by simp))
    simp only [bwT, List.flatMap_cons, List.length_append, List.length_cons] at this ⊢
    omega
theorem bwT_map (l : List Tok) : (l.map (·.n)).flatMap (fun v => 32 :: 120 :: Lib.decDigits v) = bwT l := by
  simp [bwT, List.flatMap_map]
set_option maxRecDepth 100000 in
set_option maxHeartbeats 16000000 in
theorem rtext_bnd {C : List Tok} {t u : Tok} {vs : List Tok} {x : Ex} (hsp : splitT (t :: (vs ++ u :: C)) = none) (ht : t.kind = 115 ∨ t.kind = 101) (hvs : ∀ y ∈ vs, y.kind = 118) (hu : u.kind = 46) (hr : RT C x) (ih : RTextC C x) :
    RTextC (t :: (vs ++ u :: C)) (.bound (t.kind == 101) (vs.map (·.n)) x) := by
  intro A n c w h
  obtain ⟨b0, off, q0, qb, q2, q3, q4⟩ := h.cells (k := 0) (t := t) rfl
  subst q0
  have hlen := h.len
  have hmax := h.max
  have hnc := h.le
  have hne := List.length_pos_iff.2 hr.ne
  rw [List.length_cons, List.length_append, List.length_cons] at hlen
  simp only [Nat.zero_mul, Nat.add_zero] at q2
  have h15 := h.n15
  have hsub : TkArg w (some ⟨b0, off + (vs.length + 2) * 3, none⟩) (n - (vs.length + 2)) (c - (vs.length + 2)) C := by
    have := h.drop (m := vs.length + 2) (by omega)
    rw [List.drop_succ_cons, List.drop_length_add_append] at this
    exact this
  have HA := Lib.hid (fun W (hW : Below w.heap.size w W) => ih _ _ _ W (hsub.on hW))
  have HST := Lib.hid (fun W (hW : Below w.heap.size w W) => rstop_any _ _ _ _ W (h.on hW))
  rw [stop_vars ht hvs hu] at HST
  have HS := Lib.hid (rsplit_any _ n c _ w h)
  rw [hsp] at HS
  rw [show scanV none = -1 from rfl] at HS
  have la : x.textE.length ≤ 400000 := by
    have := rt_len hr fun t ht => h15 t (by simp [ht])
    omega
  have HCELL := Lib.hid (fun (W : World) (hW : Below w.heap.size w W) (j : Nat) (y : Tok) (hy : vs[j]? = some y) => (by
    have hy2 : (t :: (vs ++ u :: C))[j + 1]? = some y := by
      rw [List.getElem?_cons_succ, List.getElem?_append_left (List.getElem?_eq_some_iff.1 hy).1, hy]
    obtain ⟨b', off', e, _, _, k3, _⟩ := h.cells hy2
    injection e with e
    injection e with e1 e2
    subst e1 e2
    exact (hW.cell (p := ⟨b0, off + (j + 1) * 3 + 1, none⟩) qb).trans k3 : W.cell? ⟨b0, off + (j + 1) * 3 + 1, none⟩ = some (.int .i64 (y.n : Nat))))
  obtain ⟨k0, hk0⟩ : ∃ k0, k0 = vs.length + 1 := ⟨_, rfl⟩
  have h2 : k0 + 1 < n := by omega
  have HV15 := Lib.hid (fun (j : Nat) (y : Tok) (hy : vs[j]? = some y) => h15 y (by simp [List.mem_of_getElem? hy]))
  have HBL := Lib.hid (fun j => bwT_len (vs.take j) fun y hy => h15 y (by simp [List.mem_of_mem_take hy]))
  have HK := Lib.hid hk0
  rw [← hk0] at HST
  rw [show vs.length + 2 = k0 + 1 by omega] at HA
  obtain ⟨hd, hhd⟩ : ∃ hd : List UInt8, hd = (if (t.kind == 101) = true then [101, 97, 99, 104] else [115, 111, 109, 101]) := ⟨_, rfl⟩
  have hd4 : hd.length = 4 := by rw [hhd]; split <;> rfl
  show Calls Tryz.prog _ _ w fun e w' => e = .returned (.string ⟨(((if (t.kind == 101) = true then [101, 97, 99, 104] else [115, 111, 109, 101]) : List UInt8) ++ ((vs.map fun y : Tok => y.n).flatMap (fun v => 32 :: 120 :: Lib.decDigits v) ++ 46 :: x.textE)).toArray⟩) ∧ _
  rw [bwT_map, ← hhd]
  generalize x.textE = ta at *
  have hkn : k0 ≤ 100000 := by omega
  clear ih h hsp hr q3 q4 hlen hne hsub hvs hu hk0 h15
  have HHD : Hid (hd = if (t.kind == 101) = true then [101, 97, 99, 104] else [115, 111, 109, 101]) := Lib.hid hhd
  clear hhd
  have START : ∃ p0 : ByteArray, p0 = ⟨hd.toArray⟩ := ⟨_, rfl⟩
  have main : ∀ (fr : Bool), (t.kind = if fr then 101 else 115) → Calls Tryz.prog 10 #[.slice (some ⟨b0, off, none⟩) n c] w fun e w' => e = .returned (.string ⟨(hd ++ (bwT vs ++ 46 :: ta)).toArray⟩) ∧ Below w.heap.size w w' := by
    intro fr hfr
    cases fr
    all_goals
      have hfr : t.kind = _ := hfr
      simp only [if_true, if_false, Bool.false_eq_true] at hfr
      have HD2 := HHD.out
      rw [hfr] at HD2 q2
      have HD3 := Lib.hid HD2
      clear HD2 hfr START
      go_enter Tryz.func10, Tryz.ntmps10
      go_wp2_with fail
      refine HS.out.mono ?_
      rintro e w1 ⟨rfl, rfl⟩
      go_wp2_with fail
      refine (HST.out _ (Below.refl _ _)).mono ?_
      rintro e w1 ⟨rfl, rfl⟩
      go_wp2_with fail
      go_loopw [4, 6] (fun o i wr => ∃ k : Nat, 1 ≤ k ∧ k ≤ k0 ∧ i = .int .i64 (k : Nat) ∧ o = .string ⟨(hd ++ bwT (vs.take (k - 1))).toArray⟩ ∧ Below w.heap.size w wr) (fun _ i _ => k0 - (intOf i).toNat)
      case atStart => exact ⟨1, by omega, by have := HK.out; omega, rfl, by rw [HD3.out]; simp [bwT], Below.refl _ _⟩
      case round =>
        obtain ⟨k, hk1, hk, rfl, rfl, hb⟩ := hrel
        have HB := Lib.hid hb
        have hbl := HBL.out (k - 1)
        have hbl2 : (bwT (vs.take (k - 1))).length ≤ 400000 := by have := List.length_take_le (k - 1) vs; omega
        clear hbl hb
        by_cases hlt : k < k0
        · obtain ⟨y, hy⟩ : ∃ y, vs[k - 1]? = some y := ⟨_, List.getElem?_eq_getElem (by have := HK.out; omega)⟩
          have hc := HCELL.out wr HB.out (k - 1) y hy
          rw [show k - 1 + 1 = k by omega] at hc
          have h15 := HV15.out (k - 1) y hy
          have hty := bwT_take hy
          rw [show k - 1 + 1 = k by omega] at hty
          have HTY := Lib.hid hty
          have HN := Lib.hid (fun W => num_any y.n W (by omega) (by omega))
          unfold txt at HN
          have la2 := digs_len y.n (by omega)
          clear hty hy
          generalize bwT (vs.take (k - 1)) = bw at *
          have c1 : (⟨(hd ++ bw).toArray⟩ : ByteArray) ++ ⟨#[32, 120]⟩ = ⟨(hd ++ (bw ++ [32, 120])).toArray⟩ := by rw [← List.append_assoc]; exact txt_append (hd ++ bw) [32, 120]
          have c2 : (⟨(hd ++ (bw ++ [32, 120])).toArray⟩ : ByteArray) ++ ⟨(Lib.decDigits y.n).toArray⟩ = ⟨(hd ++ (bw ++ 32 :: 120 :: Lib.decDigits y.n)).toArray⟩ := by rw [txt_append]; simp
          have l1 : ¬ 9223372036854775807 < hd.length + bw.length + 2 := by omega
          have l2 : ¬ 9223372036854775807 < hd.length + bw.length + 2 + (Lib.decDigits y.n).length := by omega
          go_wp2_with fail
          refine (HN.out _).mono ?_
          rintro e w2 ⟨rfl, hb2⟩
          go_wp2_with fail
          go_roundw
          case rel => exact ⟨k + 1, by omega, by omega, by go_num, by rw [show k + 1 - 1 = k by omega, HTY.out], HB.out.trans (hb2.mono HB.out.size)⟩
          case measure => simp [intOf]; omega
        · obtain rfl : k = k0 := by omega
          have hfull : vs.take (k - 1) = vs := List.take_of_length_le (by have := HK.out; omega)
          rw [hfull] at hbl2 ⊢
          clear hfull
          obtain ⟨bw, hbw⟩ : ∃ bw, bw = bwT vs := ⟨_, rfl⟩
          rw [← hbw] at hbl2 ⊢
          have HBW := Lib.hid hbw
          clear hbw
          have c1 : (⟨(hd ++ bw).toArray⟩ : ByteArray) ++ ⟨#[46]⟩ = ⟨(hd ++ (bw ++ [46])).toArray⟩ := by rw [← List.append_assoc]; exact txt_append (hd ++ bw) [46]
          have c2 : (⟨(hd ++ (bw ++ [46])).toArray⟩ : ByteArray) ++ ⟨ta.toArray⟩ = ⟨(hd ++ (bw ++ 46 :: ta)).toArray⟩ := by rw [txt_append]; simp
          have l1 : ¬ 9223372036854775807 < hd.length + bw.length + 1 := by omega
          have l2 : ¬ 9223372036854775807 < hd.length + bw.length + 1 + ta.length := by omega
          go_wp2_with fail
          refine (HA.out _ HB.out).mono ?_
          rintro e w2 ⟨rfl, hb2⟩
          go_wp2_with fail
          go_ret
          exact ⟨by rw [HBW.out]; rfl, HB.out.trans (hb2.mono HB.out.size)⟩
  rcases ht with ht | ht
  · exact main false ht
  · exact main true ht
theorem rtext_all {C : List Tok} {x : Ex} (h : RT C x) : RTextC C x := by
  induction h with
  | op h1 h2 _ h4 h5 ih1 ih2 => exact rtext_op h1 h2 h4 h5 ih1 ih2
  | not h1 h2 h3 ih => exact rtext_not h1 h2 h3 ih
  | par h1 h2 _ h4 ih => exact rtext_par h1 h2 h4 ih
  | bnd h1 h2 h3 h4 h5 ih => exact rtext_bnd h1 h2 h3 h4 h5 ih
  | var h1 h2 => exact rtext_var h1 h2
  | const h1 h2 => exact rtext_const h1 h2
end Go.Proofs.YtbhbhfplpbcfiaaGreatDoor
end
