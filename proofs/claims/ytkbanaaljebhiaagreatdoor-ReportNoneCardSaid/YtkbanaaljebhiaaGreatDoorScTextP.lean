/- Contract: script.Text. -/
import Derived.Test.YtkbanaaljebhiaaGreatDoorScText
import Derived.Deep.RegionWith
import Derived.Deep.DeepCutAuto
namespace Go.Proofs.YtkbanaaljebhiaaGreatDoor
open Go.RowKit Go.Sort
set_option linter.unusedSimpArgs false
set_option linter.unusedVariables false

theorem names_at (i : Nat) (hi : i < 30) (w : World) (hA : Asc w) : Calls Tryz.prog 19 #[] w fun e w' => e = .returned (.slice (some ⟨w.heap.size, 0, none⟩) 30 30) ∧ w'.cell? ⟨w.heap.size, i, none⟩ = some (txt (nameOf (i : Nat))) ∧ Below w.heap.size w w' :=
  (snames_any w hA).mono fun e w' ⟨he, hw⟩ => ⟨he, by rw [hw]; exact kind_cell w _ i hi, by rw [hw]; exact (Below.refl _ _).alloc (Nat.le_refl _) _⟩
theorem Asc.chg {w w' : World} {B : Nat} (h : Asc w) (hb : Below B w w') (hB : w.heap.size ≤ B) : Asc w' := by
  unfold Asc Lib.TabIs World.var? at *
  cases hg : Tryz.prog.globalNamed "strings.asciiSpace" with
  | none => simp [hg] at h
  | some g =>
    simp only [hg, Option.bind_some] at h ⊢
    have hlt : g < w.heap.size := by
      rcases Nat.lt_or_ge g w.heap.size with h' | h'
      · exact h'
      · rw [Array.getElem?_eq_none h'] at h; simp at h
    rw [hb.block g (by omega)]
    exact h
theorem Asc.on {w w' : World} (h : Asc w) (hb : Below w.heap.size w w') : Asc w' := h.chg hb (Nat.le_refl _)
theorem tail_snoc (l : List Int) (n : Int) : tailOf (l ++ [n]) = tailOf l ++ (32 :: Lib.itoa n) := by simp [tailOf]
theorem tail_len (l : List Int) (h : ∀ n ∈ l, (Lit.int .i64 n).wf = true) : (tailOf l).length ≤ 22 * l.length := by
  induction l with
  | nil => simp [tailOf]
  | cons n r ih =>
    have h1 := itoa_len n (h n (by simp))
    have h2 := ih fun m hm => h m (by simp [hm])
    simp only [tailOf, List.flatMap_cons, List.length_append, List.length_cons] at *
    omega
theorem text_step (x y : List UInt8) : (⟨x.toArray⟩ : ByteArray) ++ (⟨#[32]⟩ ++ ⟨y.toArray⟩) = ⟨(x ++ 32 :: y).toArray⟩ := by
  apply ByteArray.ext
  simp [ByteArray.data_append]
set_option maxRecDepth 100000 in
set_option maxHeartbeats 8000000 in
theorem stext_low (kn : Nat) (f a b c v kk : Int) (one : Bool) (hs : (⟨kn, f, a, b, c, v, kk, one⟩ : Stp).Wf) (hk : kn < 30) (w : World) (hP : Pow w) (hA : Asc w) :
    Calls Tryz.prog 12 #[.agg #[.int .u8 (kn : Nat), .int .u8 f, .int .i64 a, .int .i64 b, .int .i64 c, .int .i64 v, .int .u16 kk, .bool one]] w fun e w' => e = .returned (txt (⟨kn, f, a, b, c, v, kk, one⟩ : Stp).text) ∧ Below w.heap.size w w' := by
  have hwf := nine_wf _ hs
  obtain ⟨hk8, hf, ha, hb, hc, hv, hkk⟩ := hs
  simp only at hk8 hf hkk
  obtain ⟨W, hW⟩ : ∃ W, W = w.alloc (.cells #[.int .u8 (kn : Nat), .int .u8 f, .int .i64 a, .int .i64 b, .int .i64 c, .int .i64 v, .int .u16 kk, .bool one] 40) := ⟨_, rfl⟩
  have hbW : Below w.heap.size w W := by rw [hW]; exact (Below.refl _ _).alloc (Nat.le_refl _) _
  have hBW : Blk W w.heap.size 40 #[.int .u8 (kn : Nat), .int .u8 f, .int .i64 a, .int .i64 b, .int .i64 c, .int .i64 v, .int .u16 kk, .bool one] := by rw [hW]; exact Blk.new w _ _
  obtain ⟨ns, hns⟩ : ∃ ns, ns = (⟨kn, f, a, b, c, v, kk, one⟩ : Stp).nums := ⟨_, rfl⟩
  have htx : (⟨kn, f, a, b, c, v, kk, one⟩ : Stp).text = nameOf (kn : Nat) ++ tailOf ns := by rw [hns]; rfl
  rw [← hns] at hwf
  rw [htx]
  have HP := Lib.hid (hP.on hbW)
  have HA := Lib.hid (hA.on hbW)
  have HNA := Lib.hid (fun W' (h : Asc W') (hk : kn < 30) => names_at kn hk W' h)
  have HNN := Lib.hid (name_none (kn : Nat))
  have HWF := Lib.hid hwf
  have HNS := Lib.hid hns
  have l0 := name_len (kn : Nat)
  generalize nameOf (kn : Nat) = x0 at *
  unfold txt at HNA
  have HWW := Lib.hid hW
  have HbW := Lib.hid hbW
  have HBW := Lib.hid hBW
  clear hbW hBW hP hA hwf hns htx ha hb hc hv
  go_enter Tryz.func12, Tryz.ntmps12
  go_wp2_with fail
  rw [← HWW.out]
  clear hW
  have k0 := HBW.out.cell 0
  go_upto_region 3 with fail
  go_cut [3] (fun s3 wx => s3 = .string ⟨x0.toArray⟩ ∧ Below W.heap.size W wx)
  case first =>
    go_region_with (go_at_call 19; refine (HNA.out _ ?_ hk).mono ?_; (first | exact HA.out | fail); rintro e w1 ⟨rfl, hc1, hb1⟩; have hbK1 : Below W.heap.size W w1 := (by first | exact (Below.refl _ _).drew.trans hb1 | exact hb1); have hc2 : w1.cell? ⟨W.heap.size, kn, none⟩ = some (.string ⟨x0.toArray⟩) := hc1; have hc3 := (HBW.out.onB hbK1).cell 0; clear hc1 hb1)
    all_goals
      go_wp2_with fail
      go_meet
      exact ⟨rfl, hbK1⟩
  obtain ⟨rfl, hbK1⟩ := hcut
  clear k0
  obtain ⟨w1, rfl⟩ : ∃ w1, w1 = wc := ⟨_, rfl⟩
  have HB1 := Lib.hid hbK1
  have k1 := (HBW.out.onB hbK1).cell 1
  have k2 := (HBW.out.onB hbK1).cell 2
  have k3 := (HBW.out.onB hbK1).cell 3
  have k4 := (HBW.out.onB hbK1).cell 4
  have k5 := (HBW.out.onB hbK1).cell 5
  have k6 := (HBW.out.onB hbK1).cell 6
  have k7 := (HBW.out.onB hbK1).cell 7
  clear hbK1
  obtain ⟨W2, hW2⟩ : ∃ W2, W2 = w1.alloc (.cells #[.int .i64 f, .int .i64 a, .int .i64 b, .int .i64 c, .int .i64 v, .int .i64 kk, .int .i64 (if one then 1 else 0)] 3) := ⟨_, rfl⟩
  have hb2 : Below W.heap.size W W2 := by rw [hW2]; exact HB1.out.trans ((Below.refl _ _).alloc HB1.out.size _)
  have hcells : ∀ k n, ns[k]? = some n → W2.cell? ⟨w1.heap.size, k, none⟩ = some (.int .i64 n) := fun k n h => by
    rw [hW2, World.cell?_alloc_new]
    have e : (#[.int .i64 f, .int .i64 a, .int .i64 b, .int .i64 c, .int .i64 v, .int .i64 kk, .int .i64 (if one then 1 else 0)] : Array Value) = (ns.map (Value.int .i64)).toArray := by rw [HNS.out]; rfl
    rw [e]
    simp [h]
  have hns7 : ns.length = 7 := by rw [HNS.out]; rfl
  have HC2 := Lib.hid hcells
  have HB2 := Lib.hid hb2
  have HP2 := Lib.hid (HP.out.chg hb2 (Nat.le_refl _))
  have HW2 := Lib.hid hW2
  clear hcells hb2 HP HA HNA
  cases one
  · simp only [Bool.false_eq_true, if_false] at hW2 HW2
    go_wp2_with fail
    rw [← HW2.out]
    clear hW2 k1 k2 k3 k4 k5 k6 k7
    go_loopw [3, 34] (fun x i wr => ∃ k : Nat, k ≤ 7 ∧ i = .int .i64 k ∧ x = .string ⟨(x0 ++ tailOf (ns.take k)).toArray⟩ ∧ Below W2.heap.size W2 wr) (fun _ i _ => 7 - (intOf i).toNat)
    case atStart => exact ⟨0, by omega, rfl, by simp [tailOf], Below.refl _ _⟩
    case round =>
      obtain ⟨k, hk7, rfl, rfl, hbr⟩ := hrel
      have HR := Lib.hid hbr
      have hy : (x0 ++ tailOf (ns.take k)).length ≤ 200 := by
        have := tail_len (ns.take k) fun n hn => HWF.out n (List.mem_of_mem_take hn)
        rw [List.length_append]
        rw [List.length_take] at this
        omega
      rcases Nat.lt_or_ge k 7 with hlt | hge
      · obtain ⟨n, hn⟩ : ∃ n, ns[k]? = some n := ⟨_, List.getElem?_eq_getElem (by omega)⟩
        have hnw := HWF.out n (List.mem_of_getElem? hn)
        have hcell := (hbr.cell (p := ⟨w1.heap.size, k, none⟩) (by have := HW2.out; rw [this]; simp)).trans (HC2.out k n hn)
        have HI := Lib.hid (itoa_any n hnw wr (HP2.out.on hbr))
        have hz := itoa_len n hnw
        have HE : Hid (x0 ++ tailOf (ns.take (k + 1)) = (x0 ++ tailOf (ns.take k)) ++ 32 :: Lib.itoa n) := Lib.hid (by
          rw [List.take_add_one, hn, Option.toList_some, tail_snoc, List.append_assoc])
        obtain ⟨y, hy0⟩ : ∃ y, y = x0 ++ tailOf (ns.take k) := ⟨_, rfl⟩
        rw [← hy0] at hy HE ⊢
        clear hy0
        generalize Lib.itoa n = z at *
        unfold txt at HI
        clear hbr hn hnw
        go_wp2_with fail
        refine HI.out.mono ?_
        rintro e w3 ⟨rfl, hb3⟩
        have HB3 := Lib.hid (HR.out.trans (hb3.mono HR.out.size))
        clear hb3 hcell
        go_wp2_with fail
        go_roundw
        case rel => exact ⟨k + 1, by omega, by go_num, by rw [HE.out]; exact congrArg Value.string (text_step y z), HB3.out⟩
        case measure => simp [intOf]; omega
      · obtain rfl : k = 7 := by omega
        have e : ns.take 7 = ns := List.take_of_length_le (by omega)
        rw [e] at hy ⊢
        clear hbr
        obtain ⟨y, hy0⟩ : ∃ y, y = x0 ++ tailOf ns := ⟨_, rfl⟩
        rw [← hy0] at hy ⊢
        have HY := Lib.hid hy0
        clear hy0
        go_wp2_with fail
        go_ret
        refine ⟨?_, HbW.out.trans ((HB2.out.trans (HR.out.mono HB2.out.size)).mono HbW.out.size)⟩
        rw [← HY.out]
        rfl
  · simp only [if_true] at hW2 HW2
    go_wp2_with fail
    rw [← HW2.out]
    clear hW2 k1 k2 k3 k4 k5 k6 k7
    go_loopw [3, 34] (fun x i wr => ∃ k : Nat, k ≤ 7 ∧ i = .int .i64 k ∧ x = .string ⟨(x0 ++ tailOf (ns.take k)).toArray⟩ ∧ Below W2.heap.size W2 wr) (fun _ i _ => 7 - (intOf i).toNat)
    case atStart => exact ⟨0, by omega, rfl, by simp [tailOf], Below.refl _ _⟩
    case round =>
      obtain ⟨k, hk7, rfl, rfl, hbr⟩ := hrel
      have HR := Lib.hid hbr
      have hy : (x0 ++ tailOf (ns.take k)).length ≤ 200 := by
        have := tail_len (ns.take k) fun n hn => HWF.out n (List.mem_of_mem_take hn)
        rw [List.length_append]
        rw [List.length_take] at this
        omega
      rcases Nat.lt_or_ge k 7 with hlt | hge
      · obtain ⟨n, hn⟩ : ∃ n, ns[k]? = some n := ⟨_, List.getElem?_eq_getElem (by omega)⟩
        have hnw := HWF.out n (List.mem_of_getElem? hn)
        have hcell := (hbr.cell (p := ⟨w1.heap.size, k, none⟩) (by have := HW2.out; rw [this]; simp)).trans (HC2.out k n hn)
        have HI := Lib.hid (itoa_any n hnw wr (HP2.out.on hbr))
        have hz := itoa_len n hnw
        have HE : Hid (x0 ++ tailOf (ns.take (k + 1)) = (x0 ++ tailOf (ns.take k)) ++ 32 :: Lib.itoa n) := Lib.hid (by
          rw [List.take_add_one, hn, Option.toList_some, tail_snoc, List.append_assoc])
        obtain ⟨y, hy0⟩ : ∃ y, y = x0 ++ tailOf (ns.take k) := ⟨_, rfl⟩
        rw [← hy0] at hy HE ⊢
        clear hy0
        generalize Lib.itoa n = z at *
        unfold txt at HI
        clear hbr hn hnw
        go_wp2_with fail
        refine HI.out.mono ?_
        rintro e w3 ⟨rfl, hb3⟩
        have HB3 := Lib.hid (HR.out.trans (hb3.mono HR.out.size))
        clear hb3 hcell
        go_wp2_with fail
        go_roundw
        case rel => exact ⟨k + 1, by omega, by go_num, by rw [HE.out]; exact congrArg Value.string (text_step y z), HB3.out⟩
        case measure => simp [intOf]; omega
      · obtain rfl : k = 7 := by omega
        have e : ns.take 7 = ns := List.take_of_length_le (by omega)
        rw [e] at hy ⊢
        clear hbr
        obtain ⟨y, hy0⟩ : ∃ y, y = x0 ++ tailOf ns := ⟨_, rfl⟩
        rw [← hy0] at hy ⊢
        have HY := Lib.hid hy0
        clear hy0
        go_wp2_with fail
        go_ret
        refine ⟨?_, HbW.out.trans ((HB2.out.trans (HR.out.mono HB2.out.size)).mono HbW.out.size)⟩
        rw [← HY.out]
        rfl
set_option maxRecDepth 100000 in
set_option maxHeartbeats 8000000 in
theorem stext_high (kn : Nat) (f a b c v kk : Int) (one : Bool) (hs : (⟨kn, f, a, b, c, v, kk, one⟩ : Stp).Wf) (hk : 30 ≤ kn) (w : World) (hP : Pow w) (hA : Asc w) :
    Calls Tryz.prog 12 #[.agg #[.int .u8 (kn : Nat), .int .u8 f, .int .i64 a, .int .i64 b, .int .i64 c, .int .i64 v, .int .u16 kk, .bool one]] w fun e w' => e = .returned (txt (⟨kn, f, a, b, c, v, kk, one⟩ : Stp).text) ∧ Below w.heap.size w w' := by
  have hwf := nine_wf _ hs
  obtain ⟨hk8, hf, ha, hb, hc, hv, hkk⟩ := hs
  simp only at hk8 hf hkk
  obtain ⟨W, hW⟩ : ∃ W, W = w.alloc (.cells #[.int .u8 (kn : Nat), .int .u8 f, .int .i64 a, .int .i64 b, .int .i64 c, .int .i64 v, .int .u16 kk, .bool one] 40) := ⟨_, rfl⟩
  have hbW : Below w.heap.size w W := by rw [hW]; exact (Below.refl _ _).alloc (Nat.le_refl _) _
  have hBW : Blk W w.heap.size 40 #[.int .u8 (kn : Nat), .int .u8 f, .int .i64 a, .int .i64 b, .int .i64 c, .int .i64 v, .int .u16 kk, .bool one] := by rw [hW]; exact Blk.new w _ _
  obtain ⟨ns, hns⟩ : ∃ ns, ns = (⟨kn, f, a, b, c, v, kk, one⟩ : Stp).nums := ⟨_, rfl⟩
  have htx : (⟨kn, f, a, b, c, v, kk, one⟩ : Stp).text = nameOf (kn : Nat) ++ tailOf ns := by rw [hns]; rfl
  rw [← hns] at hwf
  rw [htx]
  have HP := Lib.hid (hP.on hbW)
  have HA := Lib.hid (hA.on hbW)
  have HNN := Lib.hid (name_none (kn : Nat))
  have HWF := Lib.hid hwf
  have HNS := Lib.hid hns
  have l0 := name_len (kn : Nat)
  generalize nameOf (kn : Nat) = x0 at *
  have HWW := Lib.hid hW
  have HbW := Lib.hid hbW
  have HBW := Lib.hid hBW
  clear hbW hBW hP hA hwf hns htx ha hb hc hv
  have hx0 := HNN.out (by omega)
  have HX0 := Lib.hid hx0
  clear hx0
  obtain ⟨w1, hw1⟩ : ∃ w1, w1 = W := ⟨_, rfl⟩
  have HB1 : Hid (Below W.heap.size W w1) := Lib.hid (by rw [hw1]; exact Below.refl _ _)
  have HEQ := Lib.hid hw1
  clear hW hw1
  obtain ⟨W2, hW2⟩ : ∃ W2, W2 = w1.alloc (.cells #[.int .i64 f, .int .i64 a, .int .i64 b, .int .i64 c, .int .i64 v, .int .i64 kk, .int .i64 (if one then 1 else 0)] 3) := ⟨_, rfl⟩
  have hb2 : Below W.heap.size W W2 := by rw [hW2]; exact HB1.out.trans ((Below.refl _ _).alloc HB1.out.size _)
  have hcells : ∀ k n, ns[k]? = some n → W2.cell? ⟨w1.heap.size, k, none⟩ = some (.int .i64 n) := fun k n h => by
    rw [hW2, World.cell?_alloc_new]
    have e : (#[.int .i64 f, .int .i64 a, .int .i64 b, .int .i64 c, .int .i64 v, .int .i64 kk, .int .i64 (if one then 1 else 0)] : Array Value) = (ns.map (Value.int .i64)).toArray := by rw [HNS.out]; rfl
    rw [e]
    simp [h]
  have hns7 : ns.length = 7 := by rw [HNS.out]; rfl
  have HC2 := Lib.hid hcells
  have HB2 := Lib.hid hb2
  have HP2 := Lib.hid (HP.out.chg hb2 (Nat.le_refl _))
  have HW2 := Lib.hid hW2
  clear hcells hb2 HP HA
  cases one
  all_goals
    go_enter Tryz.func12, Tryz.ntmps12
  · simp only [Bool.false_eq_true, if_false] at hW2 HW2
    go_wp2_with fail
    rw [← HWW.out, ← HEQ.out, ← HW2.out]
    clear hW2
    go_loopw [3, 34] (fun x i wr => ∃ k : Nat, k ≤ 7 ∧ i = .int .i64 k ∧ x = .string ⟨(x0 ++ tailOf (ns.take k)).toArray⟩ ∧ Below W2.heap.size W2 wr) (fun _ i _ => 7 - (intOf i).toNat)
    case atStart => exact ⟨0, by omega, rfl, by rw [HX0.out]; simp [tailOf], Below.refl _ _⟩
    case round =>
      obtain ⟨k, hk7, rfl, rfl, hbr⟩ := hrel
      have HR := Lib.hid hbr
      have hy : (x0 ++ tailOf (ns.take k)).length ≤ 200 := by
        have := tail_len (ns.take k) fun n hn => HWF.out n (List.mem_of_mem_take hn)
        rw [List.length_append]
        rw [List.length_take] at this
        omega
      rcases Nat.lt_or_ge k 7 with hlt | hge
      · obtain ⟨n, hn⟩ : ∃ n, ns[k]? = some n := ⟨_, List.getElem?_eq_getElem (by omega)⟩
        have hnw := HWF.out n (List.mem_of_getElem? hn)
        have hcell := (hbr.cell (p := ⟨w1.heap.size, k, none⟩) (by have := HW2.out; rw [this]; simp)).trans (HC2.out k n hn)
        rw [show w1.heap.size = w.heap.size + 1 by rw [HEQ.out, HWW.out]; simp] at hcell
        have HI := Lib.hid (itoa_any n hnw wr (HP2.out.on hbr))
        have hz := itoa_len n hnw
        have HE : Hid (x0 ++ tailOf (ns.take (k + 1)) = (x0 ++ tailOf (ns.take k)) ++ 32 :: Lib.itoa n) := Lib.hid (by
          rw [List.take_add_one, hn, Option.toList_some, tail_snoc, List.append_assoc])
        obtain ⟨y, hy0⟩ : ∃ y, y = x0 ++ tailOf (ns.take k) := ⟨_, rfl⟩
        rw [← hy0] at hy HE ⊢
        clear hy0
        generalize Lib.itoa n = z at *
        unfold txt at HI
        clear hbr hn hnw
        go_wp2_with fail
        refine HI.out.mono ?_
        rintro e w3 ⟨rfl, hb3⟩
        have HB3 := Lib.hid (HR.out.trans (hb3.mono HR.out.size))
        clear hb3 hcell
        go_wp2_with fail
        go_roundw
        case rel => exact ⟨k + 1, by omega, by go_num, by rw [HE.out]; exact congrArg Value.string (text_step y z), HB3.out⟩
        case measure => simp [intOf]; omega
      · obtain rfl : k = 7 := by omega
        have e : ns.take 7 = ns := List.take_of_length_le (by omega)
        rw [e] at hy ⊢
        clear hbr
        obtain ⟨y, hy0⟩ : ∃ y, y = x0 ++ tailOf ns := ⟨_, rfl⟩
        rw [← hy0] at hy ⊢
        have HY := Lib.hid hy0
        clear hy0
        go_wp2_with fail
        go_ret
        refine ⟨?_, HbW.out.trans ((HB2.out.trans (HR.out.mono HB2.out.size)).mono HbW.out.size)⟩
        rw [← HY.out]
        rfl
  · simp only [if_true] at hW2 HW2
    go_wp2_with fail
    rw [← HWW.out, ← HEQ.out, ← HW2.out]
    clear hW2
    go_loopw [3, 34] (fun x i wr => ∃ k : Nat, k ≤ 7 ∧ i = .int .i64 k ∧ x = .string ⟨(x0 ++ tailOf (ns.take k)).toArray⟩ ∧ Below W2.heap.size W2 wr) (fun _ i _ => 7 - (intOf i).toNat)
    case atStart => exact ⟨0, by omega, rfl, by rw [HX0.out]; simp [tailOf], Below.refl _ _⟩
    case round =>
      obtain ⟨k, hk7, rfl, rfl, hbr⟩ := hrel
      have HR := Lib.hid hbr
      have hy : (x0 ++ tailOf (ns.take k)).length ≤ 200 := by
        have := tail_len (ns.take k) fun n hn => HWF.out n (List.mem_of_mem_take hn)
        rw [List.length_append]
        rw [List.length_take] at this
        omega
      rcases Nat.lt_or_ge k 7 with hlt | hge
      · obtain ⟨n, hn⟩ : ∃ n, ns[k]? = some n := ⟨_, List.getElem?_eq_getElem (by omega)⟩
        have hnw := HWF.out n (List.mem_of_getElem? hn)
        have hcell := (hbr.cell (p := ⟨w1.heap.size, k, none⟩) (by have := HW2.out; rw [this]; simp)).trans (HC2.out k n hn)
        rw [show w1.heap.size = w.heap.size + 1 by rw [HEQ.out, HWW.out]; simp] at hcell
        have HI := Lib.hid (itoa_any n hnw wr (HP2.out.on hbr))
        have hz := itoa_len n hnw
        have HE : Hid (x0 ++ tailOf (ns.take (k + 1)) = (x0 ++ tailOf (ns.take k)) ++ 32 :: Lib.itoa n) := Lib.hid (by
          rw [List.take_add_one, hn, Option.toList_some, tail_snoc, List.append_assoc])
        obtain ⟨y, hy0⟩ : ∃ y, y = x0 ++ tailOf (ns.take k) := ⟨_, rfl⟩
        rw [← hy0] at hy HE ⊢
        clear hy0
        generalize Lib.itoa n = z at *
        unfold txt at HI
        clear hbr hn hnw
        go_wp2_with fail
        refine HI.out.mono ?_
        rintro e w3 ⟨rfl, hb3⟩
        have HB3 := Lib.hid (HR.out.trans (hb3.mono HR.out.size))
        clear hb3 hcell
        go_wp2_with fail
        go_roundw
        case rel => exact ⟨k + 1, by omega, by go_num, by rw [HE.out]; exact congrArg Value.string (text_step y z), HB3.out⟩
        case measure => simp [intOf]; omega
      · obtain rfl : k = 7 := by omega
        have e : ns.take 7 = ns := List.take_of_length_le (by omega)
        rw [e] at hy ⊢
        clear hbr
        obtain ⟨y, hy0⟩ : ∃ y, y = x0 ++ tailOf ns := ⟨_, rfl⟩
        rw [← hy0] at hy ⊢
        have HY := Lib.hid hy0
        clear hy0
        go_wp2_with fail
        go_ret
        refine ⟨?_, HbW.out.trans ((HB2.out.trans (HR.out.mono HB2.out.size)).mono HbW.out.size)⟩
        rw [← HY.out]
        rfl
theorem stext_any (s : Stp) (hs : s.Wf) (w : World) (hP : Pow w) (hA : Asc w) :
    Calls Tryz.prog 12 #[.agg s.cells.toArray] w fun e w' => e = .returned (txt s.text) ∧ Below w.heap.size w w' := by
  obtain ⟨k, f, a, b, c, v, kk, one⟩ := s
  obtain ⟨kn, rfl⟩ := Int.eq_ofNat_of_zero_le hs.1.1
  rcases Nat.lt_or_ge kn 30 with h | h
  · exact stext_low kn f a b c v kk one hs h w hP hA
  · exact stext_high kn f a b c v kk one hs h w hP hA
end Go.Proofs.YtkbanaaljebhiaaGreatDoor
