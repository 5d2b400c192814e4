/- Contracts: set.Of, column, single, Single. -/
import Derived.Test.YtfcklfpgjadfmaaDoorSetQ
namespace Go.Proofs.YtfcklfpgjadfmaaDoor
open Go.RowKit Go.Sort
set_option linter.unusedSimpArgs false
set_option linter.unusedVariables false

/-- a list of ints as an argument -/
structure IntsArg (w : World) (A : Option Addr) (len c : Nat) (l : List Int) : Prop where
  hlen : l.length = len
  hcap : len ≤ c
  hmax : c ≤ maxLen
  row : RowF (Value.int .i64) 0 w w.heap.size A l
  wf : ∀ x ∈ l, (Lit.int .i64 x).wf = true
theorem IntsArg.on {w w' : World} {A : Option Addr} {len c : Nat} {l : List Int} (h : IntsArg w A len c l) (hb : Below w.heap.size w w') : IntsArg w' A len c l := ⟨h.hlen, h.hcap, h.hmax, h.row.on hb, h.wf⟩
/-- one assignment more -/
def putBit (ws : List Nat) (x : Nat) : List Nat := ws.set (x / 64) (wat ws (x / 64) ||| 2 ^ (x % 64))
def ofL (m : Nat) (l : List Nat) : List Nat := l.foldl putBit (List.replicate m 0)
theorem putBit_length (ws : List Nat) (x : Nat) : (putBit ws x).length = ws.length := by simp [putBit]
theorem ofL_length (m : Nat) (l : List Nat) : (ofL m l).length = m := by
  unfold ofL
  suffices h : ∀ (l ws : List Nat), (l.foldl putBit ws).length = ws.length by rw [h]; simp
  intro l
  induction l with
  | nil => intro ws; rfl
  | cons x r ih => intro ws; rw [List.foldl_cons, ih, putBit_length]
theorem putBit_bit {ws : List Nat} {x : Nat} (hx : x / 64 < ws.length) (y : Nat) : bitAt (putBit ws x) y = (bitAt ws y || decide (y = x)) := by
  unfold bitAt putBit
  by_cases h : y / 64 = x / 64
  · rw [h, List.getElem?_set_self hx, Option.getD_some, Nat.testBit_or, Nat.testBit_two_pow]
    unfold wat
    congr 1
    rw [decide_eq_decide]
    omega
  · rw [List.getElem?_set_ne (fun e => h e.symm), decide_eq_false (p := y = x) (fun e => h (by rw [e])), Bool.or_false]
theorem ofL_snoc (m : Nat) (l : List Nat) (x : Nat) : ofL m (l ++ [x]) = putBit (ofL m l) x := by unfold ofL; rw [List.foldl_append]; rfl
theorem foldPut_bit {m : Nat} : ∀ (l ws : List Nat), ws.length = m → (∀ x ∈ l, x / 64 < m) → ∀ y, bitAt (l.foldl putBit ws) y = (bitAt ws y || decide (y ∈ l))
  | [], ws, _, _, y => by simp
  | x :: r, ws, hw, h, y => by
    rw [List.foldl_cons, foldPut_bit r _ (by rw [putBit_length]; exact hw) (fun z hz => h z (List.mem_cons_of_mem _ hz)), putBit_bit (by rw [hw]; exact h x (List.mem_cons_self ..)), Bool.or_assoc]
    congr 1
    rw [Bool.eq_iff_iff]
    simp
theorem ofL_bit (m : Nat) (l : List Nat) (h : ∀ x ∈ l, x / 64 < m) (y : Nat) : bitAt (ofL m l) y = decide (y ∈ l) := by
  unfold ofL
  rw [foldPut_bit l _ (by simp) h]
  unfold bitAt
  rw [List.getElem?_replicate]
  split <;> simp
theorem foldPut_lt : ∀ (l ws : List Nat), (∀ v ∈ ws, v < 18446744073709551616) → ∀ v ∈ l.foldl putBit ws, v < 18446744073709551616
  | [], ws, h, v, hv => h v hv
  | x :: r, ws, h, v, hv => foldPut_lt r (putBit ws x) (fun u hu => by
    unfold putBit at hu
    rcases List.mem_or_eq_of_mem_set hu with h1 | rfl
    · exact h u h1
    · have h1 : wat ws (x / 64) < 2 ^ 64 := wat_lt h _
      exact Nat.or_lt_two_pow h1 (Nat.pow_lt_pow_right (by omega) (Nat.mod_lt _ (by omega)))) v hv
theorem ofL_lt (m : Nat) (l : List Nat) : ∀ v ∈ ofL m l, v < 18446744073709551616 := foldPut_lt l _ (by simp +contextual)
theorem ofL_ok {n : Nat} (hn : n ≤ 16) {l : List Nat} (hl : ∀ x ∈ l, x < 2 ^ n) : SOk n (ofL (wordsN n) l) :=
  ⟨hn, ofL_length _ _, ofL_lt _ _, fun x hx hx2 => by
    rw [ofL_bit _ _ (fun y hy => idx_lt (hl y hy)), decide_eq_false]
    intro hm
    have := hl x hm
    omega⟩
/-- may all be in? -/
def allIn (n : Nat) (l : List Int) : Prop := ∀ x ∈ l, 0 ≤ x ∧ x < (2 ^ n : Nat)
theorem u64_pow (r : Nat) (hr : r < 64) : IntKind.u64.wrap ((2 : Int) ^ r) = ((2 ^ r : Nat) : Int) := by
  have hp64 : (2 : Nat) ^ r < 2 ^ 64 := Nat.pow_lt_pow_right (by decide) hr
  have h2 : ((2 : Int) ^ r) = ((2 ^ r : Nat) : Int) := by simp
  rw [h2, IntKind.wrap_u64]
  clear h2
  generalize (2 : Nat) ^ r = p at *
  omega
def OfPost (n : Nat) (l : List Int) (w : World) (e : Ending) (w' : World) : Prop := (allIn n l ∧ SetRes2 w n (ofL (wordsN n) (l.map Int.toNat)) e w') ∨ (¬ allIn n l ∧ SetErr w 1 e w')
set_option maxRecDepth 100000 in
set_option maxHeartbeats 4000000 in
theorem sof_any (n : Nat) (hn : n ≤ 16) (A : Option Addr) (len c : Nat) (l : List Int) (w : World) (h : IntsArg w A len c l) :
    Calls Tryd.prog 28 #[.int .i64 (n : Nat), .slice A len c] w (OfPost n l w) := by
  have hm := wordsN_le hn
  have hN := pow16 hn
  have hp := wrap64_pow n (by omega)
  have hlc := Nat.le_trans h.hcap h.hmax
  unfold maxLen at hlc
  have HIX := Lib.hid (fun x (hx : x < 2 ^ n) => idx_lt hx)
  have HBL := Lib.hid (fun W => sblank_any n hn W)
  have hma := fun W => smay_any (n : Int) W
  rw [show smayB (n : Int) = true from decide_eq_true (by omega)] at hma
  have HMA := Lib.hid hma
  have HLEN := Lib.hid h.hlen
  have HROW := Lib.hid h.row
  have HWF := Lib.hid h.wf
  unfold setV at HBL
  obtain ⟨m, hmE⟩ : ∃ m, m = wordsN n := ⟨_, rfl⟩
  obtain ⟨N, hNE⟩ : ∃ N, N = 2 ^ n := ⟨_, rfl⟩
  have HME := Lib.hid hmE
  have HNN := Lib.hid hNE
  rw [← hmE] at hm HIX HBL
  rw [← hNE] at hN hp HIX
  clear hma h hmE hNE
  have HBK := Lib.hid (Blk.new w 43 #[.int .i64 0, .slice none 0 0])
  have HB0 := Lib.hid ((Below.refl w.heap.size w).alloc (Nat.le_refl _) (.cells #[.int .i64 0, .slice none 0 0] 43))
  go_enter Tryd.func28, Tryd.ntmps28
  go_wp2_with fail
  refine (HMA.out _).mono ?_
  rintro e w' ⟨rfl, rfl⟩
  go_wp2_with fail
  refine (HBL.out _).mono ?_
  rintro e w1 ⟨b, rfl, hb, hown, hb1⟩
  rw [World.size_alloc] at hb
  have hs1 := hb1.size
  rw [World.size_alloc] at hs1
  have hblt := (hown.lt b rfl).2
  obtain ⟨V, hV⟩ : ∃ V, V = w1.alloc (.cells #[.int .i64 (n : Nat), .slice (some ⟨b, 0, none⟩) m m] 43) := ⟨_, rfl⟩
  have hbV := (HB0.out.trans (hb1.mono HB0.out.size)).alloc (by omega) (.cells #[.int .i64 (n : Nat), .slice (some ⟨b, 0, none⟩) m m] 43)
  have hR := (HBK.out.onB hb1).alloc (.cells #[.int .i64 (n : Nat), .slice (some ⟨b, 0, none⟩) m m] 43)
  have hO := Blk.new w1 43 #[.int .i64 (n : Nat), .slice (some ⟨b, 0, none⟩) m m]
  have hown' := (hown.mono (show w.heap.size ≤ _ by rw [World.size_alloc]; omega)).alloc (.cells #[.int .i64 (n : Nat), .slice (some ⟨b, 0, none⟩) m m] 43)
  rw [← hV] at hbV hR hO hown'
  have HNE : Hid (w.heap.size + 1 ≤ b ∧ b < w1.heap.size) := Lib.hid ⟨hb, hblt⟩
  have HVV := Lib.hid hV
  have S := Lib.hid (And.intro hR (And.intro hO (And.intro hown' hbV)))
  clear hown hb1 hb hs1 hblt hV hbV hR hO hown'
  go_wp2_with fail
  rw [← HVV.out]
  go_loopw [17] (fun i wr => ∃ k : Nat, k ≤ len ∧ i = .int .i64 k ∧ (∀ x ∈ l.take k, 0 ≤ x ∧ x < (N : Nat)) ∧ Blk wr w.heap.size 43 #[.int .i64 0, .slice none 0 0] ∧ Blk wr w1.heap.size 43 #[.int .i64 (n : Nat), .slice (some ⟨b, 0, none⟩) m m] ∧
    OwnF U 29 wr w.heap.size (.slice (some ⟨b, 0, none⟩) m m) (ofL m ((l.take k).map Int.toNat)) ∧ Below w.heap.size w wr) (fun i _ => len - (intOf i).toNat)
  case atStart => exact ⟨0, Nat.zero_le _, rfl, by simp, S.out.1, S.out.2.1, S.out.2.2.1, S.out.2.2.2⟩
  case round =>
    obtain ⟨k, hk, rfl, hall, hR, hO, hown, hbw⟩ := hrel
    have R := Lib.hid (And.intro hR (And.intro hO (And.intro hown hbw)))
    have HALL := Lib.hid hall
    clear hall
    by_cases hlt : k < len
    · obtain ⟨b0, off, rfl, hb0, hcell⟩ := HROW.out (by rw [HLEN.out]; omega)
      have hx0 := hcell k (by rw [HLEN.out]; exact hlt)
      have hkl : k < l.length := by rw [HLEN.out]; exact hlt
      rw [List.getElem?_eq_getElem hkl, Option.getD_some] at hx0
      have hv : wr.cell? ⟨b0, off + k, none⟩ = some (.int .i64 l[k]) := (hbw.cell (p := ⟨b0, off + k, none⟩) hb0).trans hx0
      have hwf := i64_of_wf (HWF.out _ (List.getElem_mem hkl))
      have htk : l.take (k + 1) = l.take k ++ [l[k]] := by rw [List.take_add_one, List.getElem?_eq_getElem hkl]; rfl
      have HTK := Lib.hid htk
      have HMEM := Lib.hid (List.getElem_mem hkl)
      have kR0 : wr.cell? ⟨w.heap.size, 0, none⟩ = some (.int .i64 0) := hR.cell 0
      have kR1 : wr.cell? ⟨w.heap.size, 1, none⟩ = some (.slice none 0 0) := hR.cell 1
      have z0 := hR.frozen 0
      have z1 := hR.frozen 1
      generalize l[k] = x at *
      clear hx0 hcell htk
      by_cases hbad : x < 0 ∨ (N : Int) ≤ x
      · have hno : Hid (¬ allIn n l) := Lib.hid (fun h => by have := h x HMEM.out; have := HNN.out; omega)
        rcases hbad with hbad | hbad
        · clear hO hown hbw hR
          go_wp2_with fail
          refine bodyPost_ret (v := .tuple #[.agg #[.int .i64 0, .slice none 0 0], .int .u8 1]) ?_ rfl (.inr ⟨hno.out, rfl, ?_⟩)
          · simp [results, Tryd.results28, go_sem, *]
          · first | exact R.out.2.2.2 | exact (R.out.2.2.2.setCell (Nat.le_refl _) _).setCell (Nat.le_refl _) _
        · have hge : ¬ x < 0 := by omega
          clear hO hown hbw hR
          go_wp2_with fail
          refine bodyPost_ret (v := .tuple #[.agg #[.int .i64 0, .slice none 0 0], .int .u8 1]) ?_ rfl (.inr ⟨hno.out, rfl, ?_⟩)
          · simp [results, Tryd.results28, go_sem, *]
          · first | exact R.out.2.2.2 | exact (R.out.2.2.2.setCell (Nat.le_refl _) _).setCell (Nat.le_refl _) _
      · obtain ⟨y, rfl⟩ := Int.eq_ofNat_of_zero_le (a := x) (by omega)
        have hyN : y < N := by omega
        have hym := HIX.out y hyN
        have kO : wr.cell? ⟨w1.heap.size, 1, none⟩ = some (.slice (some ⟨b, 0, none⟩) m m) := hO.cell 1
        have hat := hown.at_ (y / 64) (by rw [ofL_length]; exact hym)
        have hwat : (ofL m ((l.take k).map Int.toNat))[y / 64]? = some (wat (ofL m ((l.take k).map Int.toNat)) (y / 64)) := by
          unfold wat
          rw [List.getElem?_eq_getElem (by rw [ofL_length]; exact hym)]
          rfl
        rw [hwat] at hat
        have kc : wr.cell? ⟨b, y / 64, none⟩ = some (.int .u64 (wat (ofL m ((l.take k).map Int.toNat)) (y / 64) : Nat)) := hat.1
        have kz : wr.frozen? ⟨b, y / 64, none⟩ = false := hat.2
        have hwl := wat_lt (ofL_lt m ((l.take k).map Int.toNat)) (y / 64)
        have hd1 : ¬ (y : Int) < 0 := by omega
        have hd2 : ¬ (N : Int) ≤ (y : Int) := by omega
        have hpb : Hid (putBit (ofL m ((l.take k).map Int.toNat)) y = (ofL m ((l.take k).map Int.toNat)).set (y / 64) (wat (ofL m ((l.take k).map Int.toNat)) (y / 64) ||| 2 ^ (y % 64))) := Lib.hid rfl
        have hq1 : IntKind.i64.wrap ((y : Int) / 64) = ((y / 64 : Nat) : Int) := by rw [IntWalk.i64_in _ (by omega)]; omega
        have hr1 : Int.tmod (y : Int) 64 = ((y % 64 : Nat) : Int) := by rw [Int.tmod_eq_emod_of_nonneg (by omega)]; omega
        have hr64 : y % 64 < 64 := Nat.mod_lt _ (by omega)
        have hs1 := u64_pow (y % 64) hr64
        generalize y / 64 = q at *
        generalize y % 64 = r at *
        generalize hwv : wat (ofL m ((l.take k).map Int.toNat)) q = v at *
        have hp64 : 2 ^ r < 18446744073709551616 := (show (2 : Nat) ^ r < 2 ^ 64 from Nat.pow_lt_pow_right (by decide) hr64)
        have hor := u64_or_nat v (2 ^ r) hwl hp64
        generalize 2 ^ r = pr at *
        clear hO hown hbw hR hat hwat hbad hwv
        go_wp2_with fail
        go_still_tail 11, (by kernel_rfl)
        go_wp2_with fail
        go_roundw
        case rel =>
          obtain ⟨hR, hO, hown, hbw⟩ := R.out
          have hst := hown.set_ q (v ||| pr)
          rw [← hpb.out, ← Int.toNat_natCast y, ← ofL_snoc] at hst
          refine ⟨k + 1, by omega, by go_num, ?_, hR.store (by have := HNE.out; omega) q _, hO.store (by have := HNE.out; omega) q _, ?_, (hbw.setCell (p := ⟨b, q, none⟩) (by have := HNE.out; simp only; omega) _).drew⟩
          · intro x hx
            rw [HTK.out, List.mem_append, List.mem_singleton] at hx
            rcases hx with hx | rfl
            · exact HALL.out x hx
            · omega
          · rw [HTK.out, List.map_append]
            exact hst
        case measure => simp [intOf]; omega
    · obtain rfl : k = len := by omega
      have kO0 : wr.cell? ⟨w1.heap.size, 0, none⟩ = some (.int .i64 (n : Nat)) := hO.cell 0
      have kO1 : wr.cell? ⟨w1.heap.size, 1, none⟩ = some (.slice (some ⟨b, 0, none⟩) m m) := hO.cell 1
      have kR0 : wr.cell? ⟨w.heap.size, 0, none⟩ = some (.int .i64 0) := hR.cell 0
      have kR1 : wr.cell? ⟨w.heap.size, 1, none⟩ = some (.slice none 0 0) := hR.cell 1
      have z0 := hR.frozen 0
      have z1 := hR.frozen 1
      clear hR hO hown hbw
      go_wp2_with fail
      have htl : l.take k = l := by rw [← HLEN.out]; exact List.take_length
      refine bodyPost_ret (v := .tuple #[.agg #[.int .i64 (n : Nat), .slice (some ⟨b, 0, none⟩) m m], .int .u8 0]) ?_ rfl (.inl ⟨?_, b, ?_, by have := HNE.out; omega, ?_, ?_, ?_⟩)
      · simp [results, Tryd.results28, go_sem, *]
      · intro x hx
        have := HALL.out x (by rw [htl]; exact hx)
        have := HNN.out
        omega
      · unfold setV; rw [HME.out]
      · obtain ⟨hR, hO, hown, hbw⟩ := R.out
        rw [htl] at hown
        rw [← HME.out]
        exact (hown.set_below' (by have := HNE.out; simp only; omega) _).set_below' (by have := HNE.out; simp only; omega) _
      · rw [ofL_length]
      · obtain ⟨hR, hO, hown, hbw⟩ := R.out
        exact (hbw.setCell (Nat.le_refl _) _).setCell (Nat.le_refl _) _
end Go.Proofs.YtfcklfpgjadfmaaDoor
