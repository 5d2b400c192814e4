/- Contracts: the document's Op, Ite. Contract: the document's Ite. -/
import Derived.Test.YtbhbhfplpbcfiaaGreatDoorSetV
section
namespace Go.Proofs.YtbhbhfplpbcfiaaGreatDoor
open Go.RowKit Go.Sort
set_option linter.unusedSimpArgs false
set_option linter.unusedVariables false

section
variable {ops : Array Oper} {o : Oper} {a : Act} {K : Act → World → Prop} {Q : Exit → Act → World → Prop} {E : Prop} {P : Program}
/-- 'append(s, x)' at a step of a region that draws -/
theorem step_app1 {α : Type} {f : α → Value} {T El : TypeId} {i : TypeInfo} {z : Value} {bytes : Nat} (hT : P.underlying T = some (.slice El)) (hi : P.info? El = some i) (hz0 : i.zero = some z) (hz1 : i.size = 1) (hz2 : i.bytes = bytes)
    (hzc : z.cells.size = 1) (hbytes : bytes ≤ 4096)
    (W : World) (hg : o.guard = none) (s x : Operand) (hop : o.op = .call { callee := .builtin .append, args := #[s, x], argTypes := #[T, T] })
    (base : Nat) (v : Value) (xs : List α) (e : α) (c : Nat) (hone : (f e).oneCell' = true) (H : Nat)
    (hown : OwnF f El W base v xs) (hbase : base ≤ W.heap.size) (hlen : xs.length ≤ 34359738366) (hs : a.eval s = v) (hx : a.eval x = .slice (some ⟨H, 0, none⟩) 1 c) (hc : W.cell? ⟨H, 0, none⟩ = some (f e))
    (h : ∀ v' w', OwnF f El w' base v' (xs ++ [e]) → Below base W w' → K (a.put o.dst v') w') :
    if Region.wanted o (yielded ops a.tmps) = true then Oper.wp P o a W K Q else E := by
  have hw : Region.wanted o (yielded ops a.tmps) = true := by simp [Region.wanted, hg]
  rw [if_pos hw]
  obtain ⟨v', w', hrun, hown', hgr, _, hat⟩ := run_append_own_at (P := P) W base T o.type El i z 1 bytes hT hi hz0 hz1 hz2 hzc (by decide) v xs.length (xs.map f) hown
      ⟨H, 0, none⟩ 1 c [f e] rfl (fun j u hj => by
        match j, hj with
        | 0, hj => simp at hj; subst hj; rw [Addr.add_lit]; exact hc)
      (fun u hu => by simp at hu; subst hu; exact hone)
      (by unfold maxLen; omega) (by have : (xs.length + 1) * bytes ≤ 34359738367 * 4096 := Nat.mul_le_mul (by omega) hbytes; omega) hbase
  unfold Oper.wp execOp
  simp only [hop, resolve, invoke, builtin, Sem.run_bind, Sem.run_pure, Result.andThen_ok, List.map_toArray, List.map_cons, List.map_nil, hs, hx, hrun]
  have hb : Below base W w' := (Below.refl _ _).grown hgr hbase (fun k hk => (hown.lt k hk).1)
  refine h v' w' ?_ hb
  unfold OwnF
  simpa using hown'
end
/-- a table's value at an assignment -/
def tat (t : List Bool) (x : Nat) : Bool := t[x]?.getD false
def opT (o : Nat) (t1 t2 : List Bool) : List Bool := (List.range t1.length).map fun x => o.testBit (2 * (tat t1 x).toNat + (tat t2 x).toNat)
def iteT (f g h : List Bool) : List Bool := (List.range f.length).map fun x => if tat f x then tat g x else tat h x
/-- a table as an argument -/
structure TabArg (w : World) (A : Option Addr) (len c : Nat) (t : List Bool) : Prop where
  hlen : t.length = len
  hmax : len ≤ 65536
  row : RowF Value.bool false w w.heap.size A t
theorem TabArg.on {w w' : World} {A : Option Addr} {len c : Nat} {t : List Bool} (h : TabArg w A len c t) (hb : Below w.heap.size w w') : TabArg w' A len c t := ⟨h.hlen, h.hmax, h.row.on hb⟩
/-- the argument's value, in later memory -/
theorem TabArg.val {w : World} {A : Option Addr} {len c : Nat} {t : List Bool} (h : TabArg w A len c t) (hl : 0 < len) : ∃ b off, A = some ⟨b, off, none⟩ ∧ b < w.heap.size ∧ ∀ w' k, Below w.heap.size w w' → k < len → w'.cell? ⟨b, off + k, none⟩ = some (.bool (tat t k)) := by
  obtain ⟨b, off, rfl, hb, hcell⟩ := h.row (by rw [h.hlen]; exact hl)
  exact ⟨b, off, rfl, hb, fun w' k hw hk => (hw.cell (p := ⟨b, off + k, none⟩) hb).trans (hcell k (by rw [h.hlen]; exact hk))⟩
set_option maxRecDepth 100000 in
set_option maxHeartbeats 4000000 in
theorem rop_any (o : Nat) (ho : o ≤ 15) (A1 A2 : Option Addr) (len c1 c2 : Nat) (t1 t2 : List Bool) (w : World) (hpos : 0 < len) (h1 : TabArg w A1 len c1 t1) (h2 : TabArg w A2 len c2 t2) :
    Calls Tryz.prog 38 #[.int .i64 (o : Nat), .slice A1 len c1, .slice A2 len c2] w (TabRes w (opT o t1 t2)) := by
  obtain ⟨i0, hi, hz0, hz1, hz2⟩ := info_parts info_bool5
  have hN := h1.hmax
  obtain ⟨b1, off1, rfl, hb1, hv1⟩ := h1.val hpos
  obtain ⟨b2, off2, rfl, hb2, hv2⟩ := h2.val hpos
  have HV1 := Lib.hid hv1
  have HV2 := Lib.hid hv2
  have HTR := Lib.hid (fun x W => rtruth_any x W)
  have HVA := Lib.hid (fun W v (hv : v ≤ 3) => rvalue_any o v (by omega) (by omega) W)
  obtain ⟨f, hf⟩ : ∃ f : Nat → Bool, f = fun x => o.testBit (2 * (tat t1 x).toNat + (tat t2 x).toNat) := ⟨_, rfl⟩
  have hT : opT o t1 t2 = (List.range len).map f := by rw [hf, ← h1.hlen]; rfl
  have HF : Hid (∀ x, o.testBit (2 * (tat t1 x).toNat + (tat t2 x).toNat) = f x) := Lib.hid (fun x => (congrFun hf x).symm)
  rw [hT]
  unfold TabRes
  rw [List.length_map, List.length_range]
  clear h1 h2 hv1 hv2 hf hT
  go_enter Tryz.func38, Tryz.ntmps38
  go_wp2_with fail
  go_loopw [7, 8] (fun v i wr => ∃ k : Nat, k ≤ len ∧ i = .int .i64 k ∧ OwnF Value.bool 4 wr w.heap.size v ((List.range k).map f) ∧ Below w.heap.size w wr) (fun _ i _ => len - (intOf i).toNat)
  case atStart => exact ⟨0, Nat.zero_le _, rfl, OwnF.nil_, Below.refl _ _⟩
  case round =>
    obtain ⟨k, hk, rfl, hown, hb⟩ := hrel
    by_cases hlt : k < len
    · have c1' := HV1.out wr k hb hlt
      have c2' := HV2.out wr k hb hlt
      have hfk := HF.out k
      have hxx := fun (w' : World) (hw : Below w.heap.size w w') => And.intro (HV1.out w' k hw hlt) (HV2.out w' k hw hlt)
      obtain ⟨y, hy⟩ : ∃ y, y = f k := ⟨_, rfl⟩
      have HY := Lib.hid hy.symm
      rw [← hy] at hfk
      have HB := Lib.hid hb
      have HOWN := Lib.hid hown
      clear hy hb hown
      generalize tat t1 k = x1 at *
      generalize tat t2 k = x2 at *
      have HXX := hxx
      clear hxx
      have hva := fun W => HVA.out W (2 * x1.toNat + x2.toNat) (by cases x1 <;> cases x2 <;> decide)
      rw [hfk] at hva
      have ht1 := fun W => HTR.out x1 W
      have ht2 := fun W => HTR.out x2 W
      have hyb : (((y.toNat : Nat) : Int) == 1) = y := by cases y <;> rfl
      have hx1 : x1.toNat ≤ 1 := by cases x1 <;> decide
      have hx2 : x2.toNat ≤ 1 := by cases x2 <;> decide
      rw [show ((2 * x1.toNat + x2.toNat : Nat) : Int) = 2 * (x1.toNat : Int) + (x2.toNat : Int) by omega] at hva
      have ew : IntKind.i64.wrap (IntKind.i64.wrap (2 * (x1.toNat : Int)) + (x2.toNat : Int)) = 2 * (x1.toNat : Int) + (x2.toNat : Int) := by
        rw [IntWalk.i64_in (2 * (x1.toNat : Int)) (by omega), IntWalk.i64_in _ (by omega)]
      rw [← ew] at hva
      have HVK := Lib.hid hva
      have HB0 := HOWN.out.alloc (.cells #[.bool y] 4)
      have HOW := Lib.hid HB0
      have HNEW := Lib.hid (Blk.new wr 4 #[.bool y])
      have HLEN : Hid (((List.range k).map f).length ≤ 34359738366) := Lib.hid (by simp; omega)
      have HSZ : Hid (w.heap.size ≤ (wr.alloc (.cells #[.bool y] 4)).heap.size) := Lib.hid (by have := HB.out.size; simp; omega)
      clear hfk hva HB0 ew
      go_wp2_with fail
      have HX : Hid (∀ w' : World, Below w.heap.size w w' → w'.cell? ⟨b1, off1 + k, none⟩ = some (.bool x1) ∧ w'.cell? ⟨b2, off2 + k, none⟩ = some (.bool x2)) := Lib.hid HXX
      clear HXX
      go_region_held3 (fun w' => w'.cell? ⟨b1, off1 + k, none⟩ = some (.bool x1) ∧ w'.cell? ⟨b2, off2 + k, none⟩ = some (.bool x2)) ((refine HX.out _ ?_; first | exact HB.out | exact HB.out.drew | exact (HB.out.alloc HB.out.size _) | exact (HB.out.alloc HB.out.size _).drew | exact hbw1)) (first
        | (go_at_call 63; refine (HTR.out _ _).mono ?_; rintro e w' ⟨rfl, rfl⟩)
        | (go_at_call 40; refine (HVK.out _).mono ?_; rintro e w' ⟨rfl, rfl⟩)
        | (refine step_app1 (f := Value.bool) Tryz.underlying43 hi hz0 hz1 hz2 rfl (by decide) _ rfl (.tmp 15) (.tmp 31) rfl w.heap.size _ ((List.range k).map f) y 1 rfl wr.heap.size (by first | exact HOW.out | exact HOW.out.drew) HSZ.out HLEN.out rfl rfl (HNEW.out.cell 0) ?_; intro v1 w1 hown1 hb1; have hbw1 : Below w.heap.size w w1 := (by first | exact (HB.out.alloc HB.out.size _).trans hb1 | exact (HB.out.alloc HB.out.size _).drew.trans hb1))
        | fail)
      all_goals
        have HE := Lib.hid hbw1
        have HO1 := Lib.hid hown1
        clear hbw1 hown1 hb1
        go_wp2_with fail
        go_roundw
        case rel => exact ⟨k + 1, by omega, by go_num, by rw [range_snoc, HY.out]; exact HO1.out, HE.out⟩
        case measure => simp [intOf]; omega
    · obtain rfl : k = len := by omega
      obtain ⟨A, m, c', rfl, hml, _⟩ := hown.form
      have HB := Lib.hid hb
      have HOWN := Lib.hid hown
      clear hb hown
      go_wp2_with fail
      go_ret
      have hml2 : m = k := by rw [← hml]; simp
      subst hml2
      exact ⟨A, c', rfl, HOWN.out, HB.out⟩
end Go.Proofs.YtbhbhfplpbcfiaaGreatDoor
end

section
namespace Go.Proofs.YtbhbhfplpbcfiaaGreatDoor
open Go.RowKit Go.Sort
set_option linter.unusedSimpArgs false
set_option linter.unusedVariables false

/-- the tables of the words' operations -/
theorem tat_tab {n : Nat} {ws : List Nat} {x : Nat} (hx : x < 2 ^ n) : tat (tabS n ws) x = bitAt ws x := by
  unfold tat
  rw [tabS_get, decide_eq_true hx, Bool.true_and]
end Go.Proofs.YtbhbhfplpbcfiaaGreatDoor
end
