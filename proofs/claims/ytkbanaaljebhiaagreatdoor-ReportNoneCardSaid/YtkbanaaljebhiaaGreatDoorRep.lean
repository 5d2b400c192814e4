/- Contracts: Collect of a manager without nodes; the report of such a manager. -/
import Derived.Test.YtkbanaaljebhiaaGreatDoorSweepE
import Derived.Test.YtkbanaaljebhiaaGreatDoorPageW
import Derived.Test.YtkbanaaljebhiaaGreatDoorScTextP
namespace Go.Proofs.YtkbanaaljebhiaaGreatDoor
open Go Go.RowKit
set_option linter.unusedSimpArgs false
set_option linter.unusedVariables false

set_option maxRecDepth 100000 in
set_option maxHeartbeats 4000000 in
theorem mgrCollect_any (m n room : Nat) (w : World) (h : MgrAt w m n room) : Calls Tryz.prog 26 #[.pointer (some ⟨m, 0, none⟩)] w fun e w' => e = .returned (.int .i64 0) ∧ Below w.heap.size w w' := by
  have HL := Lib.hid (mgrLive_any m n room w h)
  obtain ⟨gs, Fs, go, Fo, ls, h1, h2, h3, h4, h5, h6⟩ := h
  have HS := Lib.hid (sweep_none _ _ _ _ _ h5)
  clear h2 h3 h5 h6
  go_enter Tryz.func26, Tryz.ntmps26
  go_wp2_with fail
  refine HL.out.mono ?_
  rintro e w1 ⟨rfl, rfl⟩
  go_wp2_with fail
  go_loopw [3, 12] (fun o i wr => o = .slice none 0 0 ∧ i = .int .i64 0 ∧ wr = w) (fun _ _ _ => 0)
  case atStart => exact ⟨rfl, rfl, rfl⟩
  case round =>
    obtain ⟨rfl, rfl, hwr⟩ := hrel
    subst hwr
    go_wp2_with fail
    refine HS.out.mono ?_
    rintro e w1 ⟨rfl, hb⟩
    go_wp2_with fail
    go_ret
    exact ⟨rfl, hb⟩
theorem row_oth {w w' : World} {b base : Nat} {v : Value} {xs : List Int} (h : OwnI w base v xs) (ho : Oth b w w') (hb : some b ≠ v.ownBlock) : OwnI w' base v xs := by
  rcases h with ⟨hl, h | ⟨g, cap, cur, rfl, hg, hh, hr⟩⟩
  · exact ⟨hl, .inl h⟩
  · exact ⟨hl, .inr ⟨g, cap, cur, rfl, hg, ho g _ hh (fun e => hb e.symm) (fun c fz e => by injection e with _ e _; exact absurd e (by decide)), hr⟩⟩
/-- the report of a manager of n variables, without handles and nodes -/
def repT (n : Nat) : List UInt8 :=
  let a := [] ++ sep false ++ [118, 97, 114, 115]
  let b := a ++ sep true ++ Lib.itoa (n : Int)
  let c := b ++ sep true ++ [111, 114, 100, 101, 114]
  let d := c ++ tailOf (iota n)
  let e := d ++ [10]
  let f := e ++ sep false ++ [104, 97, 110, 100, 108, 101, 115]
  let g := f ++ sep true ++ Lib.itoa 0
  let h := g ++ sep true ++ [110, 111, 100, 101, 115]
  h ++ sep true ++ Lib.itoa 0 ++ [10]
theorem iota_get' (n k : Nat) (h : k < n) : (iota n)[k]? = some (k : Int) := by
  unfold iota
  simp [h]
set_option maxRecDepth 100000 in
set_option maxHeartbeats 16000000 in
theorem preport_any (b m n room : Nat) (hn : n ≤ 16) (w0 w : World) (hP : Pow w0) (hm : MgrAt w0 m n room) (hb : Below w0.heap.size w0 w) (hpg : IsPage w0.heap.size b (Lib.byteCells []) false w) :
    Calls Tryz.prog 17 #[.pointer (some ⟨b, 0, none⟩), .pointer (some ⟨m, 0, none⟩)] w fun e w' => e = .returned (.tuple #[]) ∧ (IsPage w0.heap.size b (Lib.byteCells (repT n)) false w' ∧ Below w0.heap.size w0 w') := by
  have HP := Lib.hid hP
  have HM := Lib.hid hm
  have HB0 := Lib.hid hb
  have HG0 := Lib.hid hpg
  have hnw : (Lit.int .i64 (n : Int)).wf = true := by simp [Lit.wf, IntKind.min, IntKind.max, IntKind.signed, IntKind.bits]; omega
  have h0w : (Lit.int .i64 0).wf = true := by decide
  have q0 := itoa_len (n : Int) hnw
  have q00 := itoa_len 0 h0w
  clear hP hm hb hpg
  go_enter Tryz.func17, Tryz.ntmps17
  go_wp2_with fail
  refine (pword_any _ b [] [118, 97, 114, 115] false _ HG0.out (by decide) HB0.out.size).mono ?_
  rintro e w1 ⟨rfl, hg1, hb1, ho1⟩
  obtain ⟨l1, hl1⟩ : ∃ l1, l1 = [] ++ sep false ++ [118, 97, 114, 115] := ⟨_, rfl⟩
  rw [← hl1] at hg1
  have ql1 : l1.length ≤ 10 := by rw [hl1]; simp [sep] <;> omega
  have HG1 := Lib.hid hg1
  have HL1 := Lib.hid hl1
  have HB1 := Lib.hid (HB0.out.trans hb1)
  have HO1 := Lib.hid ho1
  clear hg1 hl1 hb1 ho1
  go_wp2_with fail
  refine (mgrVars_any m n room _ (HM.out.on HB1.out)).mono ?_
  rintro e w' ⟨rfl, rfl⟩
  go_wp2_with fail
  refine (pnum_any _ b l1 (n : Int) hnw true _ (HP.out.on HB1.out) HG1.out (by omega) HB1.out.size).mono ?_
  rintro e w2 ⟨rfl, hg2, hb2, ho2⟩
  obtain ⟨l2, hl2⟩ : ∃ l2, l2 = l1 ++ sep true ++ Lib.itoa (n : Int) := ⟨_, rfl⟩
  rw [← hl2] at hg2
  have ql2 : l2.length ≤ 40 := by rw [hl2]; simp [sep] <;> omega
  have HG2 := Lib.hid hg2
  have HL2 := Lib.hid hl2
  have HB2 := Lib.hid (HB1.out.trans hb2)
  have HO2 := Lib.hid ho2
  clear hg2 hl2 hb2 ho2
  go_wp2_with fail
  refine (pword_any _ b l2 [111, 114, 100, 101, 114] true _ HG2.out (by simp; omega) HB2.out.size).mono ?_
  rintro e w3 ⟨rfl, hg3, hb3, ho3⟩
  obtain ⟨l3, hl3⟩ : ∃ l3, l3 = l2 ++ sep true ++ [111, 114, 100, 101, 114] := ⟨_, rfl⟩
  rw [← hl3] at hg3
  have ql3 : l3.length ≤ 50 := by rw [hl3]; simp [sep] <;> omega
  have HG3 := Lib.hid hg3
  have HL3 := Lib.hid hl3
  have HB3 := Lib.hid (HB2.out.trans hb3)
  have HO3 := Lib.hid ho3
  clear hg3 hl3 hb3 ho3
  go_wp2_with fail
  refine (mgrOrder_any m n room hn _ (HM.out.on HB3.out)).mono ?_
  rintro e v4 ⟨v, rfl, hown, hbo⟩
  have hgo := HG3.out.on hbo
  have hbl := HG3.out.lt
  have hne : some b ≠ v.ownBlock := fun e => by have := (hown.lt _ e.symm).1; omega
  obtain ⟨A, n', c', rfl, hn', hc'⟩ := hown.form
  rw [iota_length] at hn'
  subst hn'
  have HGO := Lib.hid hgo
  have HBO := Lib.hid (HB3.out.trans (hbo.mono HB3.out.size))
  have HOW := Lib.hid hown
  have HNE := Lib.hid hne
  clear hgo hbo hown hne hbl
  go_wp2_with fail
  go_loopw [5, 20] (fun _ i wr => ∃ k : Nat, k ≤ n ∧ i = .int .i64 (k : Int) ∧ IsPage w0.heap.size b (Lib.byteCells (l3 ++ tailOf ((iota n).take k))) true wr ∧ Below w0.heap.size w0 wr ∧ OwnI wr w3.heap.size (.slice A n c') (iota n)) (fun _ i _ => n - (intOf i).toNat)
  case atStart => exact ⟨0, Nat.zero_le _, rfl, by simpa [tailOf] using HGO.out, HBO.out, HOW.out⟩
  case round =>
    obtain ⟨k, hk, rfl, hgk, hbk, hok⟩ := hrel
    have hlen : (l3 ++ tailOf ((iota n).take k)).length ≤ 1000 := by
      have h1 := tail_len ((iota n).take k) (fun x hx => by
        have := List.mem_of_mem_take hx
        unfold iota at this
        obtain ⟨j, hj, rfl⟩ := List.mem_map.1 this
        have := List.mem_range.1 hj
        simp [Lit.wf, IntKind.min, IntKind.max, IntKind.signed, IntKind.bits]
        omega)
      have h2 : ((iota n).take k).length ≤ 16 := by rw [List.length_take]; omega
      rw [List.length_append]
      omega
    have HGK := Lib.hid hgk
    have HBK := Lib.hid hbk
    have HOK := Lib.hid hok
    rcases Nat.lt_or_ge k n with hlt | hge
    · obtain ⟨g2, c2, hv, hg2, hg3, _⟩ := hok.head (by rw [iota_length]; omega)
      injection hv with hv1 hv2 hv3
      subst hv1 hv3
      clear hv2
      have hcell := (OwnF.at_ hok k (by rw [iota_length]; exact hlt)).1
      rw [iota_get' n k hlt] at hcell
      simp only [Option.map_some] at hcell
      have hkw : (Lit.int .i64 (k : Int)).wf = true := by simp [Lit.wf, IntKind.min, IntKind.max, IntKind.signed, IntKind.bits]; omega
      have HE : Hid (l3 ++ tailOf ((iota n).take (k + 1)) = l3 ++ tailOf ((iota n).take k) ++ sep true ++ Lib.itoa (k : Int)) := Lib.hid (by
        rw [List.take_add_one, iota_get' n k hlt, Option.toList_some, tail_snoc]
        simp [sep])
      have HKW := Lib.hid hkw
      clear hgk hbk hok hkw hg2 hg3
      obtain ⟨lk, hlk⟩ : ∃ lk, lk = l3 ++ tailOf ((iota n).take k) := ⟨_, rfl⟩
      rw [← hlk] at hlen HGK HE
      clear hlk
      go_wp2_with fail
      refine (pnum_any _ b lk (k : Int) HKW.out true _ (HP.out.on HBK.out) HGK.out (by omega) HBK.out.size).mono ?_
      rintro e w5 ⟨rfl, hg5, hb5, ho5⟩
      have HG5 := Lib.hid hg5
      have HB5 := Lib.hid (HBK.out.trans hb5)
      have HO5 := Lib.hid (row_oth HOK.out ho5 HNE.out)
      clear hg5 hb5 ho5 hcell
      go_wp2_with fail
      go_roundw
      case rel => exact ⟨k + 1, by omega, by go_num, by rw [HE.out]; exact HG5.out, HB5.out, HO5.out⟩
      case measure => simp [intOf]; omega
    · obtain rfl : k = n := by omega
      rw [List.take_of_length_le (by rw [iota_length]; omega)] at hlen HGK
      clear hgk hbk hok
      obtain ⟨l4, hl4⟩ : ∃ l4, l4 = l3 ++ tailOf (iota k) := ⟨_, rfl⟩
      rw [← hl4] at hlen HGK
      have HL4 := Lib.hid hl4
      clear hl4
      obtain ⟨w4, rfl⟩ : ∃ w4, w4 = wr := ⟨_, rfl⟩
      go_wp2_with fail
      refine (pend_any _ b l4 true _ HGK.out (by omega) HBK.out.size).mono ?_
      rintro e w5 ⟨rfl, hg5, hb5, ho5⟩
      obtain ⟨l5, hl5⟩ : ∃ l5, l5 = l4 ++ [10] := ⟨_, rfl⟩
      rw [← hl5] at hg5
      have ql5 : l5.length ≤ 1100 := by rw [hl5]; simp [sep] <;> omega
      have HG5 := Lib.hid hg5
      have HL5 := Lib.hid hl5
      have HB5 := Lib.hid (HBK.out.trans hb5)
      have HO5 := Lib.hid ho5
      clear hg5 hl5 hb5 ho5
      go_wp2_with fail
      refine (mgrLive_any m k room _ (HM.out.on HB5.out)).mono ?_
      rintro e w' ⟨rfl, rfl⟩
      go_wp2_with fail
      go_loopw [34] (fun i wr => i = .int .i64 0 ∧ wr = w5) (fun _ _ => 0)
      case atStart => exact ⟨rfl, rfl⟩
      case round =>
        obtain ⟨rfl, hwr⟩ := hrel
        subst hwr
        go_wp2_with fail
        refine (mgrCollect_any m k room _ (HM.out.on HB5.out)).mono ?_
        rintro e v6 ⟨rfl, hbc⟩
        have HGC := Lib.hid (HG5.out.on hbc)
        have HBC := Lib.hid (HB5.out.trans (hbc.mono HB5.out.size))
        clear hbc
        go_wp2_with fail
        refine (pword_any _ b l5 [104, 97, 110, 100, 108, 101, 115] false _ HGC.out (by simp; omega) HBC.out.size).mono ?_
        rintro e w6 ⟨rfl, hg6, hb6, ho6⟩
        obtain ⟨l6, hl6⟩ : ∃ l6, l6 = l5 ++ sep false ++ [104, 97, 110, 100, 108, 101, 115] := ⟨_, rfl⟩
        rw [← hl6] at hg6
        have ql6 : l6.length ≤ 1200 := by rw [hl6]; simp [sep] <;> omega
        have HG6 := Lib.hid hg6
        have HL6 := Lib.hid hl6
        have HB6 := Lib.hid (HBC.out.trans hb6)
        have HO6 := Lib.hid ho6
        clear hg6 hl6 hb6 ho6
        go_wp2_with fail
        refine (pnum_any _ b l6 0 h0w true _ (HP.out.on HB6.out) HG6.out (by omega) HB6.out.size).mono ?_
        rintro e w7 ⟨rfl, hg7, hb7, ho7⟩
        obtain ⟨l7, hl7⟩ : ∃ l7, l7 = l6 ++ sep true ++ Lib.itoa 0 := ⟨_, rfl⟩
        rw [← hl7] at hg7
        have ql7 : l7.length ≤ 1300 := by rw [hl7]; simp [sep] <;> omega
        have HG7 := Lib.hid hg7
        have HL7 := Lib.hid hl7
        have HB7 := Lib.hid (HB6.out.trans hb7)
        have HO7 := Lib.hid ho7
        clear hg7 hl7 hb7 ho7
        go_wp2_with fail
        refine (pword_any _ b l7 [110, 111, 100, 101, 115] true _ HG7.out (by simp; omega) HB7.out.size).mono ?_
        rintro e w8 ⟨rfl, hg8, hb8, ho8⟩
        obtain ⟨l8, hl8⟩ : ∃ l8, l8 = l7 ++ sep true ++ [110, 111, 100, 101, 115] := ⟨_, rfl⟩
        rw [← hl8] at hg8
        have ql8 : l8.length ≤ 1400 := by rw [hl8]; simp [sep] <;> omega
        have HG8 := Lib.hid hg8
        have HL8 := Lib.hid hl8
        have HB8 := Lib.hid (HB7.out.trans hb8)
        have HO8 := Lib.hid ho8
        clear hg8 hl8 hb8 ho8
        go_wp2_with fail
        refine (mgrNodes_any m k room _ (HM.out.on HB8.out)).mono ?_
        rintro e w' ⟨rfl, rfl⟩
        go_wp2_with fail
        refine (pnum_any _ b l8 0 h0w true _ (HP.out.on HB8.out) HG8.out (by omega) HB8.out.size).mono ?_
        rintro e w9 ⟨rfl, hg9, hb9, ho9⟩
        obtain ⟨l9, hl9⟩ : ∃ l9, l9 = l8 ++ sep true ++ Lib.itoa 0 := ⟨_, rfl⟩
        rw [← hl9] at hg9
        have ql9 : l9.length ≤ 1500 := by rw [hl9]; simp [sep] <;> omega
        have HG9 := Lib.hid hg9
        have HL9 := Lib.hid hl9
        have HB9 := Lib.hid (HB8.out.trans hb9)
        have HO9 := Lib.hid ho9
        clear hg9 hl9 hb9 ho9
        go_wp2_with fail
        refine (pend_any _ b l9 true _ HG9.out (by omega) HB9.out.size).mono ?_
        rintro e w10 ⟨rfl, hg10, hb10, ho10⟩
        obtain ⟨l10, hl10⟩ : ∃ l10, l10 = l9 ++ [10] := ⟨_, rfl⟩
        rw [← hl10] at hg10
        have ql10 : l10.length ≤ 1600 := by rw [hl10]; simp [sep] <;> omega
        have HG10 := Lib.hid hg10
        have HL10 := Lib.hid hl10
        have HB10 := Lib.hid (HB9.out.trans hb10)
        have HO10 := Lib.hid ho10
        clear hg10 hl10 hb10 ho10
        go_wp2_with fail
        go_end0
        refine ⟨rfl, ?_, HB10.out⟩
        have he : repT k = l10 := by
          unfold repT
          rw [HL10.out, HL9.out, HL8.out, HL7.out, HL6.out, HL5.out, HL4.out, HL3.out, HL2.out, HL1.out]
        rw [he]
        exact HG10.out
end Go.Proofs.YtkbanaaljebhiaaGreatDoor
