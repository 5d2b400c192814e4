/- Contract: the document's Of (29). Law 29: ExprParses. -/
import Derived.Test.YtbhbhfplpbcfiaaGreatDoorMw
import Derived.Test.YtbhbhfplpbcfiaaGreatDoorRdE
import Derived.Test.YtbhbhfplpbcfiaaGreatDoorExY
namespace Go.Proofs.YtbhbhfplpbcfiaaGreatDoor
open Go.RowKit Go.Sort
set_option linter.unusedSimpArgs false
set_option linter.unusedVariables false

theorem tok_arg {w : World} {base n c : Nat} {A : Option Addr} {l : List UInt8} (h : OwnT w base (.slice A n c) (lex l 0)) (hl : l.length ≤ 5000) : TkArg w A n c (lex l 0) := by
  obtain ⟨A', n', c', e, e1, e2⟩ := h.form
  injection e with ea eb ec
  subst ea eb ec
  have := lex_len l 0
  have ht := (lex_ended l 0 _ (Nat.le_refl _)).2
  exact ⟨e1, e2, by omega, h.rows encT_len, fun t hx => (ht t hx).n, fun t hx => (ht t hx).kind⟩
set_option maxRecDepth 100000 in
set_option maxHeartbeats 8000000 in
theorem rof29_any (l : List UInt8) (w : World) (hl : l.length ≤ 4096) : Calls Tryz.prog 8 #[.string ⟨l.toArray⟩] w fun e w' => Below w.heap.size w w' ∧ ∃ A n c, e = .returned (.tuple #[.slice A n c, .int .i64 ((wrongGo [] 0 (lex l 0)).1 : Nat), .int .i64 ((wrongGo [] 0 (lex l 0)).2 : Nat)]) ∧ TkArg w' A n c (lex l 0).dropLast := by
  have HT := Lib.hid (rtokens_any l w (by omega))
  have hsz := bytes_size l
  have hi : ¬ (4096 : Int) < (l.length : Int) := by omega
  have HL := Lib.hid hl
  have hne : lex l 0 ≠ [] := by
    obtain ⟨⟨L, z, e, _⟩, _⟩ := lex_ended l 0 _ (Nat.le_refl _)
    rw [e]; simp
  have HNE := Lib.hid hne
  clear hl hne
  go_enter Tryz.func8, Tryz.ntmps8
  go_wp2_with fail
  refine HT.out.mono ?_
  rintro e w1 ⟨A, n, c, rfl, hown, hb⟩
  have ha := tok_arg hown (by have := HL.out; omega)
  have hn : 1 ≤ n := by
    have := List.length_pos_iff.2 HNE.out
    rw [ha.len] at this
    omega
  have hmax := ha.max
  have hnc := ha.le
  have hcm : n - 1 ≤ c := by omega
  have HW := Lib.hid (fun W (hW : Below w1.heap.size w1 W) => rwrong_any A n c _ W (ha.on hW))
  have HA := Lib.hid ha
  have HB := Lib.hid hb
  obtain ⟨pc, hpc⟩ : ∃ pc, pc = wrongGo [] 0 (lex l 0) := ⟨_, rfl⟩
  rw [← hpc] at HW
  have HPC := Lib.hid hpc
  clear ha hb hown hpc
  obtain ⟨p, code⟩ := pc
  go_wp2_with fail
  refine (HW.out _ (Below.refl _ _)).mono ?_
  rintro e w2 ⟨rfl, hb⟩
  have HB2 := Lib.hid hb
  clear hb
  go_wp2_with fail
  refine bodyPost_ret (v := .tuple #[.slice A (n - 1) c, .int .i64 (p : Nat), .int .i64 (code : Nat)]) (by simp [results, Tryz.results8, go_sem, *]) rfl ⟨HB.out.trans (HB2.out.mono HB.out.size), A, n - 1, c, by rw [← HPC.out], ?_⟩
  have := (HA.out.on HB2.out).take (m := n - 1) (by omega)
  rw [show n - 1 = (lex l 0).length - 1 by rw [HA.out.len], ← List.dropLast_eq_take] at this
  rw [show n - 1 = (lex l 0).length - 1 by rw [HA.out.len]]
  exact this
set_option maxRecDepth 100000 in
set_option maxHeartbeats 8000000 in
theorem rvars29_any (A : Option Addr) (n c : Nat) (L : List Tok) (w : World) (h : TkArg w A n c L) : Calls Tryz.prog 12 #[.slice A n c] w fun e w' => e = .returned (.int .i64 (bitsT L : Nat)) ∧ w = w' := by
  have HB := Lib.hid (rbits_any A n c L w h)
  clear h
  go_enter Tryz.func12, Tryz.ntmps12
  go_wp2_with fail
  refine HB.out.mono ?_
  rintro e w1 ⟨rfl, rfl⟩
  go_wp2_with fail
  go_ret
  exact ⟨rfl, rfl⟩
set_option maxRecDepth 100000 in
set_option maxHeartbeats 16000000 in
theorem eparses_walk (s : ByteArray) (w : World) (hsm : s.size ≤ maxLen) (hV : PV w) :
    Calls Tryz.prog 3 #[.string s] w fun e w' => e = .returned (.bool true) ∧ Below w.heap.size w w' := by
  obtain ⟨l, rfl, hl⟩ := size_list s
  have hlm : l.length ≤ 9223372036854775807 := by unfold maxLen at hsm; omega
  have hsz := bytes_size l
  have HA := Lib.hid (alive29_any w hV)
  have HV := Lib.hid hV
  clear hV hsm hl
  go_enter Tryz.func3, Tryz.ntmps3
  go_wp2_with fail
  refine HA.out.mono ?_
  rintro e w1 ⟨rfl, h1⟩
  have H1 := Lib.hid h1
  clear h1
  by_cases h1000 : 1000 < l.length
  · have hi : (1000 : Int) < (l.length : Int) := by omega
    go_wp2_with fail
    go_ret
    exact ⟨rfl, H1.out⟩
  · have hi : ¬ (1000 : Int) < (l.length : Int) := by omega
    have HP := Lib.hid (parse_any l w1 hlm (HV.out.on H1.out))
    have HO := Lib.hid (fun W => rof29_any l W (by omega))
    go_wp2_with fail
    refine HP.out.mono ?_
    rintro e w2 ⟨hb, ⟨h, _⟩ | ⟨_, c, p, hw, hc, rfl⟩ | ⟨_, hw, L, z, x, g, k1, k2, k3, k4, k5, k6, k7, k8, rfl, k10, k11⟩⟩
    · exact absurd h (by omega)
    · have HB2 := Lib.hid (H1.out.trans (hb.mono H1.out.size))
      rw [hw] at HO
      have hc0 : ((c : Int) != 0) = true := by simp; omega
      have hcr : IntKind.i64.wrap (c : Int) = (c : Int) := by rcases hc with rfl | rfl <;> rfl
      clear hb hc hw
      go_wp2_with fail
      refine (HO.out _).mono ?_
      rintro e w3 ⟨hb3, A, n, cc, rfl, ha⟩
      have HB3 := Lib.hid (HB2.out.trans (hb3.mono HB2.out.size))
      clear hb3 ha
      go_wp2_with fail
      go_ret
      exact ⟨rfl, HB3.out⟩
    · have HB2 := Lib.hid (H1.out.trans (hb.mono H1.out.size))
      rw [hw] at HO
      have hll := lex_len l 0
      have hlen : L.length ≤ l.length := by rw [k1] at hll; simp at hll; omega
      have htl := rt_len k5 fun t ht => (k4 t ht).1
      have hvl := rt_vars k5
      have HEX := Lib.hid (And.intro k11 (And.intro k6 k5))
      have HDL : Hid ((lex l 0).dropLast = L) := Lib.hid (by rw [k1]; simp)
      have hv16 := vars_lt x k6
      have hf16 := free_lt x k6
      have htl2 : x.textE.length ≤ 10000000 := by omega
      clear hb hw k1 k2 k3 k4 k5 k6 k7 k8 k10 k11 hll hlen htl
      go_wp2_with fail
      refine (HO.out _).mono ?_
      rintro e w3 ⟨hb3, A, n, cc, rfl, ha⟩
      have HB3 := Lib.hid (HB2.out.trans (hb3.mono HB2.out.size))
      rw [HDL.out] at ha
      have hex := HEX.out.1.on hb3
      have HT := Lib.hid (fun W (hW : Below w3.heap.size w3 W) => exprText_any g x W (hex.on hW) HEX.out.2.1 htl2)
      have HVs := Lib.hid (fun W (hW : Below w3.heap.size w3 W) => exprVars_any g x W (hex.on hW) HEX.out.2.1)
      have HFr := Lib.hid (fun W (hW : Below w3.heap.size w3 W) => exprFree_any g x W (hex.on hW) HEX.out.2.1)
      have DT := Lib.hid (fun W (hW : Below w3.heap.size w3 W) => rtext_all HEX.out.2.2 A n cc W (ha.on hW))
      have DF := Lib.hid (fun W (hW : Below w3.heap.size w3 W) => rfree_all HEX.out.2.2 A n cc W (ha.on hW))
      have DV := Lib.hid (fun W (hW : Below w3.heap.size w3 W) => rvars29_any A n cc L W (ha.on hW))
      rw [hvl] at DV
      have cv : IntKind.i64.wrap (x.varsN : Int) = (x.varsN : Int) := IntWalk.i64_in _ ⟨by omega, by omega⟩
      have cf : IntKind.i64.wrap (x.freeN : Int) = (x.freeN : Int) := IntWalk.i64_in _ ⟨by omega, by omega⟩
      clear hb3 ha hvl htl2 hex
      generalize x.textE = tx at *
      generalize x.varsN = vx at *
      generalize x.freeN = fx at *
      go_wp2_with fail
      refine (HT.out _ (Below.refl _ _)).mono ?_
      rintro e w4 ⟨rfl, h4⟩
      have B4 := Lib.hid h4
      clear h4
      go_wp2_with fail
      refine (DT.out _ B4.out).mono ?_
      rintro e w5 ⟨rfl, h5⟩
      have B5 := Lib.hid (B4.out.trans (h5.mono B4.out.size))
      clear h5
      go_wp2_with fail
      refine (HVs.out _ B5.out).mono ?_
      rintro e w6 ⟨rfl, h6⟩
      have B6 := Lib.hid (B5.out.trans (h6.mono B5.out.size))
      clear h6
      go_wp2_with fail
      refine (DV.out _ B6.out).mono ?_
      rintro e w7 ⟨rfl, rfl⟩
      go_wp2_with fail
      refine (HFr.out _ B6.out).mono ?_
      rintro e w7 ⟨rfl, h7⟩
      have B7 := Lib.hid (B6.out.trans (h7.mono B6.out.size))
      clear h7
      go_wp2_with fail
      refine (DF.out _ B7.out).mono ?_
      rintro e w8 ⟨rfl, k, rfl⟩
      go_wp2_with fail
      go_ret
      exact ⟨by simp, HB3.out.trans ((below_drewN B7.out _).mono HB3.out.size)⟩
end Go.Proofs.YtbhbhfplpbcfiaaGreatDoor
