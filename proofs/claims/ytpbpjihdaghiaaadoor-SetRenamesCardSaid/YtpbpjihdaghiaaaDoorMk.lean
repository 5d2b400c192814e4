/- Contracts: set.Members and what it hands back. What set.Members hands back: it hands on all members, rising. -/
import Derived.Test.YtpbpjihdaghiaaaDoorMj
import Derived.Test.YtpbpjihdaghiaaaDoorSeqF
import Derived.Shelf.Abstract
import Derived.Shelf.RegionOpen
import Derived.OwnWalkIn
import Derived.TacticsInMore
import Derived.LoopNIn
import Derived.LoopIn
section
namespace Go.Proofs.YtpbpjihdaghiaaaDoor
open Go.RowKit Go.Sort
set_option linter.unusedSimpArgs false
set_option linter.unusedVariables false

set_option maxRecDepth 100000 in
set_option maxHeartbeats 8000000 in
theorem smembers_any (m : Int) (A : Option Addr) (len c : Nat) (ws : List Nat) (w : World) (h : SetArg w m A len c ws) (hl : len ≤ 34359738367) :
    Calls Tryd.prog 25 #[setA m A len c] w fun e w' => ∃ A' c', e = .returned (.func (.func 55) #[] #[.pointer (some ⟨w.heap.size, 0, none⟩)]) ∧ Blk w' w.heap.size 24 #[.int .i64 m, .slice A' len c'] ∧ OwnF U 71 w' (w.heap.size + 1) (.slice A' len c') ws ∧ Below w.heap.size w w' := by
  have hlen := h.hlen
  have HCL := Lib.hid (fun W (h : SetArg W m A len c ws) => wclone_any A len c ws W h.hlen hl h.row)
  have HLN := Lib.hid hlen
  unfold setA
  clear hlen hl
  obtain ⟨W0, hW0⟩ : ∃ W0, W0 = (w.alloc (.cells #[.int .i64 m, .slice A len c] 24)) := ⟨_, rfl⟩
  have hb0 : Below w.heap.size w W0 := by rw [hW0]; exact ((Below.refl _ _).alloc (by simp) (.cells #[.int .i64 m, .slice A len c] 24))
  have hv0 : SetVar W0 (w.heap.size) m A len c ws := by
    have := SetVar.new h
    rw [hW0]; exact this
  have HWW := Lib.hid hW0
  have HB := Lib.hid hb0
  have Va := Lib.hid hv0
  clear hb0 hv0 h 
  go_enter Tryd.func25, Tryd.ntmps25
  go_wp2_with fail
  rw [← HWW.out]
  clear hW0
  have kVa0 := Va.out.c0
  have kVa1 := Va.out.c1
  go_wp2_with fail
  have HS0 := Lib.hid Va.out.blk.lt
  go_region_with (first
    | (go_at_call 54; refine (HCL.out _ (Va.out.arg.on ?_)).mono ?_; (with_reducible (first | exact Below.refl _ _ | exact (Below.refl _ _).drew)); rintro e w1 ⟨v, rfl, hown, hb1⟩; have hbK : Below W0.heap.size W0 w1 := (by first | exact (Below.refl _ _).drew.trans hb1 | exact (Below.refl _ _).trans hb1); obtain ⟨A2, n2, c2, rfl, hn2, _⟩ := hown.form; rw [HLN.out] at hn2; subst hn2; have V1 := Va.out.on hbK; have q0 := V1.c0; have q1 := V1.c1; have z0 := V1.blk.frozen 0; have z1 := V1.blk.frozen 1; have HV1 := Lib.hid V1.blk; have HO := Lib.hid (hown.mono HS0.out); clear V1 hown)
    | fail)
  all_goals
    have HBK := Lib.hid hbK
    clear hbK hb1 q0 q1 z0 z1 kVa0 kVa1
    go_wp2_with fail
    go_ret
    refine ⟨A2, c2, rfl, (HV1.out.set_ 0 _).set_ 1 _, ?_, ((HB.out.trans (HBK.out.mono HB.out.size)).setCell (by simp only; omega) _).setCell (by simp only; omega) _⟩
    exact ((HO.out.set_below (a := ⟨w.heap.size, 0, none⟩) (by simp only; omega) _).set_below (a := ⟨w.heap.size, 1, none⟩) (by simp only; omega) _)
end Go.Proofs.YtpbpjihdaghiaaaDoor
end

section
namespace Go.Proofs.YtpbpjihdaghiaaaDoor
open Go Go.RowKit Go.Shelf
set_option linter.unusedSimpArgs false
set_option linter.unusedVariables false
attribute [local go_sem] Oper.semAt_some

/-- what stands between two rounds: the body's word, and which blocks have turned since the iterator began -/
def Sofar (I : List Nat → List Nat → World → Prop) (Fp0 : List Nat) (W : World) (Fp : List Nat) (pre : List Nat) (wr : World) : Prop := I Fp pre wr ∧ Grows Fp0 Fp W ∧ Chg Fp0 W wr
theorem grows_chg {F F' G : List Nat} {w W W' : World} (hg : Grows F F' w) (hc : Chg F w W) (hg2 : Grows F' G W) (hc2 : Chg F' W W') : Grows F G w ∧ Chg F w W' := by
  have hs := hc.size
  refine ⟨fun k hk => ?_, hc.trans hc2 hg⟩
  rcases hg2 k hk with h | h
  · exact hg k h
  · exact .inr (by omega)
def memX (m : Int) (ws : List Nat) : List Nat := if srightB m ws then restL ws 0 else []
theorem chg_local {α : Type} {B : Nat} {I : List Nat → List α → World → Prop} (h : Local B I) {Fp : List Nat} {pre : List α} {W W' : World} (hi : I Fp pre W) (hb : Below W.heap.size W W') : I Fp pre W' :=
  h Fp pre W W' hi hb.os hb.tape hb.output hb.size fun k hk _ => hb.block k hk
theorem DB.chg {F : List Nat} {w w' : World} (h : DB w) (hc : Chg F w w') (hF : ∀ k ∈ F, k ≠ 0) : DB w' := h.block (hc.block _ h.glob fun hm => hF _ hm rfl)
theorem own_arg' {w : World} {base b n c : Nat} {m : Int} {ws : List Nat} {v : Value} {A : Option Addr} (hv : v = .slice A n c) (h : OwnF U 71 w base v ws) (hl : ws.length = n) (hlt : ∀ v ∈ ws, v < 18446744073709551616) (hm : (Lit.int .i64 m).wf = true) (hc : c ≤ maxLen) (hnc : n ≤ c) : SetArg w m A n c ws := by
  subst hv
  exact ⟨hl, hnc, hc, h.rows, hlt, hm⟩
set_option maxRecDepth 100000 in
set_option maxHeartbeats 8000000 in
theorem members_runs (m : Int) (A : Option Addr) (len c : Nat) (ws : List Nat) (g : Nat) (w : World) (hg : Blk w g 24 #[.int .i64 m, .slice A len c]) (h : SetArg w m A len c ws) (hD : DB w) :
    SeqRuns Tryd.prog 55 #[.pointer (some ⟨g, 0, none⟩)] (fun x : Nat => #[Value.int .i64 (x : Int)]) (fun k => k = g ∨ (∃ a, A = some a ∧ k = a.block) ∨ k = 0) (memX m ws) w := by
  intro l I Ix Fp0 W hW hR hI hIx bI bIx hY h0
  have hgW : Blk W g 24 #[.int .i64 m, .slice A len c] := hg.onB hW
  have hAW := h.on hW
  have hDW := hD.on hW
  have HR := Lib.hid (fun W' (h : SetArg W' m A len c ws) => sright_any m A len c ws W' h)
  have HI := Lib.hid hI
  have HY := Lib.hid hY
  have H0 := Lib.hid h0
  have HX := Lib.hid hR
  have G := Lib.hid hgW
  have HA := Lib.hid hAW
  have HD := Lib.hid hDW
  have k0 := hgW.cell 0
  have k1 := hgW.cell 1
  have hlc := Nat.le_trans h.hcap h.hmax
  unfold maxLen at hlc
  unfold memX at *
  unfold setA at *
  clear hg h hD hW hgW hAW hDW hI hY h0 hR
  refine callsIn_of_wp Tryd.func55 rfl trivial ?_ rfl
  simp only [Tryd.ntmps55, List.size_toArray, List.length_cons, List.length_nil, Nat.reduceAdd, Nat.reduceSub, Array.replicate_succ, Array.replicate_zero, List.push_toArray, List.append_toArray, List.nil_append, List.cons_append]
  cases hr : srightB m ws
  · rw [hr] at HR
    clear hr
    gi_wp2_with fail
    refine ⟨trivial, rfl, ?_⟩
    refine (callsIn_wide.2 (HR.out _ HA.out)).mono ?_
    rintro e w1 ⟨rfl, hb1⟩
    have HB1 := Lib.hid hb1
    clear hb1
    gi_wp2_with fail
    refine bodyPost_ret (results_none rfl _ _ _) rfl ?_
    exact ⟨⟨_, rfl⟩, Fp0, .inl (chg_local HI.out H0.out HB1.out)⟩
  · rw [hr, if_pos rfl] at HY
    rw [hr] at HR
    rw [if_pos rfl]
    obtain ⟨n, rfl, ok⟩ := sright_nat HA.out.lt hr
    have hlen : len = ws.length := HA.out.hlen.symm
    have hl0 : 0 < len := by rw [hlen, ok.len]; exact wordsN_pos n
    obtain ⟨b1, off1, rfl, hb1, hword1⟩ := HA.out.word (w' := W) hl0
    have HW := Lib.hid hword1
    have HOK := Lib.hid ok
    have HLT := Lib.hid (fun k => wat_lt ok.lt k)
    have HNG : Hid (¬ g ∈ Fp0 ∧ ¬ b1 ∈ Fp0 ∧ ∀ k ∈ Fp0, k ≠ 0) := Lib.hid ⟨fun hm => HX.out g hm (.inl rfl), fun hm => HX.out b1 hm (.inr (.inl ⟨_, rfl, rfl⟩)), fun k hk e => HX.out k hk (.inr (.inr e))⟩
    have HRS : Hid (∀ k, k < len → restL ws k = memW ws k ++ restL ws (k + 1)) := Lib.hid (fun k hk => restL_step (by rw [← hlen]; exact hk))
    have HRE : Hid (restL ws len = []) := Lib.hid (by rw [hlen]; exact restL_end ws)
    have HB1L := Lib.hid hb1
    have hl2 : len ≤ 1024 := by rw [hlen, ok.len]; exact wordsN_le ok.n16
    have HTZ := Lib.hid (fun W x h0 hx hD => tz_any x h0 hx W hD)
    clear hr ok hword1 hlen hb1
    gi_wp2_with fail
    refine ⟨trivial, rfl, ?_⟩
    refine (callsIn_wide.2 (HR.out _ HA.out)).mono ?_
    rintro e w1 ⟨rfl, hb1⟩
    have G1 := G.out.onB hb1
    have H1 : Hid (Sofar I Fp0 W Fp0 [] w1) := Lib.hid ⟨chg_local HI.out H0.out hb1, fun k hk => .inl hk, chg_of_below hb1⟩
    clear k0 k1 hb1
    have k1 := G1.cell 1
    clear G1
    gi_wp2_with fail
    clear k1
    gi_loopw [12] (fun i wr => ∃ (k : Nat) (Fp pre : List Nat), k ≤ len ∧ i = .int .i64 k ∧ pre ++ restL ws k = restL ws 0 ∧ Sofar I Fp0 W Fp pre wr) (fun i _ => len - (intOf i).toNat)
    case atStart => exact ⟨0, Fp0, [], Nat.zero_le _, rfl, rfl, H1.out⟩
    case round =>
      obtain ⟨k, Fp, pre, hk, rfl, hpre, hs⟩ := hrel
      by_cases hlt : k < len
      · have kw : wr.cell? ⟨b1, off1 + k, none⟩ = some (.int .u64 (wat ws k : Nat)) := (hs.2.2.cell (p := ⟨b1, off1 + k, none⟩) HB1L.out HNG.out.2.1).trans (HW.out W k (Below.refl _ _) hlt)
        have hws := HLT.out k
        have HS := Lib.hid hs
        have HP : Hid (pre ++ (bitsL (wat ws k)).map (fun j => k * 64 + j) ++ restL ws (k + 1) = restL ws 0) := Lib.hid (by rw [← hpre, HRS.out k hlt, List.append_assoc]; rfl)
        clear hs hpre
        generalize wat ws k = v0 at *
        gi_wp2_with fail
        clear kw
        obtain ⟨wo, rfl⟩ : ∃ wo : World, wo = wr := ⟨_, rfl⟩
        gi_loopw [4] (fun i wr => ∃ (v : Nat) (Fp pre : List Nat), v < 18446744073709551616 ∧ i = .int .u64 v ∧ pre ++ (bitsL v).map (fun j => k * 64 + j) ++ restL ws (k + 1) = restL ws 0 ∧ Sofar I Fp0 W Fp pre wr) (fun i _ => (intOf i).toNat)
        case atStart => exact ⟨v0, Fp, pre, hws, rfl, HP.out, HS.out⟩
        case round =>
          obtain ⟨v, Fp2, pre2, hv, rfl, hpre, hs⟩ := hrel
          have HS2 := Lib.hid hs
          have HP2 := Lib.hid hpre
          clear hs hpre
          by_cases hv0 : v = 0
          · subst hv0
            gi_wp2_with fail
            go_roundw
            case rel => exact ⟨k + 1, Fp2, pre2, by omega, by go_num, by have := HP2.out; rwa [bitsL_zero, List.map_nil, List.append_nil] at this, HS2.out⟩
            case measure => simp [intOf]; omega
          · have hne : ((v : Int) != 0) = true := by rw [bne_iff_ne]; omega
            have hst := bitsL_step hv0 hv
            have HC := Lib.hid (ctz_facts hv0 hv).1
            have htz := fun W hD => HTZ.out W v hv0 hv hD
            obtain ⟨t, ht⟩ : ∃ t, t = Lib.ctz 64 v := ⟨_, rfl⟩
            rw [← ht] at hst HC htz
            have htl := HC.out
            have HPX : Hid ((pre2 ++ [k * 64 + t]) ++ (bitsL (v &&& (v - 1))).map (fun j => k * 64 + j) ++ restL ws (k + 1) = restL ws 0) := Lib.hid (by
              have := HP2.out
              rw [hst, List.map_cons] at this
              rw [← this]
              simp)
            have HTZ2 := Lib.hid htz
            have HDR : Hid (DB wr) := Lib.hid (HD.out.chg HS2.out.2.2 HNG.out.2.2)
            have hval : bits .and .u64 (v : Int) (IntKind.u64.wrap ((v : Int) - 1)) = ((v &&& (v - 1) : Nat) : Int) := by
              rw [show ((v : Int) - 1) = ((v - 1 : Nat) : Int) by omega, u64_in _ (by omega), u64_and_nat _ _ hv (by omega)]
            have hval2 : bits .and .u64 (v : Int) ((v : Int) - 1) = ((v &&& (v - 1) : Nat) : Int) := by
              rw [show ((v : Int) - 1) = ((v - 1 : Nat) : Int) by omega, u64_and_nat _ _ hv (by omega)]
            have hvl := and_pred_lt hv0
            have HVV := Lib.hid (And.intro hval hval2)
            clear ht hst htz hval hval2
            have hk64 : k ≤ 288230376151711743 := by omega
            obtain ⟨fn, tmps, assign, body, hy, hR'⟩ := HY.out Fp2 pre2 (k * 64 + t) wr HS2.out.1 HS2.out.2.2.size (by rw [← HPX.out, List.append_assoc]; exact List.prefix_append _ _)
            have ecast : ((k * 64 + t : Nat) : Int) = (k : Int) * 64 + (t : Int) := by omega
            rw [ecast] at hy
            have HRR := Lib.hid hR'
            clear hR' ecast
            gi_wp2_with fail
            refine ⟨trivial, rfl, ?_⟩
            refine (callsIn_wide.2 (HTZ2.out _ HDR.out)).mono ?_
            rintro e w' ⟨rfl, rfl⟩
            gi_wp2_with fail
            refine ⟨rfl, HRR.out.mono ?_⟩
            rintro e W3 ⟨Fp', hgr, hch, (⟨rfl, hi3⟩ | ⟨rfl, hi3⟩)⟩
            · have HS3 : Hid (Sofar I Fp0 W Fp' (pre2 ++ [k * 64 + t]) W3) := Lib.hid ⟨hi3, grows_chg HS2.out.2.1 HS2.out.2.2 hgr hch⟩
              clear hgr hch hi3 hy
              obtain ⟨hval, hval2⟩ := HVV.out
              have hvl2 : v &&& (v - 1) < 18446744073709551616 := by omega
              generalize v &&& (v - 1) = v2 at *
              gi_wp2_with fail
              go_roundw
              case rel => exact ⟨v2, Fp', pre2 ++ [k * 64 + t], hvl2, by go_num, HPX.out, HS3.out⟩
              case measure => simp [intOf]; omega
            · have HI3 := Lib.hid hi3
              clear hgr hch hi3 hy
              gi_wp2_with fail
              refine bodyPost_ret (results_none rfl _ _ _) rfl ?_
              exact ⟨⟨_, rfl⟩, Fp', .inr ⟨pre2 ++ [k * 64 + t], by rw [← HPX.out, List.append_assoc]; exact List.prefix_append _ _, HI3.out⟩⟩
      · obtain rfl : k = len := by omega
        have HS := Lib.hid hs
        have HP : Hid (pre = restL ws 0) := Lib.hid (by rw [← hpre, HRE.out, List.append_nil])
        clear hs hpre
        gi_wp2_with fail
        go_end0
        exact ⟨⟨_, rfl⟩, Fp, .inl (by rw [← HP.out]; exact HS.out.1)⟩
end Go.Proofs.YtpbpjihdaghiaaaDoor
end
