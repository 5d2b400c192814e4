/- Contract: member.Best. Plain: what best tells is the first of the least of the list of members. -/
import Derived.Test.YtpjciaomhfeeeaaGreatMaj
import Derived.Test.YtpjciaomhfeeeaaGreatBstC
import Derived.Test.YtpjciaomhfeeeaaGreatMap
import Derived.Test.YtpjciaomhfeeeaaGreatMak
import Derived.Test.YtpjciaomhfeeeaaGreatMan
section
namespace Go.Proofs.YtpjciaomhfeeeaaGreat
open Go Go.RowKit Go.Maps
set_option linter.unusedSimpArgs false
set_option linter.unusedVariables false

def TripOut (w : World) (t : Int × Int × Nat) (x : Ending) (w' : World) : Prop := x = .returned (.tuple #[.int .i64 t.1, .int .i64 t.2.1, .int .u8 (t.2.2 : Int)]) ∧ Below w.heap.size w w'
def ctOf (ks ps : List Int) (l : Nat) : Int := ks[(ps[l]?.getD 0).toNat]?.getD 0
def bestC (cs : List (Option Rec)) (n : Nat) (ps : List Int) (f : Int) (e : Edg) (ks : List Int) : Int × Int × Nat :=
  if startC cs n ps.length f e ≠ 0 then (0, 0, startC cs n ps.length f e)
  else if ks.length ≠ n ∨ ¬ (∀ v ∈ ks, -1099511627776 ≤ v ∧ v ≤ 1099511627776) then (0, 0, 1)
  else if (bestR cs n f (ctOf ks ps) n 0 (atR cs e 0)).inn = false then (0, 0, 11)
  else ((upM ps n (bestR cs n f (ctOf ks ps) n 0 (atR cs e 0)).y : Nat), (bestR cs n f (ctOf ks ps) n 0 (atR cs e 0)).cost, 0)
set_option maxRecDepth 200000 in
set_option maxHeartbeats 16000000 in
theorem bestTop_any (F G : List Nat) (gs go n room : Nat) (cs : List (Option Rec)) (free : List Int) (ps ls : List Int) (f : Int) (e : Edg) (A : Option Addr) (nk c : Nat) (ks : List Int) (w : World) (h : MbAt w F G gs go n room cs free ps ls) (hf : 0 ≤ f ∧ f ≤ 255) (he : e.Wf) (hks : ks.length = nk) (hnk : nk ≤ 9223372036854775807) (hI : Ints w w.heap.size A ks) (hwf : ∀ v ∈ ks, -9223372036854775808 ≤ v ∧ v ≤ 9223372036854775807) :
    Calls Tryz.prog 7 #[.pointer (some ⟨gs, 0, none⟩), .pointer (some ⟨go, 0, none⟩), .int .u8 f, .agg #[.int .u8 e.tag, .int .u32 e.pos], .slice A nk c] w (TripOut w (bestC cs n ps f e ks)) := by
  have hn16 := h.st.ok.n16
  obtain ⟨W, hW⟩ : ∃ W, W = w.alloc (.cells #[.int .u8 e.tag, .int .u32 e.pos] 26) := ⟨_, rfl⟩
  have hbW : Below w.heap.size w W := by rw [hW]; exact (Below.refl _ _).alloc (Nat.le_refl _) _
  have hK : Blk W w.heap.size 26 #[.int .u8 e.tag, .int .u32 e.pos] := by rw [hW]; exact Blk.new w _ _
  have j0 : W.cell? ⟨w.heap.size, 0, none⟩ = some (.int .u8 e.tag) := hK.cell 0
  have j1 : W.cell? ⟨w.heap.size, 1, none⟩ = some (.int .u32 e.pos) := hK.cell 1
  have HST := Lib.hid (start_any F G gs go n room cs free ps ls f e W (h.st.on hbW) (h.od.on hbW) hf he h.fit.perm.1)
  have HB := Lib.hid hbW
  have HM := Lib.hid (h.on hbW)
  have HWW := Lib.hid hW
  obtain ⟨out, hout⟩ : ∃ out, out = bestC cs n ps f e ks := ⟨_, rfl⟩
  rw [← hout]
  unfold bestC at hout
  have HOUT := Lib.hid hout
  have HE := Lib.hid he
  have HIN := Lib.hid hI
  have HKS := Lib.hid hks
  have HKW := Lib.hid hwf
  clear h hbW hK he hf hout hI hwf
  go_enter Tryz.func7, Tryz.ntmps7
  go_upto_region 1 with fail
  rw [← HWW.out]
  clear hW
  go_wp2_with fail
  refine HST.out.mono ?_
  rintro x w1 ⟨ho, hb1⟩
  have HB1 := Lib.hid (HB.out.trans (hb1.mono HB.out.size))
  have HM1 := Lib.hid (HM.out.on hb1)
  clear j0 j1 hb1 HST HM
  rcases ho with ⟨hne, rfl⟩ | ⟨heq, cb, rfl, hca, hcb⟩
  · have HR : Hid (out = (0, 0, startC cs n ps.length f e)) := Lib.hid (by rw [HOUT.out, if_pos hne])
    obtain ⟨code, hcode⟩ : ∃ code, code = startC cs n ps.length f e := ⟨_, rfl⟩
    rw [← hcode] at hne HR ⊢
    have t1 : ((code : Int) != 0) = true := by simpa using hne
    have t2 : (code != 0) = true := by simpa using hne
    clear hcode hne HOUT
    unfold Rst.cells Rst.nil Rec.nil Edg.nil
    go_wp2_with fail
    go_ret3
    exact ⟨by rw [HR.out]; rfl, HB1.out.alloc HB1.out.size _⟩
  · obtain ⟨y, hy⟩ : ∃ y, y = atR cs e 0 := ⟨_, rfl⟩
    rw [if_neg (by simpa using heq), ← hy] at HOUT
    have hpl : ps.length = n := (startC_zero heq).1.symm
    have hok : RstOk n (0 : Nat) y := by rw [hy]; exact atR_ok (by omega) HE.out (by omega) HM1.out.hcs
    rw [← hy]
    unfold Rst.cells
    have c3 : (w1.alloc (.cells #[.bool y.inn, .bool y.node, .int .u8 y.r.form, .int .u8 y.r.top, .int .u8 y.r.bot, .int .u8 y.r.lo.tag, .int .u32 y.r.lo.pos, .int .u8 y.r.hi.tag, .int .u32 y.r.hi.pos, .int .u8 y.tag, .int .u8 y.l] 72)).cell? ⟨cb, 3, none⟩ = some (.int .i64 (n : Nat)) := (hca.onB ((Below.refl _ _).alloc (Nat.le_refl _) _)).cell 3
    have hcl := Blk.lt hca
    have hI1 : Ints w1 w1.heap.size A ks := HIN.out.on HB1.out
    by_cases hnn : nk = n
    · subst hnn
      have hI2 : Ints (w1.alloc (.cells #[.bool y.inn, .bool y.node, .int .u8 y.r.form, .int .u8 y.r.top, .int .u8 y.r.bot, .int .u8 y.r.lo.tag, .int .u32 y.r.lo.pos, .int .u8 y.r.hi.tag, .int .u32 y.r.hi.pos, .int .u8 y.tag, .int .u8 y.l] 72)) (w1.alloc (.cells #[.bool y.inn, .bool y.node, .int .u8 y.r.form, .int .u8 y.r.top, .int .u8 y.r.bot, .int .u8 y.r.lo.tag, .int .u32 y.r.lo.pos, .int .u8 y.r.hi.tag, .int .u32 y.r.hi.pos, .int .u8 y.tag, .int .u8 y.l] 72)).heap.size A ks := RowF.alloc' hI1 _
      have HI2 := Lib.hid hI2
      have HB2 := Lib.hid (HB1.out.alloc HB1.out.size (.cells #[.bool y.inn, .bool y.node, .int .u8 y.r.form, .int .u8 y.r.top, .int .u8 y.r.bot, .int .u8 y.r.lo.tag, .int .u32 y.r.lo.pos, .int .u8 y.r.hi.tag, .int .u32 y.r.hi.pos, .int .u8 y.tag, .int .u8 y.l] 72))
      have HBAD : Hid (∀ j, j < nk → ¬ (-1099511627776 ≤ ks[j]?.getD 0 ∧ ks[j]?.getD 0 ≤ 1099511627776) → out = (0, 0, 1)) := Lib.hid (fun j hj hb => by
        rw [HOUT.out, if_pos (.inr (fun h => hb (h _ (by
          rw [List.getElem?_eq_getElem (by rw [HKS.out]; exact hj)]
          exact List.getElem_mem _))))])
      have HST2 := Lib.hid (And.intro hca (And.intro hcb (And.intro hpl hok)))
      have HOUT2 := Lib.hid HOUT.out
      clear HOUT hca hcb heq hy hok hI1 hI2 hpl
      go_wp2_with fail
      go_loop [40] (fun iv => ∃ k : Nat, k ≤ nk ∧ iv = .int .i64 (k : Int) ∧ Hid (∀ j, j < k → -1099511627776 ≤ ks[j]?.getD 0 ∧ ks[j]?.getD 0 ≤ 1099511627776)) (fun iv => nk - (intOf iv).toNat)
      case atStart => exact ⟨0, Nat.zero_le _, rfl, Lib.hid (fun j h => absurd h (by omega))⟩
      case round =>
        obtain ⟨k, hk, rfl, HOKS⟩ := hrel
        by_cases hlt : k < nk
        · obtain ⟨b, off, rfl, hbl, hc⟩ := HI2.out (by rw [HKS.out]; omega)
          have hck := hc k (by rw [HKS.out]; exact hlt)
          have hbd := HBAD.out k hlt
          have HSN : Hid (-1099511627776 ≤ ks[k]?.getD 0 ∧ ks[k]?.getD 0 ≤ 1099511627776 → ∀ j, j < k + 1 → -1099511627776 ≤ ks[j]?.getD 0 ∧ ks[j]?.getD 0 ≤ 1099511627776) := Lib.hid (fun h j hj => by
            rcases Nat.lt_or_ge j k with h1 | h1
            · exact HOKS.out j h1
            · obtain rfl : j = k := by omega
              exact h)
          generalize ks[k]?.getD 0 = v at *
          have HBD := Lib.hid hbd
          have hlt' : (k : Int) < (nk : Int) := by omega
          clear hc hbd
          by_cases h1 : v < -1099511627776
          · have HR := Lib.hid (HBD.out (by omega))
            go_wp2_with fail
            go_ret3
            exact ⟨by rw [HR.out]; rfl, HB2.out⟩
          · by_cases h2 : 1099511627776 < v
            · have HR := Lib.hid (HBD.out (by omega))
              go_wp2_with fail
              go_ret3
              exact ⟨by rw [HR.out]; rfl, HB2.out⟩
            · have HS := Lib.hid (HSN.out ⟨by omega, by omega⟩)
              go_wp2_with fail
              go_round
              case rel => exact ⟨k + 1, by omega, by go_num, HS⟩
              case measure => simp [intOf]; omega
        · obtain rfl : k = nk := by omega
          obtain ⟨hca, hcb, hpl, hok⟩ := HST2.out
          have hall : ∀ v ∈ ks, -1099511627776 ≤ v ∧ v ≤ 1099511627776 := fun v hv => by
            obtain ⟨j, hj, rfl⟩ := List.getElem_of_mem hv
            have := HOKS.out j (by rw [← HKS.out]; exact hj)
            rw [List.getElem?_eq_getElem hj] at this
            exact this
          have hctb : ∀ l, -1099511627776 ≤ ctOf ks ps l ∧ ctOf ks ps l ≤ 1099511627776 := fun l => by
            unfold ctOf
            cases h : ks[(ps[l]?.getD 0).toNat]? with
            | none => simp
            | some v => exact hall v (List.mem_of_getElem? h)
          have hout2 := HOUT2.out
          rw [if_neg (by
            intro h
            rcases h with h | h
            · exact h HKS.out
            · exact h hall)] at hout2
          have HO2 := Lib.hid hout2
          obtain ⟨W2, hW2⟩ : ∃ W2, W2 = (w1.alloc (.cells #[.bool y.inn, .bool y.node, .int .u8 y.r.form, .int .u8 y.r.top, .int .u8 y.r.bot, .int .u8 y.r.lo.tag, .int .u32 y.r.lo.pos, .int .u8 y.r.hi.tag, .int .u32 y.r.hi.pos, .int .u8 y.tag, .int .u8 y.l] 72)).alloc (.map #[] 0) := ⟨_, rfl⟩
          have hb2 : Below w1.heap.size w1 W2 := by rw [hW2]; exact ((Below.refl _ _).alloc (Nat.le_refl _) _).alloc (by simp) _
          have hT : TallyB cs k f (ctOf ks ps) W2 (w1.heap.size + 1) 0 := by
            have := Tally.made (R := readF) (zd := .agg [.lit (.bool false), .lit (.int .i64 0), .lit (.int .i64 0)]) (good := goodB cs k f (ctOf ks ps)) (w1.alloc (.cells #[.bool y.inn, .bool y.node, .int .u8 y.r.form, .int .u8 y.r.top, .int .u8 y.r.bot, .int .u8 y.r.lo.tag, .int .u32 y.r.lo.pos, .int .u8 y.r.hi.tag, .int .u32 y.r.hi.pos, .int .u8 y.tag, .int .u8 y.l] 72))
            rw [World.size_alloc] at this
            rw [hW2]; exact this
          have hTl : TlAt W2 F gs go k room cb cs free f (w1.heap.size + 1) := (HM1.out.on hb2).tl (hca.onB hb2) (fun z hz => by have := HM1.out.st.lt z hz; omega) (by have := Blk.lt hca; omega)
          have hO2 : OrdAt W2 G go ps ls := HM1.out.od.on hb2
          have hqG : w1.heap.size + 1 ∉ G := fun hm => by have := HM1.out.od.lt _ hm; omega
          have hI3 : Ints W2 (w1.heap.size + 1) A ks := by
            have h := HI2.out
            rw [World.size_alloc] at h
            rw [hW2]
            exact h.alloc (by simp) _
          have HB3 := Lib.hid (HB1.out.trans (hb2.mono HB1.out.size))
          have HW2 := Lib.hid hW2
          have hp16 := pow_le16 hn16
          have HBA := Lib.hid (best_any F G gs go k room cb cs free ps ls f (w1.heap.size + 1) A c ks (ctOf ks ps) (fun l _ => rfl) hctb HM1.out.fit hpl HKS.out hqG k y 0 0 W2 (by omega) hok hTl hO2 hI3 hT (by omega))
          have HQB := Lib.hid (show w.heap.size ≤ w1.heap.size + 1 by have := HB1.out.size; omega)
          have hbd := (bestR_bound (cs := cs) (n := k) (f := f) (ct := ctOf ks ps) 1099511627776 (by omega) hctb k 0 y).2.2
          have HUP := Lib.hid (fun W' (h : Chg [w1.heap.size + 1] W2 W') => castUp_any G gs go k cb (bestR cs k f (ctOf ks ps) k 0 y).y ps ls f W' (hO2.chg h (fun z hz hm => by simp at hm; subst hm; exact hqG hz)) HM1.out.fit hpl (hTl.chg h).ca hbd)
          generalize bestR cs (↑k) f (ctOf ks ps) k 0 y = bb at *
          clear hW2 hb2 hT hTl hO2 hqG hI3 hp16 hbd hout2 hall hctb hca hcb hpl hok c3
          go_wp2_with fail
          rw [show ∀ W, (Instr.makeMap 80 none).run Tryz.prog W = .ok (.map (some W.heap.size)) (W.alloc (.map #[] 0)) from fun _ => rfl]
          simp only [Result.andThen]
          rw [Oper.upon_value, World.size_alloc, ← HW2.out]
          go_wp2_with fail
          refine HBA.out.mono ?_
          rintro x w3 ⟨rfl, ht3, hc3⟩
          have HB4 := Lib.hid (hbt HB3.out hc3 HQB.out)
          have HC3 := Lib.hid hc3
          clear ht3 hc3
          cases hbi : bb.inn with
          | false =>
            have HR : Hid (out = (0, 0, 11)) := Lib.hid (by rw [HO2.out, if_pos hbi])
            go_wp2_with fail
            go_ret3
            exact ⟨by rw [HR.out]; rfl, HB4.out.alloc HB4.out.size _⟩
          | true =>
            have HR : Hid (out = (((upM ps k bb.y : Nat) : Int), bb.cost, 0)) := Lib.hid (by rw [HO2.out, if_neg (by rw [hbi]; simp)])
            go_upto_region 13 with fail
            refine world_gen (fun U => Below w3.heap.size w3 U ∧ Blk U w3.heap.size 78 #[.bool true, .int .i64 bb.cost, .int .i64 (bb.y : Int)]) (by first | exact ⟨keepC (Below.refl _ _), Blk.new _ _ _⟩ | exact ⟨(keepC (Below.refl _ _)).drew, Blk.new _ _ _⟩) ?_
            rintro U ⟨hbU, hU⟩
            have HBU := Lib.hid hbU
            have FACTS : Hid (∀ W', Below U.heap.size U W' → W'.cell? ⟨w3.heap.size, 0, none⟩ = some (.bool true) ∧ W'.cell? ⟨w3.heap.size, 1, none⟩ = some (.int .i64 bb.cost) ∧ W'.cell? ⟨w3.heap.size, 2, none⟩ = some (.int .i64 (bb.y : Int))) := Lib.hid (fun W' h => ⟨(hU.onB h).cell 0, (hU.onB h).cell 1, (hU.onB h).cell 2⟩)
            have HU2 := Lib.hid (fun W' (h : Below U.heap.size U W') => HUP.out W' (chg_thenB (chg_thenB HC3.out HBU.out) h))
            obtain ⟨k0, k1, k2⟩ := FACTS.out U (Below.refl _ _)
            have b0 := Below.refl U.heap.size U
            clear hbU hU
            go_wp2_with fail
            go_region_held3 (fun w' => w'.cell? ⟨w3.heap.size, 0, none⟩ = some (.bool true) ∧ w'.cell? ⟨w3.heap.size, 1, none⟩ = some (.int .i64 bb.cost) ∧ w'.cell? ⟨w3.heap.size, 2, none⟩ = some (.int .i64 (bb.y : Int))) ((refine FACTS.out _ ?_; with_reducible (first | exact b0 | exact b0.drew | exact b1 | exact b1.drew))) (first | ((with_reducible show Calls _ 25 _ _ _); refine (HU2.out _ (by with_reducible (first | exact b0 | exact b0.drew))).mono ?_; rintro x w4 ⟨rfl, hb4⟩; have b1 : Below U.heap.size U w4 := (by with_reducible (first | exact below_then b0 hb4 | exact below_then b0.drew hb4)); clear hb4) | fail)
            have HF : Hid (∀ W', Below U.heap.size U W' → Below w.heap.size w W') := Lib.hid (fun W' h => HB4.out.trans ((HBU.out.trans (h.mono HBU.out.size)).mono HB4.out.size))
            refine world_gen (fun V => Below w.heap.size w V) (by first | exact HF.out _ b1 | exact HF.out _ b1.drew) ?_
            intro V hV
            go_wp2_with fail
            go_ret3
            exact ⟨by rw [HR.out]; rfl, hV⟩
    · have HR : Hid (out = (0, 0, 1)) := Lib.hid (by rw [HOUT.out, if_pos (.inl (by omega))])
      have t1 : ((nk : Int) != (n : Int)) = true := by simpa using (by omega : ¬ (nk : Int) = (n : Int))
      have t2 : (nk != n) = true := by simpa using hnn
      clear hnn HOUT hca hcb heq hy hok
      go_wp2_with fail
      go_ret3
      exact ⟨by rw [HR.out]; rfl, HB1.out.alloc HB1.out.size _⟩
end Go.Proofs.YtpjciaomhfeeeaaGreat
end

section
namespace Go.Proofs.YtpjciaomhfeeeaaGreat
open Go Go.RowKit
set_option linter.unusedSimpArgs false
set_option linter.unusedVariables false

section
variable {cs : List (Option Rec)} {n : Nat} {ps ks : List Int} {f : Int} {e : Edg}
theorem best_none (h : startC cs n ps.length f e = 0) (h0 : (allM cs n ps f e).length = 0) : (bestR cs n f (ctOf ks ps) n 0 (atR cs e 0)).inn = false := by
  rw [(bestR_is (ctOf ks ps) n 0 (atR cs e 0)).inn]
  rw [allM_map h, List.length_map] at h0
  rw [List.length_eq_zero_iff.1 h0]; rfl
theorem best_some (hp : IsPerm ps) (hl : ps.length = n) (h : startC cs n ps.length f e = 0) (h0 : 0 < (allM cs n ps f e).length) (cf : Nat → Int) (hcf : ∀ i, cf i = costV ks ((allM cs n ps f e)[i]?.getD 0) n) :
    (bestR cs n f (ctOf ks ps) n 0 (atR cs e 0)).inn = true ∧ upM ps n (bestR cs n f (ctOf ks ps) n 0 (atR cs e 0)).y = (allM cs n ps f e)[bestI cf ((allM cs n ps f e).length - 1)]?.getD 0 ∧
      (bestR cs n f (ctOf ks ps) n 0 (atR cs e 0)).cost = cf (bestI cf ((allM cs n ps f e).length - 1)) := by
  have B := bestR_is (cs := cs) (n := n) (f := f) (ctOf ks ps) n 0 (atR cs e 0)
  have hs := memR_sorted (cs := cs) (n := n) (f := f) n (atR cs e 0)
  rw [allM_map h] at h0 hcf ⊢
  generalize memR cs n f n (atR cs e 0) 0 = M at *
  generalize bestR cs n f (ctOf ks ps) n 0 (atR cs e 0) = b at *
  rw [List.length_map] at h0 ⊢
  have hi : b.inn = true := by
    rw [B.inn]
    cases M with
    | nil => simp at h0
    | cons a r => rfl
  have hcz : ∀ i (hi : i < M.length), cf i = costZ (ctOf ks ps) n 0 M[i] := fun i hi => by
    rw [hcf, List.getElem?_map, List.getElem?_eq_getElem hi]
    simp only [Option.map_some, Option.getD_some]
    have := cost_up (ks := ks) hp M[i]
    rw [hl] at this
    exact this
  have hle := bestI_le cf (M.length - 1)
  obtain ⟨g1, g2⟩ := bestI_is cf (M.length - 1)
  have hlt : bestI cf (M.length - 1) < M.length := by omega
  generalize bestI cf (M.length - 1) = k at *
  have hu := B.unique hi (y := M[k]) (List.getElem_mem _) (fun z hz => by
    obtain ⟨j, hj, rfl⟩ := List.getElem_of_mem hz
    have := g1 j (by omega)
    rw [hcz k hlt, hcz j hj] at this
    exact this) (fun z hz hlz => by
    obtain ⟨j, hj, rfl⟩ := List.getElem_of_mem hz
    have hjk : j < k := by
      rcases Nat.lt_or_ge j k with h1 | h1
      · exact h1
      · exfalso
        rcases Nat.lt_or_ge k j with h2 | h2
        · have := (List.pairwise_iff_getElem.1 hs) k j hlt hj h2
          omega
        · obtain rfl : j = k := by omega
          omega
    have := g2 j hjk
    rw [hcz k hlt, hcz j hj] at this
    exact this)
  refine ⟨hi, ?_, ?_⟩
  · rw [hu.1, List.getElem?_map, List.getElem?_eq_getElem hlt]; rfl
  · rw [hu.2, hcz k hlt]
end
end Go.Proofs.YtpjciaomhfeeeaaGreat
end
