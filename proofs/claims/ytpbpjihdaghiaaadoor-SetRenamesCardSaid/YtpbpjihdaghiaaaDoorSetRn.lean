/- Contract: set.Rename. -/
import Derived.Test.YtpbpjihdaghiaaaDoorSetRnP
import Derived.Test.YtpbpjihdaghiaaaDoorMl
import Derived.Test.YtpbpjihdaghiaaaDoorStillIn
namespace Go.Proofs.YtpbpjihdaghiaaaDoor
open Go Go.RowKit Go.Shelf
set_option linter.unusedSimpArgs false
set_option linter.unusedVariables false
attribute [local go_sem] Oper.semAt_some

def RenGood (m : Int) (ws : List Nat) (zs : List Int) : Prop := srightB m ws = true ∧ m = (zs.length : Int) ∧ IsPerm zs
def RenPost (m : Int) (ws : List Nat) (zs : List Int) (w : World) (e : Ending) (w' : World) : Prop :=
  (RenGood m ws zs ∧ SetRes2 w zs.length (packT (renT zs (tabS zs.length ws) zs.length)) e w') ∨ (¬ RenGood m ws zs ∧ SetErr w 1 e w')
theorem i64_bit (y k : Nat) (hy : y < 9223372036854775808) : bits .and .i64 ((y : Int) / 2 ^ k) 1 = ((y / 2 ^ k % 2 : Nat) : Int) := by
  have h1 : ((y : Int) / 2 ^ k) = ((y / 2 ^ k : Nat) : Int) := by simp
  have h2 : y / 2 ^ k ≤ y := Nat.div_le_self _ _
  rw [h1, show (1 : Int) = ((1 : Nat) : Int) from rfl, i64_and_nat _ _ (by omega) (by omega), Nat.and_one_is_mod]
theorem sh_bit (bt q : Nat) (h1 : bt ≤ 1) (h2 : 2 ^ q ≤ 65536) : wrap64 ((bt : Int) * 2 ^ q) = ((bt * 2 ^ q : Nat) : Int) := by
  have h3 : bt * 2 ^ q ≤ 65536 := Nat.le_trans (Nat.mul_le_mul_right _ h1) (by omega)
  rw [show ((bt : Int) * 2 ^ q) = ((bt * 2 ^ q : Nat) : Int) by simp]
  generalize bt * 2 ^ q = z at *
  exact w64_nat (by omega)
theorem or_small (a b : Nat) (ha : a ≤ 65536) (hb : b ≤ 1 * 65536) : bits .or .i64 (a : Int) (b : Int) = ((a ||| b : Nat) : Int) := i64_or_nat a b (by omega) (by omega)
theorem i64_div64 (y : Nat) (hy : y < 65536) : IntKind.i64.wrap ((y : Int) / 64) = ((y / 64 : Nat) : Int) := by
  rw [show ((y : Int) / 64) = ((y / 64 : Nat) : Int) by omega]
  have : y / 64 ≤ y := Nat.div_le_self _ _
  generalize y / 64 = z at *
  exact i64_nat (by omega)
set_option maxRecDepth 100000 in
set_option maxHeartbeats 8000000 in
theorem srename_any (m : Int) (A P : Option Addr) (len c k d : Nat) (ws : List Nat) (zs : List Int) (w : World) (h : SetArg w m A len c ws) (hp : IntsArg w P k d zs) (hD : DB w) :
    Calls Tryd.prog 10 #[setA m A len c, .slice P k d] w (RenPost m ws zs w) := by
  have HR := Lib.hid (fun W' (h : SetArg W' m A len c ws) => sright_any m A len c ws W' h)
  have hkz := hp.hlen
  have hkd : k ≤ 9223372036854775807 := by have := Nat.le_trans hp.hcap hp.hmax; unfold maxLen at this; omega
  have HZW : Hid (∀ x ∈ zs, (Lit.int .i64 x).wf = true) := Lib.hid hp.wf
  have HZR := Lib.hid hp.row
  have HZ := Lib.hid hkz
  have HWF := Lib.hid (i64_of_wf h.wf)
  have HLC : Hid (len ≤ 9223372036854775807) := Lib.hid (by have := Nat.le_trans h.hcap h.hmax; unfold maxLen at this; omega)
  have HARG := Lib.hid h
  have HDB := Lib.hid hD
  have hpost : RenPost m ws zs w = RenPost m ws zs w := rfl
  unfold setA at *
  obtain ⟨W0, hW0⟩ : ∃ W0, W0 = (((w.alloc (.cells #[.int .i64 m, .slice A len c] 24)).alloc (.cells #[.slice P k d] 25)).alloc (.cells #[.int .i64 0, .slice none 0 0] 24)) := ⟨_, rfl⟩
  have hs0 : W0.heap.size = w.heap.size + 3 := by rw [hW0]; simp
  have hb0 : Below w.heap.size w W0 := by rw [hW0]; exact (((Below.refl _ _).alloc (Nat.le_refl _) _).alloc (by simp) _).alloc (by simp; omega) _
  have hva : Blk W0 w.heap.size 24 #[.int .i64 m, .slice A len c] := by rw [hW0]; exact ((Blk.new w _ _).alloc _).alloc _
  have hvp : Blk W0 (w.heap.size + 1) 25 #[.slice P k d] := by
    rw [hW0]
    have := (Blk.new (w.alloc (.cells #[.int .i64 m, .slice A len c] 24)) 25 #[.slice P k d]).alloc (.cells #[.int .i64 0, .slice none 0 0] 24)
    rwa [World.size_alloc] at this
  have hvr : Blk W0 (w.heap.size + 1 + 1) 24 #[.int .i64 0, .slice none 0 0] := by
    rw [hW0]
    have := Blk.new ((w.alloc (.cells #[.int .i64 m, .slice A len c] 24)).alloc (.cells #[.slice P k d] 25)) 24 #[.int .i64 0, .slice none 0 0]
    rwa [World.size_alloc, World.size_alloc] at this
  have HWW := Lib.hid hW0
  have ST := Lib.hid (And.intro hb0 (And.intro hva (And.intro hvp hvr)))
  have HS0 := Lib.hid hs0
  clear hW0 hb0 hva hvp hvr h hp hD hs0 hpost hkz
  refine (callsIn_wide (n := 0)).1 ?_
  refine callsIn_of_wp_marks Tryd.func10 rfl trivial ?_ rfl
  simp only [Tryd.ntmps10, List.size_toArray, List.length_cons, List.length_nil, Nat.reduceAdd, Nat.reduceSub, Array.replicate_succ, Array.replicate_zero, List.push_toArray, List.append_toArray, List.nil_append, List.cons_append]
  gi_wp2_with fail
  rw [← HWW.out]
  have k0 := ST.out.2.1.cell 0
  have k1 := ST.out.2.1.cell 1
  have kp := ST.out.2.2.1.cell 0
  gi_wp2_with fail
  refine ⟨trivial, rfl, ?_⟩
  refine (callsIn_wide.2 (HR.out _ (HARG.out.on ST.out.1))).mono ?_
  rintro e w1 ⟨rfl, hb1⟩
  have ST1 := Lib.hid (And.intro (ST.out.1.trans (hb1.mono ST.out.1.size)) (And.intro (ST.out.2.1.onB hb1) (And.intro (ST.out.2.2.1.onB hb1) (ST.out.2.2.2.onB hb1))))
  have HS1 : Hid (w.heap.size + 3 ≤ w1.heap.size) := Lib.hid (by have := hb1.size; have := HS0.out; omega)
  clear k0 k1 kp hb1 ST HS0
  have k0 := ST1.out.2.1.cell 0
  have k1 := ST1.out.2.1.cell 1
  have kp := ST1.out.2.2.1.cell 0
  have n0 := ST1.out.2.2.2.cell 0
  have n1 := ST1.out.2.2.2.cell 1
  have z0 := ST1.out.2.2.2.frozen 0
  have z1 := ST1.out.2.2.2.frozen 1
  cases hr : srightB m ws
  · have HNO : Hid (¬ RenGood m ws zs) := Lib.hid (fun h => by rw [h.1] at hr; cases hr)
    clear hr
    gi_wp2_with fail
    refine ⟨.tuple #[.agg #[.int .i64 0, .slice none 0 0], .int .u8 1], ?_, .inr ⟨HNO.out, rfl, ?_⟩⟩
    · simp [results, Tryd.results10, go_sem, *]
    · first | exact ST1.out.1 | exact (ST1.out.1.setCell (by simp only; omega) _).setCell (by simp only; omega) _
  · by_cases hkm : (k : Int) = m
    · subst hkm
      obtain ⟨n, hn, ok⟩ := sright_nat HARG.out.lt hr
      obtain rfl : n = k := by omega
      clear hn
      have hne : ((n : Int) != (n : Int)) = false := by simp
      have hn16 := ok.n16
      have hpw := wrap64_pow n (by omega)
      have HOK := Lib.hid ok
      have HRR := Lib.hid hr
      clear ok hr
      gi_wp2_with fail
      clear k0 k1
      gi_loop [6, 27] (fun s i => ∃ k : Nat, k ≤ n ∧ i = .int .i64 k ∧ s = .int .i64 (seenN zs k : Nat) ∧ ∀ v, v < k → 0 ≤ zs[v]?.getD 0 ∧ zs[v]?.getD 0 < n) (fun _ i => n - (intOf i).toNat)
      case atStart => exact ⟨0, Nat.zero_le _, rfl, rfl, fun j hj => by omega⟩
      case round =>
        obtain ⟨k, hk, rfl, rfl, hall⟩ := hrel
        have HALL := Lib.hid hall
        clear hall
        by_cases hlt : k < n
        · have hx := getD_mem zs k (by rw [HZ.out]; exact hlt)
          obtain ⟨b, off, rfl, hb, hc⟩ := HZR.out (by rw [HZ.out]; omega)
          have hx0 : w1.cell? ⟨b, off + k, none⟩ = some (.int .i64 (zs[k]?.getD 0)) := (ST1.out.1.cell (p := ⟨b, off + k, none⟩) hb).trans (hc k (by rw [HZ.out]; exact hlt))
          have hwx := i64_of_wf (HZW.out _ hx)
          have HX := Lib.hid hx
          have HSN : Hid (seenN zs (k + 1) = seenN zs k ||| 2 ^ (zs[k]?.getD 0).toNat) := Lib.hid rfl
          have hsl : seenN zs k < 2 ^ n := seenN_lt k (fun v hv => by have := HALL.out v hv; unfold pn; omega)
          have hpl := pow16 hn16
          have HKX : Hid (∀ x, zs[k]?.getD 0 = x → 0 ≤ x → x < n → ∀ v, v < k + 1 → 0 ≤ zs[v]?.getD 0 ∧ zs[v]?.getD 0 < n) := Lib.hid (fun x e h0 h1 v hv => by
            rcases Nat.lt_succ_iff_lt_or_eq.1 hv with h | rfl
            · exact HALL.out v h
            · rw [e]; exact ⟨h0, h1⟩)
          generalize hxx : zs[k]?.getD 0 = x at *
          have HXX := Lib.hid hxx
          generalize hss : seenN zs k = s at *
          have HSS := Lib.hid hss
          clear hxx hx hc hss
          by_cases h0 : x < 0
          · have HNO : Hid (¬ RenGood (n : Int) ws zs) := Lib.hid (fun h => by have := (h.2.2.2.2 x HX.out).1; omega)
            gi_wp2_with fail
            refine ⟨.tuple #[.agg #[.int .i64 0, .slice none 0 0], .int .u8 1], ?_, .inr ⟨HNO.out, rfl, ?_⟩⟩
            · simp [results, Tryd.results10, go_sem, *]
            · first | exact ST1.out.1 | exact (ST1.out.1.setCell (by simp only; omega) _).setCell (by simp only; omega) _
          · by_cases h1 : (n : Int) ≤ x
            · have HNO : Hid (¬ RenGood (n : Int) ws zs) := Lib.hid (fun h => by have := (h.2.2.2.2 x HX.out).2; rw [HZ.out] at this; omega)
              gi_wp2_with fail
              refine ⟨.tuple #[.agg #[.int .i64 0, .slice none 0 0], .int .u8 1], ?_, .inr ⟨HNO.out, rfl, ?_⟩⟩
              · simp [results, Tryd.results10, go_sem, *]
              · first | exact ST1.out.1 | exact (ST1.out.1.setCell (by simp only; omega) _).setCell (by simp only; omega) _
            · obtain ⟨y, rfl⟩ := Int.eq_ofNat_of_zero_le (a := x) (by omega)
              rw [Int.toNat_natCast] at HSN
              have hyp := wrap64_pow y (by omega)
              have hyl : 2 ^ y < 9223372036854775808 := (show (2 : Nat) ^ y < 2 ^ 63 from Nat.pow_lt_pow_right (by omega) (by omega))
              have hor := i64_or_nat s (2 ^ y) (by omega) hyl
              generalize 2 ^ y = py at *
              gi_wp2_with fail
              go_round
              case rel => exact ⟨k + 1, by omega, by go_num, by rw [HSN.out, ← hor], HKX.out _ rfl (by omega) (by omega)⟩
              case measure => simp [intOf]; omega
        · obtain rfl : k = n := by omega
          have hseen := perm_seen (zs := zs) HZ.out
          have hback := seen_perm (zs := zs) HZ.out hn16 (fun z hz => by
            obtain ⟨v, hv, rfl⟩ := mem_getD hz
            exact HALL.out v (by rw [HZ.out] at hv; exact hv))
          have hsl : seenN zs k < 2 ^ k := seenN_lt k (fun v hv => by have := HALL.out v hv; unfold pn; omega)
          have HIX : Hid (∀ x, x < 2 ^ k → x / 64 < wordsN k) := Lib.hid (fun x hx => idx_lt hx)
          have HBL := Lib.hid (fun W => sblank_any k hn16 W)
          have HME := Lib.hid (fun W (h : SetArg W k A k c ws) => h)
          have hpl := pow16 hn16
          have HSB := Lib.hid (And.intro hseen hback)
          clear hseen hback
          by_cases hs : seenN zs k = 2 ^ k - 1
          · have HP : Hid (IsPerm zs) := Lib.hid (HSB.out.2 hs)
            have hb : ((seenN zs k : Int) != (2 ^ k : Nat) - 1) = false := by
              have := Nat.two_pow_pos k
              generalize seenN zs k = s at hs ⊢
              generalize 2 ^ k = N at hs this ⊢
              rw [bne_eq_false_iff_eq]; omega
            generalize seenN zs k = s at *
            have hlw : len ≤ 34359738367 := by have := HARG.out.hlen; have := HOK.out.len; have := wordsN_le hn16; omega
            have HM := Lib.hid (fun W (h : SetArg W k A len c ws) => smembers_any k A len c ws W h hlw)
            obtain ⟨mm, hmm⟩ : ∃ mm, mm = wordsN k := ⟨_, rfl⟩
            have HMM := Lib.hid hmm
            have hml := wordsN_le hn16
            unfold setV at HBL
            unfold setA at HM
            rw [← hmm] at HIX HBL hml
            have HSR := Lib.hid (fun (Y : Nat) (b : Nat) W (h : OwnF U 71 W w.heap.size (.slice (some ⟨b, 0, none⟩) mm mm) (packT (renT zs (tabS k ws) k))) => h)
            generalize hN : 2 ^ k = N at *
            have HN := Lib.hid hN
            clear hs HALL HSB hsl hmm hN n0 n1 z0 z1
            have k0 := ST1.out.2.1.cell 0
            gi_wp2_with fail
            refine ⟨trivial, rfl, ?_⟩
            refine (callsIn_wide.2 (HBL.out _)).mono ?_
            rintro e w2 ⟨b, rfl, hbb, hown, hb2⟩
            have hblt := (hown.lt b rfl).2
            obtain ⟨V, hV⟩ : ∃ V, V = w2.alloc (.cells #[.int .i64 (k : Nat), .slice (some ⟨b, 0, none⟩) mm mm] 24) := ⟨_, rfl⟩
            have hs1 := HS1.out
            have hs2 := hb2.size
            have hbV : Below w.heap.size w V := by rw [hV]; exact (ST1.out.1.trans (hb2.mono ST1.out.1.size)).alloc (by omega) _
            have hbV1 : Below w1.heap.size w1 V := by rw [hV]; exact hb2.alloc (by omega) _
            have hvA := ST1.out.2.1.onB hbV1
            have hvP := ST1.out.2.2.1.onB hbV1
            have hvR := ST1.out.2.2.2.onB hbV1
            have hvO : Blk V w2.heap.size 24 #[.int .i64 (k : Nat), .slice (some ⟨b, 0, none⟩) mm mm] := by rw [hV]; exact Blk.new w2 _ _
            have howV : OwnF U 71 V w1.heap.size (.slice (some ⟨b, 0, none⟩) mm mm) (List.replicate mm 0) := by rw [hV]; exact hown.alloc _
            have hsV : V.heap.size = w2.heap.size + 1 := by rw [hV]; simp
            have HVV := Lib.hid hV
            have SV := Lib.hid (And.intro hbV (And.intro hvA (And.intro hvP (And.intro hvR (And.intro hvO howV)))))
            have HNB : Hid (w.heap.size + 3 ≤ w1.heap.size ∧ w1.heap.size ≤ b ∧ b < w2.heap.size ∧ V.heap.size = w2.heap.size + 1) := Lib.hid ⟨hs1, hbb, hblt, hsV⟩
            have k0' := (ST1.out.2.1.onB hb2).cell 0
            have k1' := (ST1.out.2.1.onB hb2).cell 1
            have hgw : w.heap.size < w2.heap.size := by omega
            clear hV hbV hbV1 hvA hvP hvR hvO howV hs1 hs2 hsV hbb hblt hown hb2
            clear kp k0
            gi_wp2_with fail
            refine ⟨trivial, rfl, ?_⟩
            rw [← HVV.out]
            refine (callsIn_wide.2 (HM.out _ (HARG.out.on SV.out.1))).mono ?_
            rintro e w4 ⟨A', c', rfl, hblk, howm, hb4⟩
            clear k0' k1' hgw
            gi_wp2_with fail
            have hs4 := hb4.size
            have hcc := howm.cap_le
            have hlc : len ≤ c' := by
              obtain ⟨A2, n2, c2, e2, _, h2⟩ := howm.form
              cases e2
              exact h2
            have hargM : SetArg w4 k A' len c' ws := own_arg' (b := 0) rfl howm HARG.out.hlen HARG.out.lt HARG.out.wf (by unfold maxLen; omega) hlc
            have hB4 := SV.out.1.trans (hb4.mono SV.out.1.size)
            have HSQ := Lib.hid (members_runs k A' len c' ws V.heap.size w4 hblk hargM (HDB.out.on hB4))
            rw [show memX (k : Int) ws = (List.range N).filter (bitAt ws) by unfold memX; rw [if_pos HRR.out, restL_set HOK.out, HN.out]] at HSQ
            have HXS : Hid (∀ pre x, pre ++ [x] <+: (List.range N).filter (bitAt ws) → x < N) := Lib.hid (fun pre x h => by
              have := h.subset (a := x) (by simp)
              exact List.mem_range.1 (List.mem_filter.1 this).1)
            have HAB : Hid (∀ a, A' = some a → V.heap.size + 1 ≤ a.block ∧ a.block < w4.heap.size) := Lib.hid (fun a e => by subst e; exact howm.lt a.block rfl)
            have hglob := HDB.out.glob
            have hgl := hblk.lt
            obtain ⟨hnb1, hnb2, hnb3, hnb4⟩ := HNB.out
            have hP4 := SV.out.2.2.1.onB hb4
            have hR4 := SV.out.2.2.2.1.onB hb4
            have hO4 := SV.out.2.2.2.2.1.onB hb4
            have ho4 := SV.out.2.2.2.2.2.below hb4
            clear howm hblk hargM hlc hcc
            refine' wpIn_rangeFunc_fp (gf := 55) (lb := #[.pointer (some ⟨V.heap.size, 0, none⟩)]) rfl (enters_of Tryd.func55 (by kernel_rfl) rfl) HSQ.out (fun _ => rfl)
              (fun Fp pre X => Fp = [b] ∧ Blk X (w.heap.size + 1) 25 #[.slice P k d] ∧ Blk X (w.heap.size + 1 + 1) 24 #[.int .i64 0, .slice none 0 0] ∧ Blk X w2.heap.size 24 #[.int .i64 (k : Nat), .slice (some ⟨b, 0, none⟩) mm mm] ∧ OwnF U 71 X w1.heap.size (.slice (some ⟨b, 0, none⟩) mm mm) (ofL mm (pre.map fun y => renX zs y k)) ∧ Below w.heap.size w X)
              (fun _ _ _ _ => False)
              ?loc (fun _ _ _ _ _ h => h.elim) ?bnd (fun _ _ _ _ h => h.elim) [b] ?nr ?rl ⟨rfl, hP4, hR4, hO4, ho4, hB4⟩ _ ?assign ?body ?done ?stop
            case loc =>
              rintro Fp pre X X' ⟨rfl, hP, hR, hO, ho, hbl⟩ e1 e2 e3 e4 e5
              obtain ⟨hc, hn⟩ := local_chg e1 e2 e3 e4 e5
              exact ⟨rfl, (e5 _ hP.lt (.inl (by omega))).trans hP, (e5 _ hR.lt (.inl (by omega))).trans hR, (e5 _ hO.lt (.inl (by omega))).trans hO, ho.chg hc (fun j hj => hn j (.inr (List.mem_singleton.2 (Option.some.inj (mem_blk.1 hj)).symm))),
                ⟨e1.trans hbl.os, e2.trans hbl.tape, e3.trans hbl.output, Nat.le_trans hbl.size e4, fun j hj => (e5 j (Nat.lt_of_lt_of_le hj hbl.size) (.inl (by omega))).trans (hbl.block j hj)⟩⟩
            case bnd =>
              rintro Fp pre X ⟨rfl, hP, hR, hO, ho, hbl⟩ j hj
              rw [List.mem_singleton] at hj
              rw [hj]
              exact (ho.lt b rfl).2
            case nr =>
              intro j hj
              rw [List.mem_singleton] at hj
              rintro (h | ⟨a, h1, h2⟩ | h)
              · omega
              · have := HAB.out a h1; omega
              · omega
            case rl =>
              rintro j (h | ⟨a, h1, h2⟩ | h)
              · omega
              · have := HAB.out a h1; omega
              · omega
            case assign =>
              intro l' x X K hK
              gi_wp2
              exact hK
            case body =>
              rintro l' Fp pre x X ⟨rfl, hP, hR, hO, ho, hbl⟩ hsX hpre
              have hx := HXS.out _ _ hpre
              have HI := Lib.hid (And.intro hP (And.intro hR (And.intro hO (And.intro ho hbl))))
              clear hP hR hO ho hbl
              have kp := HI.out.1.cell 0
              have hxl : x < 65536 := by omega
              gi_wp2_with fail
              gi_loop [11, 60] (fun v i => ∃ j : Nat, j ≤ k ∧ i = .int .i64 j ∧ v = .int .i64 (renX zs x j : Nat)) (fun _ i => k - (intOf i).toNat)
              case atStart => exact ⟨0, Nat.zero_le _, rfl, rfl⟩
              case round =>
                obtain ⟨j, hj, rfl, rfl⟩ := hrel
                by_cases hjl : j < k
                · obtain ⟨bp, off, rfl, hbp, hc⟩ := HZR.out (by rw [HZ.out]; omega)
                  have hx0 : X.cell? ⟨bp, off + j, none⟩ = some (.int .i64 (zs[j]?.getD 0)) := (HI.out.2.2.2.2.cell (p := ⟨bp, off + j, none⟩) hbp).trans (hc j (by rw [HZ.out]; exact hjl))
                  rw [HP.out.pn_int (by rw [HZ.out]; exact hjl)] at hx0
                  have hpl2 := HP.out.pn_lt (v := j) (by rw [HZ.out]; exact hjl)
                  rw [HZ.out] at hpl2
                  have hbt := i64_bit x j (by omega)
                  have hrl := renX_lt HP.out x j (by rw [HZ.out]; omega)
                  rw [HZ.out, HN.out] at hrl
                  have HRS : Hid (renX zs x (j + 1) = renX zs x j ||| x / 2 ^ j % 2 * 2 ^ pn zs j) := Lib.hid rfl
                  have hb1 : x / 2 ^ j % 2 ≤ 1 := by omega
                  have hpp : 2 ^ pn zs j ≤ 65536 := pow16 (by omega)
                  clear hc
                  generalize pn zs j = q at *
                  generalize renX zs x j = r at *
                  generalize x / 2 ^ j % 2 = bt at *
                  have hml2 : bt * 2 ^ q ≤ 65536 := Nat.le_trans (Nat.mul_le_mul_right _ hb1) (by omega)
                  have hsh := sh_bit bt q hb1 hpp
                  have hor := or_small r (bt * 2 ^ q) (Nat.le_of_lt (Nat.lt_of_lt_of_le hrl hpl)) (Nat.le_trans (Nat.mul_le_mul hb1 hpp) (Nat.le_refl _))
                  generalize bt * 2 ^ q = z at *
                  gi_wp2_with fail
                  go_round
                  case rel => exact ⟨j + 1, by omega, by go_num, by rw [HRS.out, ← hor]⟩
                  case measure => simp [intOf]; omega
                · obtain rfl : j = k := by omega
                  have hyN := renX_lt HP.out x j (by rw [HZ.out]; omega)
                  rw [HZ.out, HN.out] at hyN
                  have hym := HIX.out _ hyN
                  have HPX : Hid ((pre ++ [x]).map (fun y => renX zs y j) = pre.map (fun y => renX zs y j) ++ [renX zs x j]) := Lib.hid (by simp)
                  generalize renX zs x j = y at *
                  have kO := HI.out.2.2.1.cell 1
                  obtain ⟨L, hL⟩ : ∃ L, L = pre.map (fun y => renX zs y j) := ⟨_, rfl⟩
                  have hown := HI.out.2.2.2.1
                  rw [← hL] at hown HPX
                  have hat := hown.at_ (y / 64) (by rw [ofL_length]; exact hym)
                  have hwat : (ofL mm L)[y / 64]? = some (wat (ofL mm L) (y / 64)) := by
                    unfold wat
                    rw [List.getElem?_eq_getElem (by rw [ofL_length]; exact hym)]
                    rfl
                  rw [hwat] at hat
                  have kc : X.cell? ⟨b, y / 64, none⟩ = some (.int .u64 (wat (ofL mm L) (y / 64) : Nat)) := hat.1
                  have kz : X.frozen? ⟨b, y / 64, none⟩ = false := hat.2
                  have hwl := wat_lt (ofL_lt mm L) (y / 64)
                  have hpb : Hid (putBit (ofL mm L) y = (ofL mm L).set (y / 64) (wat (ofL mm L) (y / 64) ||| 2 ^ (y % 64))) := Lib.hid rfl
                  have hq2 := i64_div64 y (Nat.lt_of_lt_of_le hyN hpl)
                  have hr1 : Int.tmod (y : Int) 64 = ((y % 64 : Nat) : Int) := by rw [Int.tmod_eq_emod_of_nonneg (by omega)]; omega
                  have hr64 : y % 64 < 64 := Nat.mod_lt _ (by omega)
                  have hs1 := u64_pow (y % 64) hr64
                  have HOWN := Lib.hid hown
                  have HLL := Lib.hid hL
                  generalize y / 64 = q at *
                  generalize y % 64 = r at *
                  generalize hwv : wat (ofL mm L) q = v at *
                  have hp64 : 2 ^ r < 18446744073709551616 := (show (2 : Nat) ^ r < 2 ^ 64 from Nat.pow_lt_pow_right (by decide) hr64)
                  have hor := u64_or_nat v (2 ^ r) hwl hp64
                  generalize 2 ^ r = pr at *
                  clear hat hwv hown hL hwat
                  gi_wp2_with fail
                  have g1 : (0 : Int) ≤ (q : Int) := Int.natCast_nonneg q
                  have g2 : (q : Int) < (mm : Int) := by exact_mod_cast hym
                  have g3 : (q : Int).toNat = q := Int.toNat_natCast q
                  refine wpIn_region_still_tail 11 (by kernel_rfl) (by kernel_rfl) (by kernel_rfl) ?_
                  simp only [List.take_succ_cons, List.take_zero, List.drop_succ_cons, List.drop_zero]
                  repeat still_step
                  refine wpStill_nil ?_
                  gi_wp2_with fail
                  have hst := HOWN.out.set_ q (v ||| pr)
                  rw [← hpb.out, ← ofL_snoc, ← HPX.out] at hst
                  refine ⟨[b], fun j hj => .inl hj, ((Chg.refl [b] X).setCell (p := ⟨b, q, none⟩) (.inl (by simp)) _).drew, rfl, HI.out.1.store (by omega) q _, HI.out.2.1.store (by omega) q _, HI.out.2.2.1.store (by omega) q _, hst.drew, (HI.out.2.2.2.2.setCell (p := ⟨b, q, none⟩) (by simp only; omega) _).drew⟩
            case done =>
              rintro D Fp X hDl nD ⟨rfl, hP, hR, hO, ho, hbl⟩ hK
              have k0 := hO.cell 0
              have k1 := hO.cell 1
              have n0 := hR.cell 0
              have n1 := hR.cell 1
              have z0 := hR.frozen 0
              have z1 := hR.frozen 1
              have HI := Lib.hid (And.intro hP (And.intro hR (And.intro hO (And.intro ho hbl))))
              have HDN : Hid (D ≠ b) := Lib.hid (fun e => nD (by simp [e]))
              clear hP hR hO ho hbl nD
              have HK2 : Hid (∀ u v, ((X.setCell ⟨w.heap.size + 1 + 1, 0, none⟩ u).setCell ⟨w.heap.size + 1 + 1, 1, none⟩ v).heap[D]? = some (.deferred (some []))) := Lib.hid (fun u v => (Below.heap_setCell _ _ _ D (by simp only; omega)).trans ((Below.heap_setCell _ _ _ D (by simp only; omega)).trans hK))
              gi_wp2_with fail
              refine ⟨by simp, .inl ⟨_, _, rfl, run_takeDeferred (HK2.out _ _), ?_⟩⟩
              have hRR := (HI.out.2.1.set_ 0 (.int .i64 (k : Nat))).set_ 1 (.slice (some ⟨b, 0, none⟩) mm mm)
              obtain ⟨Y, hY⟩ : ∃ Y, Y = (X.setCell ⟨w.heap.size + 1 + 1, 0, none⟩ (.int .i64 (k : Nat))).setCell ⟨w.heap.size + 1 + 1, 1, none⟩ (.slice (some ⟨b, 0, none⟩) mm mm) := ⟨_, rfl⟩
              have hoY : OwnF U 71 Y w1.heap.size (.slice (some ⟨b, 0, none⟩) mm mm) (ofL mm (((List.range N).filter (bitAt ws)).map fun y => renX zs y k)) := by
                rw [hY]; exact (HI.out.2.2.2.1.set_below (a := ⟨w.heap.size + 1 + 1, 0, none⟩) (by simp only; omega) _).set_below (a := ⟨w.heap.size + 1 + 1, 1, none⟩) (by simp only; omega) _
              have hbY : Below w.heap.size w Y := by rw [hY]; exact (HI.out.2.2.2.2.setCell (p := ⟨w.heap.size + 1 + 1, 0, none⟩) (by simp only; omega) _).setCell (p := ⟨w.heap.size + 1 + 1, 1, none⟩) (by simp only; omega) _
              rw [← hY] at hRR ⊢
              have hRD : Blk (Y.putObj D (.deferred none)) (w.heap.size + 1 + 1) 24 #[.int .i64 (k : Nat), .slice (some ⟨b, 0, none⟩) mm mm] := (World.putObj_heap_other (by omega)).trans hRR
              have c0 := hRD.cell 0
              have c1 := hRD.cell 1
              refine ⟨.tuple #[.agg #[.int .i64 (k : Nat), .slice (some ⟨b, 0, none⟩) mm mm], .int .u8 0], ?_, .inl ⟨⟨HRR.out, by rw [HZ.out], HP.out⟩, b, ?_, by omega, ?_, ?_, ?_⟩⟩
              · simp [results, Tryd.results10, go_sem, c0, c1]
              · rw [HZ.out, ← HMM.out]; rfl
              · rw [HZ.out, ← ren_words HP.out HZ.out HOK.out hn16, HN.out, ← HMM.out]
                exact (hoY.mono (by omega)).chg (chg_putObj (F := [D]) (Chg.refl _ Y) (.inl (by simp)) _) (fun j hj hm => HDN.out ((List.mem_singleton.1 hm).symm.trans (Option.some.inj (mem_blk.1 hj)).symm))
              · rw [packT_length, renT_length, wordsN_ceil]
              · exact below_putObj hbY (by omega) _
            case stop =>
              rintro D c Fp pre X hD nD hpre h hK
              exact h.elim
          · have HNO : Hid (¬ RenGood (k : Int) ws zs) := Lib.hid (fun h => hs (HSB.out.1 h.2.2))
            have hb : ((seenN zs k : Int) != (2 ^ k : Nat) - 1) = true := by
              have := Nat.two_pow_pos k
              rw [bne_iff_ne]; omega
            generalize seenN zs k = s at *
            generalize 2 ^ k = N at *
            clear hs
            gi_wp2_with fail
            refine ⟨.tuple #[.agg #[.int .i64 0, .slice none 0 0], .int .u8 1], ?_, .inr ⟨HNO.out, rfl, ?_⟩⟩
            · simp [results, Tryd.results10, go_sem, *]
            · first | exact ST1.out.1 | exact (ST1.out.1.setCell (by simp only; omega) _).setCell (by simp only; omega) _
    · have hne : ((k : Int) != m) = true := by rw [bne_iff_ne]; exact hkm
      have HNO : Hid (¬ RenGood m ws zs) := Lib.hid (fun h => by have := h.2.1; rw [HZ.out] at this; exact hkm this.symm)
      clear hr
      gi_wp2_with fail
      refine ⟨.tuple #[.agg #[.int .i64 0, .slice none 0 0], .int .u8 1], ?_, .inr ⟨HNO.out, rfl, ?_⟩⟩
      · simp [results, Tryd.results10, go_sem, *]
      · first | exact ST1.out.1 | exact (ST1.out.1.setCell (by simp only; omega) _).setCell (by simp only; omega) _
end Go.Proofs.YtpbpjihdaghiaaaDoor
