/- Contract: set.Parse of bytes that are no number of variables with so many digits behind it. -/
import Derived.Test.YtpbpjihdaghiaaaDoorSetTxP
import Derived.Test.YtpbpjihdaghiaaaDoorMg
import Derived.Lib.AtoiErrMem
import Derived.Lib.IndexMore
namespace Go.Proofs.YtpbpjihdaghiaaaDoor
open Go.RowKit Go.Sort
set_option linter.unusedSimpArgs false
set_option linter.unusedVariables false

/-- the library's variables that Parse reads -/
structure PV (w : World) : Prop where
  mx : ∃ m, w.cell? ⟨3, 0, none⟩ = some (.int .i64 m)
  es : ∃ te pe, w.cell? ⟨4, 0, none⟩ = some (.iface te pe)
  er : ∃ te pe, w.cell? ⟨5, 0, none⟩ = some (.iface te pe)
theorem PV.on {w w' : World} (h : PV w) (hb : Below w.heap.size w w') : PV w' := by
  obtain ⟨⟨m, h1⟩, ⟨a, b, h2⟩, ⟨c, d, h3⟩⟩ := h
  exact ⟨⟨m, (hb.cell (p := ⟨3, 0, none⟩) (Lib.lt_of_cell h1)).trans h1⟩, ⟨a, b, (hb.cell (p := ⟨4, 0, none⟩) (Lib.lt_of_cell h2)).trans h2⟩, ⟨c, d, (hb.cell (p := ⟨5, 0, none⟩) (Lib.lt_of_cell h3)).trans h3⟩⟩
theorem cut_any (s : ByteArray) (hs : s.size < 4294967281) (w : World) (hV : PV w) : Calls Tryd.prog 66 #[.string s, .string ⟨#[58]⟩] w fun e w' => e = .returned (.tuple #[.string ⟨(Lib.cut s.data.toList [58]).1.toArray⟩, .string ⟨(Lib.cut s.data.toList [58]).2.1.toArray⟩, .bool (Lib.cut s.data.toList [58]).2.2]) ∧ Below w.heap.size w w' := by
  obtain ⟨m, hm⟩ := hV.mx
  refine (Tryd.strings_Cut s ⟨#[58]⟩ m w hs hm).mono ?_
  rintro e w' ⟨he, n, rfl⟩
  exact ⟨he, below_drewN (Below.refl _ _) n⟩
/-- how Atoi ends -/
def AtoiPost (l : List UInt8) (w : World) (e : Ending) (w' : World) : Prop :=
  ((∃ v, Lib.atoiAll l = .ok v ∧ e = .returned (.tuple #[.int .i64 v, .nilIface])) ∨ ((∀ v, Lib.atoiAll l ≠ .ok v) ∧ ∃ z te pe, e = .returned (.tuple #[.int .i64 z, .iface te pe]))) ∧ Below w.heap.size w w'
theorem atoi_any (s : ByteArray) (hs : s.size < 4294967281) (w : World) (hV : PV w) : Calls Tryd.prog 67 #[.string s] w (AtoiPost s.data.toList w) := by
  cases h : Lib.atoiAll s.data.toList with
  | ok v =>
    refine (Tryd.strconv_Atoi_ok s (by omega) v h w).mono ?_
    rintro e w' ⟨he, hw⟩
    refine ⟨.inl ⟨v, h, he⟩, ?_⟩
    rcases hw with rfl | ⟨t, rfl⟩
    · exact Below.refl _ _
    · exact Lib.bytesWorld_below _ _ _
  | «syntax» =>
    obtain ⟨te, pe, hv⟩ := hV.es
    refine (Tryd.strconv_Atoi_syntax s (by omega) h _ w hv (.inr ⟨te, pe, rfl⟩)).mono ?_
    rintro e w' ⟨N, he, _, _, hb⟩
    exact ⟨.inr ⟨fun v hh => (by rw [h] at hh; cases hh), _, _, _, he⟩, hb⟩
  | range =>
    obtain ⟨te, pe, hv⟩ := hV.er
    refine (Tryd.strconv_Atoi_range s (by omega) h _ w hv (.inr ⟨te, pe, rfl⟩)).mono ?_
    rintro e w' ⟨N, he, _, _, hb⟩
    exact ⟨.inr ⟨fun v hh => (by rw [h] at hh; cases hh), _, _, _, he⟩, hb⟩
theorem bytes_eq {s : ByteArray} {l : List UInt8} (h : s.data.toList = l) : s = ⟨l.toArray⟩ := by
  subst h
  obtain ⟨d⟩ := s
  simp
theorem bytes_ne {a b : ByteArray} (h : a ≠ b) : (a.toList == b.toList) = false := by
  rw [beq_eq_false_iff_ne, Lib.toList_data, Lib.toList_data]
  intro e
  exact h (by rw [bytes_eq e])
theorem bytes_size (l : List UInt8) : (⟨l.toArray⟩ : ByteArray).size = l.length := by simp [ByteArray.size]
set_option maxRecDepth 100000 in
set_option maxHeartbeats 4000000 in
theorem sparse_bad (s : ByteArray) (hs : s.size < 4294967281) (w : World) (hV : PV w) (hno : ∀ n rest, ¬ HeadOk s.data.toList n rest) : Calls Tryd.prog 34 #[.string s] w (SetErr w 10) := by
  have hback := cut_back (T := s.data.toList)
  have HCUT := Lib.hid (fun W (hV : PV W) => cut_any s hs W hV)
  have hszT : s.data.toList.length = s.size := (Lib.size_eq s).symm
  obtain ⟨head, hhead⟩ : ∃ x, x = (Lib.cut s.data.toList [58]).1 := ⟨_, rfl⟩
  obtain ⟨rest, hrest⟩ : ∃ x, x = (Lib.cut s.data.toList [58]).2.1 := ⟨_, rfl⟩
  obtain ⟨found, hfound⟩ : ∃ x, x = (Lib.cut s.data.toList [58]).2.2 := ⟨_, rfl⟩
  have hlh : head.length ≤ s.size := by
    rw [hhead, ← hszT]; unfold Lib.cut; split
    · exact List.length_take_le' _ _
    · exact Nat.le_refl _
  rw [← hhead, ← hrest, ← hfound] at HCUT
  rw [← hhead, ← hrest, ← hfound] at hback
  have HNO : Hid (∀ n : Nat, n ≤ 16 → found = true → head = Lib.decDigits n → rest.length ≠ digitsN n) := Lib.hid (fun n hn hf hh hl => hno n rest ⟨hn, by rw [hback hf, hh], hl⟩)
  obtain ⟨hd, hhd⟩ : ∃ x : ByteArray, x = ⟨head.toArray⟩ := ⟨_, rfl⟩
  obtain ⟨rs, hrs⟩ : ∃ x : ByteArray, x = ⟨rest.toArray⟩ := ⟨_, rfl⟩
  have hdl : hd.data.toList = head := by rw [hhd]
  have hds : hd.size = head.length := by rw [hhd, bytes_size]
  have hrl : rs.size = rest.length := by rw [hrs, bytes_size]
  rw [← hhd, ← hrs] at HCUT
  have HAT := Lib.hid (fun W (hV : PV W) => atoi_any hd (by omega) W hV)
  rw [hdl] at HAT
  have HHD := Lib.hid hhd
  have HRL := Lib.hid hrl
  have HMA := Lib.hid (fun n W => smay_any n W)
  have HIT := Lib.hid (fun (n : Nat) W (hn : n < 100) => itoa_sm n W hn)
  have HDG := Lib.hid (fun (n : Nat) W (hn : n ≤ 16) => sdigits_any n hn W)
  unfold txt at HIT
  unfold SetErr
  clear hback hhead hrest hfound hhd hrs hdl hds hno hlh hszT hrl
  have HV := Lib.hid hV
  obtain ⟨W0, hW0⟩ : ∃ W0, W0 = w.alloc (.cells #[.int .i64 0, .slice none 0 0] 24) := ⟨_, rfl⟩
  have hb0 : Below w.heap.size w W0 := by rw [hW0]; exact (Below.refl _ _).alloc (Nat.le_refl _) _
  have hR : Blk W0 w.heap.size 24 #[.int .i64 0, .slice none 0 0] := by rw [hW0]; exact Blk.new w _ _
  have HWW := Lib.hid hW0
  have S := Lib.hid (And.intro hR hb0)
  clear hW0 hb0 hR hV
  go_enter Tryd.func34, Tryd.ntmps34
  go_wp2_with fail
  rw [← HWW.out]
  refine (HCUT.out _ (HV.out.on S.out.2)).mono ?_
  rintro e w1 ⟨rfl, hb1⟩
  have S1 := Lib.hid (And.intro (S.out.1.onB hb1) (S.out.2.trans (hb1.mono S.out.2.size)))
  clear hb1 S HWW
  go_wp2_with fail
  refine (HAT.out _ (HV.out.on S1.out.2)).mono ?_
  rintro e w2 ⟨hres, hb2⟩
  have S2 := Lib.hid (And.intro (S1.out.1.onB hb2) (S1.out.2.trans (hb2.mono S1.out.2.size)))
  clear hb2 S1
  have n0 := S2.out.1.cell 0
  have n1 := S2.out.1.cell 1
  have z0 := S2.out.1.frozen 0
  have z1 := S2.out.1.frozen 1
  cases found
  case false =>
    rcases hres with ⟨v, hv, rfl⟩ | ⟨hbad, z, te, pe, rfl⟩
    all_goals
      go_wp2_with fail
      refine bodyPost_ret (v := .tuple #[.agg #[.int .i64 0, .slice none 0 0], .int .u8 10]) ?_ rfl ⟨rfl, ?_⟩
      · simp [results, Tryd.results34, go_sem, *]
      · first | exact S2.out.2 | exact (S2.out.2.setCell (Nat.le_refl _) _).setCell (Nat.le_refl _) _
  case true =>
    rcases hres with ⟨v, hv, rfl⟩ | ⟨hbad, z, te, pe, rfl⟩
    · cases hm : smayB v
      · have hma := fun W => HMA.out v W
        rw [hm] at hma
        have HM2 := Lib.hid hma
        clear hma hm hv
        go_wp2_with fail
        refine (HM2.out _).mono ?_
        rintro e w' ⟨rfl, rfl⟩
        go_wp2_with fail
        refine bodyPost_ret (v := .tuple #[.agg #[.int .i64 0, .slice none 0 0], .int .u8 10]) ?_ rfl ⟨rfl, ?_⟩
        · simp [results, Tryd.results34, go_sem, *]
        · first | exact S2.out.2 | exact (S2.out.2.setCell (Nat.le_refl _) _).setCell (Nat.le_refl _) _
      · have hma := fun W => HMA.out v W
        rw [hm] at hma
        have hv2 : 0 ≤ v ∧ v ≤ 16 := of_decide_eq_true hm
        obtain ⟨n, rfl⟩ := Int.eq_ofNat_of_zero_le hv2.1
        have HM2 := Lib.hid hma
        have hn : n ≤ 16 := by omega
        have hno := HNO.out n hn rfl
        have HIN := Lib.hid (fun W => HIT.out n W (by omega))
        have HDN := Lib.hid (fun W => HDG.out n W hn)
        obtain ⟨is, his⟩ : ∃ x : ByteArray, x = ⟨(Lib.decDigits n).toArray⟩ := ⟨_, rfl⟩
        rw [← his] at HIN
        have hne : is = hd → rs.size ≠ digitsN n := fun e => by
          rw [HRL.out]
          refine hno ?_
          rw [his, HHD.out] at e
          have := congrArg (fun b : ByteArray => b.data.toList) e
          simpa using this.symm
        clear hma hm hv hv2 hno his HIT
        generalize digitsN n = D at *
        go_wp2_with fail
        refine (HM2.out _).mono ?_
        rintro e w' ⟨rfl, rfl⟩
        go_wp2_with fail
        refine (HIN.out _).mono ?_
        rintro e w3 ⟨rfl, hb3⟩
        have S3 := Lib.hid (And.intro (S2.out.1.onB hb3) (S2.out.2.trans (hb3.mono S2.out.2.size)))
        clear hb3 S2 n0 n1 z0 z1
        have n0 := S3.out.1.cell 0
        have n1 := S3.out.1.cell 1
        have z0 := S3.out.1.frozen 0
        have z1 := S3.out.1.frozen 1
        by_cases he : is = hd
        · have hlen := hne he
          subst he
          have hq : ((is.size : Int) != (D : Int)) = ((is.size : Int) != (D : Int)) := rfl
          have hb : ((rs.size : Int) != (D : Int)) = true := by rw [bne_iff_ne]; omega
          go_wp2_with fail
          refine (HDN.out _).mono ?_
          rintro e w' ⟨rfl, rfl⟩
          go_wp2_with fail
          refine bodyPost_ret (v := .tuple #[.agg #[.int .i64 0, .slice none 0 0], .int .u8 10]) ?_ rfl ⟨rfl, ?_⟩
          · simp [results, Tryd.results34, go_sem, *]
          · first | exact S3.out.2 | exact (S3.out.2.setCell (Nat.le_refl _) _).setCell (Nat.le_refl _) _
        · have hbn := bytes_ne he
          go_wp2_with fail
          refine bodyPost_ret (v := .tuple #[.agg #[.int .i64 0, .slice none 0 0], .int .u8 10]) ?_ rfl ⟨rfl, ?_⟩
          · simp [results, Tryd.results34, go_sem, *]
          · first | exact S3.out.2 | exact (S3.out.2.setCell (Nat.le_refl _) _).setCell (Nat.le_refl _) _
    · go_wp2_with fail
      refine bodyPost_ret (v := .tuple #[.agg #[.int .i64 0, .slice none 0 0], .int .u8 10]) ?_ rfl ⟨rfl, ?_⟩
      · simp [results, Tryd.results34, go_sem, *]
      · first | exact S2.out.2 | exact (S2.out.2.setCell (Nat.le_refl _) _).setCell (Nat.le_refl _) _
end Go.Proofs.YtpbpjihdaghiaaaDoor
