/- MemberAll: the law answers true. MemberAll: the law answers true: the walk. -/
import Derived.Test.YtciokbngjfeihaaMad
import Derived.Test.YtciokbngjfeihaaMbMay
import Derived.Test.YtciokbngjfeihaaMbrF
import Derived.Test.YtciokbngjfeihaaSame
import Derived.Test.YtciokbngjfeihaaArgsI
section
namespace Go.Proofs.Ytciokbngjfeihaa
open Go Go.RowKit Go.Shelf Go.Sort
set_option linter.unusedSimpArgs false
set_option linter.unusedVariables false

theorem own_ni {E : TypeId} {w : World} {b : Nat} {v : Value} {xs : List Nat} (h : OwnF NI E w b v xs) : OwnF (Value.int .i64) E w b v (xs.map fun x => ((x : Nat) : Int)) := by
  unfold OwnF at h ⊢
  rw [List.length_map, List.map_map]
  exact h
/-- what All hands back, behind more memory -/
theorem all_on (F G : List Nat) (gs go n room : Nat) (cs : List (Option Rec)) (free : List Int) (ps ls : List Int) (f : Int) (e : Edg) (w w7 : World) (h : StoreAt w F gs n room cs free) (hO : OrdAt w G go ps ls) (hfit : Fits ps ls) (hf : 0 ≤ f ∧ f ≤ 255) (he : e.Wf)
    (hcs : ∀ id r, recAt cs id = some r → r.Wf ∧ r.top ≤ r.bot ∧ r.bot < n)
    (hw7 : w7 = (((w.alloc (.cells #[.pointer (some ⟨gs, 0, none⟩)] 28)).alloc (.cells #[.pointer (some ⟨go, 0, none⟩)] 33)).alloc (.cells #[.int .u8 f] 32)).alloc (.cells #[.int .u8 e.tag, .int .u32 e.pos] 26)) :
    ∀ W, Below w7.heap.size w7 W → SeqRuns Try.prog 20 #[.pointer (some ⟨w.heap.size, 0, none⟩), .pointer (some ⟨w.heap.size + 1, 0, none⟩), .pointer (some ⟨w.heap.size + 1 + 1, 0, none⟩), .pointer (some ⟨w.heap.size + 1 + 1 + 1, 0, none⟩)] (fun x : Nat => #[Value.int .i64 (x : Int)]) (allR F G w.heap.size (w.heap.size + 1) (w.heap.size + 1 + 1) (w.heap.size + 1 + 1 + 1)) (allM cs n ps f e) W ∧
      ∀ k, allR F G w.heap.size (w.heap.size + 1) (w.heap.size + 1 + 1) (w.heap.size + 1 + 1 + 1) k → k < W.heap.size := by
  intro W hW
  have hb : Below w.heap.size w w7 := by rw [hw7]; exact ((((Below.refl _ _).alloc (Nat.le_refl _) _).alloc (by simp) _).alloc (by simp; omega) _).alloc (by simp; omega) _
  have k0 : Blk w7 w.heap.size 28 #[.pointer (some ⟨gs, 0, none⟩)] := by rw [hw7]; exact (((Blk.new _ _ _).alloc _).alloc _).alloc _
  have k1 : Blk w7 (w.heap.size + 1) 33 #[.pointer (some ⟨go, 0, none⟩)] := by rw [hw7]; exact ((Blk.new_at (by simp) _ _).alloc _).alloc _
  have k2 : Blk w7 (w.heap.size + 1 + 1) 32 #[.int .u8 f] := by rw [hw7]; exact (Blk.new_at (by simp) _ _).alloc _
  have k3 : Blk w7 (w.heap.size + 1 + 1 + 1) 26 #[.int .u8 e.tag, .int .u32 e.pos] := by rw [hw7]; exact Blk.new_at (by simp) _ _
  have hsz : w7.heap.size = w.heap.size + 1 + 1 + 1 + 1 := by rw [hw7]; simp
  have hSW := (h.on hb).on hW
  have hOW := (hO.on hb).on hW
  have hs := hW.size
  refine ⟨all_runs F G gs go n room _ _ _ _ cs free ps ls f e W hSW hOW hfit hf he hcs (k0.onB hW) (k1.onB hW) (k2.onB hW) (k3.onB hW), fun k hk => ?_⟩
  rcases hk with h | h | h | h | h | h
  · exact hSW.lt k h
  · exact hOW.lt k h
  all_goals omega
theorem none_on (sp op : Option Addr) (hn : sp = none ∨ op = none) (f : Int) (e : Edg) (w w7 : World)
    (hw7 : w7 = (((w.alloc (.cells #[.pointer sp] 28)).alloc (.cells #[.pointer op] 33)).alloc (.cells #[.int .u8 f] 32)).alloc (.cells #[.int .u8 e.tag, .int .u32 e.pos] 26)) :
    ∀ W, Below w7.heap.size w7 W → SeqRuns Try.prog 20 #[.pointer (some ⟨w.heap.size, 0, none⟩), .pointer (some ⟨w.heap.size + 1, 0, none⟩), .pointer (some ⟨w.heap.size + 1 + 1, 0, none⟩), .pointer (some ⟨w.heap.size + 1 + 1 + 1, 0, none⟩)] (fun x : Nat => #[Value.int .i64 (x : Int)]) (fun _ => False) [] W := by
  intro W hW
  have k0 : Blk w7 w.heap.size 28 #[.pointer sp] := by rw [hw7]; exact (((Blk.new _ _ _).alloc _).alloc _).alloc _
  have k1 : Blk w7 (w.heap.size + 1) 33 #[.pointer op] := by rw [hw7]; exact ((Blk.new_at (by simp) _ _).alloc _).alloc _
  have k2 : Blk w7 (w.heap.size + 1 + 1) 32 #[.int .u8 f] := by rw [hw7]; exact (Blk.new_at (by simp) _ _).alloc _
  have k3 : Blk w7 (w.heap.size + 1 + 1 + 1) 26 #[.int .u8 e.tag, .int .u32 e.pos] := by rw [hw7]; exact Blk.new_at (by simp) _ _
  have hsz : w7.heap.size = w.heap.size + 1 + 1 + 1 + 1 := by rw [hw7]; simp
  have hs := hW.size
  exact mall_none sp op hn f e.tag e.pos w.heap.size W ((k0.onB hW).cell 0) ((k1.onB hW).cell 0) ((k2.onB hW).cell 0) ((k3.onB hW).cell 0) ((k3.onB hW).cell 1) (by omega)
theorem startC_zero {cs : List (Option Rec)} {n len : Nat} {f : Int} {e : Edg} (h : startC cs n len f e = 0) : n = len ∧ (f = 1 ∨ f = 2 ∨ f = 3 ∨ f = 4 ∨ f = 5) ∧ leads cs n f e 0 = true := by
  unfold startC mayC at h
  by_cases h1 : n = len
  · rw [if_neg (by simpa using h1)] at h
    by_cases h2 : 1 ≤ f ∧ f ≤ 5
    · rw [if_neg (by simpa using h2)] at h
      split at h
      · omega
      · split at h
        · rename_i h3; exact ⟨h1, by omega, h3⟩
        · omega
    · rw [if_pos h2] at h; omega
  · rw [if_pos h1] at h; omega
theorem allM_len {cs : List (Option Rec)} {n : Nat} {ps : List Int} {f : Int} {e : Edg} (hn : n ≤ 7) : (allM cs n ps f e).length ≤ 128 := by
  unfold allM
  split
  · simp
  · rw [List.length_map, memR_filter n _ 0 0, List.length_map]
    refine Nat.le_trans (List.length_filter_le _ _) ?_
    rw [List.length_range]
    exact Nat.le_trans (Nat.pow_le_pow_right (by omega) hn) (by decide)

set_option maxRecDepth 200000 in
set_option maxHeartbeats 16000000 in
theorem mall22_out (n0 : Int) (A1 : Option Addr) (len1 c1 : Nat) (A2 : Option Addr) (len2 c2 : Nat) (f : Int) (e : Edg) (most : Int) (w : World) (hh : 40 < len1 ∨ n0 < 0 ∨ 7 < n0 ∨ 16 < len2) :
    Calls Try.prog 3 #[.int .i64 n0, .slice A1 len1 c1, .slice A2 len2 c2, .int .u8 f, .agg e.cells.toArray, .int .i64 most] w fun e w' => e = .returned (.bool true) ∧ Below w.heap.size w w' := by
  obtain ⟨W, hW⟩ : ∃ W, W = w.alloc (.cells #[.int .u8 e.tag, .int .u32 e.pos] 26) := ⟨_, rfl⟩
  have hbW : Below w.heap.size w W := by rw [hW]; exact (Below.refl _ _).alloc (Nat.le_refl _) _
  have HWW := Lib.hid hW
  have HB := Lib.hid hbW
  clear hbW
  simp only [Edg.cells]
  rcases hh with hh | hh | hh | hh
  all_goals
    go_enter Try.func3, Try.ntmps3
    go_wp2_with fail
    rw [← HWW.out]
    clear hW
    refine (alive22_any _).mono ?_
    rintro e w1 ⟨rfl, hb1⟩
    go_wp2_with fail
    all_goals
      go_ret
      exact ⟨rfl, HB.out.trans (hb1.mono HB.out.size)⟩
end Go.Proofs.Ytciokbngjfeihaa
end

section
namespace Go.Proofs.Ytciokbngjfeihaa
open Go Go.RowKit Go.Shelf Go.Sort
set_option linter.unusedSimpArgs false
set_option linter.unusedVariables false

set_option maxRecDepth 200000 in
set_option maxHeartbeats 16000000 in
theorem mall22_no (n : Nat) (A1 : Option Addr) (len1 c1 : Nat) (rl : List Rec) (A2 : Option Addr) (len2 c2 : Nat) (ps : List Int) (f : Int) (e : Edg) (most : Int) (w : World) (hr : RecsArg w A1 len1 c1 rl) (hp : IArg w A2 len2 c2 ps) (hf : 0 ≤ f ∧ f ≤ 255) (he : e.Wf) (hm : -9223372036854775808 ≤ most ∧ most ≤ 9223372036854775807)
    (hn7 : n ≤ 7) (hl1 : len1 ≤ 40) (hl2 : len2 ≤ 16) (hnp : ¬ IsPerm ps) :
    Calls Try.prog 3 #[.int .i64 (n : Nat), .slice A1 len1 c1, .slice A2 len2 c2, .int .u8 f, .agg e.cells.toArray, .int .i64 most] w fun e w' => e = .returned (.bool true) ∧ Below w.heap.size w w' := by
  have HeW := Lib.hid he
  obtain ⟨W, hW⟩ : ∃ W, W = w.alloc (.cells #[.int .u8 e.tag, .int .u32 e.pos] 26) := ⟨_, rfl⟩
  have hB0 : Blk W w.heap.size 26 #[.int .u8 e.tag, .int .u32 e.pos] := by rw [hW]; exact Blk.new w _ _
  have hbW : Below w.heap.size w W := by rw [hW]; exact (Below.refl _ _).alloc (Nat.le_refl _) _
  have FB : Hid (∀ W', Below W.heap.size W W' → Blk W' w.heap.size 26 #[.int .u8 e.tag, .int .u32 e.pos]) := Lib.hid fun W' hW' => hB0.onB hW'
  have HWS : Hid (W.heap.size = w.heap.size + 1) := Lib.hid (by rw [hW]; simp)
  have HWW := Lib.hid hW
  have HbW := Lib.hid hbW
  have HRA := Lib.hid hr
  have HPA := Lib.hid hp
  have HF := Lib.hid hf
  have HM := Lib.hid hm
  have HNP := Lib.hid hnp
  clear hnp
  clear hB0 hbW hr hp he hf
  simp only [Edg.cells]
  go_enter Try.func3, Try.ntmps3
  go_wp2_with fail
  rw [← HWW.out]
  clear hW
  refine (alive22_any _).mono ?_
  rintro x w1 ⟨rfl, hb1⟩
  have hrow := (HRA.out.2.2.2.1).on (HbW.out.trans (hb1.mono HbW.out.size))
  have hint := (HPA.out.2.2.2.2.1).on (HbW.out.trans (hb1.mono HbW.out.size))
  go_wp2_with fail
  refine (built_any n 100 A1 _ _ _ _ (by omega) (by omega) HRA.out.1 (by omega) hrow HRA.out.2.2.2.2).mono ?_
  rintro x w2 ⟨g, g', rfl, F, F', hS, hR, hd, hF, hF', hb2⟩
  have hok := builtR_ok n 100 _ HRA.out.2.2.2.2
  have hrr := recsR_built n 100 rl
  generalize builtR n 100 rl = rs at *
  have hB12 : Below W.heap.size W w2 := hb1.trans (hb2.mono hb1.size)
  have HI2 := Lib.hid (hint.on hb2)
  have HOK := Lib.hid hok
  have HS := Lib.hid hS
  have HR := Lib.hid hR
  have HCH := Lib.hid (chain_of hrr hok.2)
  have HCS := Lib.hid (hcs_of hrr hok.2)
  have HB12 := Lib.hid hB12
  clear hrow hint hok hrr hS hR hd hF hF' hb1 hb2 hB12
  go_wp2_with fail
  refine (orderOf_no A2 len2 c2 ps _ HPA.out.1 (by omega) HNP.out HI2.out).mono ?_
  rintro x w' ⟨rfl, rfl⟩
  have a0 : w2.cell? ⟨w.heap.size, 0, none⟩ = some (.int .u8 e.tag) := (FB.out w2 HB12.out).cell 0
  have a1 : w2.cell? ⟨w.heap.size, 1, none⟩ = some (.int .u32 e.pos) := (FB.out w2 HB12.out).cell 1
  go_wp2_with fail
  refine (mall_any (some ⟨g, 0, none⟩) none f e.tag e.pos _).mono ?_
  rintro x w7 ⟨rfl, hw7⟩
  have HSQ := Lib.hid (none_on (some ⟨g, 0, none⟩) none (.inr rfl) f e w2 w7 hw7)
  have hb7 : Below w2.heap.size w2 w7 := by rw [hw7]; exact ((((Below.refl _ _).alloc (Nat.le_refl _) _).alloc (by simp) _).alloc (by simp; omega) _).alloc (by simp; omega) _
  have HB7 := Lib.hid hb7
  clear a0 a1 hw7 hb7
  go_wp2_with fail
  refine (collect_any most HM.out _ _ (enters_of Try.func20 (by kernel_rfl) rfl) _ [] _ (HSQ.out _ (Below.refl _ _)) (fun _ h => h.elim) (by simp)).mono ?_
  rintro x w8 ⟨v8, rfl, hown8, hb8⟩
  obtain ⟨A8, n8, c8, rfl, hn8, _⟩ := hown8.form
  have hn80 : n8 = 0 := by simpa using hn8.symm
  subst hn80
  have HB8 := Lib.hid hb8
  clear hown8 hb8 hn8
  go_wp2_with fail
  refine (collect_any 300 (by omega) _ _ (enters_of Try.func20 (by kernel_rfl) rfl) _ [] _ (HSQ.out _ HB8.out) (fun _ h => h.elim) (by simp)).mono ?_
  rintro x w9 ⟨v9, rfl, hown9, hb9⟩
  obtain ⟨A9, n9, c9, rfl, hn9, _⟩ := hown9.form
  have hn90 : n9 = 0 := by simpa using hn9.symm
  subst hn90
  have HB9 := Lib.hid ((HB7.out.trans (HB8.out.mono HB7.out.size)).trans (hb9.mono (Nat.le_trans HB7.out.size HB8.out.size)))
  clear hown9 hb9 hn9
  have hri := refRight_any A2 len2 c2 ps w9 HPA.out.1 (by omega) (HI2.out.on HB9.out)
  rw [decide_eq_false HNP.out] at hri
  have HRI := Lib.hid hri
  clear hri
  go_wp2_with fail
  refine HRI.out.mono ?_
  rintro x w' ⟨rfl, rfl⟩
  go_wp2_with fail
  go_ret
  exact ⟨rfl, HbW.out.trans ((HB12.out.trans (HB9.out.mono HB12.out.size)).mono HbW.out.size)⟩

set_option maxRecDepth 200000 in
set_option maxHeartbeats 16000000 in
theorem mall22_code (n : Nat) (A1 : Option Addr) (len1 c1 : Nat) (rl : List Rec) (A2 : Option Addr) (len2 c2 : Nat) (ps : List Int) (f : Int) (e : Edg) (most : Int) (w : World) (hr : RecsArg w A1 len1 c1 rl) (hp : IArg w A2 len2 c2 ps) (hf : 0 ≤ f ∧ f ≤ 255) (he : e.Wf) (hm : -9223372036854775808 ≤ most ∧ most ≤ 9223372036854775807)
    (hn7 : n ≤ 7) (hl1 : len1 ≤ 40) (hl2 : len2 ≤ 16) (hperm : IsPerm ps) (code : Nat) (hc0 : code ≠ 0) (hcode : startC ((builtR n 100 rl).map some) n len2 f e = code) :
    Calls Try.prog 3 #[.int .i64 (n : Nat), .slice A1 len1 c1, .slice A2 len2 c2, .int .u8 f, .agg e.cells.toArray, .int .i64 most] w fun e w' => e = .returned (.bool true) ∧ Below w.heap.size w w' := by
  have HeW := Lib.hid he
  obtain ⟨W, hW⟩ : ∃ W, W = w.alloc (.cells #[.int .u8 e.tag, .int .u32 e.pos] 26) := ⟨_, rfl⟩
  have hB0 : Blk W w.heap.size 26 #[.int .u8 e.tag, .int .u32 e.pos] := by rw [hW]; exact Blk.new w _ _
  have hbW : Below w.heap.size w W := by rw [hW]; exact (Below.refl _ _).alloc (Nat.le_refl _) _
  have FB : Hid (∀ W', Below W.heap.size W W' → Blk W' w.heap.size 26 #[.int .u8 e.tag, .int .u32 e.pos]) := Lib.hid fun W' hW' => hB0.onB hW'
  have HWS : Hid (W.heap.size = w.heap.size + 1) := Lib.hid (by rw [hW]; simp)
  have HWW := Lib.hid hW
  have HbW := Lib.hid hbW
  have HRA := Lib.hid hr
  have HPA := Lib.hid hp
  have HF := Lib.hid hf
  have HM := Lib.hid hm
  have HP := Lib.hid hperm
  have HCO := Lib.hid hcode
  clear hperm hcode
  clear hB0 hbW hr hp he hf
  simp only [Edg.cells]
  go_enter Try.func3, Try.ntmps3
  go_wp2_with fail
  rw [← HWW.out]
  clear hW
  refine (alive22_any _).mono ?_
  rintro x w1 ⟨rfl, hb1⟩
  have hrow := (HRA.out.2.2.2.1).on (HbW.out.trans (hb1.mono HbW.out.size))
  have hint := (HPA.out.2.2.2.2.1).on (HbW.out.trans (hb1.mono HbW.out.size))
  go_wp2_with fail
  refine (built_any n 100 A1 _ _ _ _ (by omega) (by omega) HRA.out.1 (by omega) hrow HRA.out.2.2.2.2).mono ?_
  rintro x w2 ⟨g, g', rfl, F, F', hS, hR, hd, hF, hF', hb2⟩
  have hok := builtR_ok n 100 _ HRA.out.2.2.2.2
  have hrr := recsR_built n 100 rl
  have HST := HCO
  clear HCO
  generalize builtR n 100 rl = rs at *
  have hB12 : Below W.heap.size W w2 := hb1.trans (hb2.mono hb1.size)
  have HI2 := Lib.hid (hint.on hb2)
  have HOK := Lib.hid hok
  have HS := Lib.hid hS
  have HR := Lib.hid hR
  have HCH := Lib.hid (chain_of hrr hok.2)
  have HCS := Lib.hid (hcs_of hrr hok.2)
  have HB12 := Lib.hid hB12
  clear hrow hint hok hrr hS hR hd hF hF' hb1 hb2 hB12
  go_wp2_with fail
  refine (orderOf_yes A2 len2 c2 ps _ HPA.out.1 HP.out HI2.out).mono ?_
  rintro x w3 ⟨go, G, ls, rfl, hO, hI, hG, hb3⟩
  have HS3 := Lib.hid (HS.out.on hb3)
  have HO3 := Lib.hid (And.intro hO hI)
  have hB13 : Below W.heap.size W w3 := HB12.out.trans (hb3.mono HB12.out.size)
  have HR3 := Lib.hid (HR.out.on hb3)
  have HI3 := Lib.hid (HI2.out.on hb3)
  have HB13 := Lib.hid hB13
  have a0 : w3.cell? ⟨w.heap.size, 0, none⟩ = some (.int .u8 e.tag) := (FB.out w3 hB13).cell 0
  have a1 : w3.cell? ⟨w.heap.size, 1, none⟩ = some (.int .u32 e.pos) := (FB.out w3 hB13).cell 1
  clear hO hI hG hb3 hB13 HS HR HI2 HB12
  go_wp2_with fail
  refine (mall_any (some ⟨g, 0, none⟩) (some ⟨go, 0, none⟩) f e.tag e.pos _).mono ?_
  rintro x w7 ⟨rfl, hw7⟩
  have HSQ := Lib.hid (all_on F G g go n 100 _ _ ps ls f e w3 w7 HS3.out HO3.out.1 ⟨HP.out, HO3.out.2⟩ HF.out HeW.out HCS.out hw7)
  have hb7 : Below w3.heap.size w3 w7 := by rw [hw7]; exact ((((Below.refl _ _).alloc (Nat.le_refl _) _).alloc (by simp) _).alloc (by simp; omega) _).alloc (by simp; omega) _
  have HB7 := Lib.hid hb7
  have HXL : Hid ((allM (rs.map some) n ps f e).length ≤ 128) := Lib.hid (allM_len hn7)
  have hxe : allM (rs.map some) n ps f e = [] := by unfold allM; rw [HPA.out.1, HST.out, if_pos hc0]
  have HXE := Lib.hid hxe
  clear hxe
  generalize hxs : allM (rs.map some) n ps f e = xs at HSQ HXL
  have HXS := Lib.hid hxs
  clear a0 a1 hw7 hb7 hxs
  go_wp2_with fail
  refine (collect_any most HM.out _ _ (enters_of Try.func20 (by kernel_rfl) rfl) _ xs _ (HSQ.out _ (Below.refl _ _)).1 (HSQ.out _ (Below.refl _ _)).2 (by rw [List.length_take]; have := HXL.out; omega)).mono ?_
  rintro x w8 ⟨v8, rfl, hown8, hb8⟩
  obtain ⟨A8, n8, c8, rfl, hn8, _⟩ := hown8.form
  have hxe8 : xs = [] := by rw [← HXS.out, HXE.out]
  have hn80 : n8 = 0 := by rw [hxe8] at hn8; simpa using hn8.symm
  subst hn80
  clear hxe8
  have HO8 := Lib.hid hown8
  have HN8 := Lib.hid hn8
  have HB8 := Lib.hid hb8
  clear hown8 hb8 hn8
  go_wp2_with fail
  refine (collect_any 300 (by omega) _ _ (enters_of Try.func20 (by kernel_rfl) rfl) _ xs _ (HSQ.out _ HB8.out).1 (HSQ.out _ HB8.out).2 (by rw [List.length_take]; have := HXL.out; omega)).mono ?_
  rintro x w9 ⟨v9, rfl, hown9, hb9⟩
  have hx300 : xs.take (300 : Int).toNat = xs := List.take_of_length_le (by have := HXL.out; simp; omega)
  rw [hx300] at hown9
  obtain ⟨A9, n9, c9, rfl, hn9, _⟩ := hown9.form
  have hxe9 : xs = [] := by rw [← HXS.out, HXE.out]
  have hn90 : n9 = 0 := by rw [hxe9] at hn9; simpa using hn9.symm
  subst hn90
  clear hxe9
  have HO9 := Lib.hid hown9
  have HN9 := Lib.hid hn9
  have HB79 := Lib.hid (hb9)
  have HB9 := Lib.hid ((HB7.out.trans (HB8.out.mono HB7.out.size)).trans (hb9.mono (Nat.le_trans HB7.out.size HB8.out.size)))
  clear hown9 hb9 hn9 hx300
  have hri := refRight_any A2 len2 c2 ps w9 HPA.out.1 (by omega) (HI3.out.on HB9.out)
  rw [decide_eq_true HP.out] at hri
  have HRI := Lib.hid hri
  have a0 : w9.cell? ⟨w.heap.size, 0, none⟩ = some (.int .u8 e.tag) := (FB.out w9 (HB13.out.trans (HB9.out.mono HB13.out.size))).cell 0
  have a1 : w9.cell? ⟨w.heap.size, 1, none⟩ = some (.int .u32 e.pos) := (FB.out w9 (HB13.out.trans (HB9.out.mono HB13.out.size))).cell 1
  have HMY := Lib.hid (rmay22_any F' g' n 100 rs f e A2 len2 c2 w9 (HR3.out.on HB9.out) HF.out HeW.out (by have := HOK.out.1; omega) HOK.out.2)
  rw [HST.out] at HMY
  simp only [Edg.cells] at HMY
  clear hri
  go_wp2_with fail
  refine HRI.out.mono ?_
  rintro x w' ⟨rfl, rfl⟩
  go_wp2_with fail
  refine HMY.out.mono ?_
  rintro x wA ⟨rfl, hbA⟩
  have HBA := Lib.hid (HB9.out.trans (hbA.mono HB9.out.size))
  clear a0 a1 hbA
  have hcc : ((code : Int) != 0) = true := by simpa using hc0
  go_wp2_with fail
  go_ret
  exact ⟨rfl, HbW.out.trans ((HB13.out.trans (HBA.out.mono HB13.out.size)).mono HbW.out.size)⟩

set_option maxRecDepth 200000 in
set_option maxHeartbeats 16000000 in
theorem mall22_yes (n : Nat) (A1 : Option Addr) (len1 c1 : Nat) (rl : List Rec) (A2 : Option Addr) (len2 c2 : Nat) (ps : List Int) (f : Int) (e : Edg) (most : Int) (w : World) (hr : RecsArg w A1 len1 c1 rl) (hp : IArg w A2 len2 c2 ps) (hf : 0 ≤ f ∧ f ≤ 255) (he : e.Wf) (hm : -9223372036854775808 ≤ most ∧ most ≤ 9223372036854775807)
    (hn7 : n ≤ 7) (hl1 : len1 ≤ 40) (hl2 : len2 ≤ 16) (hperm : IsPerm ps) (hcode : startC ((builtR n 100 rl).map some) n len2 f e = 0) :
    Calls Try.prog 3 #[.int .i64 (n : Nat), .slice A1 len1 c1, .slice A2 len2 c2, .int .u8 f, .agg e.cells.toArray, .int .i64 most] w fun e w' => e = .returned (.bool true) ∧ Below w.heap.size w w' := by
  have HeW := Lib.hid he
  obtain ⟨W, hW⟩ : ∃ W, W = w.alloc (.cells #[.int .u8 e.tag, .int .u32 e.pos] 26) := ⟨_, rfl⟩
  have hB0 : Blk W w.heap.size 26 #[.int .u8 e.tag, .int .u32 e.pos] := by rw [hW]; exact Blk.new w _ _
  have hbW : Below w.heap.size w W := by rw [hW]; exact (Below.refl _ _).alloc (Nat.le_refl _) _
  have FB : Hid (∀ W', Below W.heap.size W W' → Blk W' w.heap.size 26 #[.int .u8 e.tag, .int .u32 e.pos]) := Lib.hid fun W' hW' => hB0.onB hW'
  have HWS : Hid (W.heap.size = w.heap.size + 1) := Lib.hid (by rw [hW]; simp)
  have HWW := Lib.hid hW
  have HbW := Lib.hid hbW
  have HRA := Lib.hid hr
  have HPA := Lib.hid hp
  have HF := Lib.hid hf
  have HM := Lib.hid hm
  have HP := Lib.hid hperm
  have HCO := Lib.hid hcode
  clear hperm hcode
  clear hB0 hbW hr hp he hf
  simp only [Edg.cells]
  go_enter Try.func3, Try.ntmps3
  go_wp2_with fail
  rw [← HWW.out]
  clear hW
  refine (alive22_any _).mono ?_
  rintro x w1 ⟨rfl, hb1⟩
  have hrow := (HRA.out.2.2.2.1).on (HbW.out.trans (hb1.mono HbW.out.size))
  have hint := (HPA.out.2.2.2.2.1).on (HbW.out.trans (hb1.mono HbW.out.size))
  go_wp2_with fail
  refine (built_any n 100 A1 _ _ _ _ (by omega) (by omega) HRA.out.1 (by omega) hrow HRA.out.2.2.2.2).mono ?_
  rintro x w2 ⟨g, g', rfl, F, F', hS, hR, hd, hF, hF', hb2⟩
  have hok := builtR_ok n 100 _ HRA.out.2.2.2.2
  have hrr := recsR_built n 100 rl
  have HST := HCO
  clear HCO
  generalize builtR n 100 rl = rs at *
  have hB12 : Below W.heap.size W w2 := hb1.trans (hb2.mono hb1.size)
  have HI2 := Lib.hid (hint.on hb2)
  have HOK := Lib.hid hok
  have HS := Lib.hid hS
  have HR := Lib.hid hR
  have HCH := Lib.hid (chain_of hrr hok.2)
  have HCS := Lib.hid (hcs_of hrr hok.2)
  have HB12 := Lib.hid hB12
  clear hrow hint hok hrr hS hR hd hF hF' hb1 hb2 hB12
  go_wp2_with fail
  refine (orderOf_yes A2 len2 c2 ps _ HPA.out.1 HP.out HI2.out).mono ?_
  rintro x w3 ⟨go, G, ls, rfl, hO, hI, hG, hb3⟩
  have HS3 := Lib.hid (HS.out.on hb3)
  have HO3 := Lib.hid (And.intro hO hI)
  have hB13 : Below W.heap.size W w3 := HB12.out.trans (hb3.mono HB12.out.size)
  have HR3 := Lib.hid (HR.out.on hb3)
  have HI3 := Lib.hid (HI2.out.on hb3)
  have HB13 := Lib.hid hB13
  have a0 : w3.cell? ⟨w.heap.size, 0, none⟩ = some (.int .u8 e.tag) := (FB.out w3 hB13).cell 0
  have a1 : w3.cell? ⟨w.heap.size, 1, none⟩ = some (.int .u32 e.pos) := (FB.out w3 hB13).cell 1
  clear hO hI hG hb3 hB13 HS HR HI2 HB12
  go_wp2_with fail
  refine (mall_any (some ⟨g, 0, none⟩) (some ⟨go, 0, none⟩) f e.tag e.pos _).mono ?_
  rintro x w7 ⟨rfl, hw7⟩
  have HSQ := Lib.hid (all_on F G g go n 100 _ _ ps ls f e w3 w7 HS3.out HO3.out.1 ⟨HP.out, HO3.out.2⟩ HF.out HeW.out HCS.out hw7)
  have hb7 : Below w3.heap.size w3 w7 := by rw [hw7]; exact ((((Below.refl _ _).alloc (Nat.le_refl _) _).alloc (by simp) _).alloc (by simp; omega) _).alloc (by simp; omega) _
  have HB7 := Lib.hid hb7
  have HXL : Hid ((allM (rs.map some) n ps f e).length ≤ 128) := Lib.hid (allM_len hn7)
  generalize hxs : allM (rs.map some) n ps f e = xs at *
  have HXS := Lib.hid hxs
  clear a0 a1 hw7 hb7 hxs
  go_wp2_with fail
  refine (collect_any most HM.out _ _ (enters_of Try.func20 (by kernel_rfl) rfl) _ xs _ (HSQ.out _ (Below.refl _ _)).1 (HSQ.out _ (Below.refl _ _)).2 (by rw [List.length_take]; have := HXL.out; omega)).mono ?_
  rintro x w8 ⟨v8, rfl, hown8, hb8⟩
  obtain ⟨A8, n8, c8, rfl, hn8, _⟩ := hown8.form
  have HO8 := Lib.hid hown8
  have HN8 := Lib.hid hn8
  have HB8 := Lib.hid hb8
  clear hown8 hb8 hn8
  go_wp2_with fail
  refine (collect_any 300 (by omega) _ _ (enters_of Try.func20 (by kernel_rfl) rfl) _ xs _ (HSQ.out _ HB8.out).1 (HSQ.out _ HB8.out).2 (by rw [List.length_take]; have := HXL.out; omega)).mono ?_
  rintro x w9 ⟨v9, rfl, hown9, hb9⟩
  have hx300 : xs.take (300 : Int).toNat = xs := List.take_of_length_le (by have := HXL.out; simp; omega)
  rw [hx300] at hown9
  obtain ⟨A9, n9, c9, rfl, hn9, _⟩ := hown9.form
  have HO9 := Lib.hid hown9
  have HN9 := Lib.hid hn9
  have HB79 := Lib.hid (hb9)
  have HB9 := Lib.hid ((HB7.out.trans (HB8.out.mono HB7.out.size)).trans (hb9.mono (Nat.le_trans HB7.out.size HB8.out.size)))
  clear hown9 hb9 hn9 hx300
  have hri := refRight_any A2 len2 c2 ps w9 HPA.out.1 (by omega) (HI3.out.on HB9.out)
  rw [decide_eq_true HP.out] at hri
  have HRI := Lib.hid hri
  have a0 : w9.cell? ⟨w.heap.size, 0, none⟩ = some (.int .u8 e.tag) := (FB.out w9 (HB13.out.trans (HB9.out.mono HB13.out.size))).cell 0
  have a1 : w9.cell? ⟨w.heap.size, 1, none⟩ = some (.int .u32 e.pos) := (FB.out w9 (HB13.out.trans (HB9.out.mono HB13.out.size))).cell 1
  have HMY := Lib.hid (rmay22_any F' g' n 100 rs f e A2 len2 c2 w9 (HR3.out.on HB9.out) HF.out HeW.out (by have := HOK.out.1; omega) HOK.out.2)
  rw [HST.out] at HMY
  simp only [Edg.cells] at HMY
  clear hri
  go_wp2_with fail
  refine HRI.out.mono ?_
  rintro x w' ⟨rfl, rfl⟩
  go_wp2_with fail
  refine HMY.out.mono ?_
  rintro x wA ⟨rfl, hbA⟩
  have HBA := Lib.hid (HB9.out.trans (hbA.mono HB9.out.size))
  have HO9A := Lib.hid (HO9.out.below hbA)
  have HO8A := Lib.hid ((HO8.out.below HB79.out).below hbA)
  have hBBA : Below W.heap.size W wA := HB13.out.trans (HBA.out.mono HB13.out.size)
  have a0 : wA.cell? ⟨w.heap.size, 0, none⟩ = some (.int .u8 e.tag) := (FB.out wA hBBA).cell 0
  have a1 : wA.cell? ⟨w.heap.size, 1, none⟩ = some (.int .u32 e.pos) := (FB.out wA hBBA).cell 1
  have hz := startC_zero HST.out
  have hl1 : ps.length = n := by rw [HPA.out.1, hz.1]
  have HTB := Lib.hid (rtab18_any F' g' n 100 rs f e A2 len2 c2 ps wA (HR3.out.on HBA.out) hz.2.1 HeW.out (by omega) (by have := HOK.out.1; omega) HOK.out.2 HCH.out (fit_of_leads (l := 0) hz.2.2) hl1 HPA.out.1 HP.out (HI3.out.on HBA.out))
  have HAL := Lib.hid (fun (B : Option Addr) (d : Nat) (W : World) hA hB => rall22_any n A2 B len2 c2 d ps (tabV (rs.map some) n ps f e) W (by omega) hl1 HPA.out.1 HP.out hA (tabV_length _ _ _ _ _) hB)
  have hma := mem_all HP.out hl1 (by rw [HPA.out.1]; exact HST.out) HCH.out (fit_of_leads (l := 0) hz.2.2)
  rw [hma, HXS.out] at HAL
  unfold BoolsOut at HTB
  simp only [Edg.cells] at HTB
  generalize 2 ^ n = N2 at *
  have HBBA := Lib.hid hBBA
  clear hma hz hl1 hBBA hbA
  go_wp2_with fail
  refine HTB.out.mono ?_
  rintro x wB ⟨gt, ct, rfl, hownB, hbB⟩
  have HAB := Lib.hid (HAL.out (some ⟨gt, 0, none⟩) ct wB ((HI3.out.on HBA.out).on hbB) (OwnF.rows hownB))
  have HBB := Lib.hid (HBA.out.trans (hbB.mono HBA.out.size))
  have HO9B := Lib.hid (HO9A.out.below hbB)
  have HO8B := Lib.hid (HO8A.out.below hbB)
  clear hownB hbB a0 a1 HTB HAL
  go_wp2_with fail
  refine HAB.out.mono ?_
  rintro x wC ⟨vC, rfl, hownC, hbC⟩
  have HBC := Lib.hid (HBB.out.trans (hbC.mono HBB.out.size))
  have HO9C := Lib.hid (own_ni (HO9B.out.below hbC))
  have HO8C := Lib.hid (own_ni (HO8B.out.below hbC))
  obtain ⟨AC, nC, cC, rfl, hnC, hcC⟩ := hownC.form
  have hnC' : nC = n9 := by rw [← hnC, List.length_map]; exact HN9.out
  subst hnC'
  have HOC := Lib.hid hownC
  have h9l : nC ≤ 128 := by have := HXL.out; have := HN9.out; omega
  have HRS := Lib.hid (fun (W : World) (hW : Below wC.heap.size wC W) => rints_same A9 AC nC c9 cC (xs.map fun x => ((x : Nat) : Int)) W (by rw [List.length_map]; exact HN9.out) (by omega) ((OwnF.rows HO9C.out).on hW) ((OwnF.rows HOC.out).on hW))
  have h8l : n8 = min most.toNat nC := by rw [← HN8.out, List.length_take, HN9.out]
  have HRT := Lib.hid (fun (W : World) (hW : Below wC.heap.size wC W) => rints_same A8 AC n8 c8 cC ((xs.take most.toNat).map fun x => ((x : Nat) : Int)) W (by rw [List.length_map]; exact HN8.out) (by omega) ((OwnF.rows HO8C.out).on hW) (by
    have h := ((OwnF.rows HOC.out).on hW).take (d := (0 : Int)) most.toNat
    rw [← List.map_take] at h
    exact h))
  have HSA := Lib.hid (fun (W : World) (hW : Below wC.heap.size wC W) => stSame_any F F' g g' n 100 rs W ((HS3.out.on HBC.out).on hW) ((HR3.out.on HBC.out).on hW))
  clear hownC hbC hnC
  have hcC' : (nC : Int) ≤ (cC : Int) := by omega
  have hn0 : 0 ≤ (nC : Int) := by omega
  subst h8l
  have HK : Hid ((max 0 (min most (nC : Int))).toNat = min most.toNat nC) := Lib.hid (by omega)
  go_wp2_with fail
  refine (HRS.out _ (Below.refl _ _)).mono ?_
  rintro x wD ⟨rfl, hbD⟩
  have HBD := Lib.hid hbD
  clear hbD
  go_wp2_with fail
  rw [HK.out]
  refine (HRT.out _ HBD.out).mono ?_
  rintro x wE ⟨rfl, hbE⟩
  have HBE := Lib.hid (HBD.out.trans (hbE.mono HBD.out.size))
  clear hbE
  go_wp2_with fail
  refine (HSA.out _ HBE.out).mono ?_
  rintro x wF ⟨rfl, hbF⟩
  have HBF := Lib.hid (HBE.out.trans (hbF.mono HBE.out.size))
  clear hbF
  go_wp2_with fail
  go_ret
  have h1 := HBC.out.trans (HBF.out.mono HBC.out.size)
  exact ⟨rfl, HbW.out.trans ((HB13.out.trans (h1.mono HB13.out.size)).mono HbW.out.size)⟩

theorem mall22_walk (n0 : Int) (A1 : Option Addr) (len1 c1 : Nat) (rl : List Rec) (A2 : Option Addr) (len2 c2 : Nat) (ps : List Int) (f : Int) (e : Edg) (most : Int) (w : World) (hr : RecsArg w A1 len1 c1 rl) (hp : IArg w A2 len2 c2 ps) (hf : (Lit.int .u8 f).wf = true) (he : e.Wf) (hm : (Lit.int .i64 most).wf = true) :
    Calls Try.prog 3 #[.int .i64 n0, .slice A1 len1 c1, .slice A2 len2 c2, .int .u8 f, .agg e.cells.toArray, .int .i64 most] w fun e w' => e = .returned (.bool true) ∧ Below w.heap.size w w' := by
  by_cases hin : len1 ≤ 40 ∧ 0 ≤ n0 ∧ n0 ≤ 7 ∧ len2 ≤ 16
  · obtain ⟨h1, h2, h3, h4⟩ := hin
    obtain ⟨n, rfl⟩ : ∃ n : Nat, n0 = n := ⟨n0.toNat, by omega⟩
    have hf' := u8_wf hf
    have hm' := i64_of_wf hm
    by_cases hperm : IsPerm ps
    · cases hc : startC ((builtR n 100 rl).map some) n len2 f e with
      | zero => exact mall22_yes n A1 len1 c1 rl A2 len2 c2 ps f e most w hr hp hf' he hm' (by omega) h1 h4 hperm hc
      | succ k => exact mall22_code n A1 len1 c1 rl A2 len2 c2 ps f e most w hr hp hf' he hm' (by omega) h1 h4 hperm (k + 1) (by omega) hc
    · exact mall22_no n A1 len1 c1 rl A2 len2 c2 ps f e most w hr hp hf' he hm' (by omega) h1 h4 hperm
  · exact mall22_out n0 A1 len1 c1 A2 len2 c2 f e most w (by omega)
end Go.Proofs.Ytciokbngjfeihaa
end
