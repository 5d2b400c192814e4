/- Contracts: store.reached, store.Reach. -/
import Derived.Test.YtpjciaomhfeeeaaGreatMx
import Derived.Test.YtpjciaomhfeeeaaGreatMar
import Derived.Test.YtpjciaomhfeeeaaGreatMa
import Derived.Test.YtpjciaomhfeeeaaGreatSortNil
import Derived.Maps.RangeWalk
namespace Go.Proofs.YtpjciaomhfeeeaaGreat
open Go Go.RowKit Go.Maps
set_option linter.unusedSimpArgs false
set_option linter.unusedVariables false

theorem edg_cells_len (e : Edg) : e.cells.length = 2 := rfl
/-- what reached tells -/
def RchOut (w : World) (cs : List (Option Rec)) (l : List Edg) (e : Ending) (w' : World) : Prop := ∃ q V, e = .returned (.map (some q)) ∧ w.heap.size ≤ q ∧ VisL cs [] l V ∧ MapIs w' q V
set_option maxRecDepth 100000 in
set_option maxHeartbeats 8000000 in
theorem reached_any (F : List Nat) (gs nv room : Nat) (cs : List (Option Rec)) (free : List Int) (A : Option Addr) (n c : Nat) (l : List Edg) (w : World) (h : StoreAt w F gs nv room cs free) (hcs : cs.length ≤ 1048576) (hl : l.length = n) (hn : n ≤ 1000000) (hrow : RowS 2 Edg.cells w w.heap.size A l) (hwf : ∀ e ∈ l, e.Wf) :
    Calls Tryz.prog 82 #[.pointer (some ⟨gs, 0, none⟩), .slice A n c] w fun e w' => RchOut w cs l e w' ∧ Below w.heap.size w w' := by
  obtain ⟨X, hX⟩ : ∃ X, X = (((w.alloc (.cells #[.pointer (some ⟨gs, 0, none⟩)] 28)).alloc (.map #[] 0)).alloc (.cells #[.map (some (w.heap.size + 1))] 138)).alloc (.cells #[.func (.func 84) #[] #[.pointer (some ⟨w.heap.size, 0, none⟩), .pointer (some ⟨w.heap.size + 1 + 1, 0, none⟩), .pointer (some ⟨w.heap.size + 1 + 1 + 1, 0, none⟩)]] 144) := ⟨_, rfl⟩
  have hbX : Below w.heap.size w X := by rw [hX]; exact ((((Below.refl _ _).alloc (Nat.le_refl _) _).alloc (by simp) _).alloc (by simp; omega) _).alloc (by simp; omega) _
  have hsX : X.heap.size = w.heap.size + 4 := by rw [hX]; simp
  have x0 : X.cell? ⟨w.heap.size, 0, none⟩ = some (.pointer (some ⟨gs, 0, none⟩)) := by rw [hX]; simp [go_sem]
  have x2 : X.cell? ⟨w.heap.size + 1 + 1, 0, none⟩ = some (.map (some (w.heap.size + 1))) := by rw [hX]; simp [go_sem]
  have x3 : X.cell? ⟨w.heap.size + 1 + 1 + 1, 0, none⟩ = some (.func (.func 84) #[] #[.pointer (some ⟨w.heap.size, 0, none⟩), .pointer (some ⟨w.heap.size + 1 + 1, 0, none⟩), .pointer (some ⟨w.heap.size + 1 + 1 + 1, 0, none⟩)]) := by rw [hX]; simp [go_sem]
  have xm : MapIs X (w.heap.size + 1) [] := by
    have h0 := MapIs.made (w.alloc (.cells #[.pointer (some ⟨gs, 0, none⟩)] 28))
    rw [World.size_alloc] at h0
    refine h0.keep ?_
    rw [hX, Below.heap_alloc _ _ _ (by simp), Below.heap_alloc _ _ _ (by simp)]
  have hVS : VS X F gs nv room cs free w.heap.size (w.heap.size + 1 + 1) (w.heap.size + 1 + 1 + 1) (w.heap.size + 1) := ⟨h.on hbX, x0, x2, x3, fun hq => by have := h.lt _ hq; omega, ⟨by omega, by omega, by omega⟩, ⟨by omega, by omega, by omega⟩⟩
  have HX := Lib.hid hX
  have HBX := Lib.hid hbX
  have HSX := Lib.hid hsX
  have HVS := Lib.hid (And.intro hVS xm)
  have HROW := Lib.hid (And.intro hrow hwf)
  have HV := Lib.hid (fun V e W hV hM hS hw => visit_any F gs nv room cs free w.heap.size (w.heap.size + 1 + 1) (w.heap.size + 1 + 1 + 1) (w.heap.size + 1) hcs cs.length V e W (by omega) hV hM hS hw)
  clear hX hbX hsX x0 x2 x3 xm hVS hrow hwf h
  go_enter Tryz.func82, Tryz.ntmps82
  go_wp2_with fail
  rw [show ∀ W, (Instr.makeMap 138 none).run Tryz.prog W = .ok (.map (some W.heap.size)) (W.alloc (.map #[] 0)) from fun _ => rfl]
  simp only [Result.andThen]
  rw [Oper.upon_value]
  go_wp2_with fail
  rw [run_store _ _ _ _ _ rfl, World.cell?_alloc_at _ _ _ _ (by simp), World.frozen?_alloc_at _ _ _ _ (by simp)]
  simp only [Result.andThen]
  go_wp2_with fail
  rw [← HX.out]
  go_loopw [13] (fun i wr => ∃ (k : Nat) (V : List Int), k ≤ n ∧ i = .int .i64 (k : Nat) ∧ VisL cs [] (l.take k) V ∧ MapIs wr (w.heap.size + 1) V ∧ Chg [w.heap.size + 1] X wr) (fun i _ => n - (intOf i).toNat)
  case atStart => exact ⟨0, [], by omega, rfl, by simpa using VisL.nil, HVS.out.2, Chg.refl _ _⟩
  case round =>
    obtain ⟨k, V, hk, rfl, hv, hm, hc⟩ := hrel
    have hS := HVS.out.1.chg hc
    have hbr : Below w.heap.size w wr := HBX.out.trans (hc.below HBX.out.size (fun x hx => by simp at hx; omega))
    have HR := Lib.hid (And.intro hv (And.intro hm (And.intro hc (And.intro hS hbr))))
    have hsz := HSX.out
    have hrs := hc.size
    have j2 := hS.i
    by_cases hkn : k < n
    · have hki : (k : Int) < (n : Int) := by omega
      obtain ⟨e, he⟩ : ∃ e, l[k]? = some e := ⟨_, List.getElem?_eq_getElem (by omega)⟩
      obtain ⟨b, off, rfl, hb, hcell⟩ := HROW.out.1 (by omega)
      have hce := hcell k e he
      have k0 : wr.cell? ⟨b, off + k * 2, none⟩ = some (.int .u8 e.tag) := (hbr.cell (p := ⟨b, off + k * 2, none⟩) hb).trans (by simpa using hce 0 _ rfl)
      have k1 : wr.cell? ⟨b, off + k * 2 + 1, none⟩ = some (.int .u32 e.pos) := (hbr.cell (p := ⟨b, off + k * 2 + 1, none⟩) hb).trans (by simpa using hce 1 _ rfl)
      have j0 := hS.s
      have j3 := hS.v
      have hbl : b < wr.heap.size := by have := hbr.size; omega
      have l3 : w.heap.size + 1 + 1 + 1 < wr.heap.size := by omega
      have l2 : w.heap.size + 1 + 1 < wr.heap.size := by omega
      have l0 : w.heap.size < wr.heap.size := by omega
      have hew : e.Wf := HROW.out.2 e (List.mem_of_getElem? he)
      have hchA : Chg [w.heap.size + 1] wr (wr.alloc (.cells #[.int .u8 e.tag, .int .u32 e.pos] 26)) := (Chg.refl _ _).alloc _
      have HC := Lib.hid (HV.out V e _ (hv.ids Ids.nil).1 (hm.chg (F := []) (chg_of_below ((Below.refl _ _).alloc (Nat.le_refl _) _)) (by simp)) (hS.chg hchA) hew)
      have HE := Lib.hid (And.intro he hchA)
      clear hv hm hc hS hbr hce he hcell hew hchA
      go_wp2_with fail
      refine HC.out.mono ?_
      rintro r w9 ⟨rfl, V', hv', hm', hc'⟩
      obtain ⟨hv, hm, hc, hS, hbr⟩ := HR.out
      have HV9 : Hid (VisL cs [] (l.take (k + 1)) V' ∧ Chg [w.heap.size + 1] X w9) := Lib.hid ⟨by
        rw [List.take_add_one, HE.out.1]
        exact .snoc hv hv', hc.trans (HE.out.2.trans hc' (fun x hx => .inl hx)) (fun x hx => .inl hx)⟩
      have HM9 := Lib.hid hm'
      clear hv hm hc hS hbr hv' hm' hc' k0 k1 j0 j2 j3
      go_wp2_with fail
      go_roundw
      case rel => exact ⟨k + 1, V', by omega, by go_num, HV9.out.1, HM9.out, HV9.out.2⟩
      case measure => simp [intOf]; omega
    · have hki : ¬ (k : Int) < (n : Int) := by omega
      have hkl : l.take k = l := List.take_of_length_le (by omega)
      rw [hkl] at hv
      have HFIN := Lib.hid (And.intro hv (And.intro hm hbr))
      clear hv hm hc hS hbr hkl
      go_wp2_with fail
      go_ret
      exact ⟨⟨_, V, rfl, by omega, HFIN.out.1, HFIN.out.2.1⟩, HFIN.out.2.2⟩
theorem perm_of_nodup : ∀ (l m : List Int), l.Nodup → m.Nodup → (∀ x, x ∈ l ↔ x ∈ m) → l.Perm m
  | [], m, _, _, h => by
    cases m with
    | nil => exact .refl _
    | cons y m => exact absurd ((h y).2 (by simp)) (by simp)
  | x :: l, m, h1, h2, h => by
    have hx : x ∈ m := (h x).1 (by simp)
    have hn := List.nodup_cons.1 h1
    refine ((perm_of_nodup l (m.erase x) hn.2 (h2.erase x) fun y => ?_).cons x).trans (List.perm_cons_erase hx).symm
    rw [h2.mem_erase_iff]
    constructor
    · intro hy
      exact ⟨fun e => hn.1 (by rw [← e]; exact hy), (h y).1 (by simp [hy])⟩
    · rintro ⟨hne, hy⟩
      rcases List.mem_cons.1 ((h y).2 hy) with e | e
      · exact absurd e hne
      · exact e
theorem ids_u {cs : List (Option Rec)} {V : List Int} (h : Ids cs V) (hcs : cs.length ≤ 1048576) : ∀ id ∈ V, isU id := fun id hid => by
  have := rec_lt (h.node id hid)
  simp [isU, Lit.wf, IntKind.min, IntKind.max, IntKind.signed, IntKind.bits]
  omega
theorem info_u32 : (Tryz.prog.info? 24).map (fun i => (i.zero, i.size, i.bytes)) = some (some (.int .u32 0), 1, 4) := by kernel_rfl
/-- what Reach tells: the ids, in some order -/
def ReachOut (w : World) (cs : List (Option Rec)) (l : List Edg) (e : Ending) (w' : World) : Prop :=
  ∃ (A : Option Addr) (n c : Nat) (V zs : List Int), e = .returned (.slice A n c) ∧ VisL cs [] l V ∧ zs.Perm V ∧ zs.length = n ∧ n ≤ 1048576 ∧ RowF (Value.int .u32) 0 w' w'.heap.size A zs ∧ Below w.heap.size w w'
/-- what has been collected -/
structure Col (V ys : List Int) (left : Lit → Bool) : Prop where
  nodup : ys.Nodup
  mem : ∀ x, x ∈ ys ↔ (x ∈ V ∧ left (.int .u32 x) = false)
  sub : ∀ x, isU x → left (.int .u32 x) = true → x ∈ V
theorem Col.len {cs : List (Option Rec)} {V ys : List Int} {left : Lit → Bool} (h : Col V ys left) (hV : Ids cs V) : ys.length ≤ cs.length := by
  have : Ids cs ys := ⟨h.nodup, fun id hid => hV.node id ((h.mem id).1 hid).1⟩
  exact this.len
theorem Col.step {V ys : List Int} {left : Lit → Bool} (h : Col V ys left) {x : Int} (hu : isU x) (hx : left (.int .u32 x) = true) : Col V (ys ++ [x]) (fun z => left z && !z.sameKey (.int .u32 x)) := by
  have hn : x ∉ ys := fun e => by have := ((h.mem x).1 e).2; rw [hx] at this; cases this
  have hk : ∀ y : Int, (Lit.int .u32 y).sameKey (.int .u32 x) = decide (y = x) := fun y => by
    by_cases e : y = x
    · subst e; simp [Lit.sameKey]
    · rw [sameKey_ne (by intro h; injection h with _ h; exact e h)]; simp [e]
  refine ⟨?_, fun y => ?_, fun y hyu hy => ?_⟩
  · rw [List.nodup_append]
    exact ⟨h.nodup, by simp, fun a ha b hb e => hn (by rw [List.mem_singleton] at hb; rw [← hb, ← e]; exact ha)⟩
  · rw [List.mem_append, List.mem_singleton, h.mem, hk]
    by_cases e : y = x
    · subst e; simp [h.sub y hu hx]
    · simp [e]
  · simp only [Bool.and_eq_true] at hy
    exact h.sub y hyu hy.1
set_option maxRecDepth 100000 in
set_option maxHeartbeats 16000000 in
theorem reach_any (F : List Nat) (gs nv room : Nat) (cs : List (Option Rec)) (free : List Int) (A : Option Addr) (n c : Nat) (l : List Edg) (w : World) (h : StoreAt w F gs nv room cs free) (hcs : cs.length ≤ 1048576) (hl : l.length = n) (hn : n ≤ 1000000) (hrow : RowS 2 Edg.cells w w.heap.size A l) (hwf : ∀ e ∈ l, e.Wf) :
    Calls Tryz.prog 74 #[.pointer (some ⟨gs, 0, none⟩), .slice A n c] w (ReachOut w cs l) := by
  have HR := Lib.hid (reached_any F gs nv room cs free A n c l w h hcs hl hn hrow hwf)
  obtain ⟨i0, hi, hz0, hz1, hz2⟩ := info_parts info_u32
  clear h hrow hwf hl
  go_enter Tryz.func74, Tryz.ntmps74
  go_wp2_with fail
  refine HR.out.mono ?_
  rintro e w1 ⟨⟨q, V, rfl, hq, hv, D, hown, hD, hat, hhas⟩, hb1⟩
  have hV := (hv.ids Ids.nil).1
  have hVu := ids_u hV hcs
  have hql := hown.lt
  have HV := Lib.hid (And.intro hv (And.intro hV hb1))
  have HH := Lib.hid (And.intro hhas hVu)
  clear hv hV hb1 hhas hVu hat HR
  go_wp2_with (first
    | (at_range; refine wpList_range_own _ rfl _ 138 rfl 24 3 keyU Tryz.underlying138 _ q _ _ rfl hown ?_; intro w2 hrg2 hg2 hs2)
    | fail)
  go_frame
  go_loopw [5, 6] (fun vo _ wr => ∃ (left : Lit → Bool) (cnt : Nat) (ys : List Int), wr.ranges Tryz.prog 24 (plainElem Tryz.prog 3) q w1.heap.size V.length D left cnt ∧ Col V ys left ∧ OwnF (Value.int .u32) 24 wr (w1.heap.size + 1) vo ys ∧ w1.heap.size + 1 ≤ wr.heap.size ∧ Below w1.heap.size w1 wr) (fun _ _ wr => wr.rangeLeft q w1.heap.size)
  case atStart =>
    refine ⟨_, _, [], hrg2, ⟨List.nodup_nil, fun x => ⟨fun h => (by cases h), fun ⟨h1, h2⟩ => ?_⟩, fun x hu hx => ?_⟩, OwnF.nil_, by omega, (Below.refl _ _).grown hg2 (Nat.le_refl _) (fun j hj => by cases hj)⟩
    · rw [HH.out.1 x (HH.out.2 x h1)] at h2
      simp [h1] at h2
    · rw [HH.out.1 x hu] at hx
      simpa using hx
  case round =>
    obtain ⟨left, cnt, ys, hrg, hcol, hout, hsz, hnx⟩ := hrel
    have hyl := hcol.len HV.out.2.1
    have HC := Lib.hid (And.intro hcol (And.intro hout hnx))
    clear hcol hout hnx
    go_wp2_with (first
      | (at_next; refine wpList_next_ranges_ii _ rfl _ rfl 24 3 .u32 .i64 keyU Tryz.underlying24 Tryz.underlying3 q w1.heap.size V.length _ _ _ rfl hrg ?_ ?_)
      | fail)
    · intro hc0 hl0
      obtain ⟨hcol, hout, hnx⟩ := HC.out
      have hperm : ys.Perm V := perm_of_nodup ys V hcol.nodup HV.out.2.1.nodup (fun x => by rw [hcol.mem, hl0]; simp)
      have HFB := Lib.hid (HV.out.2.2.trans (hnx.mono HV.out.2.2.size))
      clear hc0 hl0 hcol hnx
      have hout2 := hout
      rcases hout2 with ⟨_, ⟨rfl, h0⟩ | ⟨g, cap, cur, rfl, hgb, hg2, hcc, hm, hrest⟩⟩
      · have hys : ys = [] := List.length_eq_zero_iff.1 h0
        subst hys
        have HP := Lib.hid hperm
        clear hperm hout h0
        go_wp2_with fail
        refine (sort_nil _).mono ?_
        rintro e w5 ⟨rfl, rfl⟩
        go_wp2_with fail
        go_ret
        exact ⟨none, 0, 0, V, [], rfl, HV.out.1, HP.out, rfl, by omega, RowF.nil_, HFB.out⟩
      · have hgl : g < wr.heap.size := (OwnF.lt hout g rfl).2
        have HS := Lib.hid (sort_any g ys.length cap ys wr (OwnF.mono hout (Nat.zero_le _)) (by omega) hgl)
        have HP := Lib.hid (And.intro hperm (And.intro hgb hyl))
        clear hperm hout hgb hyl hg2 hcc hm hrest
        go_wp2_with fail
        refine HS.out.mono ?_
        rintro e w5 ⟨rfl, zs, hzp, hzu, hzc⟩
        have hfin : Below w.heap.size w w5 := HFB.out.trans (hzc.below HFB.out.size (fun x hx => by simp at hx; have := HP.out.2.1; have := HV.out.2.2.size; omega))
        have HF := Lib.hid (And.intro (hzp.trans HP.out.1) (And.intro hfin (And.intro (OwnF.rows (d := 0) hzu) hzu.len)))
        clear hzp hzu hzc hfin
        go_wp2_with fail
        go_ret
        exact ⟨_, _, _, V, zs, rfl, HV.out.1, HF.out.1, HF.out.2.2.2, by have := HP.out.2.2; omega, HF.out.2.2.1, HF.out.2.1⟩
    · intro x cx w3 cnt1 hwx hwc hlx hatx hrg1 hlt hg1 hs1 hen
      obtain ⟨hcol, hout, hnx⟩ := HC.out
      have hq : q ≠ w1.heap.size := by omega
      have hout1 : OwnF (Value.int .u32) 24 w3 (w1.heap.size + 1) _ ys := OwnF.kept hout hg1 (by
        rcases hh : Value.ownBlock _ with _ | k
        · exact .inl rfl
        · right
          have := (OwnF.lt hout k hh).1
          intro e
          injection e with e
          omega)
      have hb3 : Below w1.heap.size w1 w3 := hnx.grown hg1 hnx.size (fun j hj => by cases hj; exact Nat.le_refl _)
      have hlt1 := hout1.lt
      have HC2 := Lib.hid (And.intro (hcol.step hwx hlx) (And.intro hb3 (And.intro hrg (And.intro hrg1 (And.intro hlt1 hout1)))))
      have hs3 : w1.heap.size + 1 ≤ w3.heap.size := by omega
      have HOW := Lib.hid hout1
      clear hcol hout hnx hout1 hb3 hrg1 hlt1 hg1 hatx hlx hwc HC hrg
      go_wp2_with (first
        | (at_builtin; refine wp_app1 (f := Value.int .u32) Tryz.underlying56 hi hz0 hz1 hz2 rfl (by decide) w3 rfl _ _ rfl (w1.heap.size + 1) _ ys x 1 rfl HOW.out hs3 (by omega) rfl rfl hs1 ?_; intro v4 w4 hown4 hb4 hs4 hg4 hv4)
        | fail)
      obtain ⟨hcol, hb3, hrg, hrg1, hlt1, hout1⟩ := HC2.out
      have hrg4 := hrg1.kept hg4 (fun e => by have := (hlt1 q e.symm).1; omega) (fun e => by have := (hlt1 w1.heap.size e.symm).1; omega)
      have HF := Lib.hid (And.intro hcol (And.intro hown4 (And.intro (show Below w1.heap.size w1 w4 from hb3.trans ((hb4.mono (Nat.le_succ _)))) (And.intro hrg4 hrg))))
      clear hcol hb3 hrg hrg1 hlt1 hout1 hrg4 hown4 hb4 hg4 hv4
      go_wp2_with fail
      go_roundw
      case rel => exact ⟨_, cnt1, ys ++ [x], HF.out.2.2.2.1, HF.out.1, HF.out.2.1, by omega, HF.out.2.2.1⟩
      case measure => rw [HF.out.2.2.2.1.left_eq, HF.out.2.2.2.2.left_eq]; exact hlt
end Go.Proofs.YtpjciaomhfeeeaaGreat
