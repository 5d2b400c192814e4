/- Contract: index.find. -/
import Derived.Test.YtfcklfpgjadfmaaIndex
namespace Go.Proofs.Ytfcklfpgjadfmaa
open Go.RowKit
set_option linter.unusedSimpArgs false
set_option linter.unusedVariables false

set_option maxRecDepth 100000 in
set_option maxHeartbeats 4000000 in
theorem find_any (F : List Nat) (g k : Nat) (sl : List (Option (Rec × Nat))) (r : Rec) (w : World) (hS : SlotsAt w F g sl k) (hn : Hid (∃ q, q ≤ 40 ∧ sl.length = 2 ^ q)) (hc : cnt sl < sl.length) (hr : r.Wf) :
    Calls Try.prog 85 #[.pointer (some ⟨g, 0, none⟩), .agg r.cells.toArray] w fun e w' => (∃ p, e = .returned (.int .i64 (p : Nat)) ∧ Stops hsh sl r p) ∧ Below w.heap.size w w' := by
  obtain ⟨A, n, c, hB, hO, hln, rfl, hnd⟩ := hS
  obtain ⟨b, c0, hv, _, hbl, hcl⟩ := OwnS.head hO (by omega)
  injection hv with e1 e2 e3
  subst e1
  subst e3
  rw [hln] at hn e2
  clear e2
  have hlt := hB.lt
  have hb : b ≠ g := by
    rintro rfl
    simp [blk, Value.ownBlock] at hnd
  have hc0 : w.cell? ⟨g, 0, none⟩ = some (.slice (some ⟨b, 0, none⟩) n c) := hB.cell 0
  have hne : ¬ g = w.heap.size := by omega
  have hbne : ¬ b = w.heap.size := by omega
  have HB := Lib.hid hB
  have HO := Lib.hid hO
  have HL := Lib.hid hln
  have HC := Lib.hid hc
  have HR := Lib.hid hr
  obtain ⟨f, t, bt, ⟨lt, lp⟩, ⟨ht, hp⟩⟩ := r
  simp only [Rec.cells]
  clear hB hr hnd hO hln hc
  go_enter Try.func85, Try.ntmps85
  go_wp2_with fail
  refine (home_any _ g n c _ ⟨f, t, bt, ⟨lt, lp⟩, ⟨ht, hp⟩⟩ _ (HB.out.alloc _) hn HR.out).mono ?_
  rintro e w1 ⟨rfl, hb1⟩
  go_wp2_with fail
  refine wp_gen (fun W => Below w.heap.size w W ∧ Blk W w.heap.size 73 #[.int .u8 f, .int .u8 t, .int .u8 bt, .int .u8 lt, .int .u32 lp, .int .u8 ht, .int .u32 hp]) ⟨?_, ?_⟩ ?_
  · exact ((Below.refl _ _).alloc (Nat.le_refl _) _).trans (hb1.mono (by simp))
  · exact (Blk.new w _ _).chg (F := []) (chg_of_below hb1) (by simp)
  rintro W ⟨hbW, hK⟩
  have hBW := HB.out.on' hbW
  have hOW := HO.out.chg (F := []) (chg_of_below hbW) (by simp)
  have hWlt : g < W.heap.size := by have := hbW.size; omega
  have hWltb : b < W.heap.size := by have := hbW.size; omega
  have hWltk : w.heap.size < W.heap.size := hK.lt
  have HBW := Lib.hid hBW
  have HOW := Lib.hid hOW
  have HK := Lib.hid hK
  have HbW := Lib.hid hbW
  clear hBW hOW hK hbW hc0 hb1 hlt hbl hne hbne
  go_loopg [5] n (fun gk s5 wr => Below W.heap.size W wr ∧ ∃ d, d ≤ n ∧ gk = n - d ∧ Past hsh sl ⟨f, t, bt, ⟨lt, lp⟩, ⟨ht, hp⟩⟩ d ∧ s5 = .int .i64 (plc ⟨f, t, bt, ⟨lt, lp⟩, ⟨ht, hp⟩⟩ n d : Nat))
  case atStart =>
    exact ⟨Below.refl _ _, 0, Nat.zero_le _, (Nat.sub_zero n).symm, Past.zero _ _ _, rfl⟩
  case round =>
    obtain ⟨hbr, d, hd, rfl, hpast, rfl⟩ := hrel
    have hdn : d < n := by have := hpast.lt hsh HC.out; rw [HL.out] at this; exact this
    have HP := Lib.hid hpast
    clear hpast
    obtain ⟨p, hpe⟩ : ∃ p, p = plc ⟨f, t, bt, ⟨lt, lp⟩, ⟨ht, hp⟩⟩ n d := ⟨_, rfl⟩
    rw [← hpe]
    have hpn : p < n := by rw [hpe]; exact Nat.mod_lt _ (by omega)
    have HPP := Lib.hid hpe
    clear hpe
    obtain ⟨x, hx⟩ : ∃ x, sl[p]? = some x := ⟨_, List.getElem?_eq_getElem (by rw [HL.out]; exact hpn)⟩
    have hat := (OwnS.at_ slotEnc_len HOW.out p x hx).1
    have HX := Lib.hid hx
    clear hx
    have hcr0 : wr.cell? ⟨g, 0, none⟩ = some (.slice (some ⟨b, 0, none⟩) n c) := (hbr.cell (p := ⟨g, 0, none⟩) hWlt).trans (HBW.out.cell 0)
    have hslot : ∀ j v, (slotEnc x)[j]? = some v → wr.cell? ⟨b, p * 9 + j, none⟩ = some v := fun j v hv => (hbr.cell (p := ⟨b, p * 9 + j, none⟩) hWltb).trans (hat j v hv)
    have hkey : ∀ j, wr.cell? ⟨w.heap.size, j, none⟩ = _ := fun j => (hbr.cell (p := ⟨w.heap.size, j, none⟩) hWltk).trans (HK.out.cell j)
    clear hat
    have Hbr := Lib.hid hbr
    clear hbr
    cases x with
    | none =>
      have hin : wr.cell? ⟨b, p * 9 + 8, none⟩ = some (.bool false) := hslot 8 _ rfl
      clear hslot hkey
      go_wp2_with fail
      go_quiet (fail)
      go_wp2_with fail
      go_ret
      refine ⟨⟨p, rfl, ?_⟩, ?_⟩
      · refine ⟨by rw [HL.out]; exact hpn, ⟨d, by rw [HL.out]; exact HPP.out, HP.out⟩, .inl HX.out⟩
      · exact below_drewN (HbW.out.trans (Hbr.out.mono HbW.out.size)) _
    | some y =>
      obtain ⟨⟨f', t', bt', ⟨lt', lp'⟩, ⟨ht', hp'⟩⟩, id'⟩ := y
      have hin : wr.cell? ⟨b, p * 9 + 8, none⟩ = some (.bool true) := hslot 8 _ rfl
      have c0 : wr.cell? ⟨b, p * 9, none⟩ = some (.int .u8 f') := hslot 0 _ rfl
      have c1 : wr.cell? ⟨b, p * 9 + 1, none⟩ = some (.int .u8 t') := hslot 1 _ rfl
      have c2 : wr.cell? ⟨b, p * 9 + 2, none⟩ = some (.int .u8 bt') := hslot 2 _ rfl
      have c3 : wr.cell? ⟨b, p * 9 + 3, none⟩ = some (.int .u8 lt') := hslot 3 _ rfl
      have c4 : wr.cell? ⟨b, p * 9 + 4, none⟩ = some (.int .u32 lp') := hslot 4 _ rfl
      have c5 : wr.cell? ⟨b, p * 9 + 5, none⟩ = some (.int .u8 ht') := hslot 5 _ rfl
      have c6 : wr.cell? ⟨b, p * 9 + 6, none⟩ = some (.int .u32 hp') := hslot 6 _ rfl
      have k0 := hkey 0
      have k1 := hkey 1
      have k2 := hkey 2
      have k3 := hkey 3
      have k4 := hkey 4
      have k5 := hkey 5
      have k6 := hkey 6
      clear hslot hkey
      by_cases heq : (⟨f', t', bt', ⟨lt', lp'⟩, ⟨ht', hp'⟩⟩ : Rec) = ⟨f, t, bt, ⟨lt, lp⟩, ⟨ht, hp⟩⟩
      · have hneq := fun W => neq_rec ⟨f', t', bt', ⟨lt', lp'⟩, ⟨ht', hp'⟩⟩ ⟨f, t, bt, ⟨lt, lp⟩, ⟨ht, hp⟩⟩ W false (by rw [heq, bne_self_eq_false])
        simp only [Rec.cells] at hneq
        have HEQ := Lib.hid heq
        clear heq
        go_wp2_with fail
        go_quiet (fail)
        go_wp2_with fail
        go_ret
        refine ⟨⟨p, rfl, ?_⟩, ?_⟩
        · refine ⟨by rw [HL.out]; exact hpn, ⟨d, by rw [HL.out]; exact HPP.out, HP.out⟩, .inr ⟨id', by unfold At; rw [HX.out, HEQ.out]⟩⟩
        · exact below_drewN (HbW.out.trans (Hbr.out.mono HbW.out.size)) _
      · have hneq := fun W => neq_rec ⟨f', t', bt', ⟨lt', lp'⟩, ⟨ht', hp'⟩⟩ ⟨f, t, bt, ⟨lt, lp⟩, ⟨ht, hp⟩⟩ W true (by rw [bne_iff_ne]; exact heq)
        simp only [Rec.cells] at hneq
        have HEQ := Lib.hid heq
        clear heq
        go_wp2_with fail
        go_quiet (fail)
        go_wp2_with fail
        refine (next_any _ g n c p _ _ (HBW.out.on' (below_drewN Hbr.out _)) hn hpn).mono ?_
        rintro e w' ⟨rfl, rfl⟩
        go_wp2_with fail
        go_roundg (n - (d + 1))
        case measure => omega
        case rel =>
          refine ⟨below_drewN Hbr.out _, d + 1, by omega, rfl, HP.out.succ hsh (k' := ⟨f', t', bt', ⟨lt', lp'⟩, ⟨ht', hp'⟩⟩) (id := id') ?_ HEQ.out, ?_⟩
          · unfold At
            rw [HL.out, ← HX.out]
            exact congrArg _ HPP.out.symm
          · rw [HPP.out, plc_next]
end Go.Proofs.Ytfcklfpgjadfmaa
