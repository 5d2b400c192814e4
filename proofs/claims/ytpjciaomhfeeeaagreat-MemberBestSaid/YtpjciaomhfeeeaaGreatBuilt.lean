/- Contract: ramagelaw11.Built. -/
import Derived.Test.YtpjciaomhfeeeaaGreatMab
import Derived.Test.YtpjciaomhfeeeaaGreatMm
namespace Go.Proofs.YtpjciaomhfeeeaaGreat
open Go.RowKit Go.Sort
set_option linter.unusedSimpArgs false
set_option linter.unusedVariables false

/-- the records behind those that are found -/
def builtR (n room : Nat) (l : List Rec) : List Rec := l.foldl (fun rs r => (findR n room rs r).2.2) []
theorem builtR_snoc (n room : Nat) (l : List Rec) (r : Rec) : builtR n room (l ++ [r]) = (findR n room (builtR n room l) r).2.2 := by unfold builtR; rw [List.foldl_append]; rfl
theorem findR_keeps (n room : Nat) (rs : List Rec) (r : Rec) (h : rs.length ≤ room) (hw : ∀ x ∈ rs, x.Wf) (hr : r.Wf) : (findR n room rs r).2.2.length ≤ room ∧ ∀ x ∈ (findR n room rs r).2.2, x.Wf := by
  unfold findR
  split
  · exact ⟨h, hw⟩
  · split
    · split
      · refine ⟨by simp; omega, fun x hx => ?_⟩
        rcases List.mem_append.1 hx with hx | hx
        · exact hw x hx
        · simp at hx; subst hx; exact hr
      · exact ⟨h, hw⟩
    · exact ⟨h, hw⟩
theorem foldR_ok (n room : Nat) : ∀ (l rs : List Rec), (∀ r ∈ l, r.Wf) → rs.length ≤ room → (∀ x ∈ rs, x.Wf) → (l.foldl (fun rs r => (findR n room rs r).2.2) rs).length ≤ room ∧ ∀ x ∈ l.foldl (fun rs r => (findR n room rs r).2.2) rs, x.Wf
  | [], rs, _, h1, h2 => ⟨h1, h2⟩
  | r :: l, rs, hl, h1, h2 => by
    have h := findR_keeps n room rs r h1 h2 (hl r (by simp))
    exact foldR_ok n room l _ (fun x hx => hl x (by simp [hx])) h.1 h.2
theorem builtR_ok (n room : Nat) (l : List Rec) (hl : ∀ r ∈ l, r.Wf) : (builtR n room l).length ≤ room ∧ ∀ x ∈ builtR n room l, x.Wf :=
  foldR_ok n room l [] hl (by simp) (by simp)
/-- both stores, with the same records -/
def Both (w wr : World) (g g' n room : Nat) (rs : List Rec) : Prop :=
  ∃ F F', StoreAt wr F g n room (rs.map some) [] ∧ RefAt wr F' g' n room rs ∧ (∀ x ∈ F, ¬ x ∈ F') ∧ (∀ x ∈ F, w.heap.size ≤ x) ∧ (∀ x ∈ F', w.heap.size ≤ x) ∧ Below w.heap.size w wr
theorem Both.store {w wr w1 : World} {g g' n room : Nat} {rs : List Rec} {cs : List (Option Rec)} {F F' : List Nat} (hR : RefAt wr F' g' n room rs) (hS : StoreAt wr F g n room (rs.map some) []) (hd : ∀ x ∈ F, ¬ x ∈ F') (hF : ∀ x ∈ F, w.heap.size ≤ x) (hb : Below w.heap.size w wr)
    (h : Turns (fun W X => StoreAt W X g n room cs []) F wr w1) : ∃ F2, StoreAt w1 F2 g n room cs [] ∧ RefAt w1 F' g' n room rs ∧ (∀ x ∈ F2, ¬ x ∈ F') ∧ (∀ x ∈ F2, w.heap.size ≤ x) ∧ Below w.heap.size w w1 := by
  obtain ⟨⟨F2, h1, h2⟩, hc⟩ := h
  have hlt := hR.lt
  have hs := hb.size
  refine ⟨F2, h1, hR.chg hc (fun k hk hm => hd k hm hk), fun x hx hm => ?_, fun x hx => ?_, hb.trans (hc.below hs hF)⟩
  · rcases h2 x hx with h3 | h3
    · exact hd x h3 hm
    · have := hlt x hm; omega
  · rcases h2 x hx with h3 | h3
    · exact hF x h3
    · omega
theorem Both.ref {w wr w1 : World} {g g' n room : Nat} {rs rs' : List Rec} {F F' : List Nat} {cs : List (Option Rec)} (hS : StoreAt wr F g n room cs []) (hd : ∀ x ∈ F, ¬ x ∈ F') (hF : ∀ x ∈ F', w.heap.size ≤ x) (hb : Below w.heap.size w wr)
    (h : Turns (fun W X => RefAt W X g' n room rs') F' wr w1) : ∃ F2, RefAt w1 F2 g' n room rs' ∧ StoreAt w1 F g n room cs [] ∧ (∀ x ∈ F, ¬ x ∈ F2) ∧ (∀ x ∈ F2, w.heap.size ≤ x) ∧ Below w.heap.size w w1 := by
  obtain ⟨⟨F2, h1, h2⟩, hc⟩ := h
  have hlt := hS.lt
  have hs := hb.size
  refine ⟨F2, h1, hS.chg hc (fun k hk hm => hd k hk hm), fun x hx hm => ?_, fun x hx => ?_, hb.trans (hc.below hs hF)⟩
  · rcases h2 x hm with h3 | h3
    · exact hd x hx h3
    · have := hlt x hx; omega
  · rcases h2 x hx with h3 | h3
    · exact hF x h3
    · omega

def BuiltPost (w : World) (n room : Nat) (l : List Rec) (e : Ending) (w' : World) : Prop :=
  ∃ g g' : Nat, e = .returned (.tuple #[.pointer (some ⟨g, 0, none⟩), .pointer (some ⟨g', 0, none⟩), .bool true]) ∧ Both w w' g g' n room (builtR n room l)
theorem take_snoc_rec {α : Type} (l : List α) (k : Nat) (x : α) (h : l[k]? = some x) : l.take (k + 1) = l.take k ++ [x] := by
  rw [List.take_add_one, h]; rfl
set_option maxRecDepth 100000 in
set_option maxHeartbeats 4000000 in
theorem built_any (n room : Nat) (A : Option Addr) (len c : Nat) (l : List Rec) (w : World) (hn : n ≤ 16) (hroom : room ≤ 1048576) (hl : l.length = len) (hlen : len ≤ 1000) (hrow : RowS 7 Rec.cells w w.heap.size A l) (hwf : ∀ r ∈ l, r.Wf) :
    Calls Tryz.prog 5 #[.int .i64 (n : Nat), .int .i64 (room : Nat), .slice A len c] w (BuiltPost w n room l) := by
  have HROW := Lib.hid hrow
  have HWF := Lib.hid hwf
  have HL := Lib.hid hl
  have HN : Hid (n ≤ 16 ∧ room ≤ 1048576) := Lib.hid ⟨hn, hroom⟩
  clear hrow hwf hl hn hroom
  go_enter Tryz.func5, Tryz.ntmps5
  go_wp2_with fail
  refine (storeNew_yes n room _ (by omega) (by have := HN.out; omega) (by omega) (by have := HN.out; omega)).mono ?_
  rintro e w1 ⟨⟨g, F, rfl, hS, hF⟩, hb1⟩
  simp only [Int.toNat_natCast] at hS
  have hlt := hS.lt
  have hg : g ∈ F := hS.mem
  have hgw : w.heap.size ≤ g := hF g hg
  have HSZ := Lib.hid hb1.size
  have HBO : Hid (Both w (w1.alloc (.cells #[.slice none 0 0, .slice none 0 0, .int .u32 0, .int .i64 (n : Nat), .int .i64 (room : Nat)] 58)) g w1.heap.size n room (builtR n room (l.take 0))) := Lib.hid (by
    refine ⟨F, [w1.heap.size], hS.on ((Below.refl _ _).alloc (Nat.le_refl _) _), ⟨none, 0, 0, ?_, OwnS.nil_, rfl, rfl, by simp⟩, fun x hx hm => ?_, hF, fun x hx => ?_, hb1.alloc hb1.size _⟩
    · exact Blk.new w1 _ _
    · simp at hm; have := hlt x hx; omega
    · simp at hx; subst hx; exact hb1.size)
  obtain ⟨g', hg'⟩ : ∃ g', g' = w1.heap.size := ⟨_, rfl⟩
  rw [← hg'] at HBO
  have HG := Lib.hid hg'
  clear hS hF hb1 hlt hg hgw hg'
  go_wp2_with fail
  rw [← HG.out]
  go_loopw [12] (fun s12 wr => Hid (∃ k : Nat, k ≤ len ∧ s12 = .int .i64 k ∧ Both w wr g g' n room (builtR n room (l.take k)))) (fun s12 _ => len - (intOf s12).toNat)
  case atStart => exact Lib.hid ⟨0, Nat.zero_le _, rfl, HBO.out⟩
  case round =>
    obtain ⟨k, hk, rfl, F, F', hS, hR, hd, hF, hF', hb⟩ := hrel.out
    clear hrel
    by_cases hkl : k < len
    · obtain ⟨r, hr⟩ : ∃ r, l[k]? = some r := ⟨_, List.getElem?_eq_getElem (by rw [HL.out]; exact hkl)⟩
      have hrw := HWF.out r (List.mem_of_getElem? hr)
      obtain ⟨b9, off, hA, hbl, hat⟩ := HROW.out (by rw [HL.out]; omega)
      have hatw := hat k r hr
      have hat := rangeAt_keep hatw (hb.block b9 hbl)
      have hok := builtR_ok n room (l.take k) (fun r hr => HWF.out r (List.mem_of_mem_take hr))
      have hfi := find_store F g n room _ r wr hS hrw
      rw [findR_eq] at hfi
      have HTK : Hid (builtR n room (l.take (k + 1)) = (findR n room (builtR n room (l.take k)) r).2.2) := Lib.hid (by rw [take_snoc_rec _ _ _ hr, builtR_snoc])
      have hfr := fun (w1 : World) (F' : List Nat) (hR : RefAt w1 F' g' n room (builtR n room (l.take k))) => refFind_any F' g' n room _ r w1 hR hrw hok.2 HN.out.1 HN.out.2 hok.1
      have HFI := Lib.hid hfi
      have HFR := Lib.hid hfr
      have HB2 := Lib.hid (fun (w1 : World) (cs : List (Option Rec)) => @Both.store w wr w1 g g' n room _ cs F F' hR hS hd hF hb)
      have hbs := Lib.hid hb.size
      have HFP := Lib.hid hF'
      subst hA
      obtain ⟨rf, rt, rb, ⟨rlt, rlp⟩, ⟨rht, rhp⟩⟩ := r
      have k0 : wr.cell? ⟨b9, off + k * 7, none⟩ = some (.int .u8 rf) := hat 0 _ rfl
      have k1 : wr.cell? ⟨b9, off + k * 7 + 1, none⟩ = some (.int .u8 rt) := hat 1 _ rfl
      have k2 : wr.cell? ⟨b9, off + k * 7 + 2, none⟩ = some (.int .u8 rb) := hat 2 _ rfl
      have k3 : wr.cell? ⟨b9, off + k * 7 + 3, none⟩ = some (.int .u8 rlt) := hat 3 _ rfl
      have k4 : wr.cell? ⟨b9, off + k * 7 + 4, none⟩ = some (.int .u32 rlp) := hat 4 _ rfl
      have k5 : wr.cell? ⟨b9, off + k * 7 + 5, none⟩ = some (.int .u8 rht) := hat 5 _ rfl
      have k6 : wr.cell? ⟨b9, off + k * 7 + 6, none⟩ = some (.int .u32 rhp) := hat 6 _ rfl
      have HAT := Lib.hid hatw
      have HR := Lib.hid hr
      simp only [Rec.cells] at HFI HFR
      clear hfi hfr hS hR hd hF hF' hb hat hatw hok hrw hr
      go_wp2_with fail
      refine HFI.out.mono ?_
      rintro e w2 ⟨rfl, hT⟩
      obtain ⟨F2, hS2, hR2, hd2, hF2, hb2⟩ := HB2.out w2 _ hT
      have hF2' := HFP.out
      have HEX := Lib.hid (HFR.out w2 F' hR2)
      have HB3 := Lib.hid (fun (w1 : World) (rs' : List Rec) => @Both.ref w w2 w1 g g' n room [] rs' F2 F' _ hS2 hd2 hF2' hb2)
      have hat2 := rangeAt_keep HAT.out (hb2.block b9 hbl)
      have k0 : w2.cell? ⟨b9, off + k * 7, none⟩ = some (.int .u8 rf) := hat2 0 _ rfl
      have k1 : w2.cell? ⟨b9, off + k * 7 + 1, none⟩ = some (.int .u8 rt) := hat2 1 _ rfl
      have k2 : w2.cell? ⟨b9, off + k * 7 + 2, none⟩ = some (.int .u8 rb) := hat2 2 _ rfl
      have k3 : w2.cell? ⟨b9, off + k * 7 + 3, none⟩ = some (.int .u8 rlt) := hat2 3 _ rfl
      have k4 : w2.cell? ⟨b9, off + k * 7 + 4, none⟩ = some (.int .u32 rlp) := hat2 4 _ rfl
      have k5 : w2.cell? ⟨b9, off + k * 7 + 5, none⟩ = some (.int .u8 rht) := hat2 5 _ rfl
      have k6 : w2.cell? ⟨b9, off + k * 7 + 6, none⟩ = some (.int .u32 rhp) := hat2 6 _ rfl
      have HF2 := Lib.hid hF2
      clear hT hS2 hR2 hd2 hF2 hF2' hb2 hat2
      go_wp2_with fail
      refine HEX.out.mono ?_
      rintro e w3 ⟨rfl, hT⟩
      obtain ⟨F3, hR3, hS3, hd3, hF3, hb3⟩ := HB3.out w3 _ hT
      have HEND : Hid (Both w w3 g g' n room (builtR n room (l.take (k + 1)))) := Lib.hid (by rw [HTK.out]; exact ⟨F2, F3, hS3, hR3, hd3, HF2.out, hF3, hb3⟩)
      clear hT hR3 hS3 hd3 hF3 hb3
      go_wp2_with fail
      go_roundw
      case rel => exact Lib.hid ⟨k + 1, by omega, by go_num, HEND.out⟩
      case measure => simp [intOf]; omega
    · have hkl' : k = len := by omega
      have HEND : Hid (Both w wr g g' n room (builtR n room l)) := Lib.hid (by
        have : l.take k = l := by rw [hkl', ← HL.out]; exact List.take_length
        rw [← this]
        exact ⟨F, F', hS, hR, hd, hF, hF', hb⟩)
      clear hkl' hS hR hd hF hF' hb
      go_wp2_with fail
      go_ret3
      exact ⟨_, _, rfl, HEND.out⟩
end Go.Proofs.YtpjciaomhfeeeaaGreat
