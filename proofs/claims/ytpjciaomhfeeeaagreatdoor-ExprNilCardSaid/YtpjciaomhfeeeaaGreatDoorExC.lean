/- Contracts: the parser's fail, want, rank, deeper, down. -/
import Derived.Test.YtpjciaomhfeeeaaGreatDoorExB
import Derived.Test.YtpjciaomhfeeeaaGreatDoorMq
namespace Go.Proofs.YtpjciaomhfeeeaaGreatDoor
open Go.RowKit Go.Sort
set_option linter.unusedSimpArgs false
set_option linter.unusedVariables false

/-- the constant 0, as a part of an expression -/
abbrev noE : Value := .iface 139 (.bool false)
section
variable {w : World} {g : Nat} {l : List UInt8} {at_ : Nat} {t : Tok} {deep bad e : Int}
theorem PS.setErr (h : PS w g l at_ t deep bad e) (k p : Int) : PS ((w.setCell ⟨g, 7, none⟩ (.int .u8 k)).setCell ⟨g, 6, none⟩ (.int .i64 p)) g l at_ t deep p k := (Blk.set_ h 7 _).set_ 6 _
theorem PS.setDeep (h : PS w g l at_ t deep bad e) (k : Int) : PS (w.setCell ⟨g, 5, none⟩ (.int .i64 k)) g l at_ t k bad e := Blk.set_ h 5 _
theorem PS.drewN (h : PS w g l at_ t deep bad e) (k : Nat) : PS (w.drewN k) g l at_ t deep bad e := h
theorem PS.lt (h : PS w g l at_ t deep bad e) : g < w.heap.size := Blk.lt h
end
set_option maxRecDepth 100000 in
set_option maxHeartbeats 4000000 in
theorem pfail_any (g : Nat) (l : List UInt8) (a : Nat) (t : Tok) (deep bad k : Int) (w : World) (h : PS w g l a t deep bad 0) :
    Calls Tryz.prog 35 #[.pointer (some ⟨g, 0, none⟩), .int .u8 k] w fun e1 w' => e1 = .returned noE ∧ PS w' g l a t deep t.at_ k ∧ Chg [g] w w' := by
  have c4 := h.c4
  have c6 := h.c6
  have c7 := h.c7
  have f6 := Blk.frozen h 6
  have f7 := Blk.frozen h 7
  have H := Lib.hid h
  clear h
  go_enter Tryz.func35, Tryz.ntmps35
  go_wp2_with fail
  refine bodyPost_ret (v := noE) (by simp [results, go_sem]) rfl ⟨rfl, PS.setErr H.out _ _, (((Chg.refl _ _)).setCell (.inl (by simp)) _).setCell (.inl (by simp)) _⟩
set_option maxRecDepth 100000 in
set_option maxHeartbeats 4000000 in
theorem want_err (g : Nat) (l : List UInt8) (a : Nat) (t : Tok) (deep bad e k : Int) (w : World) (h : PS w g l a t deep bad e) (he : e ≠ 0) :
    Calls Tryz.prog 23 #[.pointer (some ⟨g, 0, none⟩), .int .u8 k] w fun e1 w' => e1 = .returned (.tuple #[]) ∧ w = w' := by
  have c7 := h.c7
  clear h
  go_enter Tryz.func23, Tryz.ntmps23
  go_wp2_with fail
  exact bodyPost_ret (v := .tuple #[]) (by simp [results, go_sem]) rfl ⟨rfl, rfl⟩
set_option maxRecDepth 100000 in
set_option maxHeartbeats 4000000 in
theorem want_miss (g : Nat) (l : List UInt8) (a : Nat) (t : Tok) (deep bad : Int) (k : Nat) (w : World) (h : PS w g l a t deep bad 0) (hk : t.kind ≠ k) :
    Calls Tryz.prog 23 #[.pointer (some ⟨g, 0, none⟩), .int .u8 (k : Nat)] w fun e1 w' => e1 = .returned (.tuple #[]) ∧ PS w' g l a t deep t.at_ 10 ∧ Chg [g] w w' := by
  have c7 := h.c7
  have c2 := h.c2
  have hk2 : ¬ (t.kind : Int) = (k : Int) := by omega
  have H := Lib.hid h
  clear h
  go_enter Tryz.func23, Tryz.ntmps23
  go_wp2_with fail
  refine (pfail_any g l a t deep bad 10 _ H.out).mono ?_
  rintro e1 w1 ⟨rfl, h1, h2⟩
  go_wp2_with fail
  exact bodyPost_ret (v := .tuple #[]) (by simp [results, go_sem]) rfl ⟨rfl, h1, h2⟩
set_option maxRecDepth 100000 in
set_option maxHeartbeats 4000000 in
theorem want_hit (g : Nat) (l : List UInt8) (a : Nat) (t : Tok) (deep bad : Int) (k : Nat) (w : World) (h : PS w g l a t deep bad 0) (hk : t.kind = k) (ha : a ≤ l.length) (hl : l.length ≤ 5000) (hV : PV w) :
    Calls Tryz.prog 23 #[.pointer (some ⟨g, 0, none⟩), .int .u8 (k : Nat)] w fun e1 w' => e1 = .returned (.tuple #[]) ∧ ∃ a' t', PS w' g l a' t' deep bad 0 ∧ Next l a t' a' ∧ Chg [g] w w' := by
  subst hk
  have c7 := h.c7
  have c2 := h.c2
  have H := Lib.hid h
  have HV := Lib.hid hV
  clear h hV
  go_enter Tryz.func23, Tryz.ntmps23
  go_wp2_with fail
  refine (step_any g l a t deep bad 0 _ H.out ha hl HV.out).mono ?_
  rintro e1 w1 ⟨rfl, h1⟩
  go_wp2_with fail
  exact bodyPost_end (by simp [results, go_sem]) rfl ⟨rfl, h1⟩
/-- the rank as the program reckons it -/
def rkI (k : Nat) : Int := if k = 32 then 0 else if rk k = 0 then -1 else rk k
theorem rkI_eq {k r : Nat} (h : 1 ≤ r) : (rkI k = r) ↔ rk k = r := by
  unfold rkI
  split
  · rename_i h1; subst h1; constructor
    · intro h2; omega
    · intro h2; rw [show rk 32 = 0 from rfl] at h2; omega
  · split
    · omega
    · omega
theorem rank_any (k : Nat) (w : World) (hk : k ≤ 255) : Calls Tryz.prog 33 #[.int .u8 (k : Nat)] w fun e w' => e = .returned (.int .i64 (rkI k)) ∧ w = w' := by
  have key : ∀ n : Fin 256, Lib.indexByte [32, 61, 62, 94, 124, 38] (UInt8.ofNat n.val) = rkI n.val := by decide +kernel
  have hk2 : Lib.indexByte (⟨#[32, 61, 62, 94, 124, 38]⟩ : ByteArray).data.toList ((k : Int).toNat.toUInt8) = rkI k := key ⟨k, by omega⟩
  have C := Lib.hid (Tryz.strings_IndexByte ⟨#[32, 61, 62, 94, 124, 38]⟩ (k : Nat) w)
  rw [hk2] at C
  clear key hk2
  go_enter Tryz.func33, Tryz.ntmps33
  go_wp2_with fail
  refine C.out.mono ?_
  rintro e w' ⟨rfl, rfl⟩
  go_wp2_with fail
  go_ret
  exact ⟨rfl, rfl⟩
set_option maxRecDepth 100000 in
set_option maxHeartbeats 4000000 in
theorem deeper_yes (g : Nat) (l : List UInt8) (a : Nat) (t : Tok) (deep bad : Int) (w : World) (h : PS w g l a t deep bad 0) (hb : begins t.kind = true) :
    Calls Tryz.prog 54 #[.pointer (some ⟨g, 0, none⟩)] w fun e1 w' => e1 = .returned (.tuple #[]) ∧ PS w' g l a t deep t.at_ 12 ∧ Chg [g] w w' := by
  have hk := (begins_iff _).1 hb
  have c2 := h.c2
  have H := Lib.hid h
  have P := Lib.hid (pfail_any g l a t deep bad 12 w h)
  clear h hb
  rcases hk with hk | hk | hk | hk | hk | hk | hk
  all_goals
    rw [hk] at c2
    go_enter Tryz.func54, Tryz.ntmps54
    go_wp2_with fail
    refine P.out.mono ?_
    rintro e1 w1 ⟨rfl, h1, h2⟩
    go_wp2_with fail
    exact bodyPost_end (by simp [results, go_sem]) rfl ⟨rfl, h1, h2⟩
set_option maxRecDepth 100000 in
set_option maxHeartbeats 4000000 in
theorem deeper_no (g : Nat) (l : List UInt8) (a : Nat) (t : Tok) (deep bad : Int) (w : World) (h : PS w g l a t deep bad 0) (hb : begins t.kind = false) :
    Calls Tryz.prog 54 #[.pointer (some ⟨g, 0, none⟩)] w fun e1 w' => e1 = .returned (.tuple #[]) ∧ w = w' := by
  have hk : ¬ (t.kind = 48 ∨ t.kind = 49 ∨ t.kind = 118 ∨ t.kind = 115 ∨ t.kind = 101 ∨ t.kind = 33 ∨ t.kind = 40) := fun hk => by rw [(begins_iff _).2 hk] at hb; cases hb
  have k1 : ¬ (t.kind : Int) = 48 := by omega
  have k2 : ¬ (t.kind : Int) = 49 := by omega
  have k3 : ¬ (t.kind : Int) = 118 := by omega
  have k4 : ¬ (t.kind : Int) = 115 := by omega
  have k5 : ¬ (t.kind : Int) = 101 := by omega
  have k6 : ¬ (t.kind : Int) = 33 := by omega
  have k7 : ¬ (t.kind : Int) = 40 := by omega
  have c2 := h.c2
  clear h hb hk
  go_enter Tryz.func54, Tryz.ntmps54
  go_wp2_with fail
  exact bodyPost_end (by simp [results, go_sem]) rfl ⟨rfl, rfl⟩
/-- what is left: the token that is next, and those behind it -/
def toks (l : List UInt8) (a : Nat) (t : Tok) : List Tok := t :: (if t.kind = 122 then [] else lex (l.drop a) a)
theorem next_toks {l : List UInt8} {a a' : Nat} {t' : Tok} (h : Next l a t' a') : lex (l.drop a) a = toks l a' t' := h.lex
set_option maxRecDepth 100000 in
set_option maxHeartbeats 4000000 in
theorem down_any (g : Nat) (l : List UInt8) (a : Nat) (t : Tok) (d : Nat) (bad : Int) (w : World) (h : PS w g l a t d bad 0) (hd : d ≤ 5000) (ha : a ≤ l.length) (hl : l.length ≤ 5000) (hV : PV w) :
    Calls Tryz.prog 44 #[.pointer (some ⟨g, 0, none⟩)] w fun e1 w' => e1 = .returned (.tuple #[]) ∧ ∃ a' t', Next l a t' a' ∧ Chg [g] w w' ∧
      (begins t'.kind = true ∧ 200 < d + 1 ∧ PS w' g l a' t' (d + 1 : Nat) t'.at_ 12 ∨ ¬ (begins t'.kind = true ∧ 200 < d + 1) ∧ PS w' g l a' t' (d + 1 : Nat) bad 0) := by
  have c5 := h.c5
  have f5 := Blk.frozen h 5
  have H := Lib.hid h
  have hp := h.setDeep ((d : Int) + 1)
  have hch : Chg [g] w (w.setCell ⟨g, 5, none⟩ (.int .i64 ((d : Int) + 1))) := (Chg.refl _ _).setCell (.inl (by simp)) _
  have HS := Lib.hid (step_any g l a t ((d : Int) + 1) bad 0 _ hp ha hl (hV.keep h.c0 hch))
  have HCH := Lib.hid hch
  clear h hV hp hch
  go_enter Tryz.func44, Tryz.ntmps44
  go_wp2_with fail
  refine HS.out.mono ?_
  rintro e1 w1 ⟨rfl, a', t', h1, h2, h3⟩
  have h3' : Chg [g] w w1 := HCH.out.trans h3 (by simp)
  have c5 := h1.c5
  have c2 := h1.c2
  have H1 := Lib.hid h1
  have H2 := Lib.hid h2
  have H3 := Lib.hid h3'
  have HD := Lib.hid (fun (b : begins t'.kind = true) => deeper_yes g l a' t' ((d : Int) + 1) bad w1 h1 b)
  have HN := Lib.hid (fun (b : begins t'.kind = false) => deeper_no g l a' t' ((d : Int) + 1) bad w1 h1 b)
  clear h1 h2 h3 h3'
  by_cases hdd : 200 < d + 1
  · have hd2 : (200 : Int) < (d : Int) + 1 := by omega
    by_cases hb : begins t'.kind = true
    · have hk := (begins_iff _).1 hb
      have hk1 : ((t'.kind : Int) != 98) = true := by simp; omega
      have hk2 : ((t'.kind : Int) != 122) = true := by simp; omega
      clear hk
      go_wp2_with fail
      refine (HD.out hb).mono ?_
      rintro e1 w2 ⟨rfl, h4, h5⟩
      go_wp2_with fail
      exact bodyPost_end (by simp [results, go_sem]) rfl ⟨rfl, a', t', H2.out, H3.out.trans h5 (by simp), .inl ⟨hb, hdd, h4⟩⟩
    · have hb2 : begins t'.kind = false := by simpa using hb
      have fin : (∃ a' t', Next l a t' a' ∧ Chg [g] w w1 ∧ (begins t'.kind = true ∧ 200 < d + 1 ∧ PS w1 g l a' t' (d + 1 : Nat) t'.at_ 12 ∨ ¬ (begins t'.kind = true ∧ 200 < d + 1) ∧ PS w1 g l a' t' (d + 1 : Nat) bad 0)) := ⟨a', t', H2.out, H3.out, .inr ⟨fun x => hb x.1, H1.out⟩⟩
      have FIN := Lib.hid fin
      clear fin
      by_cases hk1 : (t'.kind : Int) = 98
      · go_wp2_with fail
        exact bodyPost_end (by simp [results, go_sem]) rfl ⟨rfl, FIN.out⟩
      by_cases hk2 : (t'.kind : Int) = 122
      · go_wp2_with fail
        exact bodyPost_end (by simp [results, go_sem]) rfl ⟨rfl, FIN.out⟩
      have hk3 : ((t'.kind : Int) != 98) = true := by simpa using hk1
      have hk4 : ((t'.kind : Int) != 122) = true := by simpa using hk2
      clear hk1 hk2
      go_wp2_with fail
      refine (HN.out hb2).mono ?_
      rintro e1 w2 ⟨rfl, rfl⟩
      go_wp2_with fail
      exact bodyPost_end (by simp [results, go_sem]) rfl ⟨rfl, FIN.out⟩
  · have hd2 : ¬ (200 : Int) < (d : Int) + 1 := by omega
    have hd3 : decide ((200 : Int) < (d : Int) + 1) = false := by simpa using hd2
    go_wp2_with fail
    exact bodyPost_end (by simp [results, go_sem]) rfl ⟨rfl, a', t', H2.out, H3.out, .inr ⟨fun x => hdd x.2, H1.out⟩⟩
end Go.Proofs.YtpjciaomhfeeeaaGreatDoor
