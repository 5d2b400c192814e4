/- Contracts: the parser's state; step. -/
import Derived.Test.YtpjciaomhfeeeaaGreatDoorExA
import Derived.Test.YtpjciaomhfeeeaaGreatDoorMa
import Derived.Deep.LoopGhost
import Derived.Deep.RegionWith
import Derived.Laws.IdiomStrings
namespace Go.Proofs.YtpjciaomhfeeeaaGreatDoor
open Go.RowKit Go.Sort
set_option linter.unusedSimpArgs false
set_option linter.unusedVariables false

/-- the parser: its text, how far it is, the next token, how deep it is, where it failed, and why -/
def psC (l : List UInt8) (at_ : Nat) (t : Tok) (deep bad e : Int) : Array Value := #[.string ⟨l.toArray⟩, .int .i64 (at_ : Nat), .int .u8 (t.kind : Nat), .int .i64 (t.n : Nat), .int .i64 (t.at_ : Nat), .int .i64 deep, .int .i64 bad, .int .u8 e]
def PS (w : World) (g : Nat) (l : List UInt8) (at_ : Nat) (t : Tok) (deep bad e : Int) : Prop := Blk w g 72 (psC l at_ t deep bad e)
/-- the token that comes next from a place on, and the place behind it -/
structure Next (l : List UInt8) (at_ : Nat) (t : Tok) (at' : Nat) : Prop where
  lex : lex (l.drop at_) at_ = t :: (if t.kind = 122 then [] else lex (l.drop at') at')
  le : at' ≤ l.length
  end_ : t.kind = 122 → at' = l.length
section
variable {w : World} {g : Nat} {l : List UInt8} {at_ : Nat} {t : Tok} {deep bad e : Int}
theorem PS.c0 (h : PS w g l at_ t deep bad e) : w.cell? ⟨g, 0, none⟩ = some (.string ⟨l.toArray⟩) := Blk.cell h 0
theorem PS.c1 (h : PS w g l at_ t deep bad e) : w.cell? ⟨g, 1, none⟩ = some (.int .i64 (at_ : Nat)) := Blk.cell h 1
theorem PS.c2 (h : PS w g l at_ t deep bad e) : w.cell? ⟨g, 2, none⟩ = some (.int .u8 (t.kind : Nat)) := Blk.cell h 2
theorem PS.c3 (h : PS w g l at_ t deep bad e) : w.cell? ⟨g, 3, none⟩ = some (.int .i64 (t.n : Nat)) := Blk.cell h 3
theorem PS.c4 (h : PS w g l at_ t deep bad e) : w.cell? ⟨g, 4, none⟩ = some (.int .i64 (t.at_ : Nat)) := Blk.cell h 4
theorem PS.c5 (h : PS w g l at_ t deep bad e) : w.cell? ⟨g, 5, none⟩ = some (.int .i64 deep) := Blk.cell h 5
theorem PS.c6 (h : PS w g l at_ t deep bad e) : w.cell? ⟨g, 6, none⟩ = some (.int .i64 bad) := Blk.cell h 6
theorem PS.c7 (h : PS w g l at_ t deep bad e) : w.cell? ⟨g, 7, none⟩ = some (.int .u8 e) := Blk.cell h 7
theorem PS.setAt (h : PS w g l at_ t deep bad e) (k : Nat) : PS (w.setCell ⟨g, 1, none⟩ (.int .i64 (k : Nat))) g l k t deep bad e := Blk.set_ h 1 _
theorem PS.setTok (h : PS w g l at_ t deep bad e) {t' : Tok} : PS (((w.setCell ⟨g, 2, none⟩ (.int .u8 (t'.kind : Nat))).setCell ⟨g, 3, none⟩ (.int .i64 (t'.n : Nat))).setCell ⟨g, 4, none⟩ (.int .i64 (t'.at_ : Nat))) g l at_ t' deep bad e := ((Blk.set_ h 2 _).set_ 3 _).set_ 4 _
theorem PS.setKind (h : PS w g l at_ t deep bad e) (k : Nat) : PS (w.setCell ⟨g, 2, none⟩ (.int .u8 (k : Nat))) g l at_ ⟨k, t.n, t.at_⟩ deep bad e := Blk.set_ h 2 _
theorem PS.alloc (h : PS w g l at_ t deep bad e) (o : Obj) : PS (w.alloc o) g l at_ t deep bad e := Blk.alloc h o
theorem PS.chg {F : List Nat} {w' : World} (h : PS w g l at_ t deep bad e) (hc : Chg F w w') (hg : ¬ g ∈ F) : PS w' g l at_ t deep bad e := Blk.chg h hc hg
end
theorem PS.sign {w : World} {g : Nat} {l : List UInt8} {k : Nat} {t : Tok} {deep bad e : Int} (h : PS w g l k t deep bad e) (c : Nat) (o : Obj) :
    PS (((((w.setCell ⟨g, 1, none⟩ (.int .i64 ((k : Int) + 1))).setCell ⟨g, 2, none⟩ (.int .u8 (c : Nat))).setCell ⟨g, 3, none⟩ (.int .i64 0)).setCell ⟨g, 4, none⟩ (.int .i64 (k : Nat))).alloc o) g l (k + 1) ⟨c, 0, k⟩ deep bad e :=
  Blk.alloc ((((Blk.set_ h 1 _).set_ 2 _).set_ 3 _).set_ 4 _) o
theorem PS.sign2 {w : World} {g : Nat} {l : List UInt8} {k : Nat} {t : Tok} {deep bad e : Int} (h : PS w g l k t deep bad e) (c : Nat) (o : Obj) :
    PS ((((((w.setCell ⟨g, 1, none⟩ (.int .i64 ((k : Int) + 1))).setCell ⟨g, 2, none⟩ (.int .u8 (c : Nat))).setCell ⟨g, 3, none⟩ (.int .i64 0)).setCell ⟨g, 4, none⟩ (.int .i64 (k : Nat))).setCell ⟨g, 2, none⟩ (.int .u8 98)).alloc o) g l (k + 1) ⟨98, 0, k⟩ deep bad e :=
  Blk.alloc (((((Blk.set_ h 1 _).set_ 2 _).set_ 3 _).set_ 4 _).set_ 2 _) o
theorem PS.end_ {w : World} {g : Nat} {l : List UInt8} {k m : Nat} {t : Tok} {deep bad e : Int} (h : PS w g l k t deep bad e) :
    PS (((w.setCell ⟨g, 2, none⟩ (.int .u8 122)).setCell ⟨g, 3, none⟩ (.int .i64 0)).setCell ⟨g, 4, none⟩ (.int .i64 (m : Nat))) g l k ⟨122, 0, m⟩ deep bad e :=
  ((Blk.set_ h 2 _).set_ 3 _).set_ 4 _
theorem drop_get {l : List UInt8} {k : Nat} (h : k < l.length) : l.drop k = l[k] :: l.drop (k + 1) := List.drop_eq_getElem_cons h
theorem conv_one (c : UInt8) (W : World) (b cap : Nat) (h : W.cell? ⟨b, 0, none⟩ = some (.int .u8 (c.toNat : Nat))) : (convert 94 9 (.slice (some ⟨b, 0, none⟩) 1 cap)).run Tryz.prog W = .ok (.string ⟨#[c]⟩) W :=
  run_convert_bytes_back (P := Tryz.prog) W 94 9 5 ⟨b, 0, none⟩ cap [c] Tryz.underlying94 Tryz.underlying5 Tryz.underlying9 (fun j hj => by
    have : j = 0 := by simp at hj; omega
    subst this
    simpa [Addr.add] using h)
theorem PV.keep {w w' : World} {g : Nat} {s : ByteArray} (h : PV w) (hp : w.cell? ⟨g, 0, none⟩ = some (.string s)) (hc : Chg [g] w w') : PV w' := by
  obtain ⟨⟨m, h1⟩, ⟨a, b, h2⟩, ⟨c, d, h3⟩⟩ := h
  have n1 : ¬ 0 ∈ [g] := fun e => by have e := List.mem_singleton.1 e; subst e; rw [h1] at hp; cases hp
  have n2 : ¬ 1 ∈ [g] := fun e => by have e := List.mem_singleton.1 e; subst e; rw [h2] at hp; cases hp
  have n3 : ¬ 2 ∈ [g] := fun e => by have e := List.mem_singleton.1 e; subst e; rw [h3] at hp; cases hp
  exact ⟨⟨m, (hc.cell (p := ⟨0, 0, none⟩) (Lib.lt_of_cell h1) n1).trans h1⟩, ⟨a, b, (hc.cell (p := ⟨1, 0, none⟩) (Lib.lt_of_cell h2) n2).trans h2⟩, ⟨c, d, (hc.cell (p := ⟨2, 0, none⟩) (Lib.lt_of_cell h3) n3).trans h3⟩⟩
/-- a piece of a text -/
theorem piece {l : List UInt8} {k m : Nat} (hk : k ≤ m) (hm : m ≤ l.length) (hall : ∀ j (hj : j < l.length), k ≤ j → j < m → letterN l[j].toNat = true) :
    ∃ wd : List UInt8, (⟨l.toArray⟩ : ByteArray).extract k m = ⟨wd.toArray⟩ ∧ l.drop k = wd ++ l.drop m ∧ wd.length = m - k ∧ ∀ c ∈ wd, letterN c.toNat = true := by
  refine ⟨(l.drop k).take (m - k), ?_, ?_, by simp; omega, fun c hc => ?_⟩
  · apply ByteArray.ext
    simp [ByteArray.data_extract]
  · have := List.take_append_drop (m - k) (l.drop k)
    rw [List.drop_drop, show k + (m - k) = m by omega] at this
    exact this.symm
  · obtain ⟨i, hi, rfl⟩ := List.getElem_of_mem hc
    rw [List.length_take, List.length_drop] at hi
    rw [List.getElem_take, List.getElem_drop]
    exact hall _ (by omega) (by omega) (by omega)
/-- the signs -/
def signL : List UInt8 := [33, 38, 124, 94, 62, 61, 40, 41, 46]
theorem sign_idx (c : UInt8) : decide (0 ≤ Lib.indexByte signL c) = signN c.toNat := by
  have key : ∀ n : Fin 256, decide (0 ≤ Lib.indexByte signL (UInt8.ofNat n.val)) = signN n.val := by decide +kernel
  have := key ⟨c.toNat, c.toNat_lt⟩
  simpa using this
theorem contains_any (c : UInt8) (w : World) : Calls Tryz.prog 32 #[.string ⟨#[33, 38, 124, 94, 62, 61, 40, 41, 46]⟩, .string ⟨#[c]⟩] w fun e w' => e = .returned (.bool (signN c.toNat)) ∧ w = w' := by
  refine (Tryz.strings_Contains_one ⟨#[33, 38, 124, 94, 62, 61, 40, 41, 46]⟩ c w).mono ?_
  rintro e w' ⟨rfl, rfl⟩
  exact ⟨by rw [← sign_idx]; rfl, rfl⟩
set_option maxRecDepth 100000 in
set_option maxHeartbeats 8000000 in
theorem step_any (g : Nat) (l : List UInt8) (a : Nat) (t : Tok) (deep bad e : Int) (w : World) (h : PS w g l a t deep bad e) (ha : a ≤ l.length) (hl : l.length ≤ 5000) (hV : PV w) :
    Calls Tryz.prog 21 #[.pointer (some ⟨g, 0, none⟩)] w fun e1 w' => e1 = .returned (.tuple #[]) ∧ ∃ a' t', PS w' g l a' t' deep bad e ∧ Next l a t' a' ∧ Chg [g] w w' := by
  have HV := Lib.hid hV
  have hg := Blk.lt h
  have hsz := bytes_size l
  have H := Lib.hid h
  clear h hV
  go_enter Tryz.func21, Tryz.ntmps21
  go_wp2_with fail
  go_loopg [] (l.length - a) (fun gk wr => ∃ k, gk = l.length - k ∧ a ≤ k ∧ k ≤ l.length ∧ PS wr g l k t deep bad e ∧ Chg [g] w wr ∧ lex (l.drop k) k = lex (l.drop a) a)
  case atStart => exact ⟨a, rfl, Nat.le_refl _, ha, H.out, Chg.refl _ _, rfl⟩
  case round =>
    obtain ⟨k, rfl, hak, hkl, hps, hch, hlex⟩ := hrel
    have c0 := hps.c0
    have c1 := hps.c1
    have c2 := hps.c2
    have c3 := hps.c3
    have c4 := hps.c4
    have f1 := Blk.frozen hps 1
    have f2 := Blk.frozen hps 2
    have f3 := Blk.frozen hps 3
    have f4 := Blk.frozen hps 4
    have HP := Lib.hid hps
    have HC := Lib.hid hch
    have HL := Lib.hid hlex
    have hgr := Blk.lt hps
    clear hps hch hlex
    rcases Nat.lt_or_ge k l.length with hlt | hge
    · have hk : (k : Int) < (l.length : Int) := by omega
      have hd := Lib.hid (drop_get hlt)
      obtain ⟨c, hc⟩ : ∃ c, c = l[k] := ⟨_, rfl⟩
      rw [← hc] at hd
      have g0 : (⟨l.toArray⟩ : ByteArray)[k]'(by rw [hsz]; exact hlt) = c := by rw [hc]; rfl
      have hc255 := c.toNat_lt
      clear hc
      by_cases hb : c.toNat = 32
      · have hb2 : (c.toNat : Int) = 32 := by omega
        go_wp2_with fail
        go_quiet (fail)
        go_wp2_with fail
        go_roundg (l.length - (k + 1))
        case rel => exact ⟨k + 1, rfl, by omega, by omega, HP.out.setAt _, (HC.out.drewN nq).setCell (.inl (by simp)) _, by rw [← HL.out, hd.out, lex_blank k hb]⟩
        case measure => omega
      · have hb2 : ¬ (c.toNat : Int) = 32 := by omega
        go_wp2_with fail
        go_quiet (fail)
        go_wp2_with fail
        refine (letter_any c.toNat _ (by omega)).mono ?_
        rintro e1 w1 ⟨rfl, rfl⟩
        cases hlt2 : letterN c.toNat with
        | true =>
          have HV1 := Lib.hid (fun W (hW : Chg [g] w W) => HV.out.keep H.out.c0 hW)
          go_wp2_with fail
          go_loopg [] (l.length - k) (fun gk wx => ∃ m, gk = l.length - m ∧ k ≤ m ∧ m ≤ l.length ∧ PS wx g l m t deep bad e ∧ Chg [g] w wx ∧ ∀ j (hj : j < l.length), k ≤ j → j < m → letterN l[j].toNat = true)
          case atStart => exact ⟨k, rfl, Nat.le_refl _, hkl, HP.out, HC.out.drewN nq, fun j hj h1 h2 => by omega⟩
          case round =>
            obtain ⟨m, rfl, hkm, hml, hps2, hch2, hall⟩ := hrel
            clear c0 c1 c2 c3 c4 f1 f2 f3 f4 hgr
            have c0 := hps2.c0
            have c1 := hps2.c1
            have c2 := hps2.c2
            have c3 := hps2.c3
            have c4 := hps2.c4
            have f1 := Blk.frozen hps2 1
            have f2 := Blk.frozen hps2 2
            have f3 := Blk.frozen hps2 3
            have f4 := Blk.frozen hps2 4
            have HP2 := Lib.hid hps2
            have HC2 := Lib.hid hch2
            have hgr := Blk.lt hps2
            have HA := Lib.hid hall
            clear hps2 hch2 hall
            have key : m < l.length ∨ m = l.length := by omega
            rcases key with hlt3 | hge3
            · obtain ⟨c2', hc2'⟩ : ∃ c2, c2 = l[m] := ⟨_, rfl⟩
              have g1 : (⟨l.toArray⟩ : ByteArray)[m]'(by rw [hsz]; exact hlt3) = c2' := by rw [hc2']; rfl
              have hc2255 := c2'.toNat_lt
              have HQ := Lib.hid hc2'
              have hm2 : (m : Int) < (l.length : Int) := by omega
              clear hc2' g0
              cases hl2 : letterN c2'.toNat with
              | true =>
                have HLT : Hid (∀ W, Calls Tryz.prog 30 #[.int .u8 (c2'.toNat : Nat)] W fun e w' => e = .returned (.bool true) ∧ W = w') := Lib.hid (fun W => by have h := letter_any c2'.toNat W (by omega); rw [hl2] at h; exact h)
                have HL2 := Lib.hid hl2
                clear hl2
                go_wp2_with fail
                go_quiet ((go_at_call 30; exact q_same (HLT.out _)))
                go_wp2_with fail
                go_roundg (l.length - (m + 1))
                case rel => exact ⟨m + 1, rfl, by omega, by omega, HP2.out.setAt _, (HC2.out.drewN _).setCell (.inl (by simp)) _, fun j hj h1 h2 => by
                  rcases Nat.lt_or_ge j m with h | h
                  · exact HA.out j hj h1 h
                  · obtain rfl : j = m := by omega
                    rw [← HQ.out]; exact HL2.out⟩
                case measure => omega
              | false =>
                have HLT : Hid (∀ W, Calls Tryz.prog 30 #[.int .u8 (c2'.toNat : Nat)] W fun e w' => e = .returned (.bool false) ∧ W = w') := Lib.hid (fun W => by have h := letter_any c2'.toNat W (by omega); rw [hl2] at h; exact h)
                have hkm1 : k < m := by
                  rcases Nat.lt_or_ge k m with h | h
                  · exact h
                  · obtain rfl : m = k := by omega
                    have h1 := hd.out
                    rw [drop_get hlt3] at h1
                    injection h1 with h1
                    rw [← HQ.out] at h1
                    rw [h1, hlt2] at hl2
                    cases hl2
                have HEAD : ∀ c, (l.drop m).head? = some c → letterN c.toNat = false := fun c hc => by
                  rw [drop_get hlt3, List.head?_cons] at hc
                  injection hc with hc
                  rw [← hc, ← HQ.out]; exact hl2
                clear hl2
                have HH := Lib.hid HEAD
                clear HEAD
                go_wp2_with fail
                go_quiet ((go_at_call 30; exact q_same (HLT.out _)))
                go_wp2_with fail
                obtain ⟨wd, hx, hsp, hwl, hwa⟩ := piece hkm hml HA.out
                have HSP := Lib.hid hsp
                have HWL := Lib.hid hwl
                have HWA := Lib.hid hwa
                have HWD : Hid (∀ W, Chg [g] w W → Calls Tryz.prog 31 #[.string ⟨wd.toArray⟩, .int .i64 (k : Nat)] W fun e w' => e = .returned (tokV (wordTok wd k)) ∧ Below W.heap.size W w') := Lib.hid (fun W hW => word_any wd k hwa (by rw [hwl]; omega) W (HV1.out W hW))
                have HNX : Hid (lex (l.drop k) k = wordTok wd k :: lex (l.drop m) m) := Lib.hid (by
                  have := lex_word (w := wd) (l := l.drop m) k hwa (fun e => by rw [e] at hwl; simp at hwl; omega) HH.out
                  rw [hsp, this, hwl, show k + (m - k) = m by omega])
                obtain ⟨wt, hwt⟩ : ∃ wt, wt = wordTok wd k := ⟨_, rfl⟩
                have HK : Hid (wt.kind ≠ 122) := Lib.hid (by rw [hwt]; exact (word_kind wd k).1)
                rw [← hwt] at HNX HWD
                unfold tokV at HWD
                clear hsp hwl hwa hwt
                go_region_with ((go_at_call 31; refine (HWD.out _ (HC2.out.drewN _)).mono ?_; rintro e1 w5 ⟨rfl, hb5⟩; obtain ⟨hc5, hf5⟩ := bcell hb5; have d2 := (hc5 g 2 hgr).trans c2; have d3 := (hc5 g 3 hgr).trans c3; have d4 := (hc5 g 4 hgr).trans c4; have e2 := (hf5 g 2 hgr).trans f2; have e3 := (hf5 g 3 hgr).trans f3; have e4 := (hf5 g 4 hgr).trans f4; clear hc5 hf5))
                all_goals
                  go_wp2_with fail
                  refine bodyPost_ret (v := .tuple #[]) (by simp [results, go_sem]) rfl ⟨rfl, m, wt, ?_, ⟨by rw [← HL.out, HNX.out, if_neg HK.out], hml, fun h => absurd h HK.out⟩, ?_⟩
                  · exact PS.setTok (t' := wt) (Blk.onB (w := wr.drewN _) HP2.out hb5)
                  · exact ((((HC2.out.drewN _).trans (chg_of_below (F := []) hb5) (by simp)).setCell (.inl (by simp)) _).setCell (.inl (by simp)) _).setCell (.inl (by simp)) _
            · have hge4 : decide (m < l.length) = false := by simp; omega
              have hge6 : decide ((m : Int) < (l.length : Int)) = false := by simp; omega
              have HH : Hid (∀ c, (l.drop m).head? = some c → letterN c.toNat = false) := Lib.hid (fun c hc => by rw [hge3, List.drop_length] at hc; cases hc)
              have hkm1 : k < m := by omega
              clear hge3
              go_wp2_with fail
              go_quiet (fail)
              go_wp2_with fail
              clear hge4 hge6
              obtain ⟨wd, hx, hsp, hwl, hwa⟩ := piece hkm hml HA.out
              have HSP := Lib.hid hsp
              have HWL := Lib.hid hwl
              have HWA := Lib.hid hwa
              have HWD : Hid (∀ W, Chg [g] w W → Calls Tryz.prog 31 #[.string ⟨wd.toArray⟩, .int .i64 (k : Nat)] W fun e w' => e = .returned (tokV (wordTok wd k)) ∧ Below W.heap.size W w') := Lib.hid (fun W hW => word_any wd k hwa (by rw [hwl]; omega) W (HV1.out W hW))
              have HNX : Hid (lex (l.drop k) k = wordTok wd k :: lex (l.drop m) m) := Lib.hid (by
                have := lex_word (w := wd) (l := l.drop m) k hwa (fun e => by rw [e] at hwl; simp at hwl; omega) HH.out
                rw [hsp, this, hwl, show k + (m - k) = m by omega])
              obtain ⟨wt, hwt⟩ : ∃ wt, wt = wordTok wd k := ⟨_, rfl⟩
              have HK : Hid (wt.kind ≠ 122) := Lib.hid (by rw [hwt]; exact (word_kind wd k).1)
              rw [← hwt] at HNX HWD
              unfold tokV at HWD
              clear hsp hwl hwa hwt
              go_region_with ((go_at_call 31; refine (HWD.out _ (HC2.out.drewN _)).mono ?_; rintro e1 w5 ⟨rfl, hb5⟩; obtain ⟨hc5, hf5⟩ := bcell hb5; have d2 := (hc5 g 2 hgr).trans c2; have d3 := (hc5 g 3 hgr).trans c3; have d4 := (hc5 g 4 hgr).trans c4; have e2 := (hf5 g 2 hgr).trans f2; have e3 := (hf5 g 3 hgr).trans f3; have e4 := (hf5 g 4 hgr).trans f4; clear hc5 hf5))
              all_goals
                go_wp2_with fail
                refine bodyPost_ret (v := .tuple #[]) (by simp [results, go_sem]) rfl ⟨rfl, m, wt, ?_, ⟨by rw [← HL.out, HNX.out, if_neg HK.out], hml, fun h => absurd h HK.out⟩, ?_⟩
                · exact PS.setTok (t' := wt) (Blk.onB (w := wr.drewN _) HP2.out hb5)
                · exact ((((HC2.out.drewN _).trans (chg_of_below (F := []) hb5) (by simp)).setCell (.inl (by simp)) _).setCell (.inl (by simp)) _).setCell (.inl (by simp)) _
        | false =>
          have HCV := conv_one c
          go_wp2_with fail
          refine (contains_any _ _).mono ?_
          rintro e1 w1 ⟨rfl, rfl⟩
          cases hs2 : signN c.toNat with
          | true =>
            go_wp2_with fail
            go_end0
            refine ⟨rfl, k + 1, ⟨c.toNat, 0, k⟩, ?_, ⟨by rw [← HL.out, hd.out, lex_sign k hb hlt2, if_pos hs2, if_neg (by have := sign_le hs2; simp; omega)], by omega, fun h => by have := sign_le hs2; simp at h; omega⟩, ?_⟩
            · exact PS.sign (w := wr.drewN nq) HP.out _ _
            · exact (((((HC.out.drewN nq).setCell (.inl (by simp)) _).setCell (.inl (by simp)) _).setCell (.inl (by simp)) _).setCell (.inl (by simp)) _).alloc _
          | false =>
            go_wp2_with fail
            go_end0
            refine ⟨rfl, k + 1, ⟨98, 0, k⟩, ?_, ⟨by rw [← HL.out, hd.out, lex_sign k hb hlt2, hs2]; rfl, by omega, fun h => by simp at h⟩, ?_⟩
            · exact PS.sign2 (w := wr.drewN nq) HP.out _ _
            · exact ((((((HC.out.drewN nq).setCell (.inl (by simp)) _).setCell (.inl (by simp)) _).setCell (.inl (by simp)) _).setCell (.inl (by simp)) _).setCell (.inl (by simp)) _).alloc _
    · obtain rfl : k = l.length := by omega
      go_wp2_with fail
      go_quiet (fail)
      go_wp2_with fail
      refine bodyPost_ret (v := .tuple #[]) (by simp [results, go_sem]) rfl ⟨rfl, l.length, ⟨122, 0, l.length⟩, ?_, ⟨by rw [← HL.out, List.drop_length, lex_nil]; rfl, Nat.le_refl _, fun _ => rfl⟩, ?_⟩
      · exact PS.end_ (w := wr.drewN nq) HP.out
      · exact (((HC.out.drewN nq).setCell (.inl (by simp)) _).setCell (.inl (by simp)) _).setCell (.inl (by simp)) _
end Go.Proofs.YtpjciaomhfeeeaaGreatDoor
