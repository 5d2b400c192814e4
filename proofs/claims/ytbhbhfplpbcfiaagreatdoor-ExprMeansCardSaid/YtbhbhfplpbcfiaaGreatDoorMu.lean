/- Contracts: the document's letter, word (29). Contract: the document's Tokens (29). -/
import Derived.Test.YtbhbhfplpbcfiaaGreatDoorExA
import Derived.Test.YtbhbhfplpbcfiaaGreatDoorExG
import Derived.Test.YtbhbhfplpbcfiaaGreatDoorExB
import Derived.Test.YtbhbhfplpbcfiaaGreatDoorMa
section
namespace Go.Proofs.YtbhbhfplpbcfiaaGreatDoor
open Go.RowKit Go.Sort
set_option linter.unusedSimpArgs false
set_option linter.unusedVariables false

theorem rletter_any (c : Nat) (w : World) (hc : c ≤ 255) : Calls Tryz.prog 59 #[.int .u8 (c : Nat)] w fun e w' => e = .returned (.bool (letterN c)) ∧ w = w' := by
  rcases letter_cases c with ⟨h, hb⟩ | ⟨h, h2, hb⟩ | ⟨h, h2, hb⟩ | ⟨h, h2, hb⟩ | ⟨h, h2, hb⟩ | ⟨h, h2, hb⟩ | ⟨h, hb⟩
  all_goals
    rw [hb]
    clear hb
    go_enter Tryz.func59, Tryz.ntmps59
    go_wp2_with fail
    go_ret
    exact ⟨by simp <;> omega, rfl⟩
theorem var_back {l : List UInt8} {n : Nat} (h : varNum l = some n) : n ≤ 15 ∧ l = 120 :: Lib.decDigits n := by
  unfold varNum at h
  match l, h with
  | [], h => cases h
  | [x], h => cases h
  | [x, a], h =>
    simp only [List.map_cons, List.map_nil] at h
    split at h
    · rename_i hc
      injection h with h
      obtain ⟨h1, h2, h3⟩ := hc
      have e1 : x = 120 := UInt8.toNat.inj (by rw [h1]; rfl)
      refine ⟨by omega, ?_⟩
      rw [e1, Lib.decDigits_one (by omega)]
      congr 1
      have : a = UInt8.ofNat (48 + n) := UInt8.toNat.inj (by rw [UInt8.toNat_ofNat']; omega)
      rw [this]
    · cases h
  | [x, a, b], h =>
    simp only [List.map_cons, List.map_nil] at h
    split at h
    · rename_i hc
      injection h with h
      obtain ⟨h1, h2, h3, h4⟩ := hc
      have e1 : x = 120 := UInt8.toNat.inj (by rw [h1]; rfl)
      have e2 : a = 49 := UInt8.toNat.inj (by rw [h2]; rfl)
      refine ⟨by omega, ?_⟩
      rcases (show n = 10 ∨ n = 11 ∨ n = 12 ∨ n = 13 ∨ n = 14 ∨ n = 15 by omega) with rfl | rfl | rfl | rfl | rfl | rfl
      all_goals
        rw [e1, e2]
        congr 1
        have : b = UInt8.ofNat b.toNat := by simp
        rw [this]
      · rw [show b.toNat = 48 by omega, Lib.decDigits_two (by decide) (by decide)]; rfl
      · rw [show b.toNat = 49 by omega, Lib.decDigits_two (by decide) (by decide)]; rfl
      · rw [show b.toNat = 50 by omega, Lib.decDigits_two (by decide) (by decide)]; rfl
      · rw [show b.toNat = 51 by omega, Lib.decDigits_two (by decide) (by decide)]; rfl
      · rw [show b.toNat = 52 by omega, Lib.decDigits_two (by decide) (by decide)]; rfl
      · rw [show b.toNat = 53 by omega, Lib.decDigits_two (by decide) (by decide)]; rfl
    · cases h
  | _ :: _ :: _ :: _ :: _, h => cases h
def tokR (t : Tok) : Value := .tuple #[.int .u8 (t.kind : Nat), .int .i64 (t.n : Nat)]
set_option maxRecDepth 100000 in
set_option maxHeartbeats 4000000 in
theorem rword_any (l : List UInt8) (a : Nat) (w : World) : Calls Tryz.prog 60 #[.string ⟨l.toArray⟩] w fun e w' => e = .returned (tokR (wordTok l a)) ∧ Below w.heap.size w w' := by
  unfold tokR
  by_cases h1 : l = [48]
  · subst h1
    go_enter Tryz.func60, Tryz.ntmps60
    go_wp2_with fail
    refine bodyPost_ret (v := .tuple #[.int .u8 48, .int .i64 0]) (by simp [results, Tryz.results60, go_sem, *] <;> rfl) rfl ⟨rfl, Below.refl _ _⟩
  by_cases h2 : l = [49]
  · subst h2
    go_enter Tryz.func60, Tryz.ntmps60
    go_wp2_with fail
    refine bodyPost_ret (v := .tuple #[.int .u8 49, .int .i64 0]) (by simp [results, Tryz.results60, go_sem, *] <;> rfl) rfl ⟨rfl, Below.refl _ _⟩
  by_cases h3 : l = [115, 111, 109, 101]
  · subst h3
    go_enter Tryz.func60, Tryz.ntmps60
    go_wp2_with fail
    refine bodyPost_ret (v := .tuple #[.int .u8 115, .int .i64 0]) (by simp [results, Tryz.results60, go_sem, *]) rfl ⟨rfl, Below.refl _ _⟩
  by_cases h4 : l = [101, 97, 99, 104]
  · subst h4
    go_enter Tryz.func60, Tryz.ntmps60
    go_wp2_with fail
    refine bodyPost_ret (v := .tuple #[.int .u8 101, .int .i64 0]) (by simp [results, Tryz.results60, go_sem, *]) rfl ⟨rfl, Below.refl _ _⟩
  have HN := word_none ⟨h1, h2, h3, h4⟩ a
  obtain ⟨e1, e2, e3, e4⟩ := NoWord.eqs ⟨h1, h2, h3, h4⟩
  clear h1 h2 h3 h4
  have HW := Lib.hid HN
  clear HN
  go_enter Tryz.func60, Tryz.ntmps60
  go_wp2_with fail
  go_loopw [4] (fun v wr => ∃ k : Nat, k ≤ 16 ∧ v = .int .i64 k ∧ Below w.heap.size w wr ∧ ∀ j, j < k → l ≠ 120 :: Lib.decDigits j) (fun v _ => 16 - (intOf v).toNat)
  case atStart => exact ⟨0, by omega, rfl, Below.refl _ _, fun j hj => by omega⟩
  case round =>
    obtain ⟨k, hk, rfl, hb, hall⟩ := hrel
    have HA := Lib.hid hall
    have HB := Lib.hid hb
    clear hall hb
    by_cases hk2 : k < 16
    · have C := Lib.hid (fun W => num_any k W (by omega) (by omega))
      unfold txt at C
      have hx : (⟨#[120]⟩ : ByteArray) ++ ⟨(Lib.decDigits k).toArray⟩ = ⟨(120 :: Lib.decDigits k).toArray⟩ := txt_append [120] _
      have hlen : ¬ 9223372036854775807 < 1 + (Lib.decDigits k).length := by have := digs_len k (by omega); omega
      by_cases he : l = 120 :: Lib.decDigits k
      · have he2 : (l == 120 :: Lib.decDigits k) = true := by rw [he]; simp
        go_wp2_with fail
        refine (C.out _).mono ?_
        rintro e1 w1 ⟨rfl, h1⟩
        go_wp2_with fail
        refine bodyPost_ret (v := .tuple #[.int .u8 118, .int .i64 (k : Nat)]) (by simp [results, Tryz.results60, go_sem, *]) rfl ⟨?_, HB.out.trans (h1.mono HB.out.size)⟩
        rw [he, (word_var (by omega) a).1]
        rfl
      · have he2 : (l == 120 :: Lib.decDigits k) = false := by simpa using he
        go_wp2_with fail
        refine (C.out _).mono ?_
        rintro e1 w1 ⟨rfl, h1⟩
        go_wp2_with fail
        go_roundw
        case rel => exact ⟨k + 1, by omega, rfl, HB.out.trans (h1.mono HB.out.size), fun j hj => by
          rcases Nat.lt_or_ge j k with h | h
          · exact HA.out j h
          · obtain rfl : j = k := by omega
            exact he⟩
        case measure => simp [intOf]; omega
    · obtain rfl : k = 16 := by omega
      go_wp2_with fail
      refine bodyPost_ret (v := .tuple #[.int .u8 98, .int .i64 0]) (by simp [results, Tryz.results60, go_sem, *]) rfl ⟨?_, HB.out⟩
      have hv : varNum l = none := by
        cases h : varNum l with
        | none => rfl
        | some n => exact absurd (var_back h).2 (HA.out n (by have := (var_back h).1; omega))
      rw [HW.out, hv]
      rfl
end Go.Proofs.YtbhbhfplpbcfiaaGreatDoor
end

section
namespace Go.Proofs.YtbhbhfplpbcfiaaGreatDoor
open Go.RowKit Go.Sort
set_option linter.unusedSimpArgs false
set_option linter.unusedVariables false

/-- a token's cells -/
def encT (t : Tok) : List Value := [.int .u8 (t.kind : Nat), .int .i64 (t.n : Nat), .int .i64 (t.at_ : Nat)]
theorem encT_len (t : Tok) : (encT t).length = 3 := rfl
theorem encT_one (t : Tok) : ∀ u ∈ encT t, u.oneCell' = true := by
  intro u hu
  simp only [encT, List.mem_cons, List.not_mem_nil, or_false] at hu
  rcases hu with rfl | rfl | rfl <;> rfl
abbrev OwnT := OwnS 3 encT 86
theorem info_tok : (Tryz.prog.info? 86).map (fun i => (i.zero, i.size, i.bytes)) = some (some (.agg #[.int .u8 0, .int .i64 0, .int .i64 0]), 3, 24) := by kernel_rfl
theorem sign_cases {c : Nat} (h : signN c = true) : c = 33 ∨ c = 38 ∨ c = 124 ∨ c = 94 ∨ c = 62 ∨ c = 61 ∨ c = 40 ∨ c = 41 ∨ c = 46 := by
  unfold signN at h
  simp only [Bool.or_eq_true, beq_iff_eq] at h
  omega
theorem sign_no {c : Nat} (h : signN c = false) : ((c : Int) == 33) = false ∧ ((c : Int) == 38) = false ∧ ((c : Int) == 124) = false ∧ ((c : Int) == 94) = false ∧ ((c : Int) == 62) = false ∧ ((c : Int) == 61) = false ∧ ((c : Int) == 40) = false ∧ ((c : Int) == 41) = false ∧ ((c : Int) == 46) = false := by
  unfold signN at h
  simp only [Bool.or_eq_false_iff, beq_eq_false_iff_ne] at h
  simp
  omega
set_option maxRecDepth 100000 in
set_option maxHeartbeats 16000000 in
theorem rtokens_any (l : List UInt8) (w : World) (hl : l.length ≤ 5000) : Calls Tryz.prog 28 #[.string ⟨l.toArray⟩] w fun e w' => ∃ A n c, e = .returned (.slice A n c) ∧ OwnT w' w.heap.size (.slice A n c) (lex l 0) ∧ Below w.heap.size w w' := by
  obtain ⟨i0, hi, hz0, hz1, hz2⟩ := info_parts info_tok
  have hsz := bytes_size l
  go_enter Tryz.func28, Tryz.ntmps28
  go_wp2_with fail
  go_loopw [3, 4] (fun o a wr => ∃ (k : Nat) (done : List Tok), k ≤ l.length ∧ a = .int .i64 (k : Nat) ∧ OwnT wr w.heap.size o done ∧ Below w.heap.size w wr ∧ lex l 0 = done ++ lex (l.drop k) k ∧ done.length ≤ k) (fun _ a _ => l.length - (intOf a).toNat)
  case atStart => exact ⟨0, [], Nat.zero_le _, rfl, OwnS.nil_, Below.refl _ _, by simp, Nat.le_refl _⟩
  case round =>
    obtain ⟨k, done, hk, rfl, hown, hb, hlex, hdl⟩ := hrel
    obtain ⟨A, n, c, hA, hAn, hAc⟩ := hown.form
    subst hA
    have HO := Lib.hid hown
    have HB := Lib.hid hb
    have HL := Lib.hid hlex
    clear hown hb hlex hAn hAc
    rcases Nat.lt_or_ge k l.length with hlt | hge
    · have hki : (k : Int) < (l.length : Int) := by omega
      have hd := Lib.hid (drop_get hlt)
      obtain ⟨ch, hc⟩ : ∃ ch, ch = l[k] := ⟨_, rfl⟩
      rw [← hc] at hd
      have g0 : (⟨l.toArray⟩ : ByteArray)[k]'(by rw [hsz]; exact hlt) = ch := by rw [hc]; rfl
      have hc255 := ch.toNat_lt
      have HCH := Lib.hid hc
      clear hc
      by_cases hb32 : ch.toNat = 32
      · have hb2 : (ch.toNat : Int) = 32 := by omega
        go_wp2_with fail
        go_roundw
        case rel => exact ⟨k + 1, done, by omega, by go_num, HO.out, HB.out, by rw [HL.out, hd.out, lex_blank k hb32], by omega⟩
        case measure => simp [intOf]; omega
      · have hb2 : ((ch.toNat : Int) == 32) = false := by simp; omega
        go_wp2_with fail
        obtain ⟨wo, hwo⟩ : ∃ wo : World, wo = wr := ⟨_, rfl⟩
        go_loopg [4] (l.length - k) (fun gk a wx => ∃ m : Nat, gk = l.length - m ∧ a = .int .i64 (m : Nat) ∧ wx = wo ∧ k ≤ m ∧ m ≤ l.length ∧ ∀ j (hj : j < l.length), k ≤ j → j < m → letterN l[j].toNat = true)
        case atStart => exact ⟨k, rfl, rfl, hwo.symm, Nat.le_refl _, hk, fun j hj h1 h2 => by omega⟩
        case round =>
          obtain ⟨m, rfl, rfl, rfl, hkm, hml, hall⟩ := hrel
          subst hwo
          have HA := Lib.hid hall
          clear hall
          rcases Nat.lt_or_ge m l.length with hlt2 | hge2
          · have hmi : (m : Int) < (l.length : Int) := by omega
            obtain ⟨c2, hc2⟩ : ∃ c2, c2 = l[m] := ⟨_, rfl⟩
            have g1 : (⟨l.toArray⟩ : ByteArray)[m]'(by rw [hsz]; exact hlt2) = c2 := by rw [hc2]; rfl
            have hc2255 := c2.toNat_lt
            have HQ := Lib.hid hc2
            clear hc2
            have HLT := Lib.hid (fun W => rletter_any c2.toNat W (by omega))
            cases hl2 : letterN c2.toNat with
            | true =>
              have HL2 := Lib.hid hl2
              clear g0
              go_wp2_with fail
              refine (HLT.out _).mono ?_
              rintro e w1 ⟨rfl, rfl⟩
              have hl2 := HL2.out
              go_wp2_with fail
              go_roundg (l.length - (m + 1))
              case rel => exact ⟨m + 1, rfl, by go_num, rfl, by omega, by omega, fun j hj h1 h2 => by
                rcases Nat.lt_or_ge j m with h | h
                · exact HA.out j hj h1 h
                · obtain rfl : j = m := by omega
                  rw [← HQ.out]; exact HL2.out⟩
              case measure => omega
            | false =>
              by_cases hkm1 : k < m
              · have HH : Hid (∀ c, (l.drop m).head? = some c → letterN c.toNat = false) := Lib.hid (fun c hc => by
                  rw [drop_get hlt2, List.head?_cons] at hc
                  injection hc with hc
                  rw [← hc, ← HQ.out]; exact hl2)
                obtain ⟨wd, hx, hsp, hwl, hwa⟩ := piece hkm hml HA.out
                have hgt : (k : Int) < (m : Int) := by omega
                have HNX : Hid (lex (l.drop k) k = wordTok wd k :: lex (l.drop m) m) := Lib.hid (by
                  have := lex_word (w := wd) (l := l.drop m) k hwa (fun e => by rw [e] at hwl; simp at hwl; omega) HH.out
                  rw [hsp, this, hwl, show k + (m - k) = m by omega])
                have HWD := Lib.hid (fun W => rword_any wd k W)
                obtain ⟨wt, hwt⟩ : ∃ wt, wt = wordTok wd k := ⟨_, rfl⟩
                have HAT : Hid (wt.at_ = k) := Lib.hid (by rw [hwt]; exact (word_kind wd k).2.1)
                rw [← hwt] at HNX HWD
                unfold tokR at HWD
                clear hsp hwl hwa hwt
                have HL2 := Lib.hid hl2
                clear g0
                go_wp2_with fail
                refine (HLT.out _).mono ?_
                rintro e w1 ⟨rfl, rfl⟩
                have hl2 := HL2.out
                go_wp2_with fail
                refine (HWD.out _).mono ?_
                rintro e w2 ⟨rfl, h2⟩
                have HO2 := Lib.hid ((HO.out.chg (chg_of_below (F := []) h2) (by simp)))
                have HS2 := Lib.hid (Nat.le_trans HB.out.size h2.size)
                have HB2 := Lib.hid (HB.out.trans (h2.mono HB.out.size))
                have HLN : Hid (done.length ≤ 34359738366) := Lib.hid (by omega)
                clear h2
                go_wp2_with (at_builtin; (refine wp_appS encT_len (by decide) Tryz.underlying27 hi hz0 hz1 hz2 rfl (by decide) w2 rfl _ _ rfl w.heap.size _ done wt _ (by rw [encT, HAT.out]) 1 (encT_one _) HO2.out HS2.out HLN.out rfl rfl (by first | rfl | simp [World.setCell]) ?_); intro v1 w5 hown1 hb1 hs1 hg1 hv1)
                have HREL := Lib.hid (And.intro hown1 (HB2.out.trans hb1))
                clear hown1 hb1 hs1 hg1 hv1
                go_roundw
                case rel => exact ⟨m, done ++ [wt], hml, rfl, HREL.out.1, HREL.out.2, by rw [HL.out, HNX.out]; simp, by simp; omega⟩
                case measure => simp [intOf]; omega
              · obtain rfl : m = k := by omega
                have hcc : c2 = ch := by rw [HQ.out, HCH.out]
                subst hcc
                have HL2 := Lib.hid hl2
                clear g0 hkm
                have HO2 := Lib.hid HO.out
                have HS2 := Lib.hid HB.out.size
                have HLN : Hid (done.length ≤ 34359738366) := Lib.hid (by omega)
                cases hsg : signN c2.toNat with
                | true =>
                  have HTK : Hid (lex (l.drop m) m = ⟨c2.toNat, 0, m⟩ :: lex (l.drop (m + 1)) (m + 1)) := Lib.hid (by rw [hd.out, lex_sign m hb32 hl2, if_pos hsg])
                  rcases sign_cases hsg with hs | hs | hs | hs | hs | hs | hs | hs | hs
                  · rw [hs] at HTK
                    clear hsg hl2
                    have HSS := Lib.hid hs
                    clear hs
                    go_wp2_with fail
                    refine (HLT.out _).mono ?_
                    rintro e w1 ⟨rfl, rfl⟩
                    have hl2 := HL2.out
                    have hs1 : (c2.toNat : Int) = 33 := by have := HSS.out; omega
                    go_wp2_with (at_builtin; (refine wp_appS encT_len (by decide) Tryz.underlying27 hi hz0 hz1 hz2 rfl (by decide) _ rfl _ _ rfl w.heap.size _ done ⟨_, 0, m⟩ _ (by rw [encT]; rfl) 1 (encT_one _) HO2.out HS2.out HLN.out rfl rfl (by first | rfl | simp [World.setCell]) ?_); intro v1 w5 hown1 hb1 hs1 hg1 hv1)
                    have HREL := Lib.hid (And.intro hown1 (HB.out.trans hb1))
                    clear hown1 hb1 hs1 hg1 hv1
                    go_roundw
                    case rel => exact ⟨m + 1, _, by omega, by go_num, HREL.out.1, HREL.out.2, by rw [HL.out, HTK.out]; simp, by simp; omega⟩
                    case measure => simp [intOf]; omega
                  · rw [hs] at HTK
                    clear hsg hl2
                    have HSS := Lib.hid hs
                    clear hs
                    go_wp2_with fail
                    refine (HLT.out _).mono ?_
                    rintro e w1 ⟨rfl, rfl⟩
                    have hl2 := HL2.out
                    have hs1 : (c2.toNat : Int) = 38 := by have := HSS.out; omega
                    go_wp2_with (at_builtin; (refine wp_appS encT_len (by decide) Tryz.underlying27 hi hz0 hz1 hz2 rfl (by decide) _ rfl _ _ rfl w.heap.size _ done ⟨_, 0, m⟩ _ (by rw [encT]; rfl) 1 (encT_one _) HO2.out HS2.out HLN.out rfl rfl (by first | rfl | simp [World.setCell]) ?_); intro v1 w5 hown1 hb1 hs1 hg1 hv1)
                    have HREL := Lib.hid (And.intro hown1 (HB.out.trans hb1))
                    clear hown1 hb1 hs1 hg1 hv1
                    go_roundw
                    case rel => exact ⟨m + 1, _, by omega, by go_num, HREL.out.1, HREL.out.2, by rw [HL.out, HTK.out]; simp, by simp; omega⟩
                    case measure => simp [intOf]; omega
                  · rw [hs] at HTK
                    clear hsg hl2
                    have HSS := Lib.hid hs
                    clear hs
                    go_wp2_with fail
                    refine (HLT.out _).mono ?_
                    rintro e w1 ⟨rfl, rfl⟩
                    have hl2 := HL2.out
                    have hs1 : (c2.toNat : Int) = 124 := by have := HSS.out; omega
                    go_wp2_with (at_builtin; (refine wp_appS encT_len (by decide) Tryz.underlying27 hi hz0 hz1 hz2 rfl (by decide) _ rfl _ _ rfl w.heap.size _ done ⟨_, 0, m⟩ _ (by rw [encT]; rfl) 1 (encT_one _) HO2.out HS2.out HLN.out rfl rfl (by first | rfl | simp [World.setCell]) ?_); intro v1 w5 hown1 hb1 hs1 hg1 hv1)
                    have HREL := Lib.hid (And.intro hown1 (HB.out.trans hb1))
                    clear hown1 hb1 hs1 hg1 hv1
                    go_roundw
                    case rel => exact ⟨m + 1, _, by omega, by go_num, HREL.out.1, HREL.out.2, by rw [HL.out, HTK.out]; simp, by simp; omega⟩
                    case measure => simp [intOf]; omega
                  · rw [hs] at HTK
                    clear hsg hl2
                    have HSS := Lib.hid hs
                    clear hs
                    go_wp2_with fail
                    refine (HLT.out _).mono ?_
                    rintro e w1 ⟨rfl, rfl⟩
                    have hl2 := HL2.out
                    have hs1 : (c2.toNat : Int) = 94 := by have := HSS.out; omega
                    go_wp2_with (at_builtin; (refine wp_appS encT_len (by decide) Tryz.underlying27 hi hz0 hz1 hz2 rfl (by decide) _ rfl _ _ rfl w.heap.size _ done ⟨_, 0, m⟩ _ (by rw [encT]; rfl) 1 (encT_one _) HO2.out HS2.out HLN.out rfl rfl (by first | rfl | simp [World.setCell]) ?_); intro v1 w5 hown1 hb1 hs1 hg1 hv1)
                    have HREL := Lib.hid (And.intro hown1 (HB.out.trans hb1))
                    clear hown1 hb1 hs1 hg1 hv1
                    go_roundw
                    case rel => exact ⟨m + 1, _, by omega, by go_num, HREL.out.1, HREL.out.2, by rw [HL.out, HTK.out]; simp, by simp; omega⟩
                    case measure => simp [intOf]; omega
                  · rw [hs] at HTK
                    clear hsg hl2
                    have HSS := Lib.hid hs
                    clear hs
                    go_wp2_with fail
                    refine (HLT.out _).mono ?_
                    rintro e w1 ⟨rfl, rfl⟩
                    have hl2 := HL2.out
                    have hs1 : (c2.toNat : Int) = 62 := by have := HSS.out; omega
                    go_wp2_with (at_builtin; (refine wp_appS encT_len (by decide) Tryz.underlying27 hi hz0 hz1 hz2 rfl (by decide) _ rfl _ _ rfl w.heap.size _ done ⟨_, 0, m⟩ _ (by rw [encT]; rfl) 1 (encT_one _) HO2.out HS2.out HLN.out rfl rfl (by first | rfl | simp [World.setCell]) ?_); intro v1 w5 hown1 hb1 hs1 hg1 hv1)
                    have HREL := Lib.hid (And.intro hown1 (HB.out.trans hb1))
                    clear hown1 hb1 hs1 hg1 hv1
                    go_roundw
                    case rel => exact ⟨m + 1, _, by omega, by go_num, HREL.out.1, HREL.out.2, by rw [HL.out, HTK.out]; simp, by simp; omega⟩
                    case measure => simp [intOf]; omega
                  · rw [hs] at HTK
                    clear hsg hl2
                    have HSS := Lib.hid hs
                    clear hs
                    go_wp2_with fail
                    refine (HLT.out _).mono ?_
                    rintro e w1 ⟨rfl, rfl⟩
                    have hl2 := HL2.out
                    have hs1 : (c2.toNat : Int) = 61 := by have := HSS.out; omega
                    go_wp2_with (at_builtin; (refine wp_appS encT_len (by decide) Tryz.underlying27 hi hz0 hz1 hz2 rfl (by decide) _ rfl _ _ rfl w.heap.size _ done ⟨_, 0, m⟩ _ (by rw [encT]; rfl) 1 (encT_one _) HO2.out HS2.out HLN.out rfl rfl (by first | rfl | simp [World.setCell]) ?_); intro v1 w5 hown1 hb1 hs1 hg1 hv1)
                    have HREL := Lib.hid (And.intro hown1 (HB.out.trans hb1))
                    clear hown1 hb1 hs1 hg1 hv1
                    go_roundw
                    case rel => exact ⟨m + 1, _, by omega, by go_num, HREL.out.1, HREL.out.2, by rw [HL.out, HTK.out]; simp, by simp; omega⟩
                    case measure => simp [intOf]; omega
                  · rw [hs] at HTK
                    clear hsg hl2
                    have HSS := Lib.hid hs
                    clear hs
                    go_wp2_with fail
                    refine (HLT.out _).mono ?_
                    rintro e w1 ⟨rfl, rfl⟩
                    have hl2 := HL2.out
                    have hs1 : (c2.toNat : Int) = 40 := by have := HSS.out; omega
                    go_wp2_with (at_builtin; (refine wp_appS encT_len (by decide) Tryz.underlying27 hi hz0 hz1 hz2 rfl (by decide) _ rfl _ _ rfl w.heap.size _ done ⟨_, 0, m⟩ _ (by rw [encT]; rfl) 1 (encT_one _) HO2.out HS2.out HLN.out rfl rfl (by first | rfl | simp [World.setCell]) ?_); intro v1 w5 hown1 hb1 hs1 hg1 hv1)
                    have HREL := Lib.hid (And.intro hown1 (HB.out.trans hb1))
                    clear hown1 hb1 hs1 hg1 hv1
                    go_roundw
                    case rel => exact ⟨m + 1, _, by omega, by go_num, HREL.out.1, HREL.out.2, by rw [HL.out, HTK.out]; simp, by simp; omega⟩
                    case measure => simp [intOf]; omega
                  · rw [hs] at HTK
                    clear hsg hl2
                    have HSS := Lib.hid hs
                    clear hs
                    go_wp2_with fail
                    refine (HLT.out _).mono ?_
                    rintro e w1 ⟨rfl, rfl⟩
                    have hl2 := HL2.out
                    have hs1 : (c2.toNat : Int) = 41 := by have := HSS.out; omega
                    go_wp2_with (at_builtin; (refine wp_appS encT_len (by decide) Tryz.underlying27 hi hz0 hz1 hz2 rfl (by decide) _ rfl _ _ rfl w.heap.size _ done ⟨_, 0, m⟩ _ (by rw [encT]; rfl) 1 (encT_one _) HO2.out HS2.out HLN.out rfl rfl (by first | rfl | simp [World.setCell]) ?_); intro v1 w5 hown1 hb1 hs1 hg1 hv1)
                    have HREL := Lib.hid (And.intro hown1 (HB.out.trans hb1))
                    clear hown1 hb1 hs1 hg1 hv1
                    go_roundw
                    case rel => exact ⟨m + 1, _, by omega, by go_num, HREL.out.1, HREL.out.2, by rw [HL.out, HTK.out]; simp, by simp; omega⟩
                    case measure => simp [intOf]; omega
                  · rw [hs] at HTK
                    clear hsg hl2
                    have HSS := Lib.hid hs
                    clear hs
                    go_wp2_with fail
                    refine (HLT.out _).mono ?_
                    rintro e w1 ⟨rfl, rfl⟩
                    have hl2 := HL2.out
                    have hs1 : (c2.toNat : Int) = 46 := by have := HSS.out; omega
                    go_wp2_with (at_builtin; (refine wp_appS encT_len (by decide) Tryz.underlying27 hi hz0 hz1 hz2 rfl (by decide) _ rfl _ _ rfl w.heap.size _ done ⟨_, 0, m⟩ _ (by rw [encT]; rfl) 1 (encT_one _) HO2.out HS2.out HLN.out rfl rfl (by first | rfl | simp [World.setCell]) ?_); intro v1 w5 hown1 hb1 hs1 hg1 hv1)
                    have HREL := Lib.hid (And.intro hown1 (HB.out.trans hb1))
                    clear hown1 hb1 hs1 hg1 hv1
                    go_roundw
                    case rel => exact ⟨m + 1, _, by omega, by go_num, HREL.out.1, HREL.out.2, by rw [HL.out, HTK.out]; simp, by simp; omega⟩
                    case measure => simp [intOf]; omega
                | false =>
                  have HTK : Hid (lex (l.drop m) m = ⟨98, 0, m⟩ :: lex (l.drop (m + 1)) (m + 1)) := Lib.hid (by rw [hd.out, lex_sign m hb32 hl2, hsg]; rfl)
                  obtain ⟨q1, q2, q3, q4, q5, q6, q7, q8, q9⟩ := sign_no hsg
                  clear hsg
                  go_wp2_with fail
                  refine (HLT.out _).mono ?_
                  rintro e w1 ⟨rfl, rfl⟩
                  have hl2 := HL2.out
                  go_wp2_with (at_builtin; (refine wp_appS encT_len (by decide) Tryz.underlying27 hi hz0 hz1 hz2 rfl (by decide) _ rfl _ _ rfl w.heap.size _ done ⟨98, 0, m⟩ _ (by rw [encT]; rfl) 1 (encT_one _) HO2.out HS2.out HLN.out rfl rfl (by first | rfl | simp [World.setCell]) ?_); intro v1 w5 hown1 hb1 hs1 hg1 hv1)
                  have HREL := Lib.hid (And.intro hown1 (HB.out.trans hb1))
                  clear hown1 hb1 hs1 hg1 hv1
                  go_roundw
                  case rel => exact ⟨m + 1, _, by omega, by go_num, HREL.out.1, HREL.out.2, by rw [HL.out, HTK.out]; simp, by simp; omega⟩
                  case measure => simp [intOf]; omega
          · have hmi : ¬ (m : Int) < (l.length : Int) := by omega
            have HH : Hid (∀ c, (l.drop m).head? = some c → letterN c.toNat = false) := Lib.hid (fun c hc => by rw [List.drop_eq_nil_of_le hge2] at hc; cases hc)
            have hkm1 : k < m := by omega
            obtain ⟨wd, hx, hsp, hwl, hwa⟩ := piece hkm hml HA.out
            have hgt : (k : Int) < (m : Int) := by omega
            have HNX : Hid (lex (l.drop k) k = wordTok wd k :: lex (l.drop m) m) := Lib.hid (by
              have := lex_word (w := wd) (l := l.drop m) k hwa (fun e => by rw [e] at hwl; simp at hwl; omega) HH.out
              rw [hsp, this, hwl, show k + (m - k) = m by omega])
            have HWD := Lib.hid (fun W => rword_any wd k W)
            obtain ⟨wt, hwt⟩ : ∃ wt, wt = wordTok wd k := ⟨_, rfl⟩
            have HAT : Hid (wt.at_ = k) := Lib.hid (by rw [hwt]; exact (word_kind wd k).2.1)
            rw [← hwt] at HNX HWD
            unfold tokR at HWD
            clear hsp hwl hwa hwt
            go_wp2_with fail
            refine (HWD.out _).mono ?_
            rintro e w2 ⟨rfl, h2⟩
            have HO2 := Lib.hid ((HO.out.chg (chg_of_below (F := []) h2) (by simp)))
            have HS2 := Lib.hid (Nat.le_trans HB.out.size h2.size)
            have HB2 := Lib.hid (HB.out.trans (h2.mono HB.out.size))
            have HLN : Hid (done.length ≤ 34359738366) := Lib.hid (by omega)
            clear h2
            go_wp2_with (at_builtin; (refine wp_appS encT_len (by decide) Tryz.underlying27 hi hz0 hz1 hz2 rfl (by decide) w2 rfl _ _ rfl w.heap.size _ done wt _ (by rw [encT, HAT.out]) 1 (encT_one _) HO2.out HS2.out HLN.out rfl rfl (by first | rfl | simp [World.setCell]) ?_); intro v1 w5 hown1 hb1 hs1 hg1 hv1)
            have HREL := Lib.hid (And.intro hown1 (HB2.out.trans hb1))
            clear hown1 hb1 hs1 hg1 hv1
            go_roundw
            case rel => exact ⟨m, done ++ [wt], hml, rfl, HREL.out.1, HREL.out.2, by rw [HL.out, HNX.out]; simp, by simp; omega⟩
            case measure => simp [intOf]; omega
    · obtain rfl : k = l.length := by omega
      have HO2 := Lib.hid HO.out
      have HS2 := Lib.hid HB.out.size
      have HLN : Hid (done.length ≤ 34359738366) := Lib.hid (by omega)
      go_wp2_with (at_builtin; (refine wp_appS encT_len (by decide) Tryz.underlying27 hi hz0 hz1 hz2 rfl (by decide) wr rfl _ _ rfl w.heap.size _ done ⟨122, 0, l.length⟩ _ (by rw [encT]; rfl) 1 (encT_one _) HO2.out HS2.out HLN.out rfl rfl (by first | rfl | simp [World.setCell]) ?_); intro v1 w5 hown1 hb1 hs1 hg1 hv1)
      obtain ⟨A5, n5, c5, hA5, _⟩ := hown1.form
      subst hA5
      refine bodyPost_ret (v := .slice A5 n5 c5) (by simp [results, Tryz.results28, go_sem, *]) rfl ⟨A5, n5, c5, rfl, ?_, HB.out.trans hb1⟩
      rw [HL.out, List.drop_length, lex_nil]
      exact hown1
end Go.Proofs.YtbhbhfplpbcfiaaGreatDoor
end
