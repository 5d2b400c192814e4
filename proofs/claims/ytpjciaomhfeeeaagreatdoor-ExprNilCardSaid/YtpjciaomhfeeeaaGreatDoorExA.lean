/- Contracts: expr.letter, expr.word. -/
import Derived.Test.YtpjciaomhfeeeaaGreatDoorMq
import Derived.Test.YtpjciaomhfeeeaaGreatDoorAtoi
namespace Go.Proofs.YtpjciaomhfeeeaaGreatDoor
open Go.RowKit Go.Sort
set_option linter.unusedSimpArgs false
set_option linter.unusedVariables false

theorem bcell {W w1 : World} (hb : Below W.heap.size W w1) : (∀ b o, b < W.heap.size → w1.cell? ⟨b, o, none⟩ = W.cell? ⟨b, o, none⟩) ∧ (∀ b o, b < W.heap.size → w1.frozen? ⟨b, o, none⟩ = W.frozen? ⟨b, o, none⟩) :=
  ⟨fun b o h => hb.cell (p := ⟨b, o, none⟩) h, fun b o h => hb.frozen (p := ⟨b, o, none⟩) h⟩
/-- a token as a value -/
def tokV (t : Tok) : Value := .agg #[.int .u8 (t.kind : Nat), .int .i64 (t.n : Nat), .int .i64 (t.at_ : Nat)]
theorem letter_cases (c : Nat) : (c < 48 ∧ letterN c = false) ∨ (48 ≤ c ∧ c ≤ 57 ∧ letterN c = true) ∨ (57 < c ∧ c < 65 ∧ letterN c = false) ∨ (65 ≤ c ∧ c ≤ 90 ∧ letterN c = true) ∨ (90 < c ∧ c < 97 ∧ letterN c = false) ∨ (97 ≤ c ∧ c ≤ 122 ∧ letterN c = true) ∨ (122 < c ∧ letterN c = false) := by
  have h : letterN c = decide ((97 ≤ c ∧ c ≤ 122) ∨ (65 ≤ c ∧ c ≤ 90) ∨ (48 ≤ c ∧ c ≤ 57)) := by
    unfold letterN
    rw [Bool.eq_iff_iff]
    simp
    omega
  rw [h]
  simp only [decide_eq_true_eq, decide_eq_false_iff_not]
  omega
theorem letter_any (c : Nat) (w : World) (hc : c ≤ 255) : Calls Tryz.prog 30 #[.int .u8 (c : Nat)] w fun e w' => e = .returned (.bool (letterN c)) ∧ w = w' := by
  rcases letter_cases c with ⟨h, hb⟩ | ⟨h, h2, hb⟩ | ⟨h, h2, hb⟩ | ⟨h, h2, hb⟩ | ⟨h, h2, hb⟩ | ⟨h, h2, hb⟩ | ⟨h, hb⟩
  all_goals
    rw [hb]
    clear hb
    go_enter Tryz.func30, Tryz.ntmps30
    go_wp2_with fail
    go_ret
    exact ⟨by simp <;> omega, rfl⟩
/-- what Atoi makes of one digit, or two -/
theorem atoi_one {a : UInt8} (h : letterN a.toNat = true) : (48 ≤ a.toNat ∧ a.toNat ≤ 57 ∧ Lib.atoiAll [a] = .ok ((a.toNat - 48 : Nat) : Int)) ∨ (¬ (48 ≤ a.toNat ∧ a.toNat ≤ 57) ∧ ∀ v, Lib.atoiAll [a] ≠ .ok v) := by
  have key : ∀ n : Fin 256, letterN n.val = true → (48 ≤ n.val ∧ n.val ≤ 57 ∧ Lib.atoiAll [UInt8.ofNat n.val] = .ok ((n.val - 48 : Nat) : Int)) ∨ (¬ (48 ≤ n.val ∧ n.val ≤ 57) ∧ Lib.atoiAll [UInt8.ofNat n.val] = .syntax) := by decide +kernel
  have hk := key ⟨a.toNat, a.toNat_lt⟩ h
  simp only [UInt8.ofNat_toNat] at hk
  rcases hk with hk | ⟨h1, h2⟩
  · exact .inl hk
  · exact .inr ⟨h1, fun v e => by rw [h2] at e; cases e⟩
theorem atoi_two {a b : UInt8} (h : letterN a.toNat = true) (h2 : letterN b.toNat = true) : (48 ≤ a.toNat ∧ a.toNat ≤ 57 ∧ 48 ≤ b.toNat ∧ b.toNat ≤ 57 ∧ Lib.atoiAll [a, b] = .ok ((10 * (a.toNat - 48) + (b.toNat - 48) : Nat) : Int)) ∨ (¬ (48 ≤ a.toNat ∧ a.toNat ≤ 57 ∧ 48 ≤ b.toNat ∧ b.toNat ≤ 57) ∧ ∀ v, Lib.atoiAll [a, b] ≠ .ok v) := by
  have key : ∀ n m : Fin 75, (48 ≤ n.val + 48 ∧ n.val + 48 ≤ 57 ∧ 48 ≤ m.val + 48 ∧ m.val + 48 ≤ 57 ∧ Lib.atoiAll [UInt8.ofNat (n.val + 48), UInt8.ofNat (m.val + 48)] = .ok ((10 * n.val + m.val : Nat) : Int)) ∨ (¬ (48 ≤ n.val + 48 ∧ n.val + 48 ≤ 57 ∧ 48 ≤ m.val + 48 ∧ m.val + 48 ≤ 57) ∧ Lib.atoiAll [UInt8.ofNat (n.val + 48), UInt8.ofNat (m.val + 48)] = .syntax) := by decide +kernel
  have ha : 48 ≤ a.toNat ∧ a.toNat ≤ 122 := by
    have := letter_cases a.toNat
    rw [h] at this
    simp at this
    omega
  have hb : 48 ≤ b.toNat ∧ b.toNat ≤ 122 := by
    have := letter_cases b.toNat
    rw [h2] at this
    simp at this
    omega
  have hk := key ⟨a.toNat - 48, by omega⟩ ⟨b.toNat - 48, by omega⟩
  simp only [Nat.sub_add_cancel ha.1, Nat.sub_add_cancel hb.1, UInt8.ofNat_toNat] at hk
  rcases hk with hk | ⟨h1, h2⟩
  · exact .inl hk
  · exact .inr ⟨h1, fun v e => by rw [h2] at e; cases e⟩
/-- what is no word of the language -/
def NoWord (l : List UInt8) : Prop := l ≠ [48] ∧ l ≠ [49] ∧ l ≠ [115, 111, 109, 101] ∧ l ≠ [101, 97, 99, 104]
theorem word_none {l : List UInt8} (h : NoWord l) (a : Nat) : wordTok l a = (match varNum l with | some n => ⟨118, n, a⟩ | none => ⟨98, 0, a⟩) := by
  unfold wordTok
  rw [if_neg h.1, if_neg h.2.1, if_neg h.2.2.1, if_neg h.2.2.2]
  rfl
theorem NoWord.eqs {l : List UInt8} (h : NoWord l) : (l == [48]) = false ∧ (l == [49]) = false ∧ (l == [115, 111, 109, 101]) = false ∧ (l == [101, 97, 99, 104]) = false := by
  obtain ⟨h1, h2, h3, h4⟩ := h
  simp only [beq_eq_false_iff_ne]
  exact ⟨h1, h2, h3, h4⟩
set_option maxRecDepth 100000 in
set_option maxHeartbeats 4000000 in
theorem word_long (l : List UInt8) (a : Nat) (h : NoWord l) (hl : l.length < 2 ∨ 3 < l.length) (hm : l.length ≤ 9223372036854775807) (w : World) :
    Calls Tryz.prog 31 #[.string ⟨l.toArray⟩, .int .i64 (a : Nat)] w fun e w' => e = .returned (.agg #[.int .u8 98, .int .i64 0, .int .i64 (a : Nat)]) ∧ Below w.heap.size w w' := by
  obtain ⟨e1, e2, e3, e4⟩ := h.eqs
  have hs := bytes_size l
  clear h
  rcases hl with hl | hl
  · go_enter Tryz.func31, Tryz.ntmps31
    go_wp2_with fail
    exact bodyPost_ret (v := .agg #[.int .u8 98, .int .i64 0, .int .i64 (a : Nat)]) (by simp [results, Tryz.results31, go_sem, *]) rfl ⟨rfl, (Below.refl _ _).alloc (Nat.le_refl _) _⟩
  · go_enter Tryz.func31, Tryz.ntmps31
    go_wp2_with fail
    exact bodyPost_ret (v := .agg #[.int .u8 98, .int .i64 0, .int .i64 (a : Nat)]) (by simp [results, Tryz.results31, go_sem, *]) rfl ⟨rfl, (Below.refl _ _).alloc (Nat.le_refl _) _⟩
set_option maxRecDepth 100000 in
set_option maxHeartbeats 4000000 in
theorem word_two (x y : UInt8) (a : Nat) (hy : letterN y.toNat = true) (w : World) (hV : PV w) :
    Calls Tryz.prog 31 #[.string ⟨#[x, y]⟩, .int .i64 (a : Nat)] w fun e w' => e = .returned (tokV (wordTok [x, y] a)) ∧ Below w.heap.size w w' := by
  have HT : Hid (wordTok [x, y] a = if x.toNat = 120 ∧ 48 ≤ y.toNat ∧ y.toNat ≤ 57 then ⟨118, y.toNat - 48, a⟩ else ⟨98, 0, a⟩) := Lib.hid (by
    rw [word_none ⟨by simp, by simp, by simp, by simp⟩]
    simp only [varNum, List.map_cons, List.map_nil]
    split <;> rename_i h
    · split at h
      · injection h with h; subst h; rw [if_pos ‹_›]
      · cases h
    · split at h
      · cases h
      · rw [if_neg ‹_›])
  have HAT := Lib.hid (fun W (hV : PV W) => atoi_any ⟨#[y]⟩ (show 1 < 4294967281 by decide) W hV)
  have HO := Lib.hid (atoi_one hy)
  have HV := Lib.hid hV
  have hx255 := x.toNat_lt
  have hy255 := y.toNat_lt
  have g0 : (⟨#[x, y]⟩ : ByteArray)[0]'(show 0 < 2 by decide) = x := rfl
  have g1 : (⟨#[x, y]⟩ : ByteArray)[1]'(show 1 < 2 by decide) = y := rfl
  have g2 : (⟨#[x, y]⟩ : ByteArray).extract 1 2 = ⟨#[y]⟩ := by apply ByteArray.ext; simp
  clear hy hV
  by_cases hx : x.toNat = 120
  · have hx1 : (x.toNat : Int) = 120 := by omega
    rcases Decidable.em ((y.toNat : Int) = 48) with hy1 | hy1
    all_goals
      go_enter Tryz.func31, Tryz.ntmps31
      go_wp2_with fail
      refine (HAT.out _ (HV.out.on ((Below.refl _ _).alloc (Nat.le_refl _) _))).mono ?_
      rintro e w1 ⟨hr, hb⟩
      rcases hr with ⟨v, hv, rfl⟩ | ⟨hno, z, te, pe, rfl⟩
      · have hv2 : v = ((y.toNat - 48 : Nat) : Int) ∧ 48 ≤ y.toNat ∧ y.toNat ≤ 57 := by
          rcases HO.out with ⟨a1, a2, a3⟩ | ⟨a1, a2⟩
          · rw [a3] at hv
            injection hv with hv
            exact ⟨hv.symm, a1, a2⟩
          · exact absurd hv (a2 v)
        obtain ⟨rfl, hd1, hd2⟩ := hv2
        clear hv
        obtain ⟨hc, hf⟩ := bcell hb
        have hz : w.heap.size + 1 ≤ w1.heap.size := by have := hb.size; simpa using this
        have hlt : ((y.toNat - 48 : Nat) : Int) < 16 := by omega
        go_wp2_with fail
        rw [HT.out, if_pos ⟨hx, hd1, hd2⟩]
        refine bodyPost_ret (v := .agg #[.int .u8 118, .int .i64 ((y.toNat - 48 : Nat) : Int), .int .i64 (a : Nat)]) (by simp [results, Tryz.results31, go_sem, *]) rfl ⟨rfl, ?_⟩
        repeat (first | exact (((Below.refl _ _).alloc (Nat.le_refl _) _).trans (hb.mono (by simp))) | refine Below.setCell ?_ (by simp) _)
      · obtain ⟨hc, hf⟩ := bcell hb
        have hz : w.heap.size + 1 ≤ w1.heap.size := by have := hb.size; simpa using this
        go_wp2_with fail
        have hno2 : ¬ (x.toNat = 120 ∧ 48 ≤ y.toNat ∧ y.toNat ≤ 57) := fun h => by
          rcases HO.out with ⟨a1, a2, a3⟩ | ⟨a1, a2⟩
          · exact hno _ a3
          · exact a1 h.2
        rw [HT.out, if_neg hno2]
        refine bodyPost_ret (v := .agg #[.int .u8 98, .int .i64 0, .int .i64 (a : Nat)]) (by simp [results, Tryz.results31, go_sem, *]) rfl ⟨rfl, ?_⟩
        repeat (first | exact (((Below.refl _ _).alloc (Nat.le_refl _) _).trans (hb.mono (by simp))) | refine Below.setCell ?_ (by simp) _)
  · have hx1 : ¬ (x.toNat : Int) = 120 := by omega
    go_enter Tryz.func31, Tryz.ntmps31
    go_wp2_with fail
    rw [HT.out, if_neg (by omega)]
    exact bodyPost_ret (v := .agg #[.int .u8 98, .int .i64 0, .int .i64 (a : Nat)]) (by simp [results, Tryz.results31, go_sem, *]) rfl ⟨rfl, (Below.refl _ _).alloc (Nat.le_refl _) _⟩
set_option maxRecDepth 100000 in
set_option maxHeartbeats 4000000 in
theorem word_three (x y z : UInt8) (a : Nat) (hy : letterN y.toNat = true) (hz : letterN z.toNat = true) (w : World) (hV : PV w) :
    Calls Tryz.prog 31 #[.string ⟨#[x, y, z]⟩, .int .i64 (a : Nat)] w fun e w' => e = .returned (tokV (wordTok [x, y, z] a)) ∧ Below w.heap.size w w' := by
  have HT : Hid (wordTok [x, y, z] a = if x.toNat = 120 ∧ y.toNat = 49 ∧ 48 ≤ z.toNat ∧ z.toNat ≤ 53 then ⟨118, z.toNat - 38, a⟩ else ⟨98, 0, a⟩) := Lib.hid (by
    rw [word_none ⟨by simp, by simp, by simp, by simp⟩]
    simp only [varNum, List.map_cons, List.map_nil]
    split <;> rename_i h
    · split at h
      · injection h with h; subst h; rw [if_pos ‹_›]
      · cases h
    · split at h
      · cases h
      · rw [if_neg ‹_›])
  have HAT := Lib.hid (fun W (hV : PV W) => atoi_any ⟨#[y, z]⟩ (show 2 < 4294967281 by decide) W hV)
  have HO := Lib.hid (atoi_two hy hz)
  have HV := Lib.hid hV
  have hx255 := x.toNat_lt
  have hy255 := y.toNat_lt
  have hz255 := z.toNat_lt
  have g0 : (⟨#[x, y, z]⟩ : ByteArray)[0]'(show 0 < 3 by decide) = x := rfl
  have g1 : (⟨#[x, y, z]⟩ : ByteArray)[1]'(show 1 < 3 by decide) = y := rfl
  have g2 : (⟨#[x, y, z]⟩ : ByteArray).extract 1 3 = ⟨#[y, z]⟩ := by apply ByteArray.ext; simp
  clear hy hV hz
  by_cases hx : x.toNat = 120
  · have hx1 : (x.toNat : Int) = 120 := by omega
    rcases Decidable.em ((y.toNat : Int) = 48) with hy1 | hy1
    · go_enter Tryz.func31, Tryz.ntmps31
      go_wp2_with fail
      rw [HT.out, if_neg (by omega)]
      exact bodyPost_ret (v := .agg #[.int .u8 98, .int .i64 0, .int .i64 (a : Nat)]) (by simp [results, Tryz.results31, go_sem, *]) rfl ⟨rfl, (Below.refl _ _).alloc (Nat.le_refl _) _⟩
    · go_enter Tryz.func31, Tryz.ntmps31
      go_wp2_with fail
      refine (HAT.out _ (HV.out.on ((Below.refl _ _).alloc (Nat.le_refl _) _))).mono ?_
      rintro e w1 ⟨hr, hb⟩
      rcases hr with ⟨v, hv, rfl⟩ | ⟨hno, zz, te, pe, rfl⟩
      · have hv2 : v = ((10 * (y.toNat - 48) + (z.toNat - 48) : Nat) : Int) ∧ 48 ≤ y.toNat ∧ y.toNat ≤ 57 ∧ 48 ≤ z.toNat ∧ z.toNat ≤ 57 := by
          rcases HO.out with ⟨a1, a2, a3, a4, a5⟩ | ⟨a1, a2⟩
          · rw [a5] at hv
            injection hv with hv
            exact ⟨hv.symm, a1, a2, a3, a4⟩
          · exact absurd hv (a2 v)
        obtain ⟨hv2, hd1, hd2, hd3, hd4⟩ := hv2
        obtain ⟨m, hm⟩ : ∃ m, m = 10 * (y.toNat - 48) + (z.toNat - 48) := ⟨_, rfl⟩
        rw [← hm] at hv2
        subst hv2
        clear hv
        obtain ⟨hc, hf⟩ := bcell hb
        have hsz : w.heap.size + 1 ≤ w1.heap.size := by have := hb.size; simpa using this
        have HM := Lib.hid hm
        clear hm
        rcases Nat.lt_or_ge m 16 with hlt | hlt
        · go_wp2_with fail
          have hm := HM.out
          rw [HT.out, if_pos ⟨hx, by omega, by omega, by omega⟩]
          refine bodyPost_ret (v := .agg #[.int .u8 118, .int .i64 (m : Nat), .int .i64 (a : Nat)]) (by simp [results, Tryz.results31, go_sem, *]) rfl ⟨?_, ?_⟩
          · rw [show m = z.toNat - 38 by omega]
            rfl
          · repeat (first | exact (((Below.refl _ _).alloc (Nat.le_refl _) _).trans (hb.mono (by simp))) | refine Below.setCell ?_ (by simp) _)
        · go_wp2_with fail
          have hm := HM.out
          rw [HT.out, if_neg (by omega)]
          refine bodyPost_ret (v := .agg #[.int .u8 98, .int .i64 0, .int .i64 (a : Nat)]) (by simp [results, Tryz.results31, go_sem, *]) rfl ⟨rfl, ?_⟩
          repeat (first | exact (((Below.refl _ _).alloc (Nat.le_refl _) _).trans (hb.mono (by simp))) | refine Below.setCell ?_ (by simp) _)
      · obtain ⟨hc, hf⟩ := bcell hb
        have hsz : w.heap.size + 1 ≤ w1.heap.size := by have := hb.size; simpa using this
        go_wp2_with fail
        have hno2 : ¬ (x.toNat = 120 ∧ y.toNat = 49 ∧ 48 ≤ z.toNat ∧ z.toNat ≤ 53) := fun h => by
          rcases HO.out with ⟨a1, a2, a3, a4, a5⟩ | ⟨a1, a2⟩
          · exact hno _ a5
          · omega
        rw [HT.out, if_neg hno2]
        refine bodyPost_ret (v := .agg #[.int .u8 98, .int .i64 0, .int .i64 (a : Nat)]) (by simp [results, Tryz.results31, go_sem, *]) rfl ⟨rfl, ?_⟩
        repeat (first | exact (((Below.refl _ _).alloc (Nat.le_refl _) _).trans (hb.mono (by simp))) | refine Below.setCell ?_ (by simp) _)
  · have hx1 : ¬ (x.toNat : Int) = 120 := by omega
    go_enter Tryz.func31, Tryz.ntmps31
    go_wp2_with fail
    rw [HT.out, if_neg (by omega)]
    exact bodyPost_ret (v := .agg #[.int .u8 98, .int .i64 0, .int .i64 (a : Nat)]) (by simp [results, Tryz.results31, go_sem, *]) rfl ⟨rfl, (Below.refl _ _).alloc (Nat.le_refl _) _⟩
set_option maxRecDepth 100000 in
set_option maxHeartbeats 4000000 in
theorem word_any (l : List UInt8) (a : Nat) (hl : ∀ c ∈ l, letterN c.toNat = true) (hm : l.length ≤ 9223372036854775807) (w : World) (hV : PV w) :
    Calls Tryz.prog 31 #[.string ⟨l.toArray⟩, .int .i64 (a : Nat)] w fun e w' => e = .returned (tokV (wordTok l a)) ∧ Below w.heap.size w w' := by
  by_cases hno : NoWord l
  · by_cases h2 : l.length < 2 ∨ 3 < l.length
    · have he : wordTok l a = ⟨98, 0, a⟩ := by
        rw [word_none hno]
        have : varNum l = none := by
          unfold varNum
          rcases l with _ | ⟨x, _ | ⟨y, _ | ⟨z, _ | ⟨u, l⟩⟩⟩⟩
          · rfl
          · rfl
          · simp at h2
          · simp at h2
          · rfl
        rw [this]
      rw [he]
      exact word_long l a hno h2 hm w
    · rcases l with _ | ⟨x, _ | ⟨y, _ | ⟨z, _ | ⟨u, l⟩⟩⟩⟩
      · simp at h2
      · simp at h2
      · exact word_two x y a (hl y (by simp)) w hV
      · exact word_three x y z a (hl y (by simp)) (hl z (by simp)) w hV
      · simp at h2
  · have h4 : l = [48] ∨ l = [49] ∨ l = [115, 111, 109, 101] ∨ l = [101, 97, 99, 104] := by
      unfold NoWord at hno
      by_cases h1 : l = [48]
      · exact .inl h1
      · by_cases h2 : l = [49]
        · exact .inr (.inl h2)
        · by_cases h3 : l = [115, 111, 109, 101]
          · exact .inr (.inr (.inl h3))
          · by_cases h4 : l = [101, 97, 99, 104]
            · exact .inr (.inr (.inr h4))
            · exact absurd ⟨h1, h2, h3, h4⟩ hno
    clear hl hm hno hV
    rcases h4 with rfl | rfl | rfl | rfl
    · have g0 : (⟨#[48]⟩ : ByteArray)[0]'(show 0 < 1 by decide) = 48 := rfl
      go_enter Tryz.func31, Tryz.ntmps31
      go_wp2_with fail
      exact bodyPost_ret (v := .agg #[.int .u8 48, .int .i64 0, .int .i64 (a : Nat)]) (by simp [results, Tryz.results31, go_sem, *]) rfl ⟨rfl, (Below.refl _ _).alloc (Nat.le_refl _) _⟩
    · have g0 : (⟨#[49]⟩ : ByteArray)[0]'(show 0 < 1 by decide) = 49 := rfl
      go_enter Tryz.func31, Tryz.ntmps31
      go_wp2_with fail
      exact bodyPost_ret (v := .agg #[.int .u8 49, .int .i64 0, .int .i64 (a : Nat)]) (by simp [results, Tryz.results31, go_sem, *]) rfl ⟨rfl, (Below.refl _ _).alloc (Nat.le_refl _) _⟩
    · go_enter Tryz.func31, Tryz.ntmps31
      go_wp2_with fail
      exact bodyPost_ret (v := .agg #[.int .u8 115, .int .i64 0, .int .i64 (a : Nat)]) (by simp [results, Tryz.results31, go_sem, *]) rfl ⟨rfl, (Below.refl _ _).alloc (Nat.le_refl _) _⟩
    · go_enter Tryz.func31, Tryz.ntmps31
      go_wp2_with fail
      exact bodyPost_ret (v := .agg #[.int .u8 101, .int .i64 0, .int .i64 (a : Nat)]) (by simp [results, Tryz.results31, go_sem, *]) rfl ⟨rfl, (Below.refl _ _).alloc (Nat.le_refl _) _⟩
end Go.Proofs.YtpjciaomhfeeeaaGreatDoor
