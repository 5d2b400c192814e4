/- The walks of NodeRight, NodeHashes; a record's text tells it. -/
import Derived.Test.YtfcklfpgjadfmaaDoorNodeW
namespace Go.Proofs.YtfcklfpgjadfmaaDoor
open Go.RowKit Go.Sort
set_option linter.unusedSimpArgs false
set_option linter.unusedVariables false

/-- what digits come to -/
def val (l : List UInt8) : Nat := l.foldl (fun a c => 10 * a + (c.toNat - 48)) 0
theorem val_snoc (l : List UInt8) (c : UInt8) : val (l ++ [c]) = 10 * val l + (c.toNat - 48) := by unfold val; rw [List.foldl_append]; rfl
theorem val_dec : ∀ u : Nat, val (Lib.decDigits u) = u := by
  intro u
  induction u using Nat.strongRecOn with
  | _ u ih =>
    rw [Lib.decDigits]
    by_cases h : u < 10
    · rw [dif_pos h]
      unfold val
      simp only [List.foldl_cons, List.foldl_nil]
      rw [UInt8.toNat_ofNat']
      omega
    · rw [dif_neg h, val_snoc, ih (u / 10) (by omega), UInt8.toNat_ofNat']
      omega
theorem dec_inj {a b : Nat} (h : Lib.decDigits a = Lib.decDigits b) : a = b := by
  have := congrArg val h
  rwa [val_dec, val_dec] at this
theorem dec_digit : ∀ (u : Nat) (c : UInt8), c ∈ Lib.decDigits u → 48 ≤ c.toNat ∧ c.toNat ≤ 57 := by
  intro u
  induction u using Nat.strongRecOn with
  | _ u ih =>
    intro c hc
    rw [Lib.decDigits] at hc
    by_cases h : u < 10
    · rw [dif_pos h, List.mem_singleton] at hc
      subst hc
      rw [UInt8.toNat_ofNat']
      omega
    · rw [dif_neg h, List.mem_append, List.mem_singleton] at hc
      rcases hc with hc | rfl
      · exact ih (u / 10) (by omega) c hc
      · rw [UInt8.toNat_ofNat']
        omega
theorem split_digits : ∀ {l m x y : List UInt8} {c d : UInt8}, (∀ e ∈ l, 48 ≤ e.toNat ∧ e.toNat ≤ 57) → (∀ e ∈ m, 48 ≤ e.toNat ∧ e.toNat ≤ 57) → ¬ (48 ≤ c.toNat ∧ c.toNat ≤ 57) → ¬ (48 ≤ d.toNat ∧ d.toNat ≤ 57) → l ++ c :: x = m ++ d :: y → l = m ∧ c = d ∧ x = y
  | [], [], x, y, c, d, _, _, _, _, h => by
    simp only [List.nil_append, List.cons.injEq] at h
    exact ⟨rfl, h.1, h.2⟩
  | [], e :: m, x, y, c, d, _, hm, hc, _, h => by
    simp only [List.nil_append, List.cons_append, List.cons.injEq] at h
    rw [h.1] at hc
    exact absurd (hm e (List.mem_cons_self ..)) hc
  | e :: l, [], x, y, c, d, hl, _, _, hd, h => by
    simp only [List.nil_append, List.cons_append, List.cons.injEq] at h
    rw [← h.1] at hd
    exact absurd (hl e (List.mem_cons_self ..)) hd
  | e :: l, e' :: m, x, y, c, d, hl, hm, hc, hd, h => by
    simp only [List.cons_append, List.cons.injEq] at h
    obtain ⟨h1, h2⟩ := h
    obtain ⟨r1, r2, r3⟩ := split_digits (fun e he => hl e (List.mem_cons_of_mem _ he)) (fun e he => hm e (List.mem_cons_of_mem _ he)) hc hd h2
    exact ⟨by rw [h1, r1], r2, r3⟩
theorem dec_split {a b : Nat} {x y : List UInt8} {c d : UInt8} (hc : ¬ (48 ≤ c.toNat ∧ c.toNat ≤ 57)) (hd : ¬ (48 ≤ d.toNat ∧ d.toNat ≤ 57)) (h : Lib.decDigits a ++ c :: x = Lib.decDigits b ++ d :: y) : a = b ∧ c = d ∧ x = y := by
  obtain ⟨r1, r2, r3⟩ := split_digits (dec_digit a) (dec_digit b) hc hd h
  exact ⟨dec_inj r1, r2, r3⟩
theorem edgeT_split {t p t' p' : Nat} {x y : List UInt8} (h : edgeT t p ++ 32 :: x = edgeT t' p' ++ 32 :: y) : t = t' ∧ p = p' ∧ x = y := by
  unfold edgeT at h
  by_cases h1 : t = 0 <;> by_cases h2 : t' = 0
  · rw [if_pos h1, if_pos h2, List.append_nil, List.append_nil] at h
    obtain ⟨r1, r2, r3⟩ := dec_split (by decide) (by decide) h
    exact ⟨by omega, r1, r3⟩
  · rw [if_pos h1, if_neg h2, List.append_nil, List.append_assoc, List.cons_append] at h
    obtain ⟨r1, r2, r3⟩ := dec_split (by decide) (by decide) h
    exact absurd r2 (by decide)
  · rw [if_neg h1, if_pos h2, List.append_nil, List.append_assoc, List.cons_append] at h
    obtain ⟨r1, r2, r3⟩ := dec_split (by decide) (by decide) h
    exact absurd r2 (by decide)
  · rw [if_neg h1, if_neg h2, List.append_assoc, List.cons_append, List.append_assoc, List.cons_append] at h
    obtain ⟨r1, r2, r3⟩ := dec_split (by decide) (by decide) h
    obtain ⟨r4, r5, r6⟩ := dec_split (by decide) (by decide) r3
    exact ⟨r4, r1, r6⟩
/-- the text of a record and its form tell the record -/
theorem text_inj {f t b lt lp ht hp t' b' lt' lp' ht' hp' : Nat} (h : textT f t b lt lp ht hp = textT f t' b' lt' lp' ht' hp') : t = t' ∧ b = b' ∧ lt = lt' ∧ lp = lp' ∧ ht = ht' ∧ hp = hp' := by
  unfold textT at h
  have h := List.append_cancel_left h
  simp only [List.cons.injEq, true_and] at h
  obtain ⟨r1, _, h⟩ := dec_split (by decide) (by decide) h
  obtain ⟨r2, _, h⟩ := dec_split (by decide) (by decide) h
  obtain ⟨r3, r4, h⟩ := edgeT_split h
  have h2 : edgeT ht hp ++ 32 :: [] = edgeT ht' hp' ++ 32 :: [] := by rw [h]
  obtain ⟨r5, r6, _⟩ := edgeT_split h2
  exact ⟨r1, r2, r3, r4, r5, r6⟩
theorem textT_len (f t b lt lp ht hp : Nat) (q2 : t ≤ 255) (q3 : b ≤ 255) (q4 : lt ≤ 255) (q5 : lp ≤ 4294967295) (q6 : ht ≤ 255) (q7 : hp ≤ 4294967295) : (textT f t b lt lp ht hp).length ≤ 200 := by
  unfold textT
  have l1 := nameL_len f
  have l2 := digs_len t (by omega)
  have l3 := digs_len b (by omega)
  have l4 := edgeT_len lt lp (by omega) (by omega)
  have l5 := edgeT_len ht hp (by omega) (by omega)
  simp only [List.length_append, List.length_cons]
  omega
/-- a record's numbers are natural ones -/
theorem Rec.nats {r : Rec} (h : r.Wf) : ∃ f t b lt lp ht hp : Nat, r = ⟨f, t, b, ⟨lt, lp⟩, ⟨ht, hp⟩⟩ ∧ f ≤ 255 ∧ t ≤ 255 ∧ b ≤ 255 ∧ lt ≤ 255 ∧ lp ≤ 4294967295 ∧ ht ≤ 255 ∧ hp ≤ 4294967295 := by
  obtain ⟨f, t, b, ⟨lt, lp⟩, ⟨ht, hp⟩⟩ := r
  obtain ⟨⟨r1, r2⟩, ⟨r3, r4⟩, ⟨r5, r6⟩, ⟨r7, r8, r9, r10⟩, ⟨r11, r12, r13, r14⟩⟩ := h
  simp only at *
  refine ⟨f.toNat, t.toNat, b.toNat, lt.toNat, lp.toNat, ht.toNat, hp.toNat, ?_, by omega, by omega, by omega, by omega, by omega, by omega, by omega⟩
  simp only [Rec.mk.injEq, Edg.mk.injEq]
  omega
set_option maxRecDepth 100000 in
set_option maxHeartbeats 4000000 in
theorem nright_walk (r : Rec) (n : Int) (w : World) (hr : r.Wf) (hn2 : n ≤ 9223372036854775807) (hP : Pow w) : Calls Tryd.prog 5 #[.agg r.cells.toArray, .int .i64 n] w fun e w' => e = .returned (.bool true) ∧ Below w.heap.size w w' := by
  obtain ⟨f, t, b, lt, lp, ht, hp, rfl, q1, q2, q3, q4, q5, q6, q7⟩ := Rec.nats hr
  obtain ⟨W0, hW0⟩ : ∃ W, W = w.alloc (.cells #[.int .u8 f, .int .u8 t, .int .u8 b, .int .u8 lt, .int .u32 lp, .int .u8 ht, .int .u32 hp] 27) := ⟨_, rfl⟩
  have hb0 : Below w.heap.size w W0 := by rw [hW0]; exact (Below.refl _ _).alloc (Nat.le_refl _) _
  have HK0 : Hid (Blk W0 w.heap.size 27 #[.int .u8 f, .int .u8 t, .int .u8 b, .int .u8 lt, .int .u32 lp, .int .u8 ht, .int .u32 hp]) := Lib.hid (by rw [hW0]; exact Blk.new w _ _)
  have C := fun W (hPW : Pow W) => And.intro (regrown_calls (W := W) (fun W' hW' => (right_any _ n W' hr hn2).mono fun _ _ ⟨he, hb⟩ => ⟨he, hW'.trans (hb.mono hW'.size)⟩)) (And.intro
    (regrown_calls (W := W) (fun W' hW' => (refRightR_any _ n W' hr hn2).mono fun _ _ ⟨he, hb⟩ => ⟨he, hW'.trans (hb.mono hW'.size)⟩)) (And.intro
    (regrown_calls (W := W) (fun W' hW' => (text_any f t b lt lp ht hp q1 q2 q3 q4 q5 q6 q7 W' (.inr (hPW.on hW'))).mono fun _ _ ⟨he, hb⟩ => ⟨he, hW'.trans (hb.mono hW'.size)⟩))
    (regrown_calls (W := W) (fun W' hW' => (rtext_any f t b lt lp ht hp q1 q2 q3 q4 q5 q6 q7 W').mono fun _ _ ⟨he, hb⟩ => ⟨he, hW'.trans (hb.mono hW'.size)⟩))))
  simp only [Rec.cells, txt] at C ⊢
  have hlen := textT_len f t b lt lp ht hp q2 q3 q4 q5 q6 q7
  generalize textT f t b lt lp ht hp = s at *
  generalize right _ n = x at *
  have HC := Lib.hid C
  have HB0 := Lib.hid hb0
  have HW0 := Lib.hid hW0
  have HP := Lib.hid (hP.on hb0)
  clear hr hW0 hb0 C hP
  go_enter Tryd.func5, Tryd.ntmps5
  go_wp2_with fail
  rw [← HW0.out]
  refine (nalive_any _).mono ?_
  rintro e w1 ⟨rfl, hb1⟩
  have HB1 := Lib.hid hb1
  go_wp2_with fail
  obtain ⟨c1, c2, c3, c4⟩ := HC.out w1 (HP.out.on HB1.out)
  have hkk := HK0.out.on0 HB1.out
  clear hb1
  have j0 : ∀ d os, (grow (redrawn w1 d) os).cell? ⟨w.heap.size, 0, none⟩ = some (.int .u8 (f : Nat)) := fun d os => cell_regrown (hkk.cell 0) d os
  have j1 : ∀ d os, (grow (redrawn w1 d) os).cell? ⟨w.heap.size, 1, none⟩ = some (.int .u8 (t : Nat)) := fun d os => cell_regrown (hkk.cell 1) d os
  have j2 : ∀ d os, (grow (redrawn w1 d) os).cell? ⟨w.heap.size, 2, none⟩ = some (.int .u8 (b : Nat)) := fun d os => cell_regrown (hkk.cell 2) d os
  have j3 : ∀ d os, (grow (redrawn w1 d) os).cell? ⟨w.heap.size, 3, none⟩ = some (.int .u8 (lt : Nat)) := fun d os => cell_regrown (hkk.cell 3) d os
  have j4 : ∀ d os, (grow (redrawn w1 d) os).cell? ⟨w.heap.size, 4, none⟩ = some (.int .u32 (lp : Nat)) := fun d os => cell_regrown (hkk.cell 4) d os
  have j5 : ∀ d os, (grow (redrawn w1 d) os).cell? ⟨w.heap.size, 5, none⟩ = some (.int .u8 (ht : Nat)) := fun d os => cell_regrown (hkk.cell 5) d os
  have j6 : ∀ d os, (grow (redrawn w1 d) os).cell? ⟨w.heap.size, 6, none⟩ = some (.int .u32 (hp : Nat)) := fun d os => cell_regrown (hkk.cell 6) d os
  clear hkk
  refine wp_region_quiet_below (by kernel_rfl) (by kernel_rfl) ?_
  repeat (first | go_big_quiet_step (first | with_reducible exact c1 _ _ | with_reducible exact c2 _ _ | with_reducible exact c3 _ _ | with_reducible exact c4 _ _ | fail) | quiet_step (first | with_reducible exact c1 _ _ | with_reducible exact c2 _ _ | with_reducible exact c3 _ _ | with_reducible exact c4 _ _ | fail))
  refine wpQuiet_nil ?_
  intro w2 hw'
  have hbel2 : Below w1.heap.size w1 w2 := regrown_below hw'
  clear hw' j0 j1 j2 j3 j4 j5 j6 c1 c2 c3 c4
  go_wp2_with fail
  go_ret
  exact ⟨rfl, HB0.out.trans ((HB1.out.trans (hbel2.mono HB1.out.size)).mono HB0.out.size)⟩
/-- two records as values -/
theorem eql_rec (f t b lt lp ht hp f' t' b' lt' lp' ht' hp' : Int) (w : World) (x : Bool) (hx : decide (f = f' ∧ t = t' ∧ b = b' ∧ lt = lt' ∧ lp = lp' ∧ ht = ht' ∧ hp = hp') = x) :
    (binOp .eql 27 (.agg #[.int .u8 f, .int .u8 t, .int .u8 b, .int .u8 lt, .int .u32 lp, .int .u8 ht, .int .u32 hp]) (.agg #[.int .u8 f', .int .u8 t', .int .u8 b', .int .u8 lt', .int .u32 lp', .int .u8 ht', .int .u32 hp'])).run Tryd.prog w = .ok (.bool x) w := by
  subst hx
  by_cases h0 : f = f'
  · subst h0
    by_cases h1 : t = t'
    · subst h1
      by_cases h2 : b = b'
      · subst h2
        by_cases h3 : lt = lt'
        · subst h3
          by_cases h4 : lp = lp'
          · subst h4
            by_cases h5 : ht = ht'
            · subst h5
              by_cases h6 : hp = hp'
              · subst h6
                rw [decide_eq_true ⟨rfl, rfl, rfl, rfl, rfl, rfl, rfl⟩]
                go_simp
              · rw [decide_eq_false (fun q => h6 q.2.2.2.2.2.2)]
                have e6 : (hp == hp') = false := by rw [beq_eq_false_iff_ne]; exact h6
                go_simp
            · rw [decide_eq_false (fun q => h5 q.2.2.2.2.2.1)]
              have e5 : (ht == ht') = false := by rw [beq_eq_false_iff_ne]; exact h5
              go_simp
          · rw [decide_eq_false (fun q => h4 q.2.2.2.2.1)]
            have e4 : (lp == lp') = false := by rw [beq_eq_false_iff_ne]; exact h4
            go_simp
        · rw [decide_eq_false (fun q => h3 q.2.2.2.1)]
          have e3 : (lt == lt') = false := by rw [beq_eq_false_iff_ne]; exact h3
          go_simp
      · rw [decide_eq_false (fun q => h2 q.2.2.1)]
        have e2 : (b == b') = false := by rw [beq_eq_false_iff_ne]; exact h2
        go_simp
    · rw [decide_eq_false (fun q => h1 q.2.1)]
      have e1 : (t == t') = false := by rw [beq_eq_false_iff_ne]; exact h1
      go_simp
  · rw [decide_eq_false (fun q => h0 q.1)]
    have e0 : (f == f') = false := by rw [beq_eq_false_iff_ne]; exact h0
    go_simp
set_option maxRecDepth 100000 in
set_option maxHeartbeats 8000000 in
theorem nhashes_walk (r r' : Rec) (w : World) (hr : r.Wf) (hr' : r'.Wf) (hP : Pow w) : Calls Tryd.prog 3 #[.agg r.cells.toArray, .agg r'.cells.toArray] w fun e w' => e = .returned (.bool true) ∧ Below w.heap.size w w' := by
  obtain ⟨f, t, b, lt, lp, ht, hp, rfl, q1, q2, q3, q4, q5, q6, q7⟩ := Rec.nats hr
  obtain ⟨f', t', b', lt', lp', ht', hp', rfl, q1', q2', q3', q4', q5', q6', q7'⟩ := Rec.nats hr'
  obtain ⟨W0, hW0⟩ : ∃ W, W = (w.alloc (.cells #[.int .u8 (f : Nat), .int .u8 (t : Nat), .int .u8 (b : Nat), .int .u8 (lt : Nat), .int .u32 (lp : Nat), .int .u8 (ht : Nat), .int .u32 (hp : Nat)] 27)).alloc (.cells #[.int .u8 (f' : Nat), .int .u8 (t' : Nat), .int .u8 (b' : Nat), .int .u8 (lt' : Nat), .int .u32 (lp' : Nat), .int .u8 (ht' : Nat), .int .u32 (hp' : Nat)] 27) := ⟨_, rfl⟩
  have hb0 : Below w.heap.size w W0 := by rw [hW0]; exact ((Below.refl _ _).alloc (Nat.le_refl _) _).alloc (by simp) _
  have HK0 : Hid (Blk W0 w.heap.size 27 #[.int .u8 (f : Nat), .int .u8 (t : Nat), .int .u8 (b : Nat), .int .u8 (lt : Nat), .int .u32 (lp : Nat), .int .u8 (ht : Nat), .int .u32 (hp : Nat)]) := Lib.hid (by rw [hW0]; exact (Blk.new w _ _).alloc _)
  have HK1 : Hid (Blk W0 (w.heap.size + 1) 27 #[.int .u8 (f' : Nat), .int .u8 (t' : Nat), .int .u8 (b' : Nat), .int .u8 (lt' : Nat), .int .u32 (lp' : Nat), .int .u8 (ht' : Nat), .int .u32 (hp' : Nat)]) := Lib.hid (by
    rw [hW0]
    have := Blk.new (w.alloc (.cells #[.int .u8 (f : Nat), .int .u8 (t : Nat), .int .u8 (b : Nat), .int .u8 (lt : Nat), .int .u32 (lp : Nat), .int .u8 (ht : Nat), .int .u32 (hp : Nat)] 27)) 27 #[.int .u8 (f' : Nat), .int .u8 (t' : Nat), .int .u8 (b' : Nat), .int .u8 (lt' : Nat), .int .u32 (lp' : Nat), .int .u8 (ht' : Nat), .int .u32 (hp' : Nat)]
    rwa [World.size_alloc] at this)
  have C := fun W (hPW : Pow W) => And.intro (regrown_calls (W := W) (fun W' hW' => (hash_any _ W' hr).mono fun _ _ ⟨he, hb⟩ => ⟨he, hW'.trans (hb.mono hW'.size)⟩)) (And.intro
    (regrown_calls (W := W) (fun W' hW' => (hash_any _ W' hr').mono fun _ _ ⟨he, hb⟩ => ⟨he, hW'.trans (hb.mono hW'.size)⟩)) (And.intro
    (regrown_calls (W := W) (fun W' hW' => (text_any f t b lt lp ht hp q1 q2 q3 q4 q5 q6 q7 W' (.inr (hPW.on hW'))).mono fun _ _ ⟨he, hb⟩ => ⟨he, hW'.trans (hb.mono hW'.size)⟩))
    (regrown_calls (W := W) (fun W' hW' => (text_any f' t' b' lt' lp' ht' hp' q1' q2' q3' q4' q5' q6' q7' W' (.inr (hPW.on hW'))).mono fun _ _ ⟨he, hb⟩ => ⟨he, hW'.trans (hb.mono hW'.size)⟩))))
  simp only [Rec.cells, txt] at C ⊢
  have hlen := textT_len f t b lt lp ht hp q2 q3 q4 q5 q6 q7
  have hlen' := textT_len f' t' b' lt' lp' ht' hp' q2' q3' q4' q5' q6' q7'
  have HB0 := Lib.hid hb0
  have HW0 := Lib.hid hW0
  have HP := Lib.hid (hP.on hb0)
  have hinj := fun h => text_inj (f := f) (t := t) (b := b) (lt := lt) (lp := lp) (ht := ht) (hp := hp) (t' := t') (b' := b') (lt' := lt') (lp' := lp') (ht' := ht') (hp' := hp') h
  have hw1 : W0.heap.size = w.heap.size + 2 := by rw [hW0]; simp
  clear hr hr' hW0 hb0 hP
  by_cases hsame : f = f' ∧ t = t' ∧ b = b' ∧ lt = lt' ∧ lp = lp' ∧ ht = ht' ∧ hp = hp'
  · obtain ⟨rfl, rfl, rfl, rfl, rfl, rfl, rfl⟩ := hsame
    have hEQ := fun W => eql_rec f t b lt lp ht hp f t b lt lp ht hp W true (by simp)
    generalize textT f t b lt lp ht hp = s at *
    generalize hashV _ = hv at *
    have HC := Lib.hid C
    have HWS := Lib.hid hw1
    clear C hinj hw1
    go_enter Tryd.func3, Tryd.ntmps3
    go_wp2_with fail
    rw [← HW0.out]
    refine (nalive_any _).mono ?_
    rintro e w1 ⟨rfl, hb1⟩
    have HB1 := Lib.hid hb1
    have hA := HK0.out.on0 hb1
    have hB := HK1.out.on0 hb1
    have hs1 := hb1.size
    have hs2 := HWS.out
    have hl0 : w.heap.size < w1.heap.size := by omega
    have hl1 : w.heap.size + 1 < w1.heap.size := by omega
    clear hb1 hs1 hs2
    have a0 : w1.cell? ⟨w.heap.size, 0, none⟩ = some (.int .u8 (f : Nat)) := hA.cell 0
    have a1 : w1.cell? ⟨w.heap.size, 1, none⟩ = some (.int .u8 (t : Nat)) := hA.cell 1
    have a2 : w1.cell? ⟨w.heap.size, 2, none⟩ = some (.int .u8 (b : Nat)) := hA.cell 2
    have a3 : w1.cell? ⟨w.heap.size, 3, none⟩ = some (.int .u8 (lt : Nat)) := hA.cell 3
    have a4 : w1.cell? ⟨w.heap.size, 4, none⟩ = some (.int .u32 (lp : Nat)) := hA.cell 4
    have a5 : w1.cell? ⟨w.heap.size, 5, none⟩ = some (.int .u8 (ht : Nat)) := hA.cell 5
    have a6 : w1.cell? ⟨w.heap.size, 6, none⟩ = some (.int .u32 (hp : Nat)) := hA.cell 6
    have b0 : w1.cell? ⟨w.heap.size + 1, 0, none⟩ = some (.int .u8 (f : Nat)) := hB.cell 0
    have b1 : w1.cell? ⟨w.heap.size + 1, 1, none⟩ = some (.int .u8 (t : Nat)) := hB.cell 1
    have b2 : w1.cell? ⟨w.heap.size + 1, 2, none⟩ = some (.int .u8 (b : Nat)) := hB.cell 2
    have b3 : w1.cell? ⟨w.heap.size + 1, 3, none⟩ = some (.int .u8 (lt : Nat)) := hB.cell 3
    have b4 : w1.cell? ⟨w.heap.size + 1, 4, none⟩ = some (.int .u32 (lp : Nat)) := hB.cell 4
    have b5 : w1.cell? ⟨w.heap.size + 1, 5, none⟩ = some (.int .u8 (ht : Nat)) := hB.cell 5
    have b6 : w1.cell? ⟨w.heap.size + 1, 6, none⟩ = some (.int .u32 (hp : Nat)) := hB.cell 6
    go_wp2_with fail
    clear a0 a1 a2 a3 a4 a5 a6 b0 b1 b2 b3 b4 b5 b6 hA hB
    obtain ⟨c1, c2, c3, c4⟩ := HC.out w1 (HP.out.on HB1.out)
    have j0 : ∀ d os, (grow (redrawn w1 d) os).cell? ⟨w.heap.size, 0, none⟩ = some (.int .u8 (f : Nat)) := fun d os => cell_regrown ((HK0.out.on0 HB1.out).cell 0) d os
    have j1 : ∀ d os, (grow (redrawn w1 d) os).cell? ⟨w.heap.size, 1, none⟩ = some (.int .u8 (t : Nat)) := fun d os => cell_regrown ((HK0.out.on0 HB1.out).cell 1) d os
    have j2 : ∀ d os, (grow (redrawn w1 d) os).cell? ⟨w.heap.size, 2, none⟩ = some (.int .u8 (b : Nat)) := fun d os => cell_regrown ((HK0.out.on0 HB1.out).cell 2) d os
    have j3 : ∀ d os, (grow (redrawn w1 d) os).cell? ⟨w.heap.size, 3, none⟩ = some (.int .u8 (lt : Nat)) := fun d os => cell_regrown ((HK0.out.on0 HB1.out).cell 3) d os
    have j4 : ∀ d os, (grow (redrawn w1 d) os).cell? ⟨w.heap.size, 4, none⟩ = some (.int .u32 (lp : Nat)) := fun d os => cell_regrown ((HK0.out.on0 HB1.out).cell 4) d os
    have j5 : ∀ d os, (grow (redrawn w1 d) os).cell? ⟨w.heap.size, 5, none⟩ = some (.int .u8 (ht : Nat)) := fun d os => cell_regrown ((HK0.out.on0 HB1.out).cell 5) d os
    have j6 : ∀ d os, (grow (redrawn w1 d) os).cell? ⟨w.heap.size, 6, none⟩ = some (.int .u32 (hp : Nat)) := fun d os => cell_regrown ((HK0.out.on0 HB1.out).cell 6) d os
    have k0 : ∀ d os, (grow (redrawn w1 d) os).cell? ⟨w.heap.size + 1, 0, none⟩ = some (.int .u8 (f : Nat)) := fun d os => cell_regrown ((HK1.out.on0 HB1.out).cell 0) d os
    have k1 : ∀ d os, (grow (redrawn w1 d) os).cell? ⟨w.heap.size + 1, 1, none⟩ = some (.int .u8 (t : Nat)) := fun d os => cell_regrown ((HK1.out.on0 HB1.out).cell 1) d os
    have k2 : ∀ d os, (grow (redrawn w1 d) os).cell? ⟨w.heap.size + 1, 2, none⟩ = some (.int .u8 (b : Nat)) := fun d os => cell_regrown ((HK1.out.on0 HB1.out).cell 2) d os
    have k3 : ∀ d os, (grow (redrawn w1 d) os).cell? ⟨w.heap.size + 1, 3, none⟩ = some (.int .u8 (lt : Nat)) := fun d os => cell_regrown ((HK1.out.on0 HB1.out).cell 3) d os
    have k4 : ∀ d os, (grow (redrawn w1 d) os).cell? ⟨w.heap.size + 1, 4, none⟩ = some (.int .u32 (lp : Nat)) := fun d os => cell_regrown ((HK1.out.on0 HB1.out).cell 4) d os
    have k5 : ∀ d os, (grow (redrawn w1 d) os).cell? ⟨w.heap.size + 1, 5, none⟩ = some (.int .u8 (ht : Nat)) := fun d os => cell_regrown ((HK1.out.on0 HB1.out).cell 5) d os
    have k6 : ∀ d os, (grow (redrawn w1 d) os).cell? ⟨w.heap.size + 1, 6, none⟩ = some (.int .u32 (hp : Nat)) := fun d os => cell_regrown ((HK1.out.on0 HB1.out).cell 6) d os
    refine wp_region_quiet_below (by kernel_rfl) (by kernel_rfl) ?_
    repeat (first | go_big_quiet_step (first | with_reducible exact c1 _ _ | with_reducible exact c2 _ _ | with_reducible exact c3 _ _ | with_reducible exact c4 _ _ | fail) | quiet_step (first | with_reducible exact c1 _ _ | with_reducible exact c2 _ _ | with_reducible exact c3 _ _ | with_reducible exact c4 _ _ | fail))
    refine wpQuiet_nil ?_
    intro w2 hw'
    have hbel2 : Below w1.heap.size w1 w2 := regrown_below hw'
    have HB2 := Lib.hid ((HB1.out).trans (hbel2.mono (HB1.out).size))
    clear hw' hbel2 j0 k0 j1 k1 j2 k2 j3 k3 j4 k4 j5 k5 j6 k6 c1 c2 c3 c4
    go_wp2_with fail
    obtain ⟨c1, c2, c3, c4⟩ := HC.out w2 (HP.out.on HB2.out)
    have j0 : ∀ d os, (grow (redrawn w2 d) os).cell? ⟨w.heap.size, 0, none⟩ = some (.int .u8 (f : Nat)) := fun d os => cell_regrown ((HK0.out.on0 HB2.out).cell 0) d os
    have j1 : ∀ d os, (grow (redrawn w2 d) os).cell? ⟨w.heap.size, 1, none⟩ = some (.int .u8 (t : Nat)) := fun d os => cell_regrown ((HK0.out.on0 HB2.out).cell 1) d os
    have j2 : ∀ d os, (grow (redrawn w2 d) os).cell? ⟨w.heap.size, 2, none⟩ = some (.int .u8 (b : Nat)) := fun d os => cell_regrown ((HK0.out.on0 HB2.out).cell 2) d os
    have j3 : ∀ d os, (grow (redrawn w2 d) os).cell? ⟨w.heap.size, 3, none⟩ = some (.int .u8 (lt : Nat)) := fun d os => cell_regrown ((HK0.out.on0 HB2.out).cell 3) d os
    have j4 : ∀ d os, (grow (redrawn w2 d) os).cell? ⟨w.heap.size, 4, none⟩ = some (.int .u32 (lp : Nat)) := fun d os => cell_regrown ((HK0.out.on0 HB2.out).cell 4) d os
    have j5 : ∀ d os, (grow (redrawn w2 d) os).cell? ⟨w.heap.size, 5, none⟩ = some (.int .u8 (ht : Nat)) := fun d os => cell_regrown ((HK0.out.on0 HB2.out).cell 5) d os
    have j6 : ∀ d os, (grow (redrawn w2 d) os).cell? ⟨w.heap.size, 6, none⟩ = some (.int .u32 (hp : Nat)) := fun d os => cell_regrown ((HK0.out.on0 HB2.out).cell 6) d os
    have k0 : ∀ d os, (grow (redrawn w2 d) os).cell? ⟨w.heap.size + 1, 0, none⟩ = some (.int .u8 (f : Nat)) := fun d os => cell_regrown ((HK1.out.on0 HB2.out).cell 0) d os
    have k1 : ∀ d os, (grow (redrawn w2 d) os).cell? ⟨w.heap.size + 1, 1, none⟩ = some (.int .u8 (t : Nat)) := fun d os => cell_regrown ((HK1.out.on0 HB2.out).cell 1) d os
    have k2 : ∀ d os, (grow (redrawn w2 d) os).cell? ⟨w.heap.size + 1, 2, none⟩ = some (.int .u8 (b : Nat)) := fun d os => cell_regrown ((HK1.out.on0 HB2.out).cell 2) d os
    have k3 : ∀ d os, (grow (redrawn w2 d) os).cell? ⟨w.heap.size + 1, 3, none⟩ = some (.int .u8 (lt : Nat)) := fun d os => cell_regrown ((HK1.out.on0 HB2.out).cell 3) d os
    have k4 : ∀ d os, (grow (redrawn w2 d) os).cell? ⟨w.heap.size + 1, 4, none⟩ = some (.int .u32 (lp : Nat)) := fun d os => cell_regrown ((HK1.out.on0 HB2.out).cell 4) d os
    have k5 : ∀ d os, (grow (redrawn w2 d) os).cell? ⟨w.heap.size + 1, 5, none⟩ = some (.int .u8 (ht : Nat)) := fun d os => cell_regrown ((HK1.out.on0 HB2.out).cell 5) d os
    have k6 : ∀ d os, (grow (redrawn w2 d) os).cell? ⟨w.heap.size + 1, 6, none⟩ = some (.int .u32 (hp : Nat)) := fun d os => cell_regrown ((HK1.out.on0 HB2.out).cell 6) d os
    refine wp_region_quiet_below (by kernel_rfl) (by kernel_rfl) ?_
    repeat (first | go_big_quiet_step (first | with_reducible exact c1 _ _ | with_reducible exact c2 _ _ | with_reducible exact c3 _ _ | with_reducible exact c4 _ _ | fail) | quiet_step (first | with_reducible exact c1 _ _ | with_reducible exact c2 _ _ | with_reducible exact c3 _ _ | with_reducible exact c4 _ _ | fail))
    refine wpQuiet_nil ?_
    intro w3 hw'
    have hbel3 : Below w2.heap.size w2 w3 := regrown_below hw'
    have HB3 := Lib.hid ((HB2.out).trans (hbel3.mono (HB2.out).size))
    clear hw' hbel3 j0 k0 j1 k1 j2 k2 j3 k3 j4 k4 j5 k5 j6 k6 c1 c2 c3 c4
    go_wp2_with fail
    go_ret
    exact ⟨rfl, HB0.out.trans (HB3.out.mono HB0.out.size)⟩
  · have hEQ := fun W => eql_rec f t b lt lp ht hp f' t' b' lt' lp' ht' hp' W false (by rw [decide_eq_false_iff_not]; omega)
    have hdif : (textT f t b lt lp ht hp == textT f' t' b' lt' lp' ht' hp') = false ∨ ((textT f t b lt lp ht hp == textT f' t' b' lt' lp' ht' hp') = true ∧ ((f : Int) == (f' : Int)) = false) := by
      by_cases hf : f = f'
      · subst hf
        left
        rw [beq_eq_false_iff_ne]
        intro h
        have := hinj h
        omega
      · by_cases h : textT f t b lt lp ht hp = textT f' t' b' lt' lp' ht' hp'
        · right
          exact ⟨by rw [beq_iff_eq]; exact h, by rw [beq_eq_false_iff_ne]; omega⟩
        · left
          rw [beq_eq_false_iff_ne]
          exact h
    generalize textT f t b lt lp ht hp = s at *
    generalize textT f' t' b' lt' lp' ht' hp' = s' at *
    generalize hashV _ = hv at *
    generalize hashV _ = hv' at *
    have HC := Lib.hid C
    have HWS := Lib.hid hw1
    clear C hinj hsame hw1
    rcases hdif with hd | ⟨hd, hd2⟩
    · go_enter Tryd.func3, Tryd.ntmps3
      go_wp2_with fail
      rw [← HW0.out]
      refine (nalive_any _).mono ?_
      rintro e w1 ⟨rfl, hb1⟩
      have HB1 := Lib.hid hb1
      have hA := HK0.out.on0 hb1
      have hB := HK1.out.on0 hb1
      have hs1 := hb1.size
      have hs2 := HWS.out
      have hl0 : w.heap.size < w1.heap.size := by omega
      have hl1 : w.heap.size + 1 < w1.heap.size := by omega
      clear hb1 hs1 hs2
      have a0 : w1.cell? ⟨w.heap.size, 0, none⟩ = some (.int .u8 (f : Nat)) := hA.cell 0
      have a1 : w1.cell? ⟨w.heap.size, 1, none⟩ = some (.int .u8 (t : Nat)) := hA.cell 1
      have a2 : w1.cell? ⟨w.heap.size, 2, none⟩ = some (.int .u8 (b : Nat)) := hA.cell 2
      have a3 : w1.cell? ⟨w.heap.size, 3, none⟩ = some (.int .u8 (lt : Nat)) := hA.cell 3
      have a4 : w1.cell? ⟨w.heap.size, 4, none⟩ = some (.int .u32 (lp : Nat)) := hA.cell 4
      have a5 : w1.cell? ⟨w.heap.size, 5, none⟩ = some (.int .u8 (ht : Nat)) := hA.cell 5
      have a6 : w1.cell? ⟨w.heap.size, 6, none⟩ = some (.int .u32 (hp : Nat)) := hA.cell 6
      have b0 : w1.cell? ⟨w.heap.size + 1, 0, none⟩ = some (.int .u8 (f' : Nat)) := hB.cell 0
      have b1 : w1.cell? ⟨w.heap.size + 1, 1, none⟩ = some (.int .u8 (t' : Nat)) := hB.cell 1
      have b2 : w1.cell? ⟨w.heap.size + 1, 2, none⟩ = some (.int .u8 (b' : Nat)) := hB.cell 2
      have b3 : w1.cell? ⟨w.heap.size + 1, 3, none⟩ = some (.int .u8 (lt' : Nat)) := hB.cell 3
      have b4 : w1.cell? ⟨w.heap.size + 1, 4, none⟩ = some (.int .u32 (lp' : Nat)) := hB.cell 4
      have b5 : w1.cell? ⟨w.heap.size + 1, 5, none⟩ = some (.int .u8 (ht' : Nat)) := hB.cell 5
      have b6 : w1.cell? ⟨w.heap.size + 1, 6, none⟩ = some (.int .u32 (hp' : Nat)) := hB.cell 6
      go_wp2_with fail
      clear a0 a1 a2 a3 a4 a5 a6 b0 b1 b2 b3 b4 b5 b6 hA hB
      obtain ⟨c1, c2, c3, c4⟩ := HC.out w1 (HP.out.on HB1.out)
      have j0 : ∀ d os, (grow (redrawn w1 d) os).cell? ⟨w.heap.size, 0, none⟩ = some (.int .u8 (f : Nat)) := fun d os => cell_regrown ((HK0.out.on0 HB1.out).cell 0) d os
      have j1 : ∀ d os, (grow (redrawn w1 d) os).cell? ⟨w.heap.size, 1, none⟩ = some (.int .u8 (t : Nat)) := fun d os => cell_regrown ((HK0.out.on0 HB1.out).cell 1) d os
      have j2 : ∀ d os, (grow (redrawn w1 d) os).cell? ⟨w.heap.size, 2, none⟩ = some (.int .u8 (b : Nat)) := fun d os => cell_regrown ((HK0.out.on0 HB1.out).cell 2) d os
      have j3 : ∀ d os, (grow (redrawn w1 d) os).cell? ⟨w.heap.size, 3, none⟩ = some (.int .u8 (lt : Nat)) := fun d os => cell_regrown ((HK0.out.on0 HB1.out).cell 3) d os
      have j4 : ∀ d os, (grow (redrawn w1 d) os).cell? ⟨w.heap.size, 4, none⟩ = some (.int .u32 (lp : Nat)) := fun d os => cell_regrown ((HK0.out.on0 HB1.out).cell 4) d os
      have j5 : ∀ d os, (grow (redrawn w1 d) os).cell? ⟨w.heap.size, 5, none⟩ = some (.int .u8 (ht : Nat)) := fun d os => cell_regrown ((HK0.out.on0 HB1.out).cell 5) d os
      have j6 : ∀ d os, (grow (redrawn w1 d) os).cell? ⟨w.heap.size, 6, none⟩ = some (.int .u32 (hp : Nat)) := fun d os => cell_regrown ((HK0.out.on0 HB1.out).cell 6) d os
      have k0 : ∀ d os, (grow (redrawn w1 d) os).cell? ⟨w.heap.size + 1, 0, none⟩ = some (.int .u8 (f' : Nat)) := fun d os => cell_regrown ((HK1.out.on0 HB1.out).cell 0) d os
      have k1 : ∀ d os, (grow (redrawn w1 d) os).cell? ⟨w.heap.size + 1, 1, none⟩ = some (.int .u8 (t' : Nat)) := fun d os => cell_regrown ((HK1.out.on0 HB1.out).cell 1) d os
      have k2 : ∀ d os, (grow (redrawn w1 d) os).cell? ⟨w.heap.size + 1, 2, none⟩ = some (.int .u8 (b' : Nat)) := fun d os => cell_regrown ((HK1.out.on0 HB1.out).cell 2) d os
      have k3 : ∀ d os, (grow (redrawn w1 d) os).cell? ⟨w.heap.size + 1, 3, none⟩ = some (.int .u8 (lt' : Nat)) := fun d os => cell_regrown ((HK1.out.on0 HB1.out).cell 3) d os
      have k4 : ∀ d os, (grow (redrawn w1 d) os).cell? ⟨w.heap.size + 1, 4, none⟩ = some (.int .u32 (lp' : Nat)) := fun d os => cell_regrown ((HK1.out.on0 HB1.out).cell 4) d os
      have k5 : ∀ d os, (grow (redrawn w1 d) os).cell? ⟨w.heap.size + 1, 5, none⟩ = some (.int .u8 (ht' : Nat)) := fun d os => cell_regrown ((HK1.out.on0 HB1.out).cell 5) d os
      have k6 : ∀ d os, (grow (redrawn w1 d) os).cell? ⟨w.heap.size + 1, 6, none⟩ = some (.int .u32 (hp' : Nat)) := fun d os => cell_regrown ((HK1.out.on0 HB1.out).cell 6) d os
      refine wp_region_quiet_below (by kernel_rfl) (by kernel_rfl) ?_
      repeat (first | go_big_quiet_step (first | with_reducible exact c1 _ _ | with_reducible exact c2 _ _ | with_reducible exact c3 _ _ | with_reducible exact c4 _ _ | fail) | quiet_step (first | with_reducible exact c1 _ _ | with_reducible exact c2 _ _ | with_reducible exact c3 _ _ | with_reducible exact c4 _ _ | fail))
      refine wpQuiet_nil ?_
      intro w2 hw'
      have hbel2 : Below w1.heap.size w1 w2 := regrown_below hw'
      have HB2 := Lib.hid ((HB1.out).trans (hbel2.mono (HB1.out).size))
      clear hw' hbel2 j0 k0 j1 k1 j2 k2 j3 k3 j4 k4 j5 k5 j6 k6 c1 c2 c3 c4
      go_wp2_with fail
      obtain ⟨c1, c2, c3, c4⟩ := HC.out w2 (HP.out.on HB2.out)
      have j0 : ∀ d os, (grow (redrawn w2 d) os).cell? ⟨w.heap.size, 0, none⟩ = some (.int .u8 (f : Nat)) := fun d os => cell_regrown ((HK0.out.on0 HB2.out).cell 0) d os
      have j1 : ∀ d os, (grow (redrawn w2 d) os).cell? ⟨w.heap.size, 1, none⟩ = some (.int .u8 (t : Nat)) := fun d os => cell_regrown ((HK0.out.on0 HB2.out).cell 1) d os
      have j2 : ∀ d os, (grow (redrawn w2 d) os).cell? ⟨w.heap.size, 2, none⟩ = some (.int .u8 (b : Nat)) := fun d os => cell_regrown ((HK0.out.on0 HB2.out).cell 2) d os
      have j3 : ∀ d os, (grow (redrawn w2 d) os).cell? ⟨w.heap.size, 3, none⟩ = some (.int .u8 (lt : Nat)) := fun d os => cell_regrown ((HK0.out.on0 HB2.out).cell 3) d os
      have j4 : ∀ d os, (grow (redrawn w2 d) os).cell? ⟨w.heap.size, 4, none⟩ = some (.int .u32 (lp : Nat)) := fun d os => cell_regrown ((HK0.out.on0 HB2.out).cell 4) d os
      have j5 : ∀ d os, (grow (redrawn w2 d) os).cell? ⟨w.heap.size, 5, none⟩ = some (.int .u8 (ht : Nat)) := fun d os => cell_regrown ((HK0.out.on0 HB2.out).cell 5) d os
      have j6 : ∀ d os, (grow (redrawn w2 d) os).cell? ⟨w.heap.size, 6, none⟩ = some (.int .u32 (hp : Nat)) := fun d os => cell_regrown ((HK0.out.on0 HB2.out).cell 6) d os
      have k0 : ∀ d os, (grow (redrawn w2 d) os).cell? ⟨w.heap.size + 1, 0, none⟩ = some (.int .u8 (f' : Nat)) := fun d os => cell_regrown ((HK1.out.on0 HB2.out).cell 0) d os
      have k1 : ∀ d os, (grow (redrawn w2 d) os).cell? ⟨w.heap.size + 1, 1, none⟩ = some (.int .u8 (t' : Nat)) := fun d os => cell_regrown ((HK1.out.on0 HB2.out).cell 1) d os
      have k2 : ∀ d os, (grow (redrawn w2 d) os).cell? ⟨w.heap.size + 1, 2, none⟩ = some (.int .u8 (b' : Nat)) := fun d os => cell_regrown ((HK1.out.on0 HB2.out).cell 2) d os
      have k3 : ∀ d os, (grow (redrawn w2 d) os).cell? ⟨w.heap.size + 1, 3, none⟩ = some (.int .u8 (lt' : Nat)) := fun d os => cell_regrown ((HK1.out.on0 HB2.out).cell 3) d os
      have k4 : ∀ d os, (grow (redrawn w2 d) os).cell? ⟨w.heap.size + 1, 4, none⟩ = some (.int .u32 (lp' : Nat)) := fun d os => cell_regrown ((HK1.out.on0 HB2.out).cell 4) d os
      have k5 : ∀ d os, (grow (redrawn w2 d) os).cell? ⟨w.heap.size + 1, 5, none⟩ = some (.int .u8 (ht' : Nat)) := fun d os => cell_regrown ((HK1.out.on0 HB2.out).cell 5) d os
      have k6 : ∀ d os, (grow (redrawn w2 d) os).cell? ⟨w.heap.size + 1, 6, none⟩ = some (.int .u32 (hp' : Nat)) := fun d os => cell_regrown ((HK1.out.on0 HB2.out).cell 6) d os
      refine wp_region_quiet_below (by kernel_rfl) (by kernel_rfl) ?_
      repeat (first | go_big_quiet_step (first | with_reducible exact c1 _ _ | with_reducible exact c2 _ _ | with_reducible exact c3 _ _ | with_reducible exact c4 _ _ | fail) | quiet_step (first | with_reducible exact c1 _ _ | with_reducible exact c2 _ _ | with_reducible exact c3 _ _ | with_reducible exact c4 _ _ | fail))
      refine wpQuiet_nil ?_
      intro w3 hw'
      have hbel3 : Below w2.heap.size w2 w3 := regrown_below hw'
      have HB3 := Lib.hid ((HB2.out).trans (hbel3.mono (HB2.out).size))
      clear hw' hbel3 j0 k0 j1 k1 j2 k2 j3 k3 j4 k4 j5 k5 j6 k6 c1 c2 c3 c4
      go_wp2_with fail
      go_ret
      exact ⟨rfl, HB0.out.trans (HB3.out.mono HB0.out.size)⟩
    · go_enter Tryd.func3, Tryd.ntmps3
      go_wp2_with fail
      rw [← HW0.out]
      refine (nalive_any _).mono ?_
      rintro e w1 ⟨rfl, hb1⟩
      have HB1 := Lib.hid hb1
      have hA := HK0.out.on0 hb1
      have hB := HK1.out.on0 hb1
      have hs1 := hb1.size
      have hs2 := HWS.out
      have hl0 : w.heap.size < w1.heap.size := by omega
      have hl1 : w.heap.size + 1 < w1.heap.size := by omega
      clear hb1 hs1 hs2
      have a0 : w1.cell? ⟨w.heap.size, 0, none⟩ = some (.int .u8 (f : Nat)) := hA.cell 0
      have a1 : w1.cell? ⟨w.heap.size, 1, none⟩ = some (.int .u8 (t : Nat)) := hA.cell 1
      have a2 : w1.cell? ⟨w.heap.size, 2, none⟩ = some (.int .u8 (b : Nat)) := hA.cell 2
      have a3 : w1.cell? ⟨w.heap.size, 3, none⟩ = some (.int .u8 (lt : Nat)) := hA.cell 3
      have a4 : w1.cell? ⟨w.heap.size, 4, none⟩ = some (.int .u32 (lp : Nat)) := hA.cell 4
      have a5 : w1.cell? ⟨w.heap.size, 5, none⟩ = some (.int .u8 (ht : Nat)) := hA.cell 5
      have a6 : w1.cell? ⟨w.heap.size, 6, none⟩ = some (.int .u32 (hp : Nat)) := hA.cell 6
      have b0 : w1.cell? ⟨w.heap.size + 1, 0, none⟩ = some (.int .u8 (f' : Nat)) := hB.cell 0
      have b1 : w1.cell? ⟨w.heap.size + 1, 1, none⟩ = some (.int .u8 (t' : Nat)) := hB.cell 1
      have b2 : w1.cell? ⟨w.heap.size + 1, 2, none⟩ = some (.int .u8 (b' : Nat)) := hB.cell 2
      have b3 : w1.cell? ⟨w.heap.size + 1, 3, none⟩ = some (.int .u8 (lt' : Nat)) := hB.cell 3
      have b4 : w1.cell? ⟨w.heap.size + 1, 4, none⟩ = some (.int .u32 (lp' : Nat)) := hB.cell 4
      have b5 : w1.cell? ⟨w.heap.size + 1, 5, none⟩ = some (.int .u8 (ht' : Nat)) := hB.cell 5
      have b6 : w1.cell? ⟨w.heap.size + 1, 6, none⟩ = some (.int .u32 (hp' : Nat)) := hB.cell 6
      go_wp2_with fail
      clear a0 a1 a2 a3 a4 a5 a6 b0 b1 b2 b3 b4 b5 b6 hA hB
      obtain ⟨c1, c2, c3, c4⟩ := HC.out w1 (HP.out.on HB1.out)
      have j0 : ∀ d os, (grow (redrawn w1 d) os).cell? ⟨w.heap.size, 0, none⟩ = some (.int .u8 (f : Nat)) := fun d os => cell_regrown ((HK0.out.on0 HB1.out).cell 0) d os
      have j1 : ∀ d os, (grow (redrawn w1 d) os).cell? ⟨w.heap.size, 1, none⟩ = some (.int .u8 (t : Nat)) := fun d os => cell_regrown ((HK0.out.on0 HB1.out).cell 1) d os
      have j2 : ∀ d os, (grow (redrawn w1 d) os).cell? ⟨w.heap.size, 2, none⟩ = some (.int .u8 (b : Nat)) := fun d os => cell_regrown ((HK0.out.on0 HB1.out).cell 2) d os
      have j3 : ∀ d os, (grow (redrawn w1 d) os).cell? ⟨w.heap.size, 3, none⟩ = some (.int .u8 (lt : Nat)) := fun d os => cell_regrown ((HK0.out.on0 HB1.out).cell 3) d os
      have j4 : ∀ d os, (grow (redrawn w1 d) os).cell? ⟨w.heap.size, 4, none⟩ = some (.int .u32 (lp : Nat)) := fun d os => cell_regrown ((HK0.out.on0 HB1.out).cell 4) d os
      have j5 : ∀ d os, (grow (redrawn w1 d) os).cell? ⟨w.heap.size, 5, none⟩ = some (.int .u8 (ht : Nat)) := fun d os => cell_regrown ((HK0.out.on0 HB1.out).cell 5) d os
      have j6 : ∀ d os, (grow (redrawn w1 d) os).cell? ⟨w.heap.size, 6, none⟩ = some (.int .u32 (hp : Nat)) := fun d os => cell_regrown ((HK0.out.on0 HB1.out).cell 6) d os
      have k0 : ∀ d os, (grow (redrawn w1 d) os).cell? ⟨w.heap.size + 1, 0, none⟩ = some (.int .u8 (f' : Nat)) := fun d os => cell_regrown ((HK1.out.on0 HB1.out).cell 0) d os
      have k1 : ∀ d os, (grow (redrawn w1 d) os).cell? ⟨w.heap.size + 1, 1, none⟩ = some (.int .u8 (t' : Nat)) := fun d os => cell_regrown ((HK1.out.on0 HB1.out).cell 1) d os
      have k2 : ∀ d os, (grow (redrawn w1 d) os).cell? ⟨w.heap.size + 1, 2, none⟩ = some (.int .u8 (b' : Nat)) := fun d os => cell_regrown ((HK1.out.on0 HB1.out).cell 2) d os
      have k3 : ∀ d os, (grow (redrawn w1 d) os).cell? ⟨w.heap.size + 1, 3, none⟩ = some (.int .u8 (lt' : Nat)) := fun d os => cell_regrown ((HK1.out.on0 HB1.out).cell 3) d os
      have k4 : ∀ d os, (grow (redrawn w1 d) os).cell? ⟨w.heap.size + 1, 4, none⟩ = some (.int .u32 (lp' : Nat)) := fun d os => cell_regrown ((HK1.out.on0 HB1.out).cell 4) d os
      have k5 : ∀ d os, (grow (redrawn w1 d) os).cell? ⟨w.heap.size + 1, 5, none⟩ = some (.int .u8 (ht' : Nat)) := fun d os => cell_regrown ((HK1.out.on0 HB1.out).cell 5) d os
      have k6 : ∀ d os, (grow (redrawn w1 d) os).cell? ⟨w.heap.size + 1, 6, none⟩ = some (.int .u32 (hp' : Nat)) := fun d os => cell_regrown ((HK1.out.on0 HB1.out).cell 6) d os
      refine wp_region_quiet_below (by kernel_rfl) (by kernel_rfl) ?_
      repeat (first | go_big_quiet_step (first | with_reducible exact c1 _ _ | with_reducible exact c2 _ _ | with_reducible exact c3 _ _ | with_reducible exact c4 _ _ | fail) | quiet_step (first | with_reducible exact c1 _ _ | with_reducible exact c2 _ _ | with_reducible exact c3 _ _ | with_reducible exact c4 _ _ | fail))
      refine wpQuiet_nil ?_
      intro w2 hw'
      have hbel2 : Below w1.heap.size w1 w2 := regrown_below hw'
      have HB2 := Lib.hid ((HB1.out).trans (hbel2.mono (HB1.out).size))
      clear hw' hbel2 j0 k0 j1 k1 j2 k2 j3 k3 j4 k4 j5 k5 j6 k6 c1 c2 c3 c4
      go_wp2_with fail
      obtain ⟨c1, c2, c3, c4⟩ := HC.out w2 (HP.out.on HB2.out)
      have j0 : ∀ d os, (grow (redrawn w2 d) os).cell? ⟨w.heap.size, 0, none⟩ = some (.int .u8 (f : Nat)) := fun d os => cell_regrown ((HK0.out.on0 HB2.out).cell 0) d os
      have j1 : ∀ d os, (grow (redrawn w2 d) os).cell? ⟨w.heap.size, 1, none⟩ = some (.int .u8 (t : Nat)) := fun d os => cell_regrown ((HK0.out.on0 HB2.out).cell 1) d os
      have j2 : ∀ d os, (grow (redrawn w2 d) os).cell? ⟨w.heap.size, 2, none⟩ = some (.int .u8 (b : Nat)) := fun d os => cell_regrown ((HK0.out.on0 HB2.out).cell 2) d os
      have j3 : ∀ d os, (grow (redrawn w2 d) os).cell? ⟨w.heap.size, 3, none⟩ = some (.int .u8 (lt : Nat)) := fun d os => cell_regrown ((HK0.out.on0 HB2.out).cell 3) d os
      have j4 : ∀ d os, (grow (redrawn w2 d) os).cell? ⟨w.heap.size, 4, none⟩ = some (.int .u32 (lp : Nat)) := fun d os => cell_regrown ((HK0.out.on0 HB2.out).cell 4) d os
      have j5 : ∀ d os, (grow (redrawn w2 d) os).cell? ⟨w.heap.size, 5, none⟩ = some (.int .u8 (ht : Nat)) := fun d os => cell_regrown ((HK0.out.on0 HB2.out).cell 5) d os
      have j6 : ∀ d os, (grow (redrawn w2 d) os).cell? ⟨w.heap.size, 6, none⟩ = some (.int .u32 (hp : Nat)) := fun d os => cell_regrown ((HK0.out.on0 HB2.out).cell 6) d os
      have k0 : ∀ d os, (grow (redrawn w2 d) os).cell? ⟨w.heap.size + 1, 0, none⟩ = some (.int .u8 (f' : Nat)) := fun d os => cell_regrown ((HK1.out.on0 HB2.out).cell 0) d os
      have k1 : ∀ d os, (grow (redrawn w2 d) os).cell? ⟨w.heap.size + 1, 1, none⟩ = some (.int .u8 (t' : Nat)) := fun d os => cell_regrown ((HK1.out.on0 HB2.out).cell 1) d os
      have k2 : ∀ d os, (grow (redrawn w2 d) os).cell? ⟨w.heap.size + 1, 2, none⟩ = some (.int .u8 (b' : Nat)) := fun d os => cell_regrown ((HK1.out.on0 HB2.out).cell 2) d os
      have k3 : ∀ d os, (grow (redrawn w2 d) os).cell? ⟨w.heap.size + 1, 3, none⟩ = some (.int .u8 (lt' : Nat)) := fun d os => cell_regrown ((HK1.out.on0 HB2.out).cell 3) d os
      have k4 : ∀ d os, (grow (redrawn w2 d) os).cell? ⟨w.heap.size + 1, 4, none⟩ = some (.int .u32 (lp' : Nat)) := fun d os => cell_regrown ((HK1.out.on0 HB2.out).cell 4) d os
      have k5 : ∀ d os, (grow (redrawn w2 d) os).cell? ⟨w.heap.size + 1, 5, none⟩ = some (.int .u8 (ht' : Nat)) := fun d os => cell_regrown ((HK1.out.on0 HB2.out).cell 5) d os
      have k6 : ∀ d os, (grow (redrawn w2 d) os).cell? ⟨w.heap.size + 1, 6, none⟩ = some (.int .u32 (hp' : Nat)) := fun d os => cell_regrown ((HK1.out.on0 HB2.out).cell 6) d os
      refine wp_region_quiet_below (by kernel_rfl) (by kernel_rfl) ?_
      repeat (first | go_big_quiet_step (first | with_reducible exact c1 _ _ | with_reducible exact c2 _ _ | with_reducible exact c3 _ _ | with_reducible exact c4 _ _ | fail) | quiet_step (first | with_reducible exact c1 _ _ | with_reducible exact c2 _ _ | with_reducible exact c3 _ _ | with_reducible exact c4 _ _ | fail))
      refine wpQuiet_nil ?_
      intro w3 hw'
      have hbel3 : Below w2.heap.size w2 w3 := regrown_below hw'
      have HB3 := Lib.hid ((HB2.out).trans (hbel3.mono (HB2.out).size))
      clear hw' hbel3 j0 k0 j1 k1 j2 k2 j3 k3 j4 k4 j5 k5 j6 k6 c1 c2 c3 c4
      go_wp2_with fail
      go_ret
      exact ⟨rfl, HB0.out.trans (HB3.out.mono HB0.out.size)⟩
end Go.Proofs.YtfcklfpgjadfmaaDoor
