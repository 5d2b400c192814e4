/- Contracts: seq.none, Take, and what Take hands back. What Take hands back. Contract: seq.Collect. -/
import Derived.Test.YtpjciaomhfeeeaaGreatMag
section
namespace Go.Proofs.YtpjciaomhfeeeaaGreat
open Go Go.RowKit Go.Shelf
set_option linter.unusedSimpArgs false
set_option linter.unusedVariables false
attribute [local go_sem] Oper.semAt_some

theorem run_equalIn_func {P : Program} (w : World) (d : Nat) {t : TypeId} {ps rs : Array TypeId} {vd : Bool} (ht : P.underlying t = some (.func ps rs vd)) (f : Fn) (fi lb : Array Value) : (Op.equalIn (d + 1) t (.func f fi lb) .nilFunc).run P w = .ok false w := by
  simp [Op.equalIn, run_underlying ht]
theorem run_eql_func {P : Program} (w : World) {t : TypeId} {ps rs : Array TypeId} {vd : Bool} (ht : P.underlying t = some (.func ps rs vd)) (f : Fn) (fi lb : Array Value) : (binOp .eql t (.func f fi lb) .nilFunc).run P w = .ok (.bool false) w := by
  simp only [binOp]
  simp [Op.equal, Op.maxDepth, run_equalIn_func w 9999 ht]
theorem none_any (f : Fn) (lb : Array Value) (w : World) : Calls Tryz.prog 66 #[.func f #[] lb] w fun e w' => e = .returned (.func f #[] lb) ∧ w = w' := by
  have he := fun W => run_eql_func (P := Tryz.prog) W Tryz.underlying53 f #[] lb
  go_enter Tryz.func66, Tryz.ntmps66
  go_wp2_with fail
  go_ret
  exact ⟨rfl, rfl⟩
set_option maxHeartbeats 1000000 in
theorem take_any (v : Value) (n : Int) (w : World) (hv : v.oneCell' = true) : Calls Tryz.prog 39 #[v, .int .i64 n] w fun e w' => e = .returned (.func (.func 65) #[] #[.pointer (some ⟨w.heap.size + 1, 0, none⟩), .pointer (some ⟨w.heap.size, 0, none⟩)]) ∧ w' = (w.alloc (.cells #[v] 53)).alloc (.cells #[.int .i64 n] 3) := by
  go_enter Tryz.func39, Tryz.ntmps39
  go_wp2_with fail
  go_ret
  exact ⟨rfl, rfl⟩
end Go.Proofs.YtpjciaomhfeeeaaGreat
end

section
namespace Go.Proofs.YtpjciaomhfeeeaaGreat
open Go Go.RowKit Go.Shelf
set_option linter.unusedSimpArgs false
set_option linter.unusedVariables false
attribute [local go_sem] Oper.semAt_some

theorem take_pre {xs pre : List Nat} {x : Nat} {n : Nat} (h : pre ++ [x] <+: xs) (hn : pre.length < n) : pre ++ [x] <+: xs.take n := by
  obtain ⟨r, rfl⟩ := h
  rw [List.take_append, List.take_of_length_le (by simp; omega)]
  exact List.prefix_append _ _
theorem take_all {xs pre : List Nat} {x : Nat} (h : pre ++ [x] <+: xs) : pre ++ [x] = xs.take (pre.length + 1) := by
  obtain ⟨r, rfl⟩ := h
  rw [List.take_append, List.take_of_length_le (by simp)]
  simp
theorem Local.set_ {α : Type} {B : Nat} {I : List Nat → List α → World → Prop} (h : Local B I) {Fp : List Nat} {pre : List α} {W : World} {p : Addr} (hi : I Fp pre W) (hB : B ≤ p.block) (hl : ¬ p.block ∈ Fp) (u : Value) : I Fp pre (W.setCell p u) :=
  h Fp pre W _ hi rfl rfl rfl (by rw [World.size_setCell]; exact Nat.le_refl _) fun k hk hm => Below.heap_setCell W p u k (fun e => by subst e; rcases hm with h1 | h1 <;> first | exact hl h1 | omega)
set_option maxRecDepth 100000 in
set_option maxHeartbeats 8000000 in
theorem take_runs (n : Int) (hn : -9223372036854775808 ≤ n ∧ n ≤ 9223372036854775807) (f : Nat) (lb : Array Value) (eg : ∀ args w, (callFunc f args).run Tryz.prog w = .ok (.enter f args) w) (R : Nat → Prop) (xs : List Nat) (gn gs : Nat) (w : World)
    (h1 : Blk w gn 3 #[.int .i64 n]) (h2 : Blk w gs 53 #[.func (.func f) #[] lb]) (hs : SeqRuns Tryz.prog f lb (fun x : Nat => #[Value.int .i64 (x : Int)]) R xs w) (hRl : ∀ k, R k → k < w.heap.size) :
    SeqRuns Tryz.prog 65 #[.pointer (some ⟨gn, 0, none⟩), .pointer (some ⟨gs, 0, none⟩)] (fun x : Nat => #[Value.int .i64 (x : Int)]) (fun k => R k ∨ k = gn ∨ k = gs) (xs.take n.toNat) w := by
  intro l I Ix Fp0 W hW hR hI hIx bI bIx hY h0
  have hs' := hs.later hW
  have b1 := h1.onB hW
  have b2 := h2.onB hW
  have hsz := hW.size
  have HNO := Lib.hid (fun W => none_any (.func f) lb W)
  have k1 := b1.cell 0
  have k2 := b2.cell 0
  refine callsIn_of_wp_marks Tryz.func65 rfl trivial ?_ rfl
  simp only [Tryz.ntmps65, List.size_toArray, List.length_cons, List.length_nil, Nat.reduceAdd, Nat.reduceSub, Array.replicate_succ, Array.replicate_zero, List.push_toArray, List.append_toArray, List.nil_append, List.cons_append]
  by_cases hn1 : n < 1
  · have hl1 := b1.lt
    have hl2 := b2.lt
    have e0 : n.toNat = 0 := by omega
    rw [e0, List.take_zero]
    have HI1 : Hid (I Fp0 [] ((W.alloc (.cells #[.func (.yield l) #[] #[]] 104)).alloc (.cells #[.int .i64 n] 3))) := Lib.hid (hI.alloc _ (hI.alloc _ h0))
    clear hs' hY h0 hs e0
    gi_wp2_with fail
    exact ⟨_, results_none rfl _ _ _, ⟨_, rfl⟩, Fp0, .inl HI1.out⟩
  · have hl1 := b1.lt
    have hl2 := b2.lt
    obtain ⟨W2, hW2⟩ : ∃ W2, W2 = (W.alloc (.cells #[.func (.yield l) #[] #[]] 104)).alloc (.cells #[.int .i64 n] 3) := ⟨_, rfl⟩
    have hs2 : W2.heap.size = W.heap.size + 2 := by rw [hW2]; simp
    have hb2 : Below W.heap.size W W2 := by rw [hW2]; exact ((Below.refl _ _).alloc (Nat.le_refl _) _).alloc (by simp) _
    have kb : Blk W2 W.heap.size 104 #[.func (.yield l) #[] #[]] := by rw [hW2]; exact (Blk.new W _ _).alloc _
    have kl : Blk W2 (W.heap.size + 1) 3 #[.int .i64 n] := by
      rw [hW2]
      have := Blk.new (W.alloc (.cells #[.func (.yield l) #[] #[]] 104)) 3 #[.int .i64 n]
      rwa [World.size_alloc] at this
    have hi2 : I Fp0 [] W2 := chg_local hI h0 hb2
    have hF0 := bI _ _ _ h0
    have HWW := Lib.hid hW2
    have HSQ := Lib.hid (hs'.later hb2)
    have HY := Lib.hid hY
    clear hs hs' hY h0
    gi_wp2_with fail
    rw [← HWW.out]
    clear hW2
    refine ⟨trivial, rfl, ?_⟩
    refine (callsIn_wide.2 (HNO.out _)).mono ?_
    rintro e w' ⟨rfl, rfl⟩
    gi_wp2_with fail
    refine wpIn_rangeFunc_fp (gf := f) (lb := lb) rfl eg HSQ.out (fun _ => rfl)
      (fun Fp pre V => ∃ Fp1, Fp = (W.heap.size + 1) :: Fp1 ∧ I Fp1 pre V ∧ ¬ (W.heap.size + 1) ∈ Fp1 ∧ ¬ W.heap.size ∈ Fp1 ∧ Blk V W.heap.size 104 #[.func (.yield l) #[] #[]] ∧ Blk V (W.heap.size + 1) 3 #[.int .i64 (n - (pre.length : Nat))] ∧ (pre.length : Int) < n)
      (fun c Fp pre V => ∃ Fp1, Fp = (W.heap.size + 1) :: Fp1 ∧ W.heap.size + 1 < V.heap.size ∧ c = .ret ∧ ((pre = xs.take n.toNat ∧ I Fp1 pre V) ∨ (pre <+: xs.take n.toNat ∧ Ix Fp1 pre V)))
      ?_ ?_ ?_ ?_ ((W.heap.size + 1) :: Fp0) ?_ (fun k hk => by have := hRl k hk; omega) ?_
      (fun x => { tmps := #[.func (.yield l) #[] #[], .pointer (some ⟨gn, 0, none⟩), .pointer (some ⟨gs, 0, none⟩), .pointer (some ⟨W.heap.size, 0, none⟩), .pointer (some ⟨W.heap.size + 1, 0, none⟩), .int .i64 (x : Int), .int .i64 n, .int .i64 n, .bool false, .func (.func f) #[] lb, .func (.func f) #[] lb, .int .i64 (x : Int), undef, undef, undef, undef, undef, undef, undef, undef, undef, undef], defers := [] }) ?assign ?body ?done ?stop
    · rintro Fp pre V V' ⟨Fp1, rfl, hi, n1, n2, b3, b4, hlt⟩ e1 e2 e3 e4 e5
      exact ⟨Fp1, rfl, hI Fp1 pre V V' hi e1 e2 e3 e4 (fun k hk hm => e5 k hk (hm.imp (fun h => by omega) (fun h => by simp [h]))), n1, n2, (e5 _ b3.lt (.inl (by omega))).trans b3, (e5 _ b4.lt (.inr (by simp))).trans b4, hlt⟩
    · rintro c Fp pre V V' ⟨Fp1, rfl, hl, rfl, hh⟩ e1 e2 e3 e4 e5
      refine ⟨Fp1, rfl, by omega, rfl, ?_⟩
      rcases hh with ⟨hp, hi⟩ | ⟨hp, hi⟩
      · exact .inl ⟨hp, hI Fp1 pre V V' hi e1 e2 e3 e4 (fun k hk hm => e5 k hk (hm.imp (fun h => by omega) (fun h => by simp [h])))⟩
      · exact .inr ⟨hp, hIx Fp1 pre V V' hi e1 e2 e3 e4 (fun k hk hm => e5 k hk (hm.imp (fun h => by omega) (fun h => by simp [h])))⟩
    · rintro Fp pre V ⟨Fp1, rfl, hi, n1, n2, b3, b4, hlt⟩ k hk
      rcases List.mem_cons.1 hk with rfl | hk
      · exact b4.lt
      · exact bI _ _ _ hi k hk
    · rintro c Fp pre V ⟨Fp1, rfl, hl, rfl, hh⟩ k hk
      rcases List.mem_cons.1 hk with rfl | hk
      · exact hl
      · rcases hh with ⟨hp, hi⟩ | ⟨hp, hi⟩
        · exact bI _ _ _ hi k hk
        · exact bIx _ _ _ hi k hk
    · intro k hk
      rcases List.mem_cons.1 hk with rfl | hk
      · intro h; have := hRl _ h; omega
      · exact fun h => hR k hk (.inl h)
    · exact ⟨Fp0, rfl, hi2, fun h => by have := hF0 _ h; omega, fun h => by have := hF0 _ h; omega, kb, by rw [show n - (([] : List Nat).length : Int) = n by simp]; exact kl, by simp; omega⟩
    case assign =>
      intro l' x V K hK
      gi_wp2
      exact hK
    case body =>
      rintro l' Fp pre x V ⟨Fp1, rfl, hi, n1, n2, b3, b4, hlt⟩ hsV hpre
      have hpt := take_pre hpre (n := n.toNat) (by omega)
      have hpa := take_all hpre
      have q0 := b3.cell 0
      have q1 := b4.cell 0
      have z1 := b4.frozen 0
      have hlV := b4.lt
      have hi1 : I Fp1 pre (V.setCell ⟨W.heap.size + 1, 0, none⟩ (.int .i64 (n - (pre.length : Int) - 1))) := hI.set_ hi (by simp only; omega) n1 _
      have b31 := b3.far (p := ⟨W.heap.size + 1, 0, none⟩) (by simp only; omega) (.int .i64 (n - (pre.length : Int) - 1))
      have b41 := b4.set_ 0 (.int .i64 (n - (pre.length : Int) - 1))
      obtain ⟨fn, tmps, assign, body, hy, hRR⟩ := HY.out Fp1 pre x _ hi1 (by rw [World.size_setCell]; omega) hpt
      have HRR : Hid (RoundIn (Fence.wide.inRound l') 0 Tryz.prog l fn tmps assign body _ (RoundPost I Ix Fp1 (pre ++ [x]) _)) := Lib.hid hRR
      have H := Lib.hid (And.intro hi1 (And.intro b31 (And.intro b41 (And.intro hpt hpa))))
      clear hRR hi1 b31 b41 hi b3 b4 hpt hpa
      obtain ⟨q, hq⟩ : ∃ q : Int, q = (pre.length : Int) := ⟨_, rfl⟩
      rw [← hq] at q1 hy H HRR hlt
      have HQ := Lib.hid hq
      clear hq
      have hq0 : 0 ≤ q := by have := HQ.out; omega
      gi_wp2_with fail
      refine ⟨rfl, HRR.out.mono ?_⟩
      rintro e W3 ⟨Fp', hgr, hch, hcase⟩
      have hgV : Grows ((W.heap.size + 1) :: Fp1) ((W.heap.size + 1) :: Fp') V := fun k hk => by
        rcases List.mem_cons.1 hk with rfl | hk
        · left; simp
        · rcases hgr k hk with h | h
          · left; simp [h]
          · right; rwa [World.size_setCell] at h
      have hcV : Chg ((W.heap.size + 1) :: Fp1) V W3 := ((Chg.refl _ V).setCell (p := ⟨W.heap.size + 1, 0, none⟩) (.inl (by simp)) _).trans hch (fun k hk => .inl (by simp [hk]))
      have n1' : ¬ (W.heap.size + 1) ∈ Fp' := fun hm => by
        rcases hgr _ hm with h | h
        · exact n1 h
        · rw [World.size_setCell] at h; omega
      have n2' : ¬ W.heap.size ∈ Fp' := fun hm => by
        rcases hgr _ hm with h | h
        · exact n2 h
        · rw [World.size_setCell] at h; omega
      have b3' := H.out.2.1.chg hch n2
      have b4' := H.out.2.2.1.chg hch n1
      have hl3 : W.heap.size + 1 < W3.heap.size := b4'.lt
      have elen : (((pre ++ [x]).length : Nat) : Int) = q + 1 := by rw [List.length_append]; have := HQ.out; simp; omega
      rcases hcase with ⟨rfl, hi3⟩ | ⟨rfl, hi3⟩
      · by_cases hz : n - q - 1 = 0
        · have hzb : ((n - q - 1 : Int) == 0) = true := by rw [beq_iff_eq]; exact hz
          have q2 := b4'.cell 0
          have K := Lib.hid (And.intro hgV (And.intro hcV hi3))
          have e1 : n.toNat = pre.length + 1 := by have := HQ.out; omega
          have HE := Lib.hid e1
          clear hgV hcV hi3 b3' b4' hgr hch e1 hz hy q0 q1
          gi_wp2_with fail
          exact ⟨_, K.out.1, K.out.2.1, Fp', rfl, hl3, rfl, .inl ⟨by rw [HE.out]; exact H.out.2.2.2.2, K.out.2.2⟩⟩
        · have hzb : ((n - q - 1 : Int) == 0) = false := by rw [beq_eq_false_iff_ne]; exact hz
          have q2 := b4'.cell 0
          have K := Lib.hid (And.intro hgV (And.intro hcV (And.intro hi3 (And.intro b3' b4'))))
          clear hgV hcV hi3 b3' b4' hgr hch hy q0 q1
          gi_wp2_with fail
          exact ⟨_, K.out.1, K.out.2.1, Fp', rfl, K.out.2.2.1, n1', n2', K.out.2.2.2.1, by rw [elen, show n - (q + 1) = n - q - 1 by omega]; exact K.out.2.2.2.2, by rw [elen]; omega⟩
      · have K := Lib.hid (And.intro hgV (And.intro hcV hi3))
        clear hgV hcV hi3 b3' b4' hgr hch hy q0 q1
        gi_wp2_with fail
        exact ⟨_, K.out.1, K.out.2.1, Fp', rfl, hl3, rfl, .inr ⟨H.out.2.2.2.1, K.out.2.2⟩⟩
    case done =>
      rintro D Fp V hD nD ⟨Fp1, rfl, hi, n1, n2, b3, b4, hlt⟩ hK
      have e1 : xs.take n.toNat = xs := List.take_of_length_le (by omega)
      gi_wp2_with fail
      refine ⟨by simp, .inl ⟨_, _, rfl, run_takeDeferred hK, ?_⟩⟩
      exact ⟨_, results_none rfl _ _ _, ⟨_, rfl⟩, Fp1, .inl (by rw [e1]; exact hI.putObj _ hi (by omega) (fun h => nD (by simp [h])))⟩
    case stop =>
      rintro D c Fp pre V hD nD hpre ⟨Fp1, rfl, hl, rfl, hh⟩ hK
      gi_wp2_with fail
      refine ⟨by simp, .inl ⟨_, _, rfl, run_takeDeferred hK, ?_⟩⟩
      refine ⟨_, results_none rfl _ _ _, ⟨_, rfl⟩, Fp1, ?_⟩
      rcases hh with ⟨rfl, hi⟩ | ⟨hp, hi⟩
      · exact .inl (hI.putObj _ hi (by omega) (fun h => nD (by simp [h])))
      · exact .inr ⟨pre, hp, hIx.putObj _ hi (by omega) (fun h => nD (by simp [h]))⟩
end Go.Proofs.YtpjciaomhfeeeaaGreat
end

section
namespace Go.Proofs.YtpjciaomhfeeeaaGreat
open Go Go.RowKit Go.Shelf
set_option linter.unusedSimpArgs false
set_option linter.unusedVariables false
attribute [local go_sem] Oper.semAt_some

section
variable {F : Fence} {n : Nat} {ops : Array Oper} {rest : List Oper} {o : Oper} {a : Act} {Q : Exit → Act → World → Prop} {P : Program}
/-- 'append(s, x)' inside a fence -/
theorem wpIn_app1 {α : Type} {f : α → Value} {T E : TypeId} {i : TypeInfo} {z : Value} {bytes : Nat} (hT : P.underlying T = some (.slice E)) (hi : P.info? E = some i) (hz0 : i.zero = some z) (hz1 : i.size = 1) (hz2 : i.bytes = bytes)
    (hzc : z.cells.size = 1) (hbytes : bytes ≤ 4096)
    (W : World) (hg : o.guard = none) (s x : Operand) (hop : o.op = .call { callee := .builtin .append, args := #[s, x], argTypes := #[T, T] })
    (base : Nat) (v : Value) (xs : List α) (e : α) (c : Nat) (hone : (f e).oneCell' = true)
    (hown : OwnF f E W base v xs) (hbase : base ≤ W.heap.size) (hlen : xs.length ≤ 34359738366) {H : Nat} (hs : a.eval s = v) (hx : a.eval x = .slice (some ⟨H, 0, none⟩) 1 c) (hH : W.heap.size = H)
    (h : ∀ v' w', OwnF f E w' base v' (xs ++ [e]) → Below base W w' → W.heap.size < w'.heap.size → W.grownBy w' v.ownBlock → (∀ k, v'.ownBlock = some k → v.ownBlock = some k ∨ W.heap.size ≤ k) → wpListIn F n P ops Q rest (a.put o.dst v') w') :
    wpListIn F n P ops Q (o :: rest) a (W.alloc (.cells #[f e] E)) := by
  refine wpListIn_plain hg fun K hK => ?_
  subst hH
  obtain ⟨v', w', hrun, hown', hgr, _, hat⟩ := run_append_own_at (P := P) (W.alloc (.cells #[f e] E)) base T o.type E i z 1 bytes hT hi hz0 hz1 hz2 hzc (by decide) v xs.length (xs.map f) (World.ownsRow.alloc hown _)
    ⟨W.heap.size, 0, none⟩ 1 c [f e] rfl (fun j u hj => by
      match j, hj with
      | 0, hj => simp at hj; subst hj; rw [Addr.add_lit]; exact World.cell?_alloc_at _ _ _ _ rfl)
    (fun u hu => by simp at hu; subst hu; exact hone)
    (by unfold maxLen; omega) (by have : (xs.length + 1) * bytes ≤ 34359738367 * 4096 := Nat.mul_le_mul (by omega) hbytes; omega) (by simp; omega)
  unfold Oper.wpIn
  refine ⟨?_, ?_⟩
  · simp [Oper.about, hop, resolve, Target.leads, Sem.run_pure]
  · rw [Oper.semAt_plain F _ _ (by rw [hop]; intro c hc'; cases hc')]
    simp [execOp, hop, resolve, invoke, builtin, hs, hx, hrun, Result.andThen]
    have hb : Below base W w' := ((Below.refl _ _).alloc hbase _).grown hgr (by simp; omega) (fun k hk => (hown.lt k hk).1)
    have hs : W.heap.size < w'.heap.size := by have := hgr.size; simp at this; omega
    refine hK _ _ (h v' w' ?_ hb hs ⟨hgr.os, hgr.tape, hgr.output, by omega, fun k hk hne => ?_⟩ (fun k hk => ?_))
    · unfold OwnF
      simpa using hown'
    · rw [hgr.block k (by simp; omega) hne, Below.heap_alloc _ _ _ hk]
    · rcases hat with h | h
      · exact .inl (by rw [← h]; exact hk)
      · rw [h] at hk; injection hk with hk; simp at hk; right; omega
end
theorem local_chg {B : Nat} {Fp : List Nat} {V V' : World} (e1 : V'.os = V.os) (e2 : V'.tape = V.tape) (e3 : V'.output = V.output) (e4 : V.heap.size ≤ V'.heap.size) (e5 : ∀ k, k < V.heap.size → (k < B ∨ k ∈ Fp) → V'.heap[k]? = V.heap[k]?) :
    Chg ((List.range V.heap.size).filter fun k => decide (¬ (k < B ∨ k ∈ Fp))) V V' ∧ ∀ k, (k < B ∨ k ∈ Fp) → ¬ k ∈ ((List.range V.heap.size).filter fun k => decide (¬ (k < B ∨ k ∈ Fp))) :=
  ⟨⟨e1, e2, e3, e4, fun k hk hn => e5 k hk (by
    rcases Classical.em (k < B ∨ k ∈ Fp) with h | h
    · exact h
    · exact absurd (List.mem_filter.2 ⟨List.mem_range.2 hk, decide_eq_true h⟩) hn)⟩, fun k h hm => by
    have := (List.mem_filter.1 hm).2
    exact (of_decide_eq_true this) h⟩
theorem chg_grown {V W : World} {v : Value} (h : V.grownBy W v.ownBlock) : Chg (blk v) V W := ⟨h.os, h.tape, h.output, h.size, fun k hk hn => h.block k hk (fun e => hn (mem_blk.2 e.symm))⟩
theorem below_putObj {B D : Nat} {w V : World} (h : Below B w V) (hD : B ≤ D) (o : Obj) : Below B w (V.putObj D o) :=
  ⟨h.os, h.tape, h.output, by rw [World.putObj_size]; exact h.size, fun k hk => by rw [World.putObj_heap_other (by omega)]; exact h.block k hk⟩
def NI (x : Nat) : Value := .int .i64 (x : Int)
set_option maxRecDepth 100000 in
set_option maxHeartbeats 8000000 in
theorem collect_any (n : Int) (hn : -9223372036854775808 ≤ n ∧ n ≤ 9223372036854775807) (f : Nat) (lb : Array Value) (eg : ∀ args w, (callFunc f args).run Tryz.prog w = .ok (.enter f args) w) (R : Nat → Prop) (xs : List Nat) (w : World)
    (hs : SeqRuns Tryz.prog f lb (fun x : Nat => #[Value.int .i64 (x : Int)]) R xs w) (hRl : ∀ k, R k → k < w.heap.size) (hlen : (xs.take n.toNat).length ≤ 34359738366) :
    Calls Tryz.prog 17 #[.func (.func f) #[] lb, .int .i64 n] w fun e w' => ∃ v, e = .returned v ∧ OwnF NI 3 w' w.heap.size v (xs.take n.toNat) ∧ Below w.heap.size w w' := by
  obtain ⟨i0, hi, hz0, hz1, hz2⟩ := info_parts info_int
  have HTK := Lib.hid (fun W => take_any (.func (.func f) #[] lb) n W rfl)
  obtain ⟨ys, hys⟩ : ∃ ys, xs.take n.toNat = ys := ⟨_, rfl⟩
  rw [hys] at hlen ⊢
  have HYS := Lib.hid hys
  clear hys
  refine (callsIn_wide (n := 0)).1 ?_
  refine callsIn_of_wp_marks Tryz.func17 rfl trivial ?_ rfl
  simp only [Tryz.ntmps17, List.size_toArray, List.length_cons, List.length_nil, Nat.reduceAdd, Nat.reduceSub, Array.replicate_succ, Array.replicate_zero, List.push_toArray, List.append_toArray, List.nil_append, List.cons_append]
  gi_wp2_with fail
  refine ⟨trivial, rfl, ?_⟩
  refine (callsIn_wide.2 (HTK.out _)).mono ?_
  rintro e w' ⟨rfl, rfl⟩
  gi_wp2_with fail
  obtain ⟨W3, hW3⟩ : ∃ W3, W3 = ((w.alloc (.cells #[.slice none 0 0] 23)).alloc (.cells #[.func (.func f) #[] lb] 53)).alloc (.cells #[.int .i64 n] 3) := ⟨_, rfl⟩
  rw [← hW3]
  have hs3 : W3.heap.size = w.heap.size + 3 := by rw [hW3]; simp
  have hb3 : Below w.heap.size w W3 := by rw [hW3]; exact (((Below.refl _ _).alloc (Nat.le_refl _) _).alloc (by simp) _).alloc (by simp; omega) _
  have kl : Blk W3 w.heap.size 23 #[.slice none 0 0] := by rw [hW3]; exact ((Blk.new w _ _).alloc _).alloc _
  have ks : Blk W3 (w.heap.size + 1) 53 #[.func (.func f) #[] lb] := by
    rw [hW3]
    have := (Blk.new (w.alloc (.cells #[.slice none 0 0] 23)) 53 #[.func (.func f) #[] lb]).alloc (.cells #[.int .i64 n] 3)
    rwa [World.size_alloc] at this
  have kn : Blk W3 (w.heap.size + 1 + 1) 3 #[.int .i64 n] := by
    rw [hW3]
    have := Blk.new ((w.alloc (.cells #[.slice none 0 0] 23)).alloc (.cells #[.func (.func f) #[] lb] 53)) 3 #[.int .i64 n]
    rwa [World.size_alloc, World.size_alloc] at this
  have HSQ := Lib.hid (take_runs n hn f lb eg R xs _ _ W3 kn ks (hs.later hb3) (fun k hk => by have := hRl k hk; omega))
  clear hs hW3 kn ks
  rw [HYS.out] at HSQ
  refine wpIn_rangeFunc_fp (gf := 65) (lb := #[.pointer (some ⟨w.heap.size + 1 + 1, 0, none⟩), .pointer (some ⟨w.heap.size + 1, 0, none⟩)]) rfl (enters_of Tryz.func65 (by kernel_rfl) rfl) HSQ.out (fun _ => rfl)
    (fun Fp pre V => ∃ v, Fp = w.heap.size :: blk v ∧ Blk V w.heap.size 23 #[v] ∧ OwnF NI 3 V (w.heap.size + 3) v pre ∧ Below w.heap.size w V)
    (fun _ _ _ _ => False)
    ?_ (fun _ _ _ _ _ h => h.elim) ?_ (fun _ _ _ _ h => h.elim) [w.heap.size] ?_ ?_ ⟨.slice none 0 0, rfl, kl, OwnF.nil_, hb3⟩
    (fun x => { tmps := #[.func (.func f) #[] lb, .int .i64 n, undef, undef, .slice none 0 0, .pointer (some ⟨w.heap.size, 0, none⟩), .int .i64 (x : Int), .func (.func f) #[] lb, .int .i64 n, .func (.func 65) #[] #[.pointer (some ⟨w.heap.size + 1 + 1, 0, none⟩), .pointer (some ⟨w.heap.size + 1, 0, none⟩)], .int .i64 (x : Int), undef, undef, undef, undef, undef], defers := [] }) ?assign ?body ?done ?stop
  · rintro Fp pre V V' ⟨v, rfl, hb, ho, hbl⟩ e1 e2 e3 e4 e5
    obtain ⟨hc, hn⟩ := local_chg e1 e2 e3 e4 e5
    exact ⟨v, rfl, (e5 _ hb.lt (.inl (by omega))).trans hb, ho.chg hc (fun k hk => hn k (.inr (by simp [hk]))), ⟨e1.trans hbl.os, e2.trans hbl.tape, e3.trans hbl.output, Nat.le_trans hbl.size e4, fun k hk => (e5 k (Nat.lt_of_lt_of_le hk hbl.size) (.inl (by omega))).trans (hbl.block k hk)⟩⟩
  · rintro Fp pre V ⟨v, rfl, hb, ho, hbl⟩ k hk
    rcases List.mem_cons.1 hk with rfl | hk
    · exact hb.lt
    · exact ho.blk_lt k hk
  · intro k hk
    rw [List.mem_singleton] at hk
    subst hk
    rintro (h | h | h)
    · have := hRl _ h; omega
    · omega
    · omega
  · rintro k (h | h | h)
    · have := hRl _ h; omega
    · omega
    · omega
  case assign =>
    intro l' x V K hK
    gi_wp2
    exact hK
  case body =>
    rintro l' Fp pre x V ⟨v, rfl, hb, ho, hbl⟩ hsV hpre
    obtain ⟨A1, n1, c1, rfl, hn1, _⟩ := ho.form
    have hpl : pre.length ≤ 34359738366 := by have := hpre.length_le; simp at this; omega
    have q0 := hb.cell 0
    have hV3 : w.heap.size + 3 ≤ V.heap.size := by omega
    have hlt : w.heap.size < V.heap.size := by omega
    have HBK := Lib.hid (And.intro hb (And.intro ho hbl))
    clear hb ho hbl
    gi_wp2_with (gi_at_builtin; refine wpIn_app1 (f := NI) Tryz.underlying23 hi hz0 hz1 hz2 rfl (by omega) V rfl _ _ rfl (w.heap.size + 3) _ pre x 1 rfl HBK.out.2.1 hV3 hpl rfl rfl rfl ?_; intro v' w1 hown' hb1 hs1 hg1 hv1; have hb1' : Blk w1 w.heap.size 23 #[.slice A1 n1 c1] := (hg1.block _ hlt (fun e => by have := (HBK.out.2.1.lt _ e.symm).1; omega)).trans HBK.out.1; obtain ⟨A2, n2, c2, rfl, hn2, _⟩ := hown'.form; have q1 := hb1'.cell 0; have z1 := hb1'.frozen 0)
    have K := Lib.hid (And.intro hown' (And.intro hb1 (And.intro hs1 (And.intro hg1 (And.intro hv1 hb1')))))
    obtain ⟨hown', hb1, hs1, hg1, hv1, hb1'⟩ := K.out
    refine ⟨w.heap.size :: blk (.slice A2 n2 c2), fun k hk => ?_, ?_, .slice A2 n2 c2, rfl, hb1'.set_ 0 _, hown'.set_below (a := ⟨w.heap.size, 0, none⟩) (by simp only; omega) _, (HBK.out.2.2.trans ((hb1.mono (by omega)))).setCell (p := ⟨w.heap.size, 0, none⟩) (Nat.le_refl _) _⟩
    · rcases List.mem_cons.1 hk with rfl | hk
      · left; simp
      · rcases hv1 k (mem_blk.1 hk) with h | h
        · left; exact List.mem_cons_of_mem _ (mem_blk.2 h)
        · exact .inr h
    · exact ((chg_grown hg1).mono (fun k hk => .inl (List.mem_cons_of_mem _ hk))).setCell (p := ⟨w.heap.size, 0, none⟩) (.inl (by simp)) _
  case done =>
    rintro D Fp V hD nD ⟨v, rfl, hb, ho, hbl⟩ hK
    obtain ⟨A1, n1, c1, rfl, hn1, _⟩ := ho.form
    have q0 := hb.cell 0
    gi_wp2_with fail
    refine ⟨by simp, .inl ⟨_, _, rfl, run_takeDeferred hK, ?_⟩⟩
    have ho' := ho.mono (show w.heap.size ≤ w.heap.size + 3 by omega)
    have hn' : ∀ k ∈ blk (.slice A1 n1 c1), ¬ k ∈ [D] := fun k hk hm => nD (by rw [← List.mem_singleton.1 hm]; exact List.mem_cons_of_mem _ hk)
    exact ⟨_, results_tmp rfl _ _ _, _, rfl, ho'.chg (chg_putObj (F := [D]) (Chg.refl _ V) (.inl (by simp)) _) hn', below_putObj hbl (by omega) _⟩
  case stop =>
    rintro D c Fp pre V hD nD hpre h hK
    exact h.elim
end Go.Proofs.YtpjciaomhfeeeaaGreat
end
