/- Indexes of records in memory; contracts of home, next, New. -/
import Derived.Test.YtfcklfpgjadfmaaArenaB
import Derived.Test.YtfcklfpgjadfmaaHash
namespace Go.Proofs.Ytfcklfpgjadfmaa
open Go.RowKit
set_option linter.unusedSimpArgs false
set_option linter.unusedVariables false

def slotEnc : Option (Rec × Nat) → List Value
  | some (r, id) => r.cells ++ [.int .u32 id, .bool true]
  | none => Rec.nil.cells ++ [.int .u32 0, .bool false]
theorem slotEnc_len (x : Option (Rec × Nat)) : (slotEnc x).length = 9 := by
  cases x with
  | none => rfl
  | some y => cases y; rfl
theorem slotEnc_one (x : Option (Rec × Nat)) : ∀ u ∈ slotEnc x, u.oneCell' = true := by
  cases x with
  | none => simp [slotEnc, Rec.cells, Value.oneCell']
  | some y => cases y; simp [slotEnc, Rec.cells, Value.oneCell']
def hshI (r : Rec) : Int := bits .xor .u64 (IntKind.u64.wrap (hashV r * 11400714819323198485)) (IntKind.u64.wrap (hashV r * 11400714819323198485) / 4294967296)
def hsh (r : Rec) : Nat := (hshI r).toNat
/-- the place d behind a key's own, of n -/
def plc (r : Rec) (n d : Nat) : Nat := (hsh r + d) % n
def nxt (i n : Nat) : Nat := (i + 1) % n
theorem plc_next (r : Rec) (n d : Nat) : nxt (plc r n d) n = plc r n (d + 1) := by unfold nxt plc; rw [Nat.mod_add_mod, Nat.add_assoc]
theorem plc_zero (r : Rec) (n : Nat) : (((hshI r).toNat % n : Nat) : Int) = (plc r n 0 : Nat) := by unfold plc hsh; rw [Nat.add_zero]
theorem hshI_range (r : Rec) : 0 ≤ hshI r ∧ hshI r ≤ 18446744073709551615 := u64_wrap_range _

theorem u64_and_nat' (a b : Nat) (ha : a < 18446744073709551616) (hb : b < 18446744073709551616) : bits .and .u64 (a : Int) (b : Int) = ((a &&& b : Nat) : Int) := by
  have hx : a &&& b < 2 ^ 64 := Nat.and_lt_two_pow _ (by omega)
  show IntKind.u64.wrap ((BitVec.ofInt 64 (a : Int) &&& BitVec.ofInt 64 (b : Int)).toNat : Int) = _
  rw [BitVec.toNat_and, ofInt_u64 a (by omega), ofInt_u64 b (by omega), IntKind.wrap_u64]
  omega
theorem mask_eq (x : Int) (n : Nat) (h0 : 0 ≤ x) (h1 : x ≤ 18446744073709551615) (hn : ∃ q, q ≤ 40 ∧ n = 2 ^ q) : wrap64 (bits .and .u64 x (IntKind.u64.wrap (wrap64 ((n : Int) - 1)))) = ((x.toNat % n : Nat) : Int) := by
  obtain ⟨q, hq, hn⟩ := hn
  have hp : 0 < 2 ^ q := Nat.two_pow_pos q
  have hb : 2 ^ q ≤ 2 ^ 40 := Nat.pow_le_pow_right (by omega) hq
  have e1 : IntKind.u64.wrap (wrap64 ((n : Int) - 1)) = ((n - 1 : Nat) : Int) := by
    rw [IntKind.wrap_u64]; unfold wrap64; omega
  obtain ⟨y, rfl⟩ := Int.eq_ofNat_of_zero_le h0
  rw [e1, u64_and_nat' y (n - 1) (by omega) (by omega), hn, Nat.and_two_pow_sub_one_eq_mod, Int.toNat_natCast]
  have : y % 2 ^ q < 2 ^ q := Nat.mod_lt _ hp
  unfold wrap64
  omega
theorem method_hash (n : Nat) (cs : Array Value) (w : World) : (method (n + 1) 73 (.agg cs) "Hash").run Try.prog w = .ok (107, .agg cs) w := by kernel_rfl
set_option maxRecDepth 100000 in
set_option maxHeartbeats 1000000 in
theorem home_any (A : Option Addr) (g n c : Nat) (k : Value) (r : Rec) (w : World) (hB : Blk w g 107 #[.slice A n c, k]) (hn : Hid (∃ q, q ≤ 40 ∧ n = 2 ^ q)) (hr : r.Wf) :
    Calls Try.prog 88 #[.pointer (some ⟨g, 0, none⟩), .agg r.cells.toArray] w fun e w' => e = .returned (.int .i64 ((plc r n 0 : Nat))) ∧ Below w.heap.size w w' := by
  have hlt := hB.lt
  have hc0 : w.cell? ⟨g, 0, none⟩ = some (.slice A n c) := hB.cell 0
  have HB := Lib.hid hB
  have HR := Lib.hid hr
  have hne : ¬ g = w.heap.size := by omega
  obtain ⟨f, t, b, ⟨lt, lp⟩, ⟨ht, hp⟩⟩ := r
  simp only [Rec.cells]
  clear hB hr
  have hm := method_hash
  go_enter Try.func88, Try.ntmps88
  go_wp2_with fail
  refine (hash_any ⟨f, t, b, ⟨lt, lp⟩, ⟨ht, hp⟩⟩ _ HR.out).mono ?_
  rintro e w1 ⟨rfl, hb1⟩
  have hc1 : w1.cell? ⟨g, 0, none⟩ = some (.slice A n c) := (hb1.cell (p := ⟨g, 0, none⟩) (by simp; omega)).trans ((World.cell?_alloc_lt _ _ ⟨g, 0, none⟩ hlt).trans hc0)
  go_wp2_with fail
  go_ret
  refine ⟨ret_int ((mask_eq _ _ (hshI_range ⟨f, t, b, ⟨lt, lp⟩, ⟨ht, hp⟩⟩).1 (hshI_range ⟨f, t, b, ⟨lt, lp⟩, ⟨ht, hp⟩⟩).2 hn.out).trans (plc_zero _ _)), ?_⟩
  exact ((Below.refl _ _).alloc (Nat.le_refl _) _).trans (hb1.mono (by simp))
theorem i64_and_mod (i n : Nat) (hi : i < 1099511627776) (hn : ∃ q, q ≤ 40 ∧ n = 2 ^ q) : bits .and .i64 ((i : Int) + 1) ((n : Int) - 1) = (((i + 1) % n : Nat) : Int) := by
  obtain ⟨q, hq, hn⟩ := hn
  have hp : 0 < 2 ^ q := Nat.two_pow_pos q
  have hb : 2 ^ q ≤ 2 ^ 40 := Nat.pow_le_pow_right (by omega) hq
  rw [show (i : Int) + 1 = ((i + 1 : Nat) : Int) by omega, show (n : Int) - 1 = ((n - 1 : Nat) : Int) by omega]
  have h1 := Nat.and_lt_two_pow (i + 1) (y := n - 1) (n := 63) (by omega)
  show IntKind.i64.wrap ((BitVec.ofInt 64 ((i + 1 : Nat) : Int) &&& BitVec.ofInt 64 ((n - 1 : Nat) : Int)).toNat : Int) = _
  rw [BitVec.toNat_and, ofInt_u64 (i + 1) (by omega), ofInt_u64 (n - 1) (by omega), IntWalk.i64_in _ (by omega), hn, Nat.and_two_pow_sub_one_eq_mod]
theorem next_any (A : Option Addr) (g n c i : Nat) (k : Value) (w : World) (hB : Blk w g 107 #[.slice A n c, k]) (hn : Hid (∃ q, q ≤ 40 ∧ n = 2 ^ q)) (hi : i < n) :
    Calls Try.prog 89 #[.pointer (some ⟨g, 0, none⟩), .int .i64 i] w fun e w' => e = .returned (.int .i64 (nxt i n : Nat)) ∧ w = w' := by
  have hc0 : w.cell? ⟨g, 0, none⟩ = some (.slice A n c) := hB.cell 0
  have hn40 : n ≤ 1099511627776 := by
    obtain ⟨q, hq, hn⟩ := hn.out
    have hb : 2 ^ q ≤ 2 ^ 40 := Nat.pow_le_pow_right (by omega) hq
    omega
  clear hB
  go_enter Try.func89, Try.ntmps89
  go_wp2_with fail
  go_ret
  exact ⟨ret_int (i64_and_mod i n (by omega) hn.out), rfl⟩

/-- block g is an index: its slots sl; F: its blocks -/
def SlotsAt (w : World) (F : List Nat) (g : Nat) (sl : List (Option (Rec × Nat))) (k : Nat) : Prop :=
  ∃ (A : Option Addr) (n c : Nat), Blk w g 107 #[.slice A n c, .int .i64 (k : Nat)] ∧ OwnS 9 slotEnc 121 w 0 (.slice A n c) sl ∧ sl.length = n ∧ F = g :: blk (.slice A n c) ∧ F.Nodup
theorem SlotsAt.chg {w w' : World} {F G : List Nat} {g k : Nat} {sl : List (Option (Rec × Nat))} (h : SlotsAt w F g sl k) (hb : Chg G w w') (hd : ∀ k ∈ F, ¬ k ∈ G) : SlotsAt w' F g sl k := by
  obtain ⟨A, n, c, h1, h2, h4, rfl, h7⟩ := h
  exact ⟨A, n, c, h1.chg hb (hd g (by simp)), h2.chg hb (fun k hk => hd k (by simp [hk])), h4, rfl, h7⟩
theorem SlotsAt.on {w w' : World} {F : List Nat} {g k : Nat} {sl : List (Option (Rec × Nat))} (h : SlotsAt w F g sl k) (hb : Below w.heap.size w w') : SlotsAt w' F g sl k := h.chg (G := []) (chg_of_below hb) (fun _ _ h => by cases h)
theorem SlotsAt.lt {w : World} {F : List Nat} {g k : Nat} {sl : List (Option (Rec × Nat))} (h : SlotsAt w F g sl k) : ∀ k ∈ F, k < w.heap.size := by
  obtain ⟨A, n, c, h1, h2, h4, rfl, h7⟩ := h
  intro k hk
  rcases List.mem_cons.1 hk with rfl | hk
  · exact h1.lt
  · exact OwnS.blk_lt h2 k hk
def SlotsOk (sl : List (Option (Rec × Nat))) : Prop := ∀ i k id, At sl i k id → k.Wf ∧ id ≤ 4294967295

theorem rec_ne {f t b0 lt lp ht hp f' t' b' lt' lp' ht' hp' : Int} (h : ¬ (f = f' ∧ t = t' ∧ b0 = b' ∧ lt = lt' ∧ lp = lp' ∧ ht = ht' ∧ hp = hp')) : ((⟨f, t, b0, ⟨lt, lp⟩, ⟨ht, hp⟩⟩ : Rec) != ⟨f', t', b', ⟨lt', lp'⟩, ⟨ht', hp'⟩⟩) = true := by
  rw [bne_iff_ne]
  intro e
  injection e with e1 e2 e3 e4 e5
  injection e4 with e6 e7
  injection e5 with e8 e9
  exact h ⟨e1, e2, e3, e6, e7, e8, e9⟩
theorem Blk.on' {w w' : World} {g : Nat} {t : TypeId} {cs : Array Value} (h : Blk w g t cs) (hb : Below w.heap.size w w') : Blk w' g t cs := h.chg (F := []) (chg_of_below hb) (by simp)
/-- two records as values -/
theorem neq_rec (a b : Rec) (w : World) (x : Bool) (hx : (a != b) = x) : (binOp .neq 73 (.agg a.cells.toArray) (.agg b.cells.toArray)).run Try.prog w = .ok (.bool x) w := by
  obtain ⟨f, t, b0, ⟨lt, lp⟩, ⟨ht, hp⟩⟩ := a
  obtain ⟨f', t', b', ⟨lt', lp'⟩, ⟨ht', hp'⟩⟩ := b
  subst hx
  simp only [Rec.cells]
  by_cases hall : f = f' ∧ t = t' ∧ b0 = b' ∧ lt = lt' ∧ lp = lp' ∧ ht = ht' ∧ hp = hp'
  · obtain ⟨rfl, rfl, rfl, rfl, rfl, rfl, rfl⟩ := hall
    rw [bne_self_eq_false]
    go_simp
  · rw [rec_ne hall]
    have H := Lib.hid hall
    clear hall
    go_simp
    intro q1 q2 q3 q4 q5 q6 q7
    exact H.out ⟨q1, q2, q3, q4, q5, q6, q7⟩

end Go.Proofs.Ytfcklfpgjadfmaa
