/- Contract: expr.Parse. -/
import Derived.Test.YtpjciaomhfeeeaaGreatDoorExK
import Derived.Test.YtpjciaomhfeeeaaGreatDoorExR
namespace Go.Proofs.YtpjciaomhfeeeaaGreatDoor
open Go.RowKit Go.Sort
set_option linter.unusedSimpArgs false
set_option linter.unusedVariables false

/-- what Parse leaves of an expression -/
def ExprIs (w : World) (g : Nat) (x : Ex) : Prop := ∃ v : TypeId × Value, Blk w g 59 #[ifV v] ∧ ExAt w w.heap.size x v
/-- what Parse tells of a text -/
def ParseOut (l : List UInt8) (w : World) (e : Ending) (w' : World) : Prop :=
  Below w.heap.size w w' ∧
  ((4096 < l.length ∧ e = .returned (.tuple #[.pointer none, .int .i64 0, .int .u8 12])) ∨
   (l.length ≤ 4096 ∧ ∃ c p : Nat, wrongGo [] 0 (lex l 0) = (p, c) ∧ (c = 10 ∨ c = 12) ∧ e = .returned (.tuple #[.pointer none, .int .i64 p, .int .u8 c])) ∨
   (l.length ≤ 4096 ∧ wrongGo [] 0 (lex l 0) = (0, 0) ∧ ∃ (L : List Tok) (z : Tok) (x : Ex) (g : Nat), lex l 0 = L ++ [z] ∧ z.kind = 122 ∧ (∀ t ∈ L, t.kind ≠ 122) ∧ (∀ t ∈ L, t.n ≤ 15 ∧ t.kind ≤ 127) ∧ RT L x ∧ x.Small ∧ x.Full ∧ L ≠ [] ∧
      e = .returned (.tuple #[.pointer (some ⟨g, 0, none⟩), .int .i64 0, .int .u8 0]) ∧ w.heap.size ≤ g ∧ ExprIs w' g x))
set_option maxRecDepth 100000 in
set_option maxHeartbeats 4000000 in
theorem parse_long (l : List UInt8) (w : World) (h : 4096 < l.length) (hm : l.length ≤ 9223372036854775807) :
    Calls Tryz.prog 7 #[.string ⟨l.toArray⟩] w (ParseOut l w) := by
  have hs := bytes_size l
  have hi : (4096 : Int) < (l.length : Int) := by omega
  go_enter Tryz.func7, Tryz.ntmps7
  go_wp2_with fail
  refine bodyPost_ret (v := .tuple #[.pointer none, .int .i64 0, .int .u8 12]) (by simp [results, Tryz.results7, go_sem, *]) rfl ⟨Below.refl _ _, .inl ⟨h, rfl⟩⟩
set_option maxRecDepth 100000 in
set_option maxHeartbeats 8000000 in
theorem parse_short (l : List UInt8) (w : World) (h : l.length ≤ 4096) (hV : PV w) :
    Calls Tryz.prog 7 #[.string ⟨l.toArray⟩] w (ParseOut l w) := by
  have hs := bytes_size l
  have hi : ¬ (4096 : Int) < (l.length : Int) := by omega
  have hb0 : Below w.heap.size w (w.alloc (.cells (psC l 0 ⟨0, 0, 0⟩ 0 0 0) 72)) := (Below.refl _ _).alloc (Nat.le_refl _) _
  have hp0 : PS (w.alloc (.cells (psC l 0 ⟨0, 0, 0⟩ 0 0 0) 72)) w.heap.size l 0 ⟨0, 0, 0⟩ 0 0 0 := Blk.new w _ _
  have hPV0 := hV.on hb0
  have HS := Lib.hid (step_any w.heap.size l 0 ⟨0, 0, 0⟩ 0 0 0 _ hp0 (Nat.zero_le _) (by omega) hPV0)
  have H0 := Lib.hid (And.intro hb0 (And.intro hp0 hPV0))
  clear hb0 hp0 hPV0 hV
  go_enter Tryz.func7, Tryz.ntmps7
  go_wp2_with fail
  refine HS.out.mono ?_
  rintro x w1 ⟨rfl, a1, t1, h1, h2, h3⟩
  obtain ⟨hb0, hp0, hPV0⟩ := H0.out
  have hL : lex l 0 = toks l a1 t1 := by have := next_toks h2; rw [List.drop_zero] at this; exact this
  have hst : St w1 w.heap.size l (lex l 0) 0 0 0 := ⟨⟨a1, t1, 0, h1, h2, hL⟩, hPV0.keep hp0.c0 h3, h⟩
  have hb1 : Below w.heap.size w w1 := ⟨h3.os, h3.tape, h3.output, by have := h3.size; simp at this; omega, fun k hk => by
    rw [h3.block k (by simp; omega) (by simp; omega)]
    exact Below.heap_alloc _ _ _ hk⟩
  have HLV := Lib.hid ((parser_all (lex l 0).length).2 w.heap.size l (lex l 0) 0 0 w1 rfl (by have := lex_len l 0; omega) hst)
  have HB1 := Lib.hid hb1
  clear hb0 hp0 hPV0 h1 h2 h3 hL hst hb1
  go_wp2_with fail
  refine HLV.out.mono ?_
  rintro x w2 ⟨v, rfl, k1, k2⟩
  have hb2 : Below w.heap.size w w2 := HB1.out.trans ⟨k1.os, k1.tape, k1.output, k1.size, fun k hk => k1.block k (Nat.lt_of_lt_of_le hk HB1.out.size) (by simp; omega)⟩
  have low : ∀ {w3 : World}, Chg [w.heap.size] w2 w3 → Below w.heap.size w w3 := fun {w3} j => hb2.trans ⟨j.os, j.tape, j.output, j.size, fun k hk => j.block k (Nat.lt_of_lt_of_le hk hb2.size) (by simp; omega)⟩
  have hwant : Calls Tryz.prog 23 #[.pointer (some ⟨w.heap.size, 0, none⟩), .int .u8 122] w2 fun e1 w3 => e1 = .returned (.tuple #[]) ∧ Below w.heap.size w w3 ∧ ∃ (bad e : Nat), w3.cell? ⟨w.heap.size, 6, none⟩ = some (.int .i64 bad) ∧ w3.cell? ⟨w.heap.size, 7, none⟩ = some (.int .u8 e) ∧
      ((e ≠ 0 ∧ wrongGo [] 0 (lex l 0) = (bad, e) ∧ (e = 10 ∨ e = 12)) ∨ (e = 0 ∧ wrongGo [] 0 (lex l 0) = (0, 0) ∧ ∃ (L : List Tok) (z : Tok) (x : Ex), lex l 0 = L ++ [z] ∧ z.kind = 122 ∧ (∀ t ∈ L, t.kind ≠ 122) ∧ (∀ t ∈ L, t.n ≤ 15 ∧ t.kind ≤ 127) ∧ RT L x ∧ x.Small ∧ x.Full ∧ L ≠ [] ∧ ExAt w3 w3.heap.size x v)) := by
    have cells : ∀ {w3 : World} {L : List Tok} {d : Nat} {bad e : Int}, St w3 w.heap.size l L d bad e → w3.cell? ⟨w.heap.size, 6, none⟩ = some (.int .i64 bad) ∧ w3.cell? ⟨w.heap.size, 7, none⟩ = some (.int .u8 e) := fun hs => by
      obtain ⟨⟨a, t, a0, hp, _, _⟩, _, _⟩ := hs
      exact ⟨hp.c6, hp.c7⟩
    rcases k2 with ⟨c, p, d', L', j1, j2, j3, j4, j5⟩ | ⟨x, L', j1, j2, j3, j4⟩
    · refine (want_err_st _ l L' d' p c 122 w2 j5 (by omega)).mono ?_
      rintro e1 w3 ⟨rfl, rfl⟩
      exact ⟨rfl, hb2, p, c, (cells j5).1, (cells j5).2, .inl ⟨by omega, (parse_err j1).1, j2⟩⟩
    · obtain ⟨t, M, rfl, _⟩ := j3.head
      by_cases ht : t.kind = 122
      · refine (want_end_st _ l t M 0 0 w2 j3 ht).mono ?_
        rintro e1 w3 ⟨rfl, q1, M', q2⟩
        obtain ⟨⟨L, z, hLz, hz, hLn⟩, htok⟩ := lex_ended l 0 _ (Nat.le_refl _)
        rw [hLz] at j1
        obtain ⟨r1, r2, r3, r4⟩ := parse_ok j1 hLn ht
        have hn : ∀ t ∈ L, t.n ≤ 15 ∧ t.kind ≤ 127 := fun t ht => ⟨(htok t (by rw [hLz]; simp [ht])).n, (htok t (by rw [hLz]; simp [ht])).kind⟩
        exact ⟨rfl, low q1, 0, 0, (cells q2).1, (cells q2).2, .inr ⟨rfl, by rw [hLz]; exact r1, L, z, x, hLz, hz, hLn, hn, r3, rt_small r3 (fun t ht => (hn t ht).1), run_full j1 _ _ rfl x (by simp), r4, j4.st j3 q1⟩⟩
      · refine (want_miss_st _ l t M 0 0 122 w2 j3 ht).mono ?_
        rintro e1 w3 ⟨rfl, q1, q2⟩
        exact ⟨rfl, low q1, t.at_, 10, (cells q2).1, (cells q2).2, .inl ⟨by omega, parse_tail j1 ht, .inl rfl⟩⟩
  have HW := Lib.hid hwant
  clear hwant low hb2 k1 k2
  go_wp2_with fail
  refine HW.out.mono ?_
  rintro x w3 ⟨rfl, hb, bad, e, c6, c7, hor⟩
  have HB := Lib.hid hb
  clear hb
  rcases hor with ⟨he, hw, hc⟩ | ⟨rfl, hw, L, z, x, q1, q2, q3, q4, q5, q6, q7, q8, q9⟩
  · have he2 : ((e : Int) != 0) = true := by simp; omega
    have HF := Lib.hid (And.intro hw hc)
    clear hw hc he
    go_wp2_with fail
    go_quiet (fail)
    go_wp2_with fail
    refine bodyPost_ret (v := .tuple #[.pointer none, .int .i64 (bad : Nat), .int .u8 (e : Nat)]) (by simp [results, Tryz.results7, go_sem, *]) rfl ⟨below_drewN HB.out _, .inr (.inl ⟨h, e, bad, HF.out.1, HF.out.2, rfl⟩)⟩
  · have hex : ExprIs (w3.alloc (.cells #[ifV v] 59)) w3.heap.size x := ⟨v, Blk.new _ _ _, (q9.on ((Below.refl _ _).alloc (Nat.le_refl _) _))⟩
    have FIN : Hid (ParseOut l w (.returned (.tuple #[.pointer (some ⟨w3.heap.size, 0, none⟩), .int .i64 0, .int .u8 0])) (w3.alloc (.cells #[ifV v] 59))) := Lib.hid ⟨HB.out.alloc HB.out.size _, .inr (.inr ⟨h, hw, L, z, x, w3.heap.size, q1, q2, q3, q4, q5, q6, q7, q8, rfl, HB.out.size, hex⟩)⟩
    clear hex hw q1 q2 q3 q4 q5 q6 q7 q8 q9
    go_wp2_with fail
    refine bodyPost_ret (v := .tuple #[.pointer (some ⟨w3.heap.size, 0, none⟩), .int .i64 0, .int .u8 0]) (by simp [results, Tryz.results7, go_sem, *]) rfl FIN.out
theorem parse_any (l : List UInt8) (w : World) (hm : l.length ≤ 9223372036854775807) (hV : PV w) : Calls Tryz.prog 7 #[.string ⟨l.toArray⟩] w (ParseOut l w) := by
  rcases Nat.lt_or_ge 4096 l.length with h | h
  · exact parse_long l w h hm
  · exact parse_short l w h hV
end Go.Proofs.YtpjciaomhfeeeaaGreatDoor
