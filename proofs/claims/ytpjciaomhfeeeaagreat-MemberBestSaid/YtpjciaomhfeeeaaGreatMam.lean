/- What member.All hands back without a store or an order: nothing. Contract: the law's none. -/
import Derived.Test.YtpjciaomhfeeeaaGreatMaf
import Derived.Test.YtpjciaomhfeeeaaGreatMl
section
namespace Go.Proofs.YtpjciaomhfeeeaaGreat
open Go Go.RowKit Go.Shelf
set_option linter.unusedSimpArgs false
set_option linter.unusedVariables false

set_option maxRecDepth 100000 in
theorem mall_any (sp op : Option Addr) (f tag pos : Int) (w : World) : Calls Tryz.prog 18 #[.pointer sp, .pointer op, .int .u8 f, .agg #[.int .u8 tag, .int .u32 pos]] w fun e w' =>
    e = .returned (.func (.func 40) #[] #[.pointer (some ⟨w.heap.size, 0, none⟩), .pointer (some ⟨w.heap.size + 1, 0, none⟩), .pointer (some ⟨w.heap.size + 1 + 1, 0, none⟩), .pointer (some ⟨w.heap.size + 1 + 1 + 1, 0, none⟩)]) ∧
    w' = (((w.alloc (.cells #[.pointer sp] 28)).alloc (.cells #[.pointer op] 33)).alloc (.cells #[.int .u8 f] 32)).alloc (.cells #[.int .u8 tag, .int .u32 pos] 26) := by
  go_enter Tryz.func18, Tryz.ntmps18
  go_wp2_with fail
  go_ret
  exact ⟨rfl, rfl⟩
section
attribute [local go_sem] Oper.semAt_some
set_option maxRecDepth 100000 in
set_option maxHeartbeats 4000000 in
theorem mall_none (sp op : Option Addr) (h : sp = none ∨ op = none) (f tag pos : Int) (b : Nat) (w : World)
    (k0 : w.cell? ⟨b, 0, none⟩ = some (.pointer sp)) (k1 : w.cell? ⟨b + 1, 0, none⟩ = some (.pointer op)) (k2 : w.cell? ⟨b + 1 + 1, 0, none⟩ = some (.int .u8 f)) (k3 : w.cell? ⟨b + 1 + 1 + 1, 0, none⟩ = some (.int .u8 tag)) (k4 : w.cell? ⟨b + 1 + 1 + 1, 1, none⟩ = some (.int .u32 pos)) (hb : b + 3 < w.heap.size) :
    SeqRuns Tryz.prog 40 #[.pointer (some ⟨b, 0, none⟩), .pointer (some ⟨b + 1, 0, none⟩), .pointer (some ⟨b + 1 + 1, 0, none⟩), .pointer (some ⟨b + 1 + 1 + 1, 0, none⟩)] (fun x : Nat => #[Value.int .i64 (x : Int)]) (fun _ => False) [] w := by
  intro l I Ix Fp0 W hW hR hI hIx bI bIx hY h0
  have HS := Lib.hid (fun W => start_nil sp op h f tag pos W)
  unfold noRest at HS
  have q0 := (hW.cell (p := ⟨b, 0, none⟩) (by simp only; omega)).trans k0
  have q1 := (hW.cell (p := ⟨b + 1, 0, none⟩) (by simp only; omega)).trans k1
  have q2 := (hW.cell (p := ⟨b + 1 + 1, 0, none⟩) (by simp only; omega)).trans k2
  have q3 := (hW.cell (p := ⟨b + 1 + 1 + 1, 0, none⟩) (by simp only; omega)).trans k3
  have q4 := (hW.cell (p := ⟨b + 1 + 1 + 1, 1, none⟩) (by simp only; omega)).trans k4
  have H0 := Lib.hid h0
  have HI := Lib.hid hI
  clear hI hIx bI bIx hY h0 hR hW k0 k1 k2 k3 k4 h hb
  refine callsIn_of_wp Tryz.func40 rfl trivial ?_ rfl
  simp only [Tryz.ntmps40, List.size_toArray, List.length_cons, List.length_nil, Nat.reduceAdd, Nat.reduceSub, Array.replicate_succ, Array.replicate_zero, List.push_toArray, List.append_toArray, List.nil_append, List.cons_append]
  gi_wp2_with fail
  refine ⟨trivial, rfl, ?_⟩
  refine (callsIn_wide.2 (HS.out _)).mono ?_
  rintro e w1 ⟨rfl, hb1⟩
  have HB := Lib.hid hb1
  clear hb1 q0 q1 q2 q3 q4
  gi_wp2_with fail
  go_end0
  refine ⟨⟨_, rfl⟩, Fp0, .inl (chg_local HI.out H0.out ?_)⟩
  have hs := HB.out.size
  repeat (first | exact HB.out | refine Below.setCell ?_ (by simp only; omega) _ | refine Below.alloc ?_ (by omega) _)
end
end Go.Proofs.YtpjciaomhfeeeaaGreat
end

section
namespace Go.Proofs.YtpjciaomhfeeeaaGreat
open Go Go.RowKit Go.Shelf
set_option linter.unusedSimpArgs false
set_option linter.unusedVariables false

end Go.Proofs.YtpjciaomhfeeeaaGreat
end
