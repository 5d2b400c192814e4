/- Contracts: set.Text of a set that may not be; set.Parse of the text of a set. -/
import Derived.Test.YtpbpjihdaghiaaaDoorSetPt
import Derived.Test.YtpbpjihdaghiaaaDoorSetTr
import Derived.Test.YtpbpjihdaghiaaaDoorSetSa
import Derived.Test.YtpbpjihdaghiaaaDoorSetRuP
namespace Go.Proofs.YtpbpjihdaghiaaaDoor
open Go.RowKit Go.Sort
set_option linter.unusedSimpArgs false
set_option linter.unusedVariables false

set_option maxRecDepth 100000 in
set_option maxHeartbeats 8000000 in
theorem stext_no (m : Int) (A : Option Addr) (len c : Nat) (ws : List Nat) (w : World) (h : SetArg w m A len c ws) (hr : srightB m ws = false) :
    Calls Tryd.prog 33 #[setA m A len c] w fun e w' => e = .returned (.tuple #[.string ⟨#[]⟩, .int .u8 1]) ∧ Below w.heap.size w w' := by
  have HR := Lib.hid (fun W' (h : SetArg W' m A len c ws) => sright_any m A len c ws W' h)
  rw [hr] at HR
  clear hr
  unfold setA at *
  obtain ⟨W0, hW0⟩ : ∃ W0, W0 = (w.alloc (.cells #[.int .i64 m, .slice A len c] 24)) := ⟨_, rfl⟩
  have hb0 : Below w.heap.size w W0 := by rw [hW0]; exact ((Below.refl _ _).alloc (by simp) (.cells #[.int .i64 m, .slice A len c] 24))
  have hv0 : SetVar W0 (w.heap.size) m A len c ws := by
    have := SetVar.new h
    rw [hW0]; exact this
  have HWW := Lib.hid hW0
  have HB := Lib.hid hb0
  have Va := Lib.hid hv0
  clear hb0 hv0 h 
  go_enter Tryd.func33, Tryd.ntmps33
  go_wp2_with fail
  rw [← HWW.out]
  clear hW0
  have kVa0 := Va.out.c0
  have kVa1 := Va.out.c1
  go_wp2_with fail
  refine (HR.out _ Va.out.arg).mono ?_
  rintro e x1 ⟨rfl, hb1⟩
  clear kVa0 kVa1
  have Va' := Lib.hid (Va.out.on hb1)
  clear Va
  have Va := Va'
  clear Va'
  have HB' := Lib.hid (HB.out.trans (hb1.mono HB.out.size))
  clear HB
  have HB := HB'
  clear HB'
  clear hb1
  go_wp2_with fail
  refine bodyPost_ret (v := .tuple #[.string ⟨#[]⟩, .int .u8 1]) ?_ rfl ⟨rfl, HB.out⟩
  · simp [results, Tryd.results33, go_sem, *]
theorem sparse_text (n : Nat) (ws : List Nat) (ok : SOk n ws) (s : ByteArray) (hl : s.data.toList = textS n ws) (hs : s.size < 4294967281) (w : World) (hV : PV w) : Calls Tryd.prog 34 #[.string s] w (TabAns w n (tabS n ws)) := by
  refine (sparse_any s hs w hV).mono ?_
  rintro e w' (⟨m, vs, ok2, e2, hr⟩ | ⟨hno, _⟩)
  · rw [hl] at e2
    obtain ⟨rfl, rfl⟩ := text_one ok2 ok e2
    exact (hr.ans ok2 (tabS_length _ _) (fun x hx => by rw [tabS_get, decide_eq_true hx]; rfl)).tab
  · exact absurd ⟨n, ws, ok, hl.symm⟩ hno
theorem sparse_yes (s : ByteArray) (hs : s.size < 4294967281) (w : World) (hV : PV w) (n : Nat) (ws : List Nat) (ok : SOk n ws) (e : textS n ws = s.data.toList) : Calls Tryd.prog 34 #[.string s] w (TabAns w n (tabS n ws)) := sparse_text n ws ok s e.symm hs w hV
theorem sparse_no (s : ByteArray) (hs : s.size < 4294967281) (w : World) (hV : PV w) (hno : ¬ IsText s.data.toList) : Calls Tryd.prog 34 #[.string s] w (SetErr w 10) := by
  refine (sparse_any s hs w hV).mono ?_
  rintro e w' (⟨m, vs, ok2, e2, hr⟩ | ⟨_, h⟩)
  · exact absurd ⟨m, vs, ok2, e2⟩ hno
  · exact h
theorem text_size {n : Nat} (hn : n ≤ 16) (ws : List Nat) : (textS n ws).length ≤ 20000 := by
  unfold textS
  have h1 := digitsN_le hn
  have h2 : (Lib.decDigits n).length ≤ 2 := by
    have := dec_form ⟨n, by omega⟩
    rw [show Lib.decDigits n = _ from this]
    split <;> simp
  rw [List.length_append, List.length_cons, hexT_length]
  omega
end Go.Proofs.YtpbpjihdaghiaaaDoor
