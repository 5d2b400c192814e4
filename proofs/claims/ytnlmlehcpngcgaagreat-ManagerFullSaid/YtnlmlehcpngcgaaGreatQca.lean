/- Contracts: canon.may, canon.Size. -/
import Derived.Test.YtnlmlehcpngcgaaGreatQbf
namespace Go.Proofs.YtnlmlehcpngcgaaGreat
set_option linter.unusedSimpArgs false
set_option linter.unusedVariables false
section
open Go Go.RowKit
theorem isform_any (f:Int) (w:World):Calls Tryz.prog 39 #[.int .u8 f] w fun e w'=>e = .returned (.bool (decide (1≤f∧f≤5)))∧w=w':=by
 by_cases h1:1≤f
 ·by_cases h2:f≤5
  ·rw [decide_eq_true ⟨h1,h2⟩]
   have d2:decide (f≤5)=true:=by simpa using h2
   go_enter Tryz.func39,Tryz.ntmps39
   go_wp2_with fail
   go_ret
   exact ⟨rfl,rfl⟩
  ·rw [decide_eq_false (fun h=>h2 h.2)]
   have d2:decide (f≤5)=false:=by simpa using h2
   go_enter Tryz.func39,Tryz.ntmps39
   go_wp2_with fail
   go_ret
   exact ⟨rfl,rfl⟩
 ·rw [decide_eq_false (fun h=>h1 h.1)]
  have d1:decide (1≤f)=false:=by simpa using h1
  go_enter Tryz.func39,Tryz.ntmps39
  go_wp2_with fail
  go_ret
  exact ⟨rfl,rfl⟩
def mayC (cs:List (Option Rec)) (n f:Int) (e:Edg) (l:Int):Nat:=if ¬(1≤f∧f≤5) then 4 else if l<0∨n<l then 3 else if leads cs n f e l then 0 else 1
set_option maxRecDepth 100000 in
set_option maxHeartbeats 8000000 in
theorem canMay_any (F:List Nat) (gs n room:Nat) (cs:List (Option Rec)) (free:List Int) (f:Int) (e:Edg) (l:Int) (w:World) (h:StoreAt w F gs n room cs free) (hf:0≤f∧f≤255) (he:e.Wf) :
  Calls Tryz.prog 103 #[.pointer (some ⟨gs,0,none⟩),.int .u8 f,.agg #[.int .u8 e.tag,.int .u32 e.pos],.int .i64 l] w fun x w'=>x = .returned (.int .u8 (mayC cs n f e l:Nat))∧Below w.heap.size w w':=by
 obtain ⟨W,hW⟩:∃W,W=w.alloc (.cells #[.int .u8 e.tag,.int .u32 e.pos] 48):=⟨_,rfl⟩
 have hbW:Below w.heap.size w W:=by rw [hW];exact (Below.refl _ _).alloc (Nat.le_refl _) _
 have b1:Blk W w.heap.size 48 #[.int .u8 e.tag,.int .u32 e.pos]:=by rw [hW];exact Blk.new w _ _
 have k0:=b1.cell 0
 have k1:=b1.cell 1
 have hn16:=h.ok.n16
 have HF:=Lib.hid (fun W=>isform_any f W)
 have HV:=Lib.hid (fun W h=>storeVars_any F gs n room cs free W h)
 have HL:=Lib.hid (fun W h=>leads_any F gs n room cs free f e l W h hf he)
 simp only [Edg.cells] at HL
 have HS:=Lib.hid (h.on hbW)
 have HWW:=Lib.hid hW
 have HB:=Lib.hid hbW
 obtain ⟨code,hcode⟩:∃code,code=mayC cs n f e l:=⟨_,rfl⟩
 rw [← hcode]
 unfold mayC at hcode
 clear h hbW b1
 by_cases h1:1≤f∧f≤5
 ·rw [decide_eq_true h1] at HF
  rw [if_neg (by simpa using h1)] at hcode
  by_cases h2:l<0∨(n:Int)<l
  ·rw [if_pos h2] at hcode
   subst hcode
   by_cases h3:l<0
   ·have d3:decide (l<0)=true:=by simpa using h3
    clear h1 h2
    go_enter Tryz.func103,Tryz.ntmps103
    go_wp2_with fail
    rw [← HWW.out]
    clear hW
    refine (HF.out _).mono ?_
    rintro x w1 ⟨rfl,rfl⟩
    go_wp2_with fail
    go_ret
    exact ⟨rfl,HB.out⟩
   ·have h4:(n:Int)<l:=by omega
    have d3:decide (l<0)=false:=by simp;omega
    have d4:decide ((n:Int)<l)=true:=by simpa using h4
    clear h1 h2
    go_enter Tryz.func103,Tryz.ntmps103
    go_wp2_with fail
    rw [← HWW.out]
    clear hW
    refine (HF.out _).mono ?_
    rintro x w1 ⟨rfl,rfl⟩
    go_wp2_with fail
    refine (HV.out _ HS.out).mono ?_
    rintro x w1 ⟨rfl,rfl⟩
    go_wp2_with fail
    go_ret
    exact ⟨rfl,HB.out⟩
  ·rw [if_neg h2] at hcode
   have h3:¬l<0:=by omega
   have h4:¬(n:Int)<l:=by omega
   have d3:decide (l<0)=false:=by simp;omega
   have d4:decide ((n:Int)<l)=false:=by simp;omega
   have hcc:∃b:Bool,leads cs n f e l=b∧code=if b then 0 else 1:=⟨_,rfl,by rw [hcode]⟩
   obtain ⟨b,hb,hc2⟩:=hcc
   rw [hb] at HL
   clear hcode hb h1 h2
   cases b with
   | true=>
    simp only [if_true] at hc2
    subst hc2
    go_enter Tryz.func103,Tryz.ntmps103
    go_wp2_with fail
    rw [← HWW.out]
    clear hW
    refine (HF.out _).mono ?_
    rintro x w1 ⟨rfl,rfl⟩
    go_wp2_with fail
    refine (HV.out _ HS.out).mono ?_
    rintro x w1 ⟨rfl,rfl⟩
    go_wp2_with fail
    refine (HL.out _ HS.out).mono ?_
    rintro x w1 ⟨rfl,hb1⟩
    have HB1:=Lib.hid (HB.out.trans (hb1.mono HB.out.size))
    clear hb1 k0 k1
    go_wp2_with fail
    go_ret
    exact ⟨rfl,HB1.out⟩
   | false=>
    simp only [Bool.false_eq_true,if_false] at hc2
    subst hc2
    go_enter Tryz.func103,Tryz.ntmps103
    go_wp2_with fail
    rw [← HWW.out]
    clear hW
    refine (HF.out _).mono ?_
    rintro x w1 ⟨rfl,rfl⟩
    go_wp2_with fail
    refine (HV.out _ HS.out).mono ?_
    rintro x w1 ⟨rfl,rfl⟩
    go_wp2_with fail
    refine (HL.out _ HS.out).mono ?_
    rintro x w1 ⟨rfl,hb1⟩
    have HB1:=Lib.hid (HB.out.trans (hb1.mono HB.out.size))
    clear hb1 k0 k1
    go_wp2_with fail
    go_ret
    exact ⟨rfl,HB1.out⟩
 ·rw [decide_eq_false h1] at HF
  rw [if_pos (by simpa using h1)] at hcode
  subst hcode
  clear h1
  go_enter Tryz.func103,Tryz.ntmps103
  go_wp2_with fail
  rw [← HWW.out]
  clear hW
  refine (HF.out _).mono ?_
  rintro x w1 ⟨rfl,rfl⟩
  go_wp2_with fail
  go_ret
  exact ⟨rfl,HB.out⟩
def SizeOut (cs:List (Option Rec)) (n f:Int) (e:Edg) (l:Int) (x:Ending):Prop:=
 (mayC cs n f e l≠0∧x = .returned (.tuple #[.int .i64 0,.int .u8 (mayC cs n f e l:Nat)]))∨(mayC cs n f e l=0∧∃V,VisL cs [] [e] V∧x = .returned (.tuple #[.int .i64 (V.length:Nat),.int .u8 0]))
set_option maxRecDepth 100000 in
set_option maxHeartbeats 8000000 in
theorem canSize_any (F:List Nat) (gs n room:Nat) (cs:List (Option Rec)) (free:List Int) (f:Int) (e:Edg) (l:Int) (w:World) (h:StoreAt w F gs n room cs free) (hf:0≤f∧f≤255) (he:e.Wf) :
  Calls Tryz.prog 81 #[.pointer (some ⟨gs,0,none⟩),.int .u8 f,.agg #[.int .u8 e.tag,.int .u32 e.pos],.int .i64 l] w fun x w'=>SizeOut cs n f e l x∧Below w.heap.size w w':=by
 obtain ⟨W,hW⟩:∃W,W=w.alloc (.cells #[.int .u8 e.tag,.int .u32 e.pos] 48):=⟨_,rfl⟩
 have hbW:Below w.heap.size w W:=by rw [hW];exact (Below.refl _ _).alloc (Nat.le_refl _) _
 have b1:Blk W w.heap.size 48 #[.int .u8 e.tag,.int .u32 e.pos]:=by rw [hW];exact Blk.new w _ _
 have k0:=b1.cell 0
 have k1:=b1.cell 1
 have hlen:=Nat.le_trans h.ok.len h.ok.room20
 have HM:=Lib.hid (fun W h=>canMay_any F gs n room cs free f e l W h hf he)
 have HR:=Lib.hid (fun (A:Option Addr) (c:Nat) W h hrow=>reach_any F gs n room cs free A 1 c [e] W h hlen rfl (by omega) hrow (fun x hx=>by rw [List.mem_singleton.1 hx];exact he))
 have HS:=Lib.hid (h.on hbW)
 have HWW:=Lib.hid hW
 have HB:=Lib.hid hbW
 have B:=Lib.hid b1
 obtain ⟨code,hcode⟩:∃code,code=mayC cs n f e l:=⟨_,rfl⟩
 unfold SizeOut
 rw [← hcode] at HM ⊢
 have hc255:code≤4:=by rw [hcode];unfold mayC;(repeat' split)<;>omega
 clear h hbW b1 hcode
 go_enter Tryz.func81,Tryz.ntmps81
 go_wp2_with fail
 rw [← HWW.out]
 clear hW
 try go_wp2_with fail
 refine (HM.out _ HS.out).mono ?_
 rintro x w1 ⟨rfl,hb1⟩
 have HS1:=Lib.hid (HS.out.on hb1)
 have HB1:=Lib.hid (HB.out.trans (hb1.mono HB.out.size))
 have j0:=(B.out.onB hb1).cell 0
 have j1:=(B.out.onB hb1).cell 1
 clear k0 k1 hb1
 by_cases h0:code=0
 ·subst h0
  go_wp2_with fail
  have hbn:Below w1.heap.size w1 (w1.alloc (.cells #[.int .u8 e.tag,.int .u32 e.pos] 48)):=(Below.refl _ _).alloc (Nat.le_refl _) _
  refine (HR.out (some ⟨w1.heap.size,0,none⟩) _ _ (HS1.out.on hbn) (fun _=>⟨w1.heap.size,0,rfl,by simp,fun i x hx=>by
   cases i with
   | succ i=>simp at hx
   | zero=>
    simp at hx
    subst hx
    intro j v hv
    rw [World.cell?_alloc_new]
    match j,hv with
    | 0,hv=>simpa [Edg.cells] using hv
    | 1,hv=>simpa [Edg.cells] using hv⟩)).mono ?_
  rintro x w2 ⟨A2,n2,c2,V,zs,rfl,hv,hp,hzl,hn2,hrow,hb2⟩
  have HB2:=Lib.hid (HB1.out.trans ((hbn.trans (hb2.mono hbn.size)).mono HB1.out.size))
  have HVL:=Lib.hid (And.intro hv (show n2=V.length by rw [← hzl];exact hp.length_eq))
  clear hb2 hbn j0 j1 hv hp hzl hrow
  go_wp2_with fail
  refine bodyPost_ret (v:= .tuple #[.int .i64 (n2:Nat),.int .u8 0]) (by simp [results,Tryz.results81,go_sem, *]) rfl ⟨⟨V,HVL.out.1,by rw [HVL.out.2]⟩,HB2.out⟩
 ·have h0i:((code:Int) != 0)=true:=by simp;omega
  clear j0 j1
  go_wp2_with fail
  refine bodyPost_ret (v:= .tuple #[.int .i64 0,.int .u8 (code:Nat)]) (by simp [results,Tryz.results81,go_sem, *]) rfl ⟨.inl ⟨h0,rfl⟩,HB1.out⟩
end
end Go.Proofs.YtnlmlehcpngcgaaGreat
