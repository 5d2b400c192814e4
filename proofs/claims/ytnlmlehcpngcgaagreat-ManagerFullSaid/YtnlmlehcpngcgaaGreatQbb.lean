/- The cache of apply: contract of Get. -/
import Derived.Test.YtnlmlehcpngcgaaGreatQba
namespace Go.Proofs.YtnlmlehcpngcgaaGreat
set_option linter.unusedSimpArgs false
set_option linter.unusedVariables false
section
open Go.RowKit Go.Sort
theorem neq_job (j k:Jb) (x:Bool) (hx:decide (j≠k)=x) (w:World):(binOp .neq 93 (.agg j.cells.toArray) (.agg k.cells.toArray)).run Tryz.prog w = .ok (.bool x) w:=by
 subst hx
 obtain ⟨a1,a2,a3,⟨a4,a5⟩,⟨a6,a7⟩,⟨a8,a9⟩⟩:=j
 obtain ⟨b1,b2,b3,⟨b4,b5⟩,⟨b6,b7⟩,⟨b8,b9⟩⟩:=k
 simp only [Jb.cells]
 by_cases h1:a1=b1
 ·by_cases h2:a2=b2
  ·by_cases h3:a3=b3
   ·by_cases h4:a4=b4
    ·by_cases h5:a5=b5
     ·by_cases h6:a6=b6
      ·by_cases h7:a7=b7
       ·by_cases h8:a8=b8
        ·by_cases h9:a9=b9
         ·subst h1 h2 h3 h4 h5 h6 h7 h8 h9
          rw [decide_eq_false (by simp)]
          go_simp
         ·rw [decide_eq_true (by simp [h9])]
          subst h1 h2 h3 h4 h5 h6 h7 h8
          have e:(a9==b9)=false:=by simpa using h9
          go_simp
        ·rw [decide_eq_true (by simp [h8])]
         subst h1 h2 h3 h4 h5 h6 h7
         have e:(a8==b8)=false:=by simpa using h8
         go_simp
       ·rw [decide_eq_true (by simp [h7])]
        subst h1 h2 h3 h4 h5 h6
        have e:(a7==b7)=false:=by simpa using h7
        go_simp
      ·rw [decide_eq_true (by simp [h6])]
       subst h1 h2 h3 h4 h5
       have e:(a6==b6)=false:=by simpa using h6
       go_simp
     ·rw [decide_eq_true (by simp [h5])]
      subst h1 h2 h3 h4
      have e:(a5==b5)=false:=by simpa using h5
      go_simp
    ·rw [decide_eq_true (by simp [h4])]
     subst h1 h2 h3
     have e:(a4==b4)=false:=by simpa using h4
     go_simp
   ·rw [decide_eq_true (by simp [h3])]
    subst h1 h2
    have e:(a3==b3)=false:=by simpa using h3
    go_simp
  ·rw [decide_eq_true (by simp [h2])]
   subst h1
   have e:(a2==b2)=false:=by simpa using h2
   go_simp
 ·rw [decide_eq_true (by simp [h1])]
  have e:(a1==b1)=false:=by simpa using h1
  go_simp
theorem Blk.drewN {w:World} {g:Nat} {t:TypeId} {cs:Array Value} (h:Blk w g t cs) (k:Nat):Blk (w.drewN k) g t cs:=h
theorem caA_of {w X:World} {c b n:Nat} {es:List EntA} {ep h1 h2:Int} (hO:OwnS 12 EntA.cells 189 w 0 (.slice (some ⟨b,0,none⟩) n n) es) (hl:es.length=n) (hq:∃q,q≤40∧n=2^q) (hne:c≠b) (hc:Chg [c] w X)
  (hB:Blk X c 135 #[.slice (some ⟨b,0,none⟩) n n,.int .i64 ep,.int .i64 h1,.int .i64 h2]):CaA X [c,b] c es ep∧Chg [c] w X:=
 ⟨⟨b,n,h1,h2,hB,hO.chg hc (fun k hk hm=>by simp [mem_blk,Value.ownBlock] at hk hm;omega),hl,hq,rfl,hne⟩,hc⟩
set_option maxRecDepth 100000 in
set_option maxHeartbeats 8000000 in
theorem caGet_any (F:List Nat) (c:Nat) (es:List EntA) (ep:Int) (j:Jb) (w:World) (h:CaA w F c es ep) (hj:j.Wf) :
  Calls Tryz.prog 78 #[.pointer (some ⟨c,0,none⟩),.agg j.cells.toArray] w fun e w'=>((∃ ent∈es,ent.ep=ep∧ent.k=j∧e = .returned (.tuple #[.agg ent.v.cells.toArray,.bool true]))∨e = .returned (.tuple #[.agg Edg.nil.cells.toArray,.bool false]))∧CaA w' F c es ep∧Chg [c] w w':=by
 obtain ⟨b,n,h1,h2,hB,hO,hl,hq,rfl,hne⟩:=h
 have hlt:=hB.lt
 have hbl:=OwnS.blk_lt hO b (by simp [mem_blk,Value.ownBlock])
 obtain ⟨W,hW⟩:∃W,W=((w.alloc (.cells j.cells.toArray 93)).alloc (.cells #[.int .u8 0,.int .u32 0] 48)).alloc (.cells #[.int .u8 0,.int .u32 0] 48):=⟨_,rfl⟩
 have hbW:Below w.heap.size w W:=by rw [hW];exact (((Below.refl _ _).alloc (Nat.le_refl _) _).alloc (by simp) _).alloc (by simp;omega) _
 have hK:Blk W w.heap.size 93 j.cells.toArray:=by rw [hW];exact ((Blk.new w _ _).alloc _).alloc _
 have hZ:Blk W (w.heap.size+1) 48 #[.int .u8 0,.int .u32 0]:=by rw [hW];exact (Blk.new_at (by simp) _ _).alloc _
 have hZ2:Blk W (w.heap.size+2) 48 #[.int .u8 0,.int .u32 0]:=by rw [hW];exact Blk.new_at (by simp) _ _
 have HZ2:=Lib.hid hZ2
 have HWS:Hid (W.heap.size=w.heap.size+3):=Lib.hid (by rw [hW];simp)
 have hBW:=hB.onB hbW
 have HAT:=Lib.hid (caAt_any c b n _ _ _ j W hBW hq hj)
 have HO:=Lib.hid hO
 have HB:=Lib.hid hB
 have HL:=Lib.hid hl
 have HQ:=Lib.hid hq
 have HWW:=Lib.hid hW
 have HbW:=Lib.hid hbW
 have HK:=Lib.hid hK
 have HZ:=Lib.hid hZ
 have HNE:=Lib.hid hne
 have hcc:=hBW.cell 0
 obtain ⟨f,op,l,⟨at_,ap⟩,⟨bt,bp⟩,⟨ct,cp⟩⟩:=j
 simp only [Jb.cells] at HAT HWW HK hW hK ⊢
 have k1:W.cell? ⟨w.heap.size,0,none⟩=some (.int .u8 f):=hK.cell 0
 have k2:W.cell? ⟨w.heap.size,1,none⟩=some (.int .u8 op):=hK.cell 1
 have k3:W.cell? ⟨w.heap.size,2,none⟩=some (.int .u8 l):=hK.cell 2
 have k4:W.cell? ⟨w.heap.size,3,none⟩=some (.int .u8 at_):=hK.cell 3
 have k5:W.cell? ⟨w.heap.size,4,none⟩=some (.int .u32 ap):=hK.cell 4
 have k6:W.cell? ⟨w.heap.size,5,none⟩=some (.int .u8 bt):=hK.cell 5
 have k7:W.cell? ⟨w.heap.size,6,none⟩=some (.int .u32 bp):=hK.cell 6
 have k8:W.cell? ⟨w.heap.size,7,none⟩=some (.int .u8 ct):=hK.cell 7
 have k9:W.cell? ⟨w.heap.size,8,none⟩=some (.int .u32 cp):=hK.cell 8
 clear hB hO hl hq hbW hK hZ hBW hne hj
 go_enter Tryz.func78,Tryz.ntmps78
 go_wp2_with fail
 rw [← HWW.out]
 clear hW
 refine HAT.out.mono ?_
 rintro e w1 ⟨⟨i,hi,rfl⟩,hb1⟩
 clear k1 k2 k3 k4 k5 k6 k7 k8 k9
 obtain ⟨ent,hent⟩:∃ent,es[i]? =some ent:=⟨es[i]'(by rw [HL.out];exact hi),List.getElem?_eq_getElem _⟩
 have hmem:ent∈es:=List.mem_of_getElem? hent
 have hb01:=HbW.out.trans (hb1.mono HbW.out.size)
 have hat:=OwnS.at_ EntA.cells_len (OwnS.chg HO.out (F:=[]) (chg_of_below hb01) (by simp)) i ent hent
 have hr:=hat.1
 obtain ⟨⟨ef,eo,el,⟨ea1,ea2⟩,⟨eb1,eb2⟩,⟨ec1,ec2⟩⟩,⟨v1,v2⟩,eep⟩:=ent
 have r0:w1.cell? ⟨b,i*12,none⟩=some (.int .u8 ef):=hr 0 _ rfl
 have r1:w1.cell? ⟨b,i*12+1,none⟩=some (.int .u8 eo):=hr 1 _ rfl
 have r2:w1.cell? ⟨b,i*12+2,none⟩=some (.int .u8 el):=hr 2 _ rfl
 have r3:w1.cell? ⟨b,i*12+3,none⟩=some (.int .u8 ea1):=hr 3 _ rfl
 have r4:w1.cell? ⟨b,i*12+4,none⟩=some (.int .u32 ea2):=hr 4 _ rfl
 have r5:w1.cell? ⟨b,i*12+5,none⟩=some (.int .u8 eb1):=hr 5 _ rfl
 have r6:w1.cell? ⟨b,i*12+6,none⟩=some (.int .u32 eb2):=hr 6 _ rfl
 have r7:w1.cell? ⟨b,i*12+7,none⟩=some (.int .u8 ec1):=hr 7 _ rfl
 have r8:w1.cell? ⟨b,i*12+8,none⟩=some (.int .u32 ec2):=hr 8 _ rfl
 have r9:w1.cell? ⟨b,i*12+9,none⟩=some (.int .u8 v1):=hr 9 _ rfl
 have r10:w1.cell? ⟨b,i*12+10,none⟩=some (.int .u32 v2):=hr 10 _ rfl
 have r11:w1.cell? ⟨b,i*12+11,none⟩=some (.int .i64 eep):=hr 11 _ rfl
 have hB1:=HB.out.onB hb01
 have s0:w1.cell? ⟨c,1,none⟩=some (.int .i64 ep):=hB1.cell 1
 have s1:w1.cell? ⟨c,2,none⟩=some (.int .i64 h1):=hB1.cell 2
 have s2:w1.cell? ⟨c,3,none⟩=some (.int .i64 h2):=hB1.cell 3
 have f1:=hB1.frozen 2
 have f2:=hB1.frozen 3
 have hK1:=HK.out.onB hb1
 have k1:w1.cell? ⟨w.heap.size,0,none⟩=some (.int .u8 f):=hK1.cell 0
 have k2:w1.cell? ⟨w.heap.size,1,none⟩=some (.int .u8 op):=hK1.cell 1
 have k3:w1.cell? ⟨w.heap.size,2,none⟩=some (.int .u8 l):=hK1.cell 2
 have k4:w1.cell? ⟨w.heap.size,3,none⟩=some (.int .u8 at_):=hK1.cell 3
 have k5:w1.cell? ⟨w.heap.size,4,none⟩=some (.int .u32 ap):=hK1.cell 4
 have k6:w1.cell? ⟨w.heap.size,5,none⟩=some (.int .u8 bt):=hK1.cell 5
 have k7:w1.cell? ⟨w.heap.size,6,none⟩=some (.int .u32 bp):=hK1.cell 6
 have k8:w1.cell? ⟨w.heap.size,7,none⟩=some (.int .u8 ct):=hK1.cell 7
 have k9:w1.cell? ⟨w.heap.size,8,none⟩=some (.int .u32 cp):=hK1.cell 8
 have hZ1:=HZ.out.onB hb1
 have hZ3:=HZ2.out.onB hb1
 have z0:w1.cell? ⟨w.heap.size+1,0,none⟩=some (.int .u8 0):=hZ1.cell 0
 have z1:w1.cell? ⟨w.heap.size+1,1,none⟩=some (.int .u32 0):=hZ1.cell 1
 have z2:=hZ1.frozen 0
 have z3:=hZ1.frozen 1
 have y0:w1.cell? ⟨w.heap.size+2,0,none⟩=some (.int .u8 0):=hZ3.cell 0
 have y1:w1.cell? ⟨w.heap.size+2,1,none⟩=some (.int .u32 0):=hZ3.cell 1
 have HB1:=Lib.hid hB1
 have HB01:=Lib.hid hb01
 have HMEM:=Lib.hid hmem
 clear hr hat hent hb01 hb1 hK1 hZ1 hZ3 hB1 hmem
 by_cases hep:eep=ep
 ·by_cases hkk:(⟨ef,eo,el,⟨ea1,ea2⟩,⟨eb1,eb2⟩,⟨ec1,ec2⟩⟩:Jb)=⟨f,op,l,⟨at_,ap⟩,⟨bt,bp⟩,⟨ct,cp⟩⟩
  ·have hnq:=neq_job ⟨ef,eo,el,⟨ea1,ea2⟩,⟨eb1,eb2⟩,⟨ec1,ec2⟩⟩ ⟨f,op,l,⟨at_,ap⟩,⟨bt,bp⟩,⟨ct,cp⟩⟩ false (by simp [hkk])
   simp only [Jb.cells] at hnq
   have hpp:(eep != ep)=false:=by simp [hep]
   have HKK:=Lib.hid (And.intro hep hkk)
   clear hep hkk
   go_wp2_with fail
   go_quiet (fail)
   go_wp2_with fail
   refine bodyPost_ret (v:= .tuple #[.agg (⟨v1,v2⟩:Edg).cells.toArray,.bool true]) ?_ rfl ⟨.inl ⟨_,HMEM.out,HKK.out.1,HKK.out.2,rfl⟩,?_⟩
   ·simp [results,Tryz.results78,go_sem,Edg.cells, *]
   ·refine caA_of HO.out HL.out HQ.out HNE.out (h1:=wrap64 (h1+1)) (h2:=h2) ?_ ?_
    ·exact ((((chg_of_below HB01.out).drewN nq).setCell (p:=⟨c,2,none⟩) (.inl (by simp)) _).setCell (p:=⟨w.heap.size+1,0,none⟩) (.inr (by simp)) _).setCell (p:=⟨w.heap.size+1,1,none⟩) (.inr (by simp)) _
    ·exact (((HB1.out.drewN nq).set_ 2 _).far (p:=⟨w.heap.size+1,0,none⟩) (by simp only;omega) _).far (p:=⟨w.heap.size+1,1,none⟩) (by simp only;omega) _
  ·have hnq:=neq_job ⟨ef,eo,el,⟨ea1,ea2⟩,⟨eb1,eb2⟩,⟨ec1,ec2⟩⟩ ⟨f,op,l,⟨at_,ap⟩,⟨bt,bp⟩,⟨ct,cp⟩⟩ true (decide_eq_true hkk)
   simp only [Jb.cells] at hnq
   have hpp:(eep != ep)=false:=by simp [hep]
   clear hep hkk
   go_wp2_with fail
   go_quiet (fail)
   go_wp2_with fail
   refine bodyPost_ret (v:= .tuple #[.agg Edg.nil.cells.toArray,.bool false]) ?_ rfl ⟨.inr rfl,?_⟩
   ·simp [results,Tryz.results78,go_sem,Edg.cells,Edg.nil, *]
   ·refine caA_of HO.out HL.out HQ.out HNE.out (h1:=h1) (h2:=wrap64 (h2+1)) ?_ ?_
    ·exact ((((chg_of_below HB01.out).drewN nq).setCell (p:=⟨c,3,none⟩) (.inl (by simp)) _).setCell (p:=⟨w.heap.size+1,0,none⟩) (.inr (by simp)) _).setCell (p:=⟨w.heap.size+1,1,none⟩) (.inr (by simp)) _
    ·exact (((HB1.out.drewN nq).set_ 3 _).far (p:=⟨w.heap.size+1,0,none⟩) (by simp only;omega) _).far (p:=⟨w.heap.size+1,1,none⟩) (by simp only;omega) _
 ·have hpp:(eep != ep)=true:=by simpa using hep
  clear hep
  go_wp2_with fail
  go_quiet (fail)
  go_wp2_with fail
  refine bodyPost_ret (v:= .tuple #[.agg Edg.nil.cells.toArray,.bool false]) ?_ rfl ⟨.inr rfl,?_⟩
  ·simp [results,Tryz.results78,go_sem,Edg.cells,Edg.nil, *]
  ·refine caA_of HO.out HL.out HQ.out HNE.out (h1:=h1) (h2:=wrap64 (h2+1)) ?_ ?_
   ·exact ((((chg_of_below HB01.out).drewN nq).setCell (p:=⟨c,3,none⟩) (.inl (by simp)) _).setCell (p:=⟨w.heap.size+1,0,none⟩) (.inr (by simp)) _).setCell (p:=⟨w.heap.size+1,1,none⟩) (.inr (by simp)) _
   ·exact (((HB1.out.drewN nq).set_ 3 _).far (p:=⟨w.heap.size+1,0,none⟩) (by simp only;omega) _).far (p:=⟨w.heap.size+1,1,none⟩) (by simp only;omega) _
end
end Go.Proofs.YtnlmlehcpngcgaaGreat
