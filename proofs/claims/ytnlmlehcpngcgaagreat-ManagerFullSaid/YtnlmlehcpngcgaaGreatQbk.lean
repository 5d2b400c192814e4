/- The cache of apply: contract of Put. Operations of three tables; which answers of apply's cache are true; its Get and Put in an engine. Contract: apply's split, by do. -/
import Derived.Test.YtnlmlehcpngcgaaGreatQbb
import Derived.Test.YtnlmlehcpngcgaaGreatQbh
import Derived.Test.YtnlmlehcpngcgaaGreatQbj
namespace Go.Proofs.YtnlmlehcpngcgaaGreat
set_option linter.unusedSimpArgs false
set_option linter.unusedVariables false
section
open Go.RowKit Go.Sort
theorem chg12 {W X:World} {b o:Nat} {x0 x1 x2 x3 x4 x5 x6 x7 x8 x9 x10 x11:Value} (h:Chg [b] W X):Chg [b] W ((((((((((((X.setCell ⟨b,o,none⟩ x0).setCell ⟨b,o+1,none⟩ x1).setCell ⟨b,o+2,none⟩ x2).setCell ⟨b,o+3,none⟩ x3).setCell ⟨b,o+4,none⟩ x4).setCell ⟨b,o+5,none⟩ x5).setCell ⟨b,o+6,none⟩ x6).setCell ⟨b,o+7,none⟩ x7).setCell ⟨b,o+8,none⟩ x8).setCell ⟨b,o+9,none⟩ x9).setCell ⟨b,o+10,none⟩ x10).setCell ⟨b,o+11,none⟩ x11):=((((((((((((h.setCell (.inl (by simp)) _).setCell (.inl (by simp)) _).setCell (.inl (by simp)) _).setCell (.inl (by simp)) _).setCell (.inl (by simp)) _).setCell (.inl (by simp)) _).setCell (.inl (by simp)) _).setCell (.inl (by simp)) _).setCell (.inl (by simp)) _).setCell (.inl (by simp)) _).setCell (.inl (by simp)) _).setCell (.inl (by simp)) _)
set_option maxRecDepth 100000 in
set_option maxHeartbeats 8000000 in
theorem caPut_any (F:List Nat) (c:Nat) (es:List EntA) (ep:Int) (j:Jb) (v:Edg) (w:World) (h:CaA w F c es ep) (hj:j.Wf) :
  Calls Tryz.prog 80 #[.pointer (some ⟨c,0,none⟩),.agg j.cells.toArray,.agg v.cells.toArray] w fun e w'=>e = .returned (.tuple #[])∧(∃ i,CaA w' F c (es.set i ⟨j,v,ep⟩) ep)∧Chg F w w':=by
 obtain ⟨b,n,h1,h2,hB,hO,hl,hq,rfl,hne⟩:=h
 have hlt:=hB.lt
 have hbl:=OwnS.blk_lt hO b (by simp [mem_blk,Value.ownBlock])
 have HAT:=Lib.hid (fun W (hb:Below w.heap.size w W)=>caAt_any c b n _ _ _ j W (hB.onB hb) hq hj)
 have HO:=Lib.hid hO
 have HB:=Lib.hid hB
 have HL:=Lib.hid hl
 have HQ:=Lib.hid hq
 have HNE:=Lib.hid hne
 obtain ⟨f,op,l,⟨at_,ap⟩,⟨bt,bp⟩,⟨ct,cp⟩⟩:=j
 obtain ⟨v1,v2⟩:=v
 simp only [Jb.cells,Edg.cells] at HAT ⊢
 obtain ⟨W,hW⟩:∃W,W=(w.alloc (.cells #[.int .u8 f,.int .u8 op,.int .u8 l,.int .u8 at_,.int .u32 ap,.int .u8 bt,.int .u32 bp,.int .u8 ct,.int .u32 cp] 93)).alloc (.cells #[.int .u8 v1,.int .u32 v2] 48):=⟨_,rfl⟩
 have hbW:Below w.heap.size w W:=by rw [hW];exact ((Below.refl _ _).alloc (Nat.le_refl _) _).alloc (by simp) _
 have hK:Blk W w.heap.size 93 #[.int .u8 f,.int .u8 op,.int .u8 l,.int .u8 at_,.int .u32 ap,.int .u8 bt,.int .u32 bp,.int .u8 ct,.int .u32 cp]:=by rw [hW];exact (Blk.new w _ _).alloc _
 have hV:Blk W (w.heap.size+1) 48 #[.int .u8 v1,.int .u32 v2]:=by rw [hW];exact Blk.new_at (by simp) _ _
 have hBW:=hB.onB hbW
 have hcl:c<W.heap.size:=hBW.lt
 have FACTS:Hid (∀ W',Chg [b] W W'→W'.cell? ⟨c,1,none⟩=some (.int .i64 ep)∧W'.cell? ⟨w.heap.size,0,none⟩=some (.int .u8 f)∧W'.cell? ⟨w.heap.size,1,none⟩=some (.int .u8 op)∧W'.cell? ⟨w.heap.size,2,none⟩=some (.int .u8 l)∧W'.cell? ⟨w.heap.size,3,none⟩=some (.int .u8 at_)∧W'.cell? ⟨w.heap.size,4,none⟩=some (.int .u32 ap)∧W'.cell? ⟨w.heap.size,5,none⟩=some (.int .u8 bt)∧W'.cell? ⟨w.heap.size,6,none⟩=some (.int .u32 bp)∧W'.cell? ⟨w.heap.size,7,none⟩=some (.int .u8 ct)∧W'.cell? ⟨w.heap.size,8,none⟩=some (.int .u32 cp)∧W'.cell? ⟨w.heap.size+1,0,none⟩=some (.int .u8 v1)∧W'.cell? ⟨w.heap.size+1,1,none⟩=some (.int .u32 v2)):=Lib.hid fun W' hW'=>⟨(hW'.cell (p:=⟨c,1,none⟩) hcl (by simp;exact hne)).trans (hBW.cell 1),(hW'.cell (p:=⟨w.heap.size,0,none⟩) hK.lt (by simp;omega)).trans (hK.cell 0),(hW'.cell (p:=⟨w.heap.size,1,none⟩) hK.lt (by simp;omega)).trans (hK.cell 1),(hW'.cell (p:=⟨w.heap.size,2,none⟩) hK.lt (by simp;omega)).trans (hK.cell 2),(hW'.cell (p:=⟨w.heap.size,3,none⟩) hK.lt (by simp;omega)).trans (hK.cell 3),(hW'.cell (p:=⟨w.heap.size,4,none⟩) hK.lt (by simp;omega)).trans (hK.cell 4),(hW'.cell (p:=⟨w.heap.size,5,none⟩) hK.lt (by simp;omega)).trans (hK.cell 5),(hW'.cell (p:=⟨w.heap.size,6,none⟩) hK.lt (by simp;omega)).trans (hK.cell 6),(hW'.cell (p:=⟨w.heap.size,7,none⟩) hK.lt (by simp;omega)).trans (hK.cell 7),(hW'.cell (p:=⟨w.heap.size,8,none⟩) hK.lt (by simp;omega)).trans (hK.cell 8),(hW'.cell (p:=⟨w.heap.size+1,0,none⟩) hV.lt (by simp;omega)).trans (hV.cell 0),(hW'.cell (p:=⟨w.heap.size+1,1,none⟩) hV.lt (by simp;omega)).trans (hV.cell 1)⟩
 have FTH:Hid (∀ W' (i:Nat),Below W.heap.size W W'→i<n→∃u0 u1 u2 u3 u4 u5 u6 u7 u8 u9 u10 u11:Value,W'.cell? ⟨b,i*12,none⟩=some u0∧W'.cell? ⟨b,i*12+1,none⟩=some u1∧W'.cell? ⟨b,i*12+2,none⟩=some u2∧W'.cell? ⟨b,i*12+3,none⟩=some u3∧W'.cell? ⟨b,i*12+4,none⟩=some u4∧W'.cell? ⟨b,i*12+5,none⟩=some u5∧W'.cell? ⟨b,i*12+6,none⟩=some u6∧W'.cell? ⟨b,i*12+7,none⟩=some u7∧W'.cell? ⟨b,i*12+8,none⟩=some u8∧W'.cell? ⟨b,i*12+9,none⟩=some u9∧W'.cell? ⟨b,i*12+10,none⟩=some u10∧W'.cell? ⟨b,i*12+11,none⟩=some u11∧W'.frozen? ⟨b,i*12,none⟩=false∧W'.frozen? ⟨b,i*12+1,none⟩=false∧W'.frozen? ⟨b,i*12+2,none⟩=false∧W'.frozen? ⟨b,i*12+3,none⟩=false∧W'.frozen? ⟨b,i*12+4,none⟩=false∧W'.frozen? ⟨b,i*12+5,none⟩=false∧W'.frozen? ⟨b,i*12+6,none⟩=false∧W'.frozen? ⟨b,i*12+7,none⟩=false∧W'.frozen? ⟨b,i*12+8,none⟩=false∧W'.frozen? ⟨b,i*12+9,none⟩=false∧W'.frozen? ⟨b,i*12+10,none⟩=false∧W'.frozen? ⟨b,i*12+11,none⟩=false):=Lib.hid (fun W' i hW' hi=>by
  have hb:=hbW.trans (hW'.mono hbW.size)
  have hat:=OwnS.at_ EntA.cells_len (hO.chg (F:=[]) (chg_of_below hb) (by simp)) i _ (List.getElem?_eq_getElem (by rw [hl];exact hi))
  have hr:=hat.1
  have hf:=hat.2
  exact ⟨_,_,_,_,_,_,_,_,_,_,_,_,hr 0 _ rfl,hr 1 _ rfl,hr 2 _ rfl,hr 3 _ rfl,hr 4 _ rfl,hr 5 _ rfl,hr 6 _ rfl,hr 7 _ rfl,hr 8 _ rfl,hr 9 _ rfl,hr 10 _ rfl,hr 11 _ rfl,(hf 0 (by omega)).2,(hf 1 (by omega)).2,(hf 2 (by omega)).2,(hf 3 (by omega)).2,(hf 4 (by omega)).2,(hf 5 (by omega)).2,(hf 6 (by omega)).2,(hf 7 (by omega)).2,(hf 8 (by omega)).2,(hf 9 (by omega)).2,(hf 10 (by omega)).2,(hf 11 (by omega)).2⟩)
 have HWW:=Lib.hid hW
 have HbW:=Lib.hid hbW
 have HATW:=Lib.hid (fun W' (hW':Below W.heap.size W W')=>(HAT.out W' (hbW.trans (hW'.mono hbW.size))).mono (R':=fun e w'=>(∃ i,i<n∧e = .returned (.pointer (some ⟨b,i*12,none⟩)))∧Below W.heap.size W w') fun _ _ ⟨q1,q2⟩=>⟨q1,hW'.trans (q2.mono hW'.size)⟩)
 have hsz:(Tryz.prog.info? 189).map (·.size)=some 12:=by kernel_rfl
 have hone:(#[.int .u8 f,.int .u8 op,.int .u8 l,.int .u8 at_,.int .u32 ap,.int .u8 bt,.int .u32 bp,.int .u8 ct,.int .u32 cp,.int .u8 v1,.int .u32 v2,.int .i64 ep]:Array Value).all (·.oneCell')=true:=all_oneCell_toArray (EntA.cells_one ⟨⟨f,op,l,⟨at_,ap⟩,⟨bt,bp⟩,⟨ct,cp⟩⟩,⟨v1,v2⟩,ep⟩)
 have HTT:=Lib.hid (And.intro hsz hone)
 clear hB hO hl hq hne hj hbW hK hV hBW hcl hsz hone HAT
 go_enter Tryz.func80,Tryz.ntmps80
 go_wp2_with fail
 rw [← HWW.out]
 clear hW
 obtain ⟨k0,k1,k2,k3,k4,k5,k6,k7,k8,k9,k10,k11⟩:=FACTS.out W (Chg.refl _ _)
 have b0:=Below.refl W.heap.size W
 go_region_held3 (fun w'=>w'.cell? ⟨c,1,none⟩=some (.int .i64 ep)∧w'.cell? ⟨w.heap.size,0,none⟩=some (.int .u8 f)∧w'.cell? ⟨w.heap.size,1,none⟩=some (.int .u8 op)∧w'.cell? ⟨w.heap.size,2,none⟩=some (.int .u8 l)∧w'.cell? ⟨w.heap.size,3,none⟩=some (.int .u8 at_)∧w'.cell? ⟨w.heap.size,4,none⟩=some (.int .u32 ap)∧w'.cell? ⟨w.heap.size,5,none⟩=some (.int .u8 bt)∧w'.cell? ⟨w.heap.size,6,none⟩=some (.int .u32 bp)∧w'.cell? ⟨w.heap.size,7,none⟩=some (.int .u8 ct)∧w'.cell? ⟨w.heap.size,8,none⟩=some (.int .u32 cp)∧w'.cell? ⟨w.heap.size+1,0,none⟩=some (.int .u8 v1)∧w'.cell? ⟨w.heap.size+1,1,none⟩=some (.int .u32 v2)) ((refine FACTS.out _ ?_;with_reducible (first|exact chg_of_below b0|exact (chg_of_below b0).drew|exact chg_of_below b1|exact (chg_of_below b1).drew|exact chg12 (chg_of_below b1)|exact chg12 (chg_of_below b1).drew|exact (chg12 (chg_of_below b1)).drew|fail))) (first|((with_reducible show Calls _ 101 _ _ _);refine (HATW.out _ (by with_reducible (first|exact b0|exact b0.drew))).mono ?_;rintro x w4 ⟨⟨i,hi,rfl⟩,b1⟩;obtain ⟨u0,u1,u2,u3,u4,u5,u6,u7,u8,u9,u10,u11,r0,r1,r2,r3,r4,r5,r6,r7,r8,r9,r10,r11,q0,q1,q2,q3,q4,q5,q6,q7,q8,q9,q10,q11⟩:=FTH.out w4 i b1 hi)|fail)
 have hfin:∀X,X=w4.setCells b (i*12) (EntA.cells ⟨⟨f,op,l,⟨at_,ap⟩,⟨bt,bp⟩,⟨ct,cp⟩⟩,⟨v1,v2⟩,ep⟩)→(∃ i,CaA X [c,b] c (es.set i ⟨⟨f,op,l,⟨at_,ap⟩,⟨bt,bp⟩,⟨ct,cp⟩⟩,⟨v1,v2⟩,ep⟩) ep)∧Chg [c,b] w X:=fun X hX=>by
  have hb4:=HbW.out.trans (b1.mono HbW.out.size)
  have hcb:Chg [b] w X:=by rw [hX];exact (chg_of_below hb4).setCells (.inl (by simp)) _ _
  refine ⟨⟨i,b,n,h1,h2,HB.out.chg hcb (by simp;exact HNE.out),?_,by rw [List.length_set];exact HL.out,HQ.out,rfl,HNE.out⟩,hcb.mono (fun x hx=> .inl (by simp at hx;simp [hx]))⟩
  rw [hX]
  exact OwnS.set_ EntA.cells_len (OwnS.chg HO.out (F:=[]) (chg_of_below hb4) (by simp)) i (by rw [HL.out];exact hi) _
 have HFIN:=Lib.hid hfin
 clear hfin
 go_wp2_with fail
 go_end0
 first
  | exact ⟨rfl,HFIN.out _ rfl⟩
  | exact 5
def opB (op:Nat) (a b c:Bool):Bool:=op.testBit (4*a.toNat+2*b.toNat+c.toNat)
def ap3 (op:Nat):BT→BT→BT→BT
 | .leaf a,.leaf b,.leaf c=> .leaf (opB op a b c)
 | .br a a',.br b b',.br c c'=> .br (ap3 op a b c) (ap3 op a' b' c')
 | _,_,_=> .leaf false
theorem ap3_dep (op:Nat):∀(m:Nat) (x y z:BT),x.Dep m→y.Dep m→z.Dep m→(ap3 op x y z).Dep m
 | 0,x,y,z,hx,hy,hz=>by
  obtain ⟨a,rfl⟩:=hx.zero
  obtain ⟨b,rfl⟩:=hy.zero
  obtain ⟨c,rfl⟩:=hz.zero
  rfl
 | m+1,x,y,z,hx,hy,hz=>by
  obtain ⟨x1,x2,rfl,h1,h2⟩:=hx.split
  obtain ⟨y1,y2,rfl,h3,h4⟩:=hy.split
  obtain ⟨z1,z2,rfl,h5,h6⟩:=hz.split
  exact .mk (ap3_dep op m _ _ _ h1 h3 h5) (ap3_dep op m _ _ _ h2 h4 h6)
theorem ap3_zeros (op:Nat) (h:op.testBit 0=false):∀m:Nat,ap3 op (.zeros m) (.zeros m) (.zeros m) = .zeros m
 | 0=>by
  show BT.leaf (opB op false false false) = .leaf false
  unfold opB
  simp only [Bool.toNat_false,Nat.mul_zero,Nat.add_zero]
  rw [h]
 | m+1=>by
  show BT.br (ap3 op (.zeros m) (.zeros m) (.zeros m)) (ap3 op (.zeros m) (.zeros m) (.zeros m)) = .br (.zeros m) (.zeros m)
  rw [ap3_zeros op h m]
def AnsA (n:Nat) (cs:List (Option Rec)) (j:Jb) (v:Edg):Prop:=
 ∃(m:Nat) (x y z:BT),x.Dep m∧y.Dep m∧z.Dep m∧j.l+m=n∧0≤j.l∧(1≤j.f∧j.f≤5)∧(0≤j.op∧j.op≤255)∧IsE cs j.f n j.a j.l x∧IsE cs j.f n j.b j.l y∧IsE cs j.f n j.c j.l z∧IsE cs j.f n v j.l (ap3 j.op.toNat x y z)
theorem AnsA.ext {n:Nat} {cs cs':List (Option Rec)} {j:Jb} {v:Edg} (h:AnsA n cs j v) (k:Ext cs cs'):AnsA n cs' j v:=by
 obtain ⟨m,x,y,z,h1,h2,h3,h4,h5,h6,h7,h8,h9,h10,h11⟩:=h
 exact ⟨m,x,y,z,h1,h2,h3,h4,h5,h6,h7,h8.ext k,h9.ext k,h10.ext k,h11.ext k⟩
theorem AnsA.is {n:Nat} {cs:List (Option Rec)} {j:Jb} {v:Edg} (h:AnsA n cs j v) {m:Nat} {x y z:BT} (hx:x.Dep m) (hy:y.Dep m) (hz:z.Dep m) (hl:j.l+m=n) (ha:IsE cs j.f n j.a j.l x) (hb:IsE cs j.f n j.b j.l y) (hc:IsE cs j.f n j.c j.l z):IsE cs j.f n v j.l (ap3 j.op.toNat x y z):=by
 obtain ⟨m',x',y',z',h1,h2,h3,h4,h5,h6,h7,h8,h9,h10,h11⟩:=h
 obtain rfl:m'=m:=by omega
 have e1:=can_inj (n:=(n:Int)) h6 x' x j.l m' h1 hx hl h5 (unf_fun h8 ha)
 have e2:=can_inj (n:=(n:Int)) h6 y' y j.l m' h2 hy hl h5 (unf_fun h9 hb)
 have e3:=can_inj (n:=(n:Int)) h6 z' z j.l m' h3 hz hl h5 (unf_fun h10 hc)
 rw [← e1,←e2,←e3]
 exact h11
def AnsOk (n:Nat) (cs:List (Option Rec)) (es:List EntA) (ep:Int):Prop:=∀ent∈es,ent.ep=ep→AnsA n cs ent.k ent.v
theorem AnsOk.ext {n:Nat} {cs cs':List (Option Rec)} {es:List EntA} {ep:Int} (h:AnsOk n cs es ep) (k:Ext cs cs'):AnsOk n cs' es ep:=fun ent hm he=>(h ent hm he).ext k
theorem AnsOk.set_ {n:Nat} {cs:List (Option Rec)} {es:List EntA} {ep:Int} (h:AnsOk n cs es ep) (i:Nat) {j:Jb} {v:Edg} (hv:AnsA n cs j v):AnsOk n cs (es.set i ⟨j,v,ep⟩) ep:=fun ent hm he=>by
 rcases List.mem_or_eq_of_mem_set hm with h1|h1
 ·exact h ent h1 he
 ·rw [h1];exact hv
def EpOk (ek:Nat) (es:List EntA) (ep:Int):Prop:=0≤ep∧ep≤ek∧∀ent∈es,ent.ep≤ep
theorem EpOk.set_ {ek:Nat} {es:List EntA} {ep:Int} (h:EpOk ek es ep) (i:Nat) {j:Jb} {v:Edg}:EpOk ek (es.set i ⟨j,v,ep⟩) ep:=⟨h.1,h.2.1,fun ent hm=>by
 rcases List.mem_or_eq_of_mem_set hm with h1|h1
 ·exact h.2.2 ent h1
 ·rw [h1];exact Int.le_refl _⟩
def ansB (c n ek:Nat):Bk:=
 ⟨fun cs=>⟨fun W F=>∃es ep,CaA W F c es ep∧AnsOk n cs es ep∧EpOk ek es ep,(fun ⟨es,ep,h1,h2⟩ hc hd=>⟨es,ep,h1.chg hc hd,h2⟩),(fun ⟨es,ep,h1,h2⟩=>h1.lt)⟩,fun he ⟨es,ep,h1,h2,h3⟩=>⟨es,ep,h1,h2.ext he,h3⟩⟩
def jobK (m:Nat):Nat:=4*(2^m-1)
theorem jobK_succ (m:Nat):jobK (m+1)=4+jobK m+jobK m:=by
 unfold jobK
 have:0<2^m:=Nat.two_pow_pos m
 rw [Nat.pow_succ]
 omega
structure JobOk (n:Nat) (cs:List (Option Rec)) (j:Jb) (m:Nat) (x y z:BT):Prop where
 wf:j.Wf
 f15:1≤j.f∧j.f≤5
 lv:j.l+m=n
 dx:x.Dep m
 dy:y.Dep m
 dz:z.Dep m
 a:IsE cs j.f n j.a j.l x
 b:IsE cs j.f n j.b j.l y
 c:IsE cs j.f n j.c j.l z
theorem JobOk.ext {n:Nat} {cs cs':List (Option Rec)} {j:Jb} {m:Nat} {x y z:BT} (h:JobOk n cs j m x y z) (k:Ext cs cs'):JobOk n cs' j m x y z:=⟨h.wf,h.f15,h.lv,h.dx,h.dy,h.dz,h.a.ext k,h.b.ext k,h.c.ext k⟩
theorem lands_sep' {A B':Res} {F F1 F2:List Nat} {w w':World} (h0:∀x,x∈F↔x∈F1∨x∈F2) (h1:A.at_ w F1) (h3:∀x∈F1,¬x∈F2) (hl:Lands B' F2 w w'):Lands (sepR A B') F w w':=
 (lands_sep (fun x=>(h0 x).trans Or.comm) h1 (fun x hx hm=>h3 x hm hx) hl).imp fun _=>sepR_comm
section
variable {g c n ek room:Nat} {B:Bk} {F:List Nat} {w:World} {cs:List (Option Rec)} {free:List Int} {j:Jb} {m:Nat} {x y z:BT}
theorem apGet (h:(engR g n room ((ansB c n ek).sep B) cs free).at_ w F) (hj:JobOk n cs j m x y z) :
  Calls Tryz.prog 78 #[.pointer (some ⟨c,0,none⟩),.agg j.cells.toArray] w fun e w'=>∃(ok:Bool) (t q:Int),e = .returned (.tuple #[.agg #[.int .u8 t,.int .u32 q],.bool ok])∧(ok=true→IsE cs j.f n ⟨t,q⟩ j.l (ap3 j.op.toNat x y z))∧Lands (engR g n room ((ansB c n ek).sep B) cs free) F w w':=by
 obtain ⟨F1,F2,h0,h1,⟨G1,G2,g0,⟨es,ep,g1,ga,gp⟩,g2,g3⟩,h3⟩:=h
 refine (caGet_any G1 c es ep j w g1 hj.wf).mono ?_
 rintro e w' ⟨h4,h5,h6⟩
 have hm:c∈G1:=by
  obtain ⟨b,n,h1,h2,hB,hO,hl,hq,rfl,hne⟩:=g1
  simp
 have hl:Lands (engR g n room ((ansB c n ek).sep B) cs free) F w w':=lands_sep' h0 h1 h3 (lands_sep g0 g2 g3 ⟨G1,⟨es,ep,h5,ga,gp⟩,fun y hy=> .inl hy,h6.mono fun x hx=> .inl (by simp at hx;rw [hx];exact hm)⟩)
 rcases h4 with ⟨ent,e1,e2,e3,rfl⟩|rfl
 ·refine ⟨true,ent.v.tag,ent.v.pos,rfl,fun _=>?_,hl⟩
  have:=ga ent e1 e2
  rw [e3] at this
  exact this.is hj.dx hj.dy hj.dz hj.lv hj.a hj.b hj.c
 ·exact ⟨false,0,0,rfl,(fun h=>by cases h),hl⟩
theorem apPut (t q:Int) (h:(engR g n room ((ansB c n ek).sep B) cs free).at_ w F) (hj:JobOk n cs j m x y z) (hv:IsE cs j.f n ⟨t,q⟩ j.l (ap3 j.op.toNat x y z)) :
  Calls Tryz.prog 80 #[.pointer (some ⟨c,0,none⟩),.agg j.cells.toArray,.agg #[.int .u8 t,.int .u32 q]] w fun e w'=>e = .returned (.tuple #[])∧Lands (engR g n room ((ansB c n ek).sep B) cs free) F w w':=by
 obtain ⟨F1,F2,h0,h1,⟨G1,G2,g0,⟨es,ep,g1,ga,gp⟩,g2,g3⟩,h3⟩:=h
 refine (caPut_any G1 c es ep j ⟨t,q⟩ w g1 hj.wf).mono ?_
 rintro e w' ⟨rfl,⟨i,h5⟩,h6⟩
 exact ⟨rfl,lands_sep' h0 h1 h3 (lands_sep g0 g2 g3 ⟨G1,⟨_,ep,h5,ga.set_ i ⟨m,x,y,z,hj.dx,hj.dy,hj.dz,hj.lv,hj.wf.2.2.1.1,hj.f15,hj.wf.2.1,hj.a,hj.b,hj.c,hv⟩,gp.set_ i⟩,fun y hy=> .inl hy,h6⟩)⟩
end
abbrev jobB (f op l at_ ap bt bp ct cp:Int):SBlk:=⟨93,false,[V8 f,V8 op,V8 l,V8 at_,V32 ap,V8 bt,V32 bp,V8 ct,V32 cp]⟩
abbrev opsB (g c:Nat):SBlk:=⟨95,true,[VP g,VP c]⟩
def DoAny (g c n ek room:Nat) (B:Bk) (m:Nat) (f op:Int):Prop:=∀(cs:List (Option Rec)) (free:List Int) (j:Jb) (x y z:BT) (o:Nat) (F:List Nat) (w:World),(engR g n room ((ansB c n ek).sep B) cs free).at_ w F→Blk w o 95 #[.pointer (some ⟨g,0,none⟩),.pointer (some ⟨c,0,none⟩)]→¬o∈F→JobOk n cs j m x y z→j.f=f→j.op=op→
 Calls Tryz.prog 60 #[.pointer (some ⟨o,0,none⟩),.agg j.cells.toArray] w (EOut (jobK m) g n room ((ansB c n ek).sep B) F w cs (fun cs' ed=>IsE cs' j.f n ed j.l (ap3 j.op.toNat x y z)))
set_option maxRecDepth 100000 in
theorem split_any {g c n ek room m o:Nat} {B:Bk} {cs:List (Option Rec)} {free:List Int} {F:List Nat} {w:World} {j:Jb} {x y z:BT} (h:(engR g n room ((ansB c n ek).sep B) cs free).at_ w F) (hO:Blk w o 95 #[.pointer (some ⟨g,0,none⟩),.pointer (some ⟨c,0,none⟩)]) (ho:¬o∈F) (hj:JobOk n cs j (m+1) x y z) (HD:DoAny g c n ek room B m j.f j.op) :
  Calls Tryz.prog 79 #[.pointer (some ⟨o,0,none⟩),.agg j.cells.toArray] w (EOut (jobK (m+1)) g n room ((ansB c n ek).sep B) F w cs (fun cs' ed=>IsE cs' j.f n ed j.l (ap3 j.op.toNat x y z))):=by
 obtain ⟨x0,x1,rfl,dx0,dx1⟩:=hj.dx.split
 obtain ⟨y0,y1,rfl,dy0,dy1⟩:=hj.dy.split
 obtain ⟨z0,z1,rfl,dz0,dz1⟩:=hj.dz.split
 have hf:=hj.f15
 have hlv:=hj.lv
 have hn16:=(engR_ok h).1.n16
 have hl0:=hj.wf.2.2.1.1
 obtain ⟨f,op,l,⟨at_,ap⟩,⟨bt,bp⟩,⟨ct,cp⟩⟩:=j
 simp only at hf hlv hl0 HD
 have wl:IntKind.i64.wrap l=l:=IntWalk.i64_in _ (by omega)
 have wl1:IntKind.u8.wrap (l+1)=l+1:=by rw [IntKind.wrap_u8];omega
 have hlb:0≤l+1∧l+1≤255:=by omega
 refine TT.enter1 o (opsB g c) [.p 0 0,.v (.agg #[.int .u8 f,.int .u8 op,.int .u8 l,.int .u8 at_,.int .u32 ap,.int .u8 bt,.int .u32 bp,.int .u8 ct,.int .u32 cp])] _ Tryz.func79 rfl Tryz.ntmps79 rfl hO ho rfl (Nat.le_of_ble_eq_true rfl) h ?_
 refine TTa 10 ⟨[(0,.p 0 0),(3,.p 10 0),(4,.p 11 0)],[(0,opsB g c),(10,jobB f op l at_ ap bt bp ct cp),(11,edB 0 0)]⟩ ?_
 refine TTa 20 ⟨[(0,.p 0 0),(3,.p 10 0),(4,.p 11 0),(6,V64 (IntKind.i64.wrap l))],[(0,opsB g c),(10,jobB f op l at_ ap bt bp ct cp),(11,edB 0 0)]⟩ ?_
 rw [wl]
 refine TT.sd0 (s':=⟨[(0,.p 0 0),(3,.p 10 0),(4,.p 11 0),(6,V64 l),(7,.p 22 0),(8,.p 23 0)],[(0,opsB g c),(10,jobB f op l at_ ap bt bp ct cp),(11,edB 0 0),(22,jobB f op l at_ ap bt bp ct cp),(23,jobB f op l at_ ap bt bp ct cp)]⟩) 20 mixed (by kernel_rfl) ?_
 refine TT.sd0 (s':=⟨[(0,.p 0 0),(3,.p 10 0),(4,.p 11 0),(6,V64 l),(7,.p 22 0),(8,.p 23 0)],[(0,opsB g c),(10,jobB f op l at_ ap bt bp ct cp),(11,edB 0 0),(22,jobB f op (IntKind.u8.wrap (l+1)) at_ ap bt bp ct cp),(23,jobB f op (IntKind.u8.wrap (l+1)) at_ ap bt bp ct cp)]⟩) 30 mixed (by kernel_rfl) ?_
 rw [wl1]
 refine TTa 30 ⟨[(0,.p 0 0),(3,.p 10 0),(4,.p 11 0),(6,V64 l),(7,.p 22 0),(8,.p 23 0)],[(0,opsB g c),(10,jobB f op l at_ ap bt bp ct cp),(11,edB 0 0),(22,jobB f op (l+1) at_ ap bt bp ct cp),(23,jobB f op (l+1) at_ ap bt bp ct cp)]⟩ ?_
 refine TT.seq (TTE 1 true [9] 30 ?_)
 refine RVc 9 102 (fun ρ=>[.pointer (some ⟨g,0,none⟩),.int .u8 f,Ed at_ ap,.int .i64 l]) [] (fun ρ w1 F1 hF1 hpk1=>?_)
 refine (vwC (ed:=⟨at_,ap⟩) hF1 hf hlv hl0 dx0 dx1 hj.a).mono ?_
 rintro e1 w'1 ⟨t1,q1,t'1,q'1,code1,cs1,free1,rfl,hl1,hg1,(⟨rfl,hx1,hy1⟩|⟨rfl,rfl,rfl,rfl,rfl,hfl1⟩)⟩
 ·refine ⟨.v (.tuple #[Ed t1 q1,Ed t'1 q'1,.int .u8 0]),_,rfl,hl1,?_⟩
  refine RVz ⟨[(0,.p 0 0),(3,.p 10 0),(4,.p 11 0),(6,V64 l),(7,.p 22 0),(8,.p 23 0),(9,V8 0)],[(0,opsB g c),(10,jobB f op l at_ ap bt bp ct cp),(11,edB 0 0),(22,jobB f op (l+1) t1 q1 bt bp ct cp),(23,jobB f op (l+1) t'1 q'1 bt bp ct cp)]⟩ ?_
  refine TTa 30 ⟨[(0,.p 0 0),(3,.p 10 0),(4,.p 11 0),(6,V64 l),(7,.p 22 0),(8,.p 23 0),(9,V8 0),(42,VB false)],[(0,opsB g c),(10,jobB f op l at_ ap bt bp ct cp),(11,edB 0 0),(22,jobB f op (l+1) t1 q1 bt bp ct cp),(23,jobB f op (l+1) t'1 q'1 bt bp ct cp)]⟩ ?_
  refine TTu (TT.next ?_)
  refine TT.seq (TTE 1 true [9] 30 ?_)
  refine RVc 9 102 (fun ρ=>[.pointer (some ⟨g,0,none⟩),.int .u8 f,Ed bt bp,.int .i64 l]) [] (fun ρ w2 F2 hF2 hpk2=>?_)
  refine (vwC (ed:=⟨bt,bp⟩) hF2 hf hlv hl0 dy0 dy1 (hj.b.ext hg1.ext)).mono ?_
  rintro e2 w'2 ⟨t2,q2,t'2,q'2,code2,cs2,free2,rfl,hl2,hg2,(⟨rfl,hx2,hy2⟩|⟨rfl,rfl,rfl,rfl,rfl,hfl2⟩)⟩
  ·refine ⟨.v (.tuple #[Ed t2 q2,Ed t'2 q'2,.int .u8 0]),_,rfl,hl2,?_⟩
   refine RVz ⟨[(0,.p 0 0),(3,.p 10 0),(4,.p 11 0),(6,V64 l),(7,.p 22 0),(8,.p 23 0),(9,V8 0)],[(0,opsB g c),(10,jobB f op l at_ ap bt bp ct cp),(11,edB 0 0),(22,jobB f op (l+1) t1 q1 t2 q2 ct cp),(23,jobB f op (l+1) t'1 q'1 t'2 q'2 ct cp)]⟩ ?_
   refine TTa 30 ⟨[(0,.p 0 0),(3,.p 10 0),(4,.p 11 0),(6,V64 l),(7,.p 22 0),(8,.p 23 0),(9,V8 0),(62,VB false)],[(0,opsB g c),(10,jobB f op l at_ ap bt bp ct cp),(11,edB 0 0),(22,jobB f op (l+1) t1 q1 t2 q2 ct cp),(23,jobB f op (l+1) t'1 q'1 t'2 q'2 ct cp)]⟩ ?_
   refine TTu (TT.next ?_)
   refine TT.seq (TTE 1 true [9] 30 ?_)
   refine RVc 9 102 (fun ρ=>[.pointer (some ⟨g,0,none⟩),.int .u8 f,Ed ct cp,.int .i64 l]) [] (fun ρ w3 F3 hF3 hpk3=>?_)
   refine (vwC (ed:=⟨ct,cp⟩) hF3 hf hlv hl0 dz0 dz1 (hj.c.ext (hg1.ext.trans hg2.ext))).mono ?_
   rintro e3 w'3 ⟨t3,q3,t'3,q'3,code3,cs3,free3,rfl,hl3,hg3,(⟨rfl,hx3,hy3⟩|⟨rfl,rfl,rfl,rfl,rfl,hfl3⟩)⟩
   ·refine ⟨.v (.tuple #[Ed t3 q3,Ed t'3 q'3,.int .u8 0]),_,rfl,hl3,?_⟩
    refine RVz ⟨[(0,.p 0 0),(3,.p 10 0),(4,.p 11 0),(6,V64 l),(7,.p 22 0),(8,.p 23 0),(9,V8 0)],[(0,opsB g c),(10,jobB f op l at_ ap bt bp ct cp),(11,edB 0 0),(22,jobB f op (l+1) t1 q1 t2 q2 t3 q3),(23,jobB f op (l+1) t'1 q'1 t'2 q'2 t'3 q'3)]⟩ ?_
    refine TTa 30 ⟨[(0,.p 0 0),(3,.p 10 0),(4,.p 11 0),(6,V64 l),(7,.p 22 0),(8,.p 23 0),(9,V8 0),(82,VB false)],[(0,opsB g c),(10,jobB f op l at_ ap bt bp ct cp),(11,edB 0 0),(22,jobB f op (l+1) t1 q1 t2 q2 t3 q3),(23,jobB f op (l+1) t'1 q'1 t'2 q'2 t'3 q'3)]⟩ ?_
    refine TTu (TT.next ?_)
    refine TTE 1 false [2] 30 ?_
    refine RVc 2 60 (fun ρ=>[.pointer (some ⟨ρ 0,0,none⟩),.agg #[.int .u8 f,.int .u8 op,.int .u8 (l+1),.int .u8 t1,.int .u32 q1,.int .u8 t2,.int .u32 q2,.int .u8 t3,.int .u32 q3]]) [0] (fun ρ w4 F4 hF4 hpk4=>?_)
    refine (HD _ _ ⟨f,op,l+1,⟨t1,q1⟩,⟨t2,q2⟩,⟨t3,q3⟩⟩ _ _ _ _ _ _ hF4 (hpk4 0 (by simp) (opsB g c) (by kernel_rfl)).1 (hpk4 0 (by simp) (opsB g c) (by kernel_rfl)).2 ⟨⟨hj.wf.1,hj.wf.2.1,hlb,IsE.wf (hx1.ext (hg2.ext.trans hg3.ext)) (engR_ok hF4).1 hf dx0 (by omega) (by omega),IsE.wf (hx2.ext hg3.ext) (engR_ok hF4).1 hf dy0 (by omega) (by omega),IsE.wf hx3 (engR_ok hF4).1 hf dz0 (by omega) (by omega)⟩,hf,(by simp only;omega),dx0,dy0,dz0,(hx1.ext (hg2.ext.trans hg3.ext)),(hx2.ext hg3.ext),hx3⟩ rfl rfl).mono ?_
    rintro e4 w'4 ⟨t4,q4,code4,cs4,free4,rfl,hl4,hg4,(⟨rfl,hP4⟩|⟨rfl,rfl,rfl,hfl4⟩)⟩
    ·refine ⟨.v (.tuple #[Ed t4 q4,.int .u8 0]),_,rfl,hl4,?_⟩
     refine RVz ⟨[(0,.p 0 0),(3,.p 10 0),(4,.p 11 0),(6,V64 l),(8,.p 23 0),(9,V8 0),(10,.p 36 0)],[(0,opsB g c),(10,jobB f op l at_ ap bt bp ct cp),(11,edB 0 0),(23,jobB f op (l+1) t'1 q'1 t'2 q'2 t'3 q'3),(36,edB t4 q4)]⟩ ?_
     refine TT.seq (TTa 40 ⟨[(0,.p 0 0),(3,.p 10 0),(4,.p 11 0),(6,V64 l),(8,.p 23 0),(9,V8 0),(10,.p 36 0),(92,VB false)],[(0,opsB g c),(10,jobB f op l at_ ap bt bp ct cp),(11,edB 0 0),(23,jobB f op (l+1) t'1 q'1 t'2 q'2 t'3 q'3),(36,edB t4 q4)]⟩ ?_)
     refine TTu (TT.next ?_)
     refine TTE 1 false [2] 40 ?_
     refine RVc 2 60 (fun ρ=>[.pointer (some ⟨ρ 0,0,none⟩),.agg #[.int .u8 f,.int .u8 op,.int .u8 (l+1),.int .u8 t'1,.int .u32 q'1,.int .u8 t'2,.int .u32 q'2,.int .u8 t'3,.int .u32 q'3]]) [0] (fun ρ w5 F5 hF5 hpk5=>?_)
     refine (HD _ _ ⟨f,op,l+1,⟨t'1,q'1⟩,⟨t'2,q'2⟩,⟨t'3,q'3⟩⟩ _ _ _ _ _ _ hF5 (hpk5 0 (by simp) (opsB g c) (by kernel_rfl)).1 (hpk5 0 (by simp) (opsB g c) (by kernel_rfl)).2 ⟨⟨hj.wf.1,hj.wf.2.1,hlb,IsE.wf (hy1.ext ((hg2.ext.trans hg3.ext).trans hg4.ext)) (engR_ok hF5).1 hf dx1 (by omega) (by omega),IsE.wf (hy2.ext (hg3.ext.trans hg4.ext)) (engR_ok hF5).1 hf dy1 (by omega) (by omega),IsE.wf (hy3.ext hg4.ext) (engR_ok hF5).1 hf dz1 (by omega) (by omega)⟩,hf,(by simp only;omega),dx1,dy1,dz1,(hy1.ext ((hg2.ext.trans hg3.ext).trans hg4.ext)),(hy2.ext (hg3.ext.trans hg4.ext)),(hy3.ext hg4.ext)⟩ rfl rfl).mono ?_
     rintro e5 w'5 ⟨t5,q5,code5,cs5,free5,rfl,hl5,hg5,(⟨rfl,hP5⟩|⟨rfl,rfl,rfl,hfl5⟩)⟩
     ·refine ⟨.v (.tuple #[Ed t5 q5,.int .u8 0]),_,rfl,hl5,?_⟩
      refine RVz ⟨[(0,.p 0 0),(3,.p 10 0),(4,.p 11 0),(6,V64 l),(9,V8 0),(10,.p 36 0),(11,.p 46 0)],[(0,opsB g c),(10,jobB f op l at_ ap bt bp ct cp),(11,edB 0 0),(36,edB t4 q4),(46,edB t5 q5)]⟩ ?_
      refine TT.seq (TTa 50 ⟨[(0,.p 0 0),(3,.p 10 0),(4,.p 11 0),(6,V64 l),(9,V8 0),(10,.p 36 0),(11,.p 46 0),(102,VB false)],[(0,opsB g c),(10,jobB f op l at_ ap bt bp ct cp),(11,edB 0 0),(36,edB t4 q4),(46,edB t5 q5)]⟩ ?_)
      refine TTu (TT.next ?_)
      refine TTE 1 true [9] 50 ?_
      refine RVc 9 56 (fun ρ=>[.pointer (some ⟨g,0,none⟩),.int .u8 f,.int .i64 l,Ed t4 q4,Ed t5 q5]) [] (fun ρ w6 F6 hF6 hpk6=>?_)
      refine (mkC (lo:=⟨t4,q4⟩) (hi:=⟨t5,q5⟩) hF6 hf hlv hl0 (ap3_dep _ _ _ _ _ dx0 dy0 dz0) (ap3_dep _ _ _ _ _ dx1 dy1 dz1) (hP4.ext hg5.ext) hP5).mono ?_
      rintro e6 w'6 ⟨t6,q6,code6,cs6,free6,rfl,hl6,hg6,(⟨rfl,hP6⟩|⟨rfl,rfl,rfl,hfl6⟩)⟩
      ·refine ⟨.v (.tuple #[Ed t6 q6,.int .u8 0]),_,rfl,hl6,?_⟩
       refine RVz ⟨[(4,.p 11 0),(5,V8 0)],[(11,edB t6 q6)]⟩ ?_
       refine TTt Tryz.results79 (.v (Ed t6 q6)) (V8 0) (fun _ _ h=>h) (fun ρ a w7 hs7=>?_)
       exact ⟨t6,q6,0,_,_,rfl,hs7.lands,((((((hg1.trans hg2 (Nat.le_refl _)).trans hg3 (Nat.le_refl _)).trans hg4 (Nat.le_refl _)).trans hg5 (Nat.le_refl _)).trans hg6 (Nat.le_refl _))).mono (by rw [jobK_succ];omega),.inl ⟨rfl,hP6⟩⟩
      ·refine ⟨.v (.tuple #[Ed 0 0,.int .u8 6]),_,rfl,hl6,?_⟩
       refine RVz ⟨[(4,.p 11 0),(5,V8 6)],[(11,edB 0 0)]⟩ ?_
       refine TTt Tryz.results79 (.v (Ed 0 0)) (V8 6) (fun _ _ h=>h) (fun ρ a w8 hs8=>?_)
       exact ⟨0,0,6,_,_,rfl,hs8.lands,((((((hg1.trans hg2 (Nat.le_refl _)).trans hg3 (Nat.le_refl _)).trans hg4 (Nat.le_refl _)).trans hg5 (Nat.le_refl _)).trans hg6 (Nat.le_refl _))).mono (by rw [jobK_succ];omega),.inr ⟨rfl,rfl,rfl,hfl6⟩⟩
     ·refine ⟨.v (.tuple #[Ed 0 0,.int .u8 6]),_,rfl,hl5,?_⟩
      refine RVz ⟨[(0,.p 0 0),(3,.p 10 0),(4,.p 11 0),(6,V64 l),(9,V8 6),(10,.p 36 0),(11,.p 46 0)],[(0,opsB g c),(10,jobB f op l at_ ap bt bp ct cp),(11,edB 0 0),(36,edB t4 q4),(46,edB 0 0)]⟩ ?_
      refine TT.seq (TTa 50 ⟨[(0,.p 0 0),(3,.p 10 0),(4,.p 11 0),(6,V64 l),(9,V8 6),(10,.p 36 0),(11,.p 46 0),(102,VB true)],[(0,opsB g c),(10,jobB f op l at_ ap bt bp ct cp),(11,edB 0 0),(36,edB t4 q4),(46,edB 0 0)]⟩ ?_)
      refine TTy ?_
      refine TTa 50 ⟨[(4,.p 11 0),(5,V8 6)],[(11,edB 0 0)]⟩ ?_
      refine TTt Tryz.results79 (.v (Ed 0 0)) (V8 6) (fun _ _ h=>h) (fun ρ a w9 hs9=>?_)
      exact ⟨0,0,6,_,_,rfl,hs9.lands,(((((hg1.trans hg2 (Nat.le_refl _)).trans hg3 (Nat.le_refl _)).trans hg4 (Nat.le_refl _)).trans hg5 (Nat.le_refl _))).mono (by rw [jobK_succ];omega),.inr ⟨rfl,rfl,rfl,hfl5⟩⟩
    ·refine ⟨.v (.tuple #[Ed 0 0,.int .u8 6]),_,rfl,hl4,?_⟩
     refine RVz ⟨[(0,.p 0 0),(3,.p 10 0),(4,.p 11 0),(6,V64 l),(8,.p 23 0),(9,V8 6),(10,.p 36 0)],[(0,opsB g c),(10,jobB f op l at_ ap bt bp ct cp),(11,edB 0 0),(23,jobB f op (l+1) t'1 q'1 t'2 q'2 t'3 q'3),(36,edB 0 0)]⟩ ?_
     refine TT.seq (TTa 40 ⟨[(0,.p 0 0),(3,.p 10 0),(4,.p 11 0),(6,V64 l),(8,.p 23 0),(9,V8 6),(10,.p 36 0),(92,VB true)],[(0,opsB g c),(10,jobB f op l at_ ap bt bp ct cp),(11,edB 0 0),(23,jobB f op (l+1) t'1 q'1 t'2 q'2 t'3 q'3),(36,edB 0 0)]⟩ ?_)
     refine TTy ?_
     refine TTa 40 ⟨[(4,.p 11 0),(5,V8 6)],[(11,edB 0 0)]⟩ ?_
     refine TTt Tryz.results79 (.v (Ed 0 0)) (V8 6) (fun _ _ h=>h) (fun ρ a w10 hs10=>?_)
     exact ⟨0,0,6,_,_,rfl,hs10.lands,((((hg1.trans hg2 (Nat.le_refl _)).trans hg3 (Nat.le_refl _)).trans hg4 (Nat.le_refl _))).mono (by rw [jobK_succ];omega),.inr ⟨rfl,rfl,rfl,hfl4⟩⟩
   ·refine ⟨.v (.tuple #[Ed 0 0,Ed 0 0,.int .u8 6]),_,rfl,hl3,?_⟩
    refine RVz ⟨[(0,.p 0 0),(3,.p 10 0),(4,.p 11 0),(6,V64 l),(7,.p 22 0),(8,.p 23 0),(9,V8 6)],[(0,opsB g c),(10,jobB f op l at_ ap bt bp ct cp),(11,edB 0 0),(22,jobB f op (l+1) t1 q1 t2 q2 0 0),(23,jobB f op (l+1) t'1 q'1 t'2 q'2 0 0)]⟩ ?_
    refine TTa 30 ⟨[(0,.p 0 0),(3,.p 10 0),(4,.p 11 0),(6,V64 l),(7,.p 22 0),(8,.p 23 0),(9,V8 6),(82,VB true)],[(0,opsB g c),(10,jobB f op l at_ ap bt bp ct cp),(11,edB 0 0),(22,jobB f op (l+1) t1 q1 t2 q2 0 0),(23,jobB f op (l+1) t'1 q'1 t'2 q'2 0 0)]⟩ ?_
    refine TTy ?_
    refine TTa 30 ⟨[(4,.p 11 0),(5,V8 6)],[(11,edB 0 0)]⟩ ?_
    refine TTt Tryz.results79 (.v (Ed 0 0)) (V8 6) (fun _ _ h=>h) (fun ρ a w11 hs11=>?_)
    exact ⟨0,0,6,_,_,rfl,hs11.lands,(((hg1.trans hg2 (Nat.le_refl _)).trans hg3 (Nat.le_refl _))).mono (by rw [jobK_succ];omega),.inr ⟨rfl,rfl,rfl,hfl3⟩⟩
  ·refine ⟨.v (.tuple #[Ed 0 0,Ed 0 0,.int .u8 6]),_,rfl,hl2,?_⟩
   refine RVz ⟨[(0,.p 0 0),(3,.p 10 0),(4,.p 11 0),(6,V64 l),(7,.p 22 0),(8,.p 23 0),(9,V8 6)],[(0,opsB g c),(10,jobB f op l at_ ap bt bp ct cp),(11,edB 0 0),(22,jobB f op (l+1) t1 q1 0 0 ct cp),(23,jobB f op (l+1) t'1 q'1 0 0 ct cp)]⟩ ?_
   refine TTa 30 ⟨[(0,.p 0 0),(3,.p 10 0),(4,.p 11 0),(6,V64 l),(7,.p 22 0),(8,.p 23 0),(9,V8 6),(62,VB true)],[(0,opsB g c),(10,jobB f op l at_ ap bt bp ct cp),(11,edB 0 0),(22,jobB f op (l+1) t1 q1 0 0 ct cp),(23,jobB f op (l+1) t'1 q'1 0 0 ct cp)]⟩ ?_
   refine TTy ?_
   refine TTa 30 ⟨[(4,.p 11 0),(5,V8 6)],[(11,edB 0 0)]⟩ ?_
   refine TTt Tryz.results79 (.v (Ed 0 0)) (V8 6) (fun _ _ h=>h) (fun ρ a w12 hs12=>?_)
   exact ⟨0,0,6,_,_,rfl,hs12.lands,((hg1.trans hg2 (Nat.le_refl _))).mono (by rw [jobK_succ];omega),.inr ⟨rfl,rfl,rfl,hfl2⟩⟩
 ·refine ⟨.v (.tuple #[Ed 0 0,Ed 0 0,.int .u8 6]),_,rfl,hl1,?_⟩
  refine RVz ⟨[(0,.p 0 0),(3,.p 10 0),(4,.p 11 0),(6,V64 l),(7,.p 22 0),(8,.p 23 0),(9,V8 6)],[(0,opsB g c),(10,jobB f op l at_ ap bt bp ct cp),(11,edB 0 0),(22,jobB f op (l+1) 0 0 bt bp ct cp),(23,jobB f op (l+1) 0 0 bt bp ct cp)]⟩ ?_
  refine TTa 30 ⟨[(0,.p 0 0),(3,.p 10 0),(4,.p 11 0),(6,V64 l),(7,.p 22 0),(8,.p 23 0),(9,V8 6),(42,VB true)],[(0,opsB g c),(10,jobB f op l at_ ap bt bp ct cp),(11,edB 0 0),(22,jobB f op (l+1) 0 0 bt bp ct cp),(23,jobB f op (l+1) 0 0 bt bp ct cp)]⟩ ?_
  refine TTy ?_
  refine TTa 30 ⟨[(4,.p 11 0),(5,V8 6)],[(11,edB 0 0)]⟩ ?_
  refine TTt Tryz.results79 (.v (Ed 0 0)) (V8 6) (fun _ _ h=>h) (fun ρ a w13 hs13=>?_)
  exact ⟨0,0,6,_,_,rfl,hs13.lands,(hg1).mono (by rw [jobK_succ];omega),.inr ⟨rfl,rfl,rfl,hfl1⟩⟩
end
end Go.Proofs.YtnlmlehcpngcgaaGreat
