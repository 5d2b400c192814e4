/- Contract: store.Sweep. -/
import Derived.Test.YtnlmlehcpngcgaaGreatQbj
import Derived.Test.YtnlmlehcpngcgaaGreatQam
import Derived.Test.YtnlmlehcpngcgaaGreatQbv
import Derived.Test.YtnlmlehcpngcgaaGreatQbu
import Derived.Test.YtnlmlehcpngcgaaGreatQbp
namespace Go.Proofs.YtnlmlehcpngcgaaGreat
set_option linter.unusedSimpArgs false
set_option linter.unusedVariables false
section
open Go Go.RowKit Go.Shelf Go.Sort
def SweepOut (g n room:Nat) (cs:List (Option Rec)) (free:List Int) (l:List Edg) (F:List Nat) (w:World) (e:Ending) (w':World):Prop:=
 ∃V,VisL cs [] l V∧e = .returned (.int .i64 ((goneL V (idsL cs)).length:Int))∧Lands (stR g n room (swC cs V) (free++uN (goneL V (idsL cs)))) F w w'
def dfR (D:Nat):Res:=⟨fun W F=>F=[D]∧W.heap[D]? =some (.deferred (some [])),(fun {W W' F G} h hc hd=>⟨h.1,by rw [hc.block D (Array.getElem?_eq_some_iff.1 h.2).1 (hd D (by rw [h.1];simp))];exact h.2⟩),(fun {W F} h k hk=>by rw [h.1,List.mem_singleton] at hk;subst hk;exact (Array.getElem?_eq_some_iff.1 h.2).1)⟩
theorem TT.openS {P:Program} {c:Cx} {x:Code} {s:SS} {Q:Exit→Act→World→Prop} {g n room:Nat} {cs:List (Option Rec)} {free:List Int} {Y:Res} (hne:cs≠[]) (h:∀d,SDok n room cs free d→TT P c x s (sepR (stD g n room cs free d) Y) Q):TT P c x s (sepR (stR g n room cs free) Y) Q:=fun ρ a w hs=>by
 obtain ⟨F,⟨F1,F2,h0,h1,h2,h3⟩,h4,h5⟩:=hs.sep
 obtain ⟨d,hd,h1⟩:=stD_open h1 hne
 exact h d hd ρ a w ⟨hs.size,hs.defers,hs.fr,hs.hp,hs.inj,F,⟨F1,F2,h0,h1,h2,h3⟩,h4,h5⟩
theorem sepR_impL {A A' B:Res} {W:World} {F:List Nat} (h:(sepR A B).at_ W F) (ha:∀F,A.at_ W F→∃F',(∀ y∈F',y∈F)∧A'.at_ W F'):∃F',(∀ y∈F',y∈F)∧(sepR A' B).at_ W F':=by
 obtain ⟨F1,F2,h0,h1,h2,h3⟩:=h
 obtain ⟨F3,h4,h5⟩:=ha F1 h1
 exact ⟨F3++F2,fun y hy=>(h0 y).2 ((List.mem_append.1 hy).imp (h4 y) id),F3,F2,fun x=>List.mem_append,h5,h2,fun x hx=>h3 x (h4 x hx)⟩
theorem TT.app {P:Program} {c:Cx} {x:Code} {s:SS} {R:Res} {Q:Exit→Act→World→Prop} {ρ:Nat→Nat} {a:Act} {w:World} (h:TT P c x s R Q) (hs:St c s R ρ a w):x.wp P Q a w:=h ρ a w hs
theorem St.toL {c:Cx} {s:SS} {R R':Res} {ρ:Nat→Nat} {a:Act} {w:World} (hs:St c s R ρ a w) (hi:∀F,R.at_ w F→∃F',(∀ y∈F',y∈F)∧R'.at_ w F'):St c s R' ρ a w:=by
 obtain ⟨F,h1,h2,h3,h4⟩:=hs.sep
 obtain ⟨F',h5,h6⟩:=hi F h1
 exact ⟨hs.size,hs.defers,hs.fr,hs.hp,hs.inj,F',h6,fun k b hk=>⟨fun hm=>(h2 k b hk).1 (h5 _ hm),(h2 k b hk).2⟩,fun x hx=>h3 x (h5 x hx),h4⟩
theorem sepR_fst2 {A B C:Res} {W:World} {F:List Nat} (h:(sepR A (sepR B C)).at_ W F):∃Y,B.at_ W Y:=by
 obtain ⟨_,Z,_,_,⟨Y,_,_,h,_⟩,_⟩:=h
 exact ⟨Y,h⟩
theorem stX_blk {b:Nat} {ty:TypeId} {cells:Array Value} {A B:Res} {W:World} {F:List Nat} (h:(sepR (sepR (blkR b ty cells) A) B).at_ W F):Blk W b ty cells:=by
 obtain ⟨_,_,_,⟨_,_,_,h,_⟩,_⟩:=h
 exact h.2
theorem dfR_at {A B:Res} {D:Nat} {F:List Nat} {w w2:World} (h:Lands (sepR A (sepR B (dfR D))) F w w2):w2.heap[D]? =some (.deferred (some [])):=by
 obtain ⟨_,⟨_,_,_,_,⟨_,_,_,_,h,_⟩,_⟩,_⟩:=h
 exact h.2
theorem Lands.putD {A B:Res} {D:Nat} {F:List Nat} {w w2:World} (h:Lands (sepR A (sepR B (dfR D))) F w w2) (o:Obj):Lands A F w (w2.putObj D o):=by
 obtain ⟨F',⟨F1,F2,h0,h1,⟨F3,F4,h4,h5,⟨rfl,h6⟩,h7⟩,h3⟩,h8,h9⟩:=h
 have hD:D∈F2:=(h4 D).2 (.inr (by simp))
 refine ⟨F1,A.chg h1 (chg_putObj (F:=[D]) (Chg.refl _ _) (.inl (by simp)) o) (fun k hk hm=>?_),fun x hx=>h8 x ((h0 x).2 (.inl hx)),chg_putObj h9 (h8 D ((h0 D).2 (.inr hD))) o⟩
 rw [List.mem_singleton] at hm
 subst hm
 exact h3 k hk hD
def goneI (gb q:Nat) (V:List Int) (W3:World) (Fp pre:List Nat) (V':World):Prop:=
 ∃v,Fp=gb::blk v∧Blk V' gb 123 #[v]∧OwnF (fun i:Nat=>Value.int .u32 ((i+2:Nat):Int)) 46 V' W3.heap.size v (goneL V pre)∧Chg [gb] W3 V'
theorem goneL_snoc (V:List Int) (pre:List Nat) (x:Nat):goneL V (pre++[x])=if ((x+2:Nat):Int)∈V then goneL V pre else goneL V pre++[x]:=by
 unfold goneL
 rw [List.filter_append]
 by_cases h:((x+2:Nat):Int)∈V
 ·rw [if_pos h]
  simp only [List.filter_cons,List.filter_nil,decide_eq_true h,Bool.not_true,List.append_nil,if_false,Bool.false_eq_true]
 ·rw [if_neg h]
  simp only [List.filter_cons,List.filter_nil,decide_eq_false h,Bool.not_false,if_true]
section
attribute [local go_sem] Oper.semAt_some
set_option maxRecDepth 100000 in
set_option maxHeartbeats 8000000 in
theorem sweepR {g n room:Nat} {cs:List (Option Rec)} {free:List Int} {F:List Nat} {w:World} {A:Option Addr} {n0 c:Nat} {l:List Edg} (h:(stR g n room cs free).at_ w F) (hl:l.length=n0) (hn:n0≤1000000) (hrow:RowS 2 Edg.cells w w.heap.size A l) (hwf:∀e∈l,e.Wf) :
  Calls Tryz.prog 73 #[.pointer (some ⟨g,0,none⟩),.slice A n0 c] w (SweepOut g n room cs free l F w):=by
 obtain ⟨i0,hi,hz0,hz1,hz2⟩:=info_parts info_u32
 have hcs:cs.length≤1048576:=Nat.le_trans h.1.ok.len h.1.ok.room20
 have HRC:=Lib.hid (fun W (hb:Below w.heap.size w W)=>reached_any F g n room cs free A n0 c l W (h.1.on hb) hcs hl hn (hrow.on hb) hwf)
 have HST:=Lib.hid h
 obtain ⟨ga,gi,Fa,Fi,m,hB,hA,_,_,_,_⟩:=h.1
 have HI:=Lib.hid (fun W=>arenaIdsA ga W)
 have HB:=Lib.hid hB
 have HA:=Lib.hid hA
 clear hB hA h hrow hl
 refine (callsIn_wide (n:=0)).1 ?_
 refine callsIn_of_wp_marks Tryz.func73 rfl trivial ?_ rfl
 simp only [Tryz.ntmps73,List.size_toArray,List.length_cons,List.length_nil,Nat.reduceAdd,Nat.reduceSub,Array.replicate_succ,Array.replicate_zero,List.push_toArray,List.append_toArray,List.nil_append,List.cons_append]
 gi_wp2_with fail
 refine ⟨trivial,rfl,?_⟩
 refine (callsIn_wide.2 (HRC.out _ (Below.refl _ _))).mono ?_
 rintro e w1 ⟨⟨q,V,rfl,hq,hV,hM⟩,hb1⟩
 have k1:w1.cell? ⟨g,1,none⟩=some (.pointer (some ⟨ga,0,none⟩)):=(HB.out.onB hb1).cell 1
 have hgl:=(HB.out.onB hb1).lt
 have HB1:=Lib.hid hb1
 have HV:=Lib.hid hV
 have HM:=Lib.hid hM
 clear hb1 hV hM
 gi_wp2_with fail
 refine ⟨trivial,rfl,?_⟩
 refine (callsIn_wide.2 (HI.out _)).mono ?_
 rintro e w' ⟨rfl,rfl⟩
 gi_wp2_with fail
 obtain ⟨W3,hW3⟩:∃W3,W3=((w1.alloc (.cells #[.map (some q)] 174)).alloc (.cells #[.slice none 0 0] 123)).alloc (.cells #[.pointer (some ⟨ga,0,none⟩)] 74):=⟨_,rfl⟩
 rw [← hW3]
 have hs3:W3.heap.size=w1.heap.size+3:=by rw [hW3];simp
 have hb3:Below w1.heap.size w1 W3:=by rw [hW3];exact (((Below.refl _ _).alloc (Nat.le_refl _) _).alloc (by simp) _).alloc (by simp;omega) _
 have kb:Blk W3 (w1.heap.size+1) 123 #[.slice none 0 0]:=by
  rw [hW3]
  have:=(Blk.new (w1.alloc (.cells #[.map (some q)] 174)) 123 #[.slice none 0 0]).alloc (.cells #[.pointer (some ⟨ga,0,none⟩)] 74)
  rwa [World.size_alloc] at this
 have kx:Blk W3 (w1.heap.size+1+1) 74 #[.pointer (some ⟨ga,0,none⟩)]:=by
  rw [hW3]
  have:=Blk.new ((w1.alloc (.cells #[.map (some q)] 174)).alloc (.cells #[.slice none 0 0] 123)) 74 #[.pointer (some ⟨ga,0,none⟩)]
  rwa [World.size_alloc,World.size_alloc] at this
 have km:Blk W3 w1.heap.size 174 #[.map (some q)]:=by
  rw [hW3]
  exact ((Blk.new w1 _ _).alloc _).alloc _
 have hbw:Below w.heap.size w W3:=HB1.out.trans (hb3.mono HB1.out.size)
 have hM3:MapIs W3 q V:=HM.out.chg (F:=[]) (chg_of_below hb3) (by simp)
 have hq1:q<w1.heap.size:=HM.out.lt
 have hFl:∀k∈Fa,k<w1.heap.size:=fun k hk=>Nat.lt_of_lt_of_le (HA.out.lt k hk) HB1.out.size
 have HSQ:=Lib.hid (ids_runs (w1.heap.size+1+1) ga Fa room cs free W3 kx (HA.out.on hbw) hcs)
 have HSZ:=Lib.hid hs3
 have HBW:=Lib.hid hbw
 have HK:=Lib.hid (And.intro km hM3)
 have HFL:=Lib.hid hFl
 clear hW3 kx hs3 k1 hgl hb3 km hM3 hbw hFl
 refine' wpIn_rangeFunc_fp (gf:=110) (lb:= #[.pointer (some ⟨w1.heap.size+1+1,0,none⟩)]) rfl (Go.Proofs.enters_of Tryz.func110 (by kernel_rfl) rfl) HSQ.out (fun _=>rfl)
  (goneI (w1.heap.size+1) q V W3)
  (fun _ _ _ _=>False)
  ?loc (fun _ _ _ _ _ h=>h.elim) ?bnd (fun _ _ _ _ h=>h.elim) [w1.heap.size+1] ?hR ?hRl ⟨.slice none 0 0,rfl,kb,OwnF.nil_,Chg.refl _ _⟩
  (fun x=>{tmps:= #[.pointer (some ⟨g,0,none⟩),.slice A n0 c,undef,undef,.int .i64 0,.pointer (some ⟨w1.heap.size,0,none⟩),.pointer (some ⟨w1.heap.size+1,0,none⟩),.int .u32 ((x+2:Nat):Int),undef,undef,undef,undef,.pointer (some ⟨g,0,none⟩),.bool false,.pointer (some ⟨g,0,none⟩),.slice A n0 c,.map (some q),.pointer (some ⟨g,0,none⟩),.pointer (some ⟨g,0,none⟩),.pointer (some ⟨g,1,none⟩),.pointer (some ⟨ga,0,none⟩),.func (.func 110) #[] #[.pointer (some ⟨w1.heap.size+1+1,0,none⟩)],.int .u32 ((x+2:Nat):Int),undef,undef,undef,undef,undef,undef,undef,undef,undef,undef,undef,undef,undef,undef,undef,undef,undef,undef,undef,undef,undef,undef,undef,undef,undef,undef,undef,undef,undef,undef,undef,undef,undef,undef,undef,undef,undef,undef,undef],defers:=[]}) ?assign ?body ?done ?stop
 case loc=>
  rintro Fp pre V1 V2 ⟨v,rfl,hb,ho,hc⟩ e1 e2 e3 e4 e5
  obtain ⟨hc2,hn2⟩:=local_chg e1 e2 e3 e4 e5
  have:=HSZ.out
  exact ⟨v,rfl,(e5 _ hb.lt (.inl (by omega))).trans hb,ho.chg hc2 (fun k hk=>hn2 k (.inr (by simp [hk]))),⟨e1.trans hc.os,e2.trans hc.tape,e3.trans hc.output,Nat.le_trans hc.size e4,fun k hk hk2=>(e5 k (Nat.lt_of_lt_of_le hk hc.size) (.inl hk)).trans (hc.block k hk hk2)⟩⟩
 case bnd=>
  rintro Fp pre V1 ⟨v,rfl,hb,ho,hc⟩ k hk
  rcases List.mem_cons.1 hk with rfl|hk
  ·exact hb.lt
  ·exact ho.blk_lt k hk
 case hR=>
  intro k hk
  rw [List.mem_singleton] at hk
  subst hk
  rintro (h|h)
  ·omega
  ·have:=HFL.out _ h;omega
 case hRl=>
  have:=HSZ.out
  rintro k (h|h)
  ·omega
  ·have:=HFL.out _ h;omega
 case assign=>
  intro l' x V1 K hK
  gi_wp2
  exact hK
 case body=>
  rintro l' Fp pre x V1 ⟨v,rfl,hb,ho,hc⟩ hsV hpre
  obtain ⟨A1,n1,c1,rfl,hn1,_⟩:=ho.form
  have hx:x∈idsL cs:=hpre.subset (by simp)
  have hxl:x<cs.length:=by
   obtain ⟨r,hr⟩:=mem_idsL.1 hx
   exact (List.getElem?_eq_some_iff.1 hr).1
  have hpl:(goneL V pre).length≤34359738366:=by
   have h1:(goneL V pre).length≤pre.length:=List.length_filter_le _ _
   have h2:=hpre.length_le
   have h3:(idsL cs).length≤cs.length:=by
    unfold idsL
    exact Nat.le_trans (List.length_filter_le _ _) (by simp)
   simp at h2
   omega
  have q0:=hb.cell 0
  have hsz:=HSZ.out
  have qm:=(HK.out.1.chg hc (by simp)).cell 0
  have hmi:=HK.out.2.chg hc (by simp;omega)
  have hu:isU ((x+2:Nat):Int):=by
   simp [isU,Lit.wf,IntKind.min,IntKind.max,IntKind.signed,IntKind.bits]
   omega
  have hlk:=hmi.look hu
  have hsn:=goneL_snoc V pre x
  have hlt:w1.heap.size+1<V1.heap.size:=by omega
  by_cases hin:((x+2:Nat):Int)∈V
  ·rw [if_pos hin] at hsn hlk
   rw [show ((x+2:Nat):Int)=(x:Int)+2 by omega] at hlk
   have HG:=Lib.hid (And.intro hsn (And.intro hb (And.intro ho hc)))
   clear hsn hb ho hc hmi hpre hx
   gi_wp2_with fail
   exact ⟨_,fun k hk=> .inl hk,Chg.refl _ _,_,rfl,HG.out.2.1,by rw [HG.out.1];exact HG.out.2.2.1,HG.out.2.2.2⟩
  ·rw [if_neg hin] at hsn hlk
   rw [show ((x+2:Nat):Int)=(x:Int)+2 by omega] at hlk
   have HBK:=Lib.hid (And.intro hb (And.intro ho hc))
   have HSN:=Lib.hid hsn
   clear hsn hb ho hc hmi hpre hx
   have hV3:W3.heap.size≤V1.heap.size:=by omega
   gi_wp2_with (gi_at_builtin;refine wpIn_app1 (f:=fun i:Nat=>Value.int .u32 ((i+2:Nat):Int)) Tryz.underlying123 hi hz0 hz1 hz2 rfl (by omega) V1 rfl _ _ rfl W3.heap.size _ (goneL V pre) x 1 rfl HBK.out.2.1 hV3 hpl rfl rfl rfl ?_;intro v' w9 hown' hb1 hs1 hg1 hv1;have hb1':Blk w9 (w1.heap.size+1) 123 #[.slice A1 n1 c1]:=(hg1.block _ hlt (fun e=>by have:=(HBK.out.2.1.lt _ e.symm).1;omega)).trans HBK.out.1;obtain ⟨A2,n2,c2,rfl,hn2,_⟩:=hown'.form;have q1:=hb1'.cell 0;have z1:=hb1'.frozen 0)
   have K:=Lib.hid (And.intro hown' (And.intro hb1 (And.intro hs1 (And.intro hg1 (And.intro hv1 hb1')))))
   obtain ⟨hown',hb1,hs1,hg1,hv1,hb1'⟩:=K.out
   refine ⟨(w1.heap.size+1)::blk (.slice A2 n2 c2),fun k hk=>?_,?_,.slice A2 n2 c2,rfl,hb1'.set_ 0 _,?_,?_⟩
   ·rcases List.mem_cons.1 hk with rfl|hk
    ·left;simp
    ·rcases hv1 k (mem_blk.1 hk) with h|h
     ·left;exact List.mem_cons_of_mem _ (mem_blk.2 h)
     ·exact .inr h
   ·exact ((chg_grown hg1).mono (fun k hk=> .inl (List.mem_cons_of_mem _ hk))).setCell (p:=⟨w1.heap.size+1,0,none⟩) (.inl (by simp)) _
   ·rw [HSN.out]
    exact hown'.set_below (a:=⟨w1.heap.size+1,0,none⟩) (by simp only;omega) _
   ·have hbx:Chg (blk (.slice A1 n1 c1)) V1 w9:=chg_grown hg1
    exact (HBK.out.2.2.trans hbx (fun k hk=> .inr (HBK.out.2.1.lt k (mem_blk.1 hk)).1)).setCell (p:=⟨w1.heap.size+1,0,none⟩) (.inl (by simp)) _
 case done=>
  rintro D Fp V1 hD nD ⟨v,rfl,hb,ho,hc⟩ hK
  obtain ⟨A1,n1,c1,rfl,hn1,_⟩:=ho.form
  obtain ⟨G,hG⟩:∃G,G=goneL V (idsL cs):=⟨_,rfl⟩
  have HAT:Hid (∀ k i,G[k]? =some i→∃r,cs[i]? =some (some r)∧(dropL cs (G.take k))[i]? =some (some r)):=Lib.hid (fun k i hi=>by rw [hG] at hi ⊢;exact dropL_at hi)
  rw [← hG] at ho
  have hlG:G.length=n1:=by rw [hG];exact hn1
  have hsz:=HSZ.out
  have hw1:=HB1.out.size
  have hw3:=HBW.out.size
  have hV1:Below w.heap.size w V1:=HBW.out.trans (hc.below hw3 (fun x hx=>by rw [List.mem_singleton] at hx;omega))
  have hcap:n1≤1048576:=by
   have h1:G.length≤(idsL cs).length:=by rw [hG];exact List.length_filter_le _ _
   have h2:(idsL cs).length≤cs.length:=by
    unfold idsL
    exact Nat.le_trans (List.length_filter_le _ _) (by simp)
   omega
  have hgl:w1.heap.size+1<V1.heap.size:=hb.lt
  have HR:Hid (∃ F',(sepR (stR g n room cs free) (sepR (slU A1 n1 c1 (uN G)) (dfR D))).at_ V1 F'∧¬(w1.heap.size+1)∈F'∧∀x∈F',x∈F∨w.heap.size≤x):=Lib.hid (by
   have hFl:=HST.out.1.lt
   have hlt:=ho.lt
   refine ⟨F++(blk (.slice A1 n1 c1)++[D]),⟨F,blk (.slice A1 n1 c1)++[D],fun x=>List.mem_append,(stR g n room cs free).chg HST.out (chg_of_below (F:=[]) hV1) (fun _ _ h=>by cases h),⟨blk (.slice A1 n1 c1),[D],fun x=>List.mem_append,⟨rfl,?_⟩,⟨rfl,hK⟩,fun x hx hm=>?_⟩,fun x hx hm=>?_⟩,fun hm=>?_,fun x hx=>?_⟩
   ·have ho:=OwnF.mono ho (Nat.zero_le _)
    refine ownF_slU.1 ?_
    unfold OwnF at ho ⊢
    unfold uN
    rw [List.map_map,List.length_map]
    exact ho
   ·rw [List.mem_singleton] at hm
    subst hm
    exact nD (List.mem_cons_of_mem _ hx)
   ·have:=hFl x hx
    rcases List.mem_append.1 hm with hm|hm
    ·have:=(hlt x (mem_blk.1 hm)).1;omega
    ·rw [List.mem_singleton] at hm;omega
   ·rcases List.mem_append.1 hm with hm|hm
    ·have:=hFl _ hm;omega
    ·rcases List.mem_append.1 hm with hm|hm
     ·have:=(hlt _ (mem_blk.1 hm)).1;omega
     ·rw [List.mem_singleton] at hm;omega
   ·rcases List.mem_append.1 hx with hx|hx
    ·exact .inl hx
    ·rcases List.mem_append.1 hx with hm|hm
     ·have:=(hlt _ (mem_blk.1 hm)).1;exact .inr (by omega)
     ·rw [List.mem_singleton] at hm;exact .inr (by omega))
  have HBV:=Lib.hid (And.intro hb hV1)
  clear hb ho hc hV1
  simp only [Exit.inBlock,Exit.then]
  apply_assumption
  refine wpIn_wide.2 ?_
  refine TT.app (c:=⟨w,F,62,[{target:= .collected D,args:= #[]}]⟩) (s:=⟨[(0,VP g),(6,.p 1 0)],[(1,⟨123,false,[.v (.slice A1 n1 c1)]⟩)]⟩) (R:=sepR (stR g n room (dropL cs (G.take 0)) (free++uN (G.take 0))) (sepR (slU A1 n1 c1 (uN G)) (dfR D))) (ρ:=fun _=>w1.heap.size+1) ?_ ?_
  rotate_left
  ·obtain ⟨F',h1,h2,h3⟩:=HR.out
   refine ⟨rfl,rfl,fun t x hx=>?_,fun k b hk=>?_,fun k k' b b' hk hk' _=>?_,F',?_,fun k b hk=>⟨h2,fun _=> .inr (show w.heap.size≤w1.heap.size+1 by omega)⟩,h3,chg_of_below (F:=F) HBV.out.2⟩
   ·have:=lk_mem hx
    simp only [List.mem_cons,Prod.mk.injEq,List.not_mem_nil,or_false] at this
    rcases this with ⟨rfl,rfl⟩|⟨rfl,rfl⟩<;>rfl
   ·have:=lk_mem hk
    simp only [List.mem_cons,Prod.mk.injEq,List.not_mem_nil,or_false] at this
    obtain ⟨rfl,rfl⟩:=this
    exact HBV.out.1
   ·have e1:=lk_mem hk
    have e2:=lk_mem hk'
    simp only [List.mem_cons,Prod.mk.injEq,List.not_mem_nil,or_false] at e1 e2
    rw [e1.1,e2.1]
   ·rw [List.take_zero]
    show (sepR (stR g n room cs (free++[])) _).at_ V1 F'
    rw [List.append_nil]
    exact h1
  refine TT.seq (TTa 10 ⟨[(0,VP g),(6,.p 1 0),(31,.v (.slice A1 n1 c1)),(32,V64 (n1:Int)),(33,V64 0)],[(1,⟨123,false,[.v (.slice A1 n1 c1)]⟩)]⟩ ?_)
  refine TT.block ?_
  refine TT.loop (ι:=Nat) (fun k=>k≤n1) (fun k=>⟨[(0,VP g),(6,.p 1 0),(31,.v (.slice A1 n1 c1)),(32,V64 (n1:Int)),(33,V64 (k:Int))],[(1,⟨123,false,[.v (.slice A1 n1 c1)]⟩)]⟩) (fun k=>sepR (stR g n room (dropL cs (G.take k)) (free++uN (G.take k))) (sepR (slU A1 n1 c1 (uN G)) (dfR D))) (fun k=>n1-k) 0 (by omega) rfl rfl (fun k hi1=>?_)
  have hup:IntKind.i64.wrap ((k:Int)+1)=((k+1:Nat):Int):=i64_up (by omega)
  refine TTa 10 ⟨[(0,VP g),(6,.p 1 0),(31,.v (.slice A1 n1 c1)),(32,V64 (n1:Int)),(33,V64 (k:Int)),(34,VB (decide ((k:Int)<(n1:Int))))],[(1,⟨123,false,[.v (.slice A1 n1 c1)]⟩)]⟩ ?_
  refine TT.seq ?_
  refine TT.cond (b:=decide ((k:Int)<(n1:Int))) (by kernel_rfl) (fun hc2=>?_) (fun hc2=>?_)
  ·have hk:k<n1:=by simp only [decide_eq_true_eq] at hc2;omega
   obtain ⟨i,hi⟩:∃i,G[k]? =some i:=⟨_,List.getElem?_eq_getElem (by omega)⟩
   obtain ⟨r,hr,hrd⟩:=HAT.out k i hi
   have hui:(uN G)[k]? =some ((i+2:Nat):Int):=by unfold uN;rw [List.getElem?_map,hi];rfl
   have hrec:recAt (dropL cs (G.take k)) ((i+2:Nat):Int)=some r:=by
    unfold recAt
    rw [if_pos (by omega),show (((i+2:Nat):Int)-2).toNat=i by omega,hrd]
    rfl
   have hne:dropL cs (G.take k)≠[]:=fun e=>by rw [e] at hrd;cases hrd
   have hi20:i≤1048576:=by have:=(List.getElem?_eq_some_iff.1 hr).1;omega
   obtain ⟨kk,hkk⟩:∃kk,cntC (dropL cs (G.take k))=kk+1:=⟨_,(cntC_gone hrd).symm⟩
   have hT1:dropL cs (G.take (k+1))=(dropL cs (G.take k)).set i none:=by rw [List.take_add_one,hi];exact dropL_snoc _ _ _
   have hT2:free++uN (G.take (k+1))=(free++uN (G.take k))++[((i+2:Nat):Int)]:=by rw [List.take_add_one,hi];unfold uN;rw [List.map_append,List.append_assoc];rfl
   refine TT.openS hne (fun d hd=>?_)
   refine TT.know (d.sl.length=d.Ni) (fun w F h=>stD_Ni (sepR_fst h).choose_spec) (fun hN=>?_)
   refine TT.skip ?_
   refine TT.next ?_
   refine TT.seq ?_
   refine TT.block ?_
   refine TTE 2 false [0,1] 10 ?_
   refine RVd 0 (.idx 123 (.v (.slice A1 n1 c1)) (V64 (k:Int))) (.v (.pointer (some (adr A1 (k*1))))) (fun ρ w F hF=>slR_ix k (sepR_fst2 hF).choose_spec (by kernel_rfl) (by kernel_rfl) hk) ?_
   refine RVd 1 (.load 46 (.v (.pointer (some (adr A1 (k*1)))))) (V32 ((i+2:Nat):Int)) (fun ρ w F hF=>slR_ld1 (by kernel_rfl) k _ (sepR_fst2 hF).choose_spec (fun _=>rfl) hui rfl) ?_
   refine RVz ⟨[(0,VP g),(6,.p 1 0),(9,V32 ((i+2:Nat):Int)),(31,.v (.slice A1 n1 c1)),(32,V64 (n1:Int)),(33,V64 (k:Int))],[(1,⟨123,false,[.v (.slice A1 n1 c1)]⟩)]⟩ ?_
   refine TTE 2 false [3,5] 10 ?_
   refine RVd 3 (.load 74 (.v (.pointer (some ⟨g,1,none⟩)))) (VP d.ga) (fun ρ w F hF=>run_ld (by kernel_rfl) ((stX_blk hF).cell 1)) ?_
   refine RVc 5 76 (fun ρ=>[.pointer (some ⟨d.ga,0,none⟩),.int .u32 ((i+2:Nat):Int)]) [] (fun ρ w3 F3 hF3 hpk3=>?_)
   refine (frame1 hF3 (fun X hX=>stD_get hX hrec hi20)).mono ?_
   rintro e3 w'3 ⟨rfl,hl3⟩
   refine ⟨.v (.tuple #[.agg #[.int .u8 r.form,.int .u8 r.top,.int .u8 r.bot,.int .u8 r.lo.tag,.int .u32 r.lo.pos,.int .u8 r.hi.tag,.int .u32 r.hi.pos],.bool true]),_,rfl,hl3,?_⟩
   refine RVz ⟨[(0,VP g),(6,.p 1 0),(9,V32 ((i+2:Nat):Int)),(10,.p 19 0),(31,.v (.slice A1 n1 c1)),(32,V64 (n1:Int)),(33,V64 (k:Int))],[(1,⟨123,false,[.v (.slice A1 n1 c1)]⟩),(19,⟨78,false,[V8 r.form,V8 r.top,V8 r.bot,V8 r.lo.tag,V32 r.lo.pos,V8 r.hi.tag,V32 r.hi.pos]⟩)]⟩ ?_
   refine TTE 2 true [3,6] 20 ?_
   refine RVd 3 (.load 79 (.v (.pointer (some ⟨g,2,none⟩)))) (VP d.gi) (fun ρ w F hF=>run_ld (by kernel_rfl) ((stX_blk hF).cell 2)) ?_
   refine RVc 6 95 (fun ρ=>[.pointer (some ⟨d.gi,0,none⟩),.agg #[.int .u8 r.form,.int .u8 r.top,.int .u8 r.bot,.int .u8 r.lo.tag,.int .u32 r.lo.pos,.int .u8 r.hi.tag,.int .u32 r.hi.pos]]) [] (fun ρ w4 F4 hF4 hpk4=>?_)
   refine (frame1 hF4 (fun X hX=>stD_drop hX hd hkk hrec)).mono ?_
   rintro e4 w'4 ⟨rfl,hl4⟩
   refine ⟨VB true,_,rfl,hl4,?_⟩
   refine RVz ⟨[(0,VP g),(6,.p 1 0),(9,V32 ((i+2:Nat):Int)),(31,.v (.slice A1 n1 c1)),(32,V64 (n1:Int)),(33,V64 (k:Int))],[(1,⟨123,false,[.v (.slice A1 n1 c1)]⟩)]⟩ ?_
   refine TT.r (m:=2) false [3,5] 10 mixed (by kernel_rfl) ?_
   refine RVd 3 (.load 74 (.v (.pointer (some ⟨g,1,none⟩)))) (VP d.ga) (fun ρ w F hF=>run_ld (by kernel_rfl) ((stX_blk hF).cell 1)) ?_
   refine RVc 5 96 (fun ρ=>[.pointer (some ⟨d.ga,0,none⟩),.int .u32 ((i+2:Nat):Int)]) [] (fun ρ w5 F5 hF5 hpk5=>?_)
   refine (frame1 hF5 (fun X hX=>stM_drop hX hd hkk hrd)).mono ?_
   rintro e5 w'5 ⟨rfl,hl5⟩
   refine ⟨VB true,_,rfl,hl5,?_⟩
   refine RV.fin (s':=⟨[(0,VP g),(6,.p 1 0),(31,.v (.slice A1 n1 c1)),(32,V64 (n1:Int)),(33,V64 (k:Int))],[(1,⟨123,false,[.v (.slice A1 n1 c1)]⟩)]⟩) (by kernel_rfl) (by kernel_rfl) ?_
   refine TT.next ?_
   refine TT.p0 (s':=⟨[(0,VP g),(6,.p 1 0),(31,.v (.slice A1 n1 c1)),(32,V64 (n1:Int)),(33,V64 (IntKind.i64.wrap ((k:Int)+1)))],[(1,⟨123,false,[.v (.slice A1 n1 c1)]⟩)]⟩) 10 (by kernel_rfl) ?_
   rw [hup]
   exact fun ρ a w hs=>⟨ρ,k+1,by omega,by omega,hs.toL (R':=sepR (stR g n room (dropL cs (G.take (k+1))) (free++uN (G.take (k+1)))) (sepR (slU A1 n1 c1 (uN G)) (dfR D))) (fun F h=>by rw [hT1,hT2];exact sepR_impL h (fun X hX=>stX_close hX hd hN hkk hrd))⟩
  ·have hk:n1=k:=by simp only [decide_eq_false_iff_not] at hc2;omega
   subst hk
   refine TTx ?_
   refine TT.next ?_
   refine TTa 10 ⟨[(4,V64 (n1:Int))],[]⟩ ?_
   refine fun ρ a w2 hs2=>wp_ret ?_
   show LeavesInM Fence.wide 0 _ _ a.tmps _ a.defers .returning w2
   have hdf:a.defers=[{target:= .collected D,args:= #[]}]:=hs2.defers
   have hDD:w2.heap[D]? =some (.deferred (some [])):=dfR_at hs2.lands
   have ht4:a.tmps.getD 4 undef = .int .i64 (n1:Int):=by
    have:=hs2.fr 4 _ rfl
    rw [Array.getD_eq_getD_getElem?,this]
    rfl
   rw [hdf]
   refine ⟨by simp,.inl ⟨_,_,rfl,run_takeDeferred hDD,?_⟩⟩
   refine ⟨_,results_tmp rfl _ _ _,V,HV.out,by rw [ht4,←hG,hlG],?_⟩
   have hfin:=Lands.putD hs2.lands (.deferred none)
   rw [List.take_of_length_le (by omega),hG,dropL_all] at hfin
   rw [← hG] at hfin ⊢
   exact hfin
 case stop=>
  rintro D c Fp pre V hD nD hpre h hK
  exact h.elim
end
end
end Go.Proofs.YtnlmlehcpngcgaaGreat
