/- Caches as resources: New. A store in its parts, and put together. Frames for contracts of a part; a store's parts asked. A range over a function whose iterator may keep cells of its own: the contract names the blocks that the loop's body owns. Iterators: what stands between two rounds. -/
import Derived.Test.YtnlmlehcpngcgaaGreatQbj
import Derived.Test.YtnlmlehcpngcgaaGreatQbk
import Derived.Test.YtnlmlehcpngcgaaGreatQbn
import Derived.Test.YtnlmlehcpngcgaaGreatQbo
import Derived.Test.YtnlmlehcpngcgaaGreatQbh
import Derived.RangeFuncNested
import Derived.RangeFuncBound
import Derived.RangeFuncCalls
import Derived.RangeFuncLeaves
import Derived.Test.YtnlmlehcpngcgaaGreatQaa
import Derived.Shelf.Abstract
import Derived.Shelf.RegionOpen
import Derived.OwnWalkIn
import Derived.TacticsInMore
import Derived.LoopNIn
import Derived.LoopIn
namespace Go.Proofs.YtnlmlehcpngcgaaGreat
set_option linter.unusedSimpArgs false
set_option linter.unusedVariables false
section
open Go.RowKit Go.Sort
structure QJ where
 f:Int
 kind:Int
 l:Int
 levels:Int
 a:Edg
 b:Edg
def QJ.cells (j:QJ):List Value:=[.int .u8 j.f,.int .u8 j.kind,.int .u8 j.l,.int .u16 j.levels,.int .u8 j.a.tag,.int .u32 j.a.pos,.int .u8 j.b.tag,.int .u32 j.b.pos]
structure FJ where
 f:Int
 kind:Int
 l:Int
 till:Int
 a:Edg
 b:Edg
def FJ.cells (j:FJ):List Value:=[.int .u8 j.f,.int .u8 j.kind,.int .u8 j.l,.int .u8 j.till,.int .u8 j.a.tag,.int .u32 j.a.pos,.int .u8 j.b.tag,.int .u32 j.b.pos]
theorem caR_new {J:Type} {tC tE:TypeId} {s:Nat} {enc:J→List Value} {c n q:Nat} {P:J→Edg→Prop} {R:Res} {F:List Nat} {w:World} {A:Option Addr} {z:J×Edg×Int} (hn:n=2^q) (hq:q≤40) (hz:z.2.2=0) (h:(sepR (blkR c tC #[.slice A n n,.int .i64 1,.int .i64 0,.int .i64 0]) (sepR (slR (s+3) (entC enc) tE A n n (List.replicate n z)) R)).at_ w F):(sepR (caR tC tE s enc c 1 P) R).at_ w F:=by
 obtain ⟨F1,F2,e0,⟨rfl,hB⟩,⟨F3,F4,e1,hs,hR,d1⟩,d0⟩:=h
 obtain ⟨b,rfl,rfl⟩:=slR_head hs (by rw [hn];exact Nat.two_pow_pos q)
 refine ⟨[c,b],F4,fun x=>?_,⟨1,⟨by decide,by decide⟩,b,n,0,0,_,rfl,?_,hB,hs.2,slR_len hs,⟨q,hq,hn⟩,fun e he=>?_⟩,hR,fun x hx hm=>?_⟩
 ·rw [e0,e1]
  simp [or_assoc]
 ·rintro rfl
  exact d0 c (by simp) ((e1 c).2 (.inl (by simp)))
 ·rw [List.eq_of_mem_replicate he,hz]
  exact ⟨by decide,fun h=>by cases h⟩
 ·simp at hx
  rcases hx with rfl|rfl
  ·exact d0 x (by simp) ((e1 x).2 (.inr hm))
  ·exact d1 x (by simp) hm
theorem cacheN_apply {R:Res} {F:List Nat} {w:World} (h:R.at_ w F):Calls Tryz.prog 35 #[.int .i64 12] w fun e w'=>∃c,e = .returned (.tuple #[.pointer (some ⟨c,0,none⟩),.int .u8 0])∧∀P,Lands (sepR (caR 135 189 9 Jb.cells c 1 P) R) F w w':=by
 refine TTg [V64 12] Tryz.func35 Tryz.ntmps35 h ?_
 refine TTa 0 ⟨[(0,V64 12)],[]⟩ ?_
 refine TT.seq (TTa 0 ⟨[(0,V64 12),(9,VB false)],[]⟩ ?_)
 refine TTu (TT.next ?_)
 refine TTe 1 [2] ?_
 refine RV.mk (α:=Jb×Edg×Int) (s:=12) (enc:=entC Jb.cells) (E:=189) 2 133 4096 (⟨0,0,0,Edg.nil,Edg.nil,Edg.nil⟩,Edg.nil,0) (z:= .agg (entC Jb.cells ((⟨0,0,0,Edg.nil,Edg.nil,Edg.nil⟩,Edg.nil,0):Jb×Edg×Int)).toArray) (bytes:=48) (by kernel_rfl) (by kernel_rfl) (by kernel_rfl) (by kernel_rfl) (by kernel_rfl) (by kernel_rfl) (by decide) (fun _=>rfl) (by decide) (by decide) (fun A=>?_)
 refine RVz ⟨[(2,.p 4 0),(3,V8 0)],[(4,⟨135,false,[.v (.slice A 4096 4096),V64 1,V64 0,V64 0]⟩)]⟩ ?_
 refine TTt Tryz.results35 (.p 4 0) (V8 0) (fun _ _ h=>h) (fun ρ a w1 hs1=>?_)
 exact ⟨ρ 4,rfl,fun P=>(hs1.lands_blk (k:=4) rfl rfl).imp fun _ h=>caR_new (q:=12) rfl (by decide) rfl h⟩
theorem cacheN_quant {R:Res} {F:List Nat} {w:World} (h:R.at_ w F):Calls Tryz.prog 36 #[.int .i64 12] w fun e w'=>∃c,e = .returned (.tuple #[.pointer (some ⟨c,0,none⟩),.int .u8 0])∧∀P,Lands (sepR (caR 138 264 8 QJ.cells c 1 P) R) F w w':=by
 refine TTg [V64 12] Tryz.func36 Tryz.ntmps36 h ?_
 refine TTa 0 ⟨[(0,V64 12)],[]⟩ ?_
 refine TT.seq (TTa 0 ⟨[(0,V64 12),(9,VB false)],[]⟩ ?_)
 refine TTu (TT.next ?_)
 refine TTe 1 [2] ?_
 refine RV.mk (α:=QJ×Edg×Int) (s:=11) (enc:=entC QJ.cells) (E:=264) 2 136 4096 (⟨0,0,0,0,Edg.nil,Edg.nil⟩,Edg.nil,0) (z:= .agg (entC QJ.cells ((⟨0,0,0,0,Edg.nil,Edg.nil⟩,Edg.nil,0):QJ×Edg×Int)).toArray) (bytes:=40) (by kernel_rfl) (by kernel_rfl) (by kernel_rfl) (by kernel_rfl) (by kernel_rfl) (by kernel_rfl) (by decide) (fun _=>rfl) (by decide) (by decide) (fun A=>?_)
 refine RVz ⟨[(2,.p 4 0),(3,V8 0)],[(4,⟨138,false,[.v (.slice A 4096 4096),V64 1,V64 0,V64 0]⟩)]⟩ ?_
 refine TTt Tryz.results36 (.p 4 0) (V8 0) (fun _ _ h=>h) (fun ρ a w1 hs1=>?_)
 exact ⟨ρ 4,rfl,fun P=>(hs1.lands_blk (k:=4) rfl rfl).imp fun _ h=>caR_new (q:=12) rfl (by decide) rfl h⟩
theorem cacheN_family {R:Res} {F:List Nat} {w:World} (h:R.at_ w F):Calls Tryz.prog 38 #[.int .i64 12] w fun e w'=>∃c,e = .returned (.tuple #[.pointer (some ⟨c,0,none⟩),.int .u8 0])∧∀P,Lands (sepR (caR 141 266 8 FJ.cells c 1 P) R) F w w':=by
 refine TTg [V64 12] Tryz.func38 Tryz.ntmps38 h ?_
 refine TTa 0 ⟨[(0,V64 12)],[]⟩ ?_
 refine TT.seq (TTa 0 ⟨[(0,V64 12),(9,VB false)],[]⟩ ?_)
 refine TTu (TT.next ?_)
 refine TTe 1 [2] ?_
 refine RV.mk (α:=FJ×Edg×Int) (s:=11) (enc:=entC FJ.cells) (E:=266) 2 139 4096 (⟨0,0,0,0,Edg.nil,Edg.nil⟩,Edg.nil,0) (z:= .agg (entC FJ.cells ((⟨0,0,0,0,Edg.nil,Edg.nil⟩,Edg.nil,0):FJ×Edg×Int)).toArray) (bytes:=40) (by kernel_rfl) (by kernel_rfl) (by kernel_rfl) (by kernel_rfl) (by kernel_rfl) (by kernel_rfl) (by decide) (fun _=>rfl) (by decide) (by decide) (fun A=>?_)
 refine RVz ⟨[(2,.p 4 0),(3,V8 0)],[(4,⟨141,false,[.v (.slice A 4096 4096),V64 1,V64 0,V64 0]⟩)]⟩ ?_
 refine TTt Tryz.results38 (.p 4 0) (V8 0) (fun _ _ h=>h) (fun ρ a w1 hs1=>?_)
 exact ⟨ρ 4,rfl,fun P=>(hs1.lands_blk (k:=4) rfl rfl).imp fun _ h=>caR_new (q:=12) rfl (by decide) rfl h⟩
structure SD where
 ga:Nat
 gi:Nat
 bi:Nat
 Ni:Nat
 ci:Nat
 ba:Nat
 Na:Nat
 ca:Nat
 A:Option Addr
 n:Nat
 c:Nat
 sl:List (Option (Rec×Nat))
abbrev tSt:TypeId:=84
def stD (g n room:Nat) (cs:List (Option Rec)) (free:List Int) (d:SD):Res:=
 sepR (blkR g tSt #[.int .i64 (n:Nat),.pointer (some ⟨d.ga,0,none⟩),.pointer (some ⟨d.gi,0,none⟩)]) (sepR (idxR d.gi d.bi d.Ni d.ci d.sl (cntC cs)) (sepR (slU d.A d.n d.c free) (arC d.ga d.ba d.Na d.ca (.slice d.A d.n d.c) cs (cntC cs) room)))
structure SDok (n room:Nat) (cs:List (Option Rec)) (free:List Int) (d:SD):Prop where
 pow:∃q,3≤q∧q≤22∧d.sl.length=2^q
 tab:Tab hsh d.sl
 cnt:Go.Proofs.YtnlmlehcpngcgaaGreat.cnt d.sl=cntC cs
 half:2*cntC cs≤d.sl.length
 ok:SlotsOk d.sl
 look:∀(r:Rec) (id:Nat),recAt cs id=some r↔Look d.sl r id
 st:StOk n room cs free
 fr:FreeOk cs free
theorem st_apart {g ga ba gi bi:Nat} {bf:List Nat} (h:(g::((ga::([ba]++bf))++(gi::[bi]))).Nodup):gi≠bi∧ga≠ba∧(∀ x∈bf,¬x∈[ga,ba])∧(∀ x∈[gi,bi],¬x∈bf++[ga,ba])∧(∀ x∈[g],¬x∈gi::bi::(bf++[ga,ba])):=by
 simp only [List.nodup_cons,List.mem_cons,List.mem_append,List.nodup_append,not_or,List.not_mem_nil,or_false,List.cons_append,List.nil_append] at h ⊢
 obtain ⟨⟨h1,h2,h3,h4,h5⟩,h6⟩:=h
 refine ⟨?_,?_,?_,?_,?_⟩<;>grind
section
variable {g n room:Nat} {cs:List (Option Rec)} {free:List Int} {W:World} {F:List Nat}
theorem ownF_slU {A:Option Addr} {n c:Nat} {xs:List Int}:OwnF (Value.int .u32) 46 W 0 (.slice A n c) xs↔OwnS 1 (fun x:Int=>[Value.int .u32 x]) 46 W 0 (.slice A n c) xs:=by
 unfold OwnF OwnS
 rw [show xs.flatMap (fun x:Int=>[Value.int .u32 x])=xs.map (Value.int .u32) from by induction xs with |nil=>rfl|cons x xs ih=>rw [List.flatMap_cons,ih];rfl]
theorem stD_open (h:(stR g n room cs free).at_ W F) (hne:cs≠[]):∃d,SDok n room cs free d∧(stD g n room cs free d).at_ W F:=by
 obtain ⟨⟨ga,gi,Fa,Fi,m,hB,⟨A,na,ca,A',n',c',a1,a2,a3,a4,a5,rfl,a7⟩,⟨sl,⟨Ai,ni,ci,i1,i2,i3,rfl,i5⟩,i6,i7,i8,i9,i10,i11⟩,h4,rfl,h6,h7⟩,hf⟩:=h
 have hlen:0<cs.length:=List.length_pos_iff.2 hne
 obtain ⟨ba,c1,e1,_⟩:=a2.head hlen
 injection e1 with e1 e2 e3
 subst e1
 obtain ⟨q,q1,q2,q3⟩:=i6
 obtain ⟨bi,c2,e4,_⟩:=i2.head (by rw [q3];exact Nat.two_pow_pos q)
 injection e4 with e4 e5 e6
 subst e4
 have e7:blk (.slice (some ⟨ba,0,none⟩) na ca)=[ba]:=rfl
 have e8:blk (.slice (some ⟨bi,0,none⟩) ni ci)=[bi]:=rfl
 rw [e7,e8] at *
 generalize hbf:blk (.slice A' n' c')=bf at *
 obtain ⟨d1,d2,d3,d4,d5⟩:=st_apart h6
 refine ⟨⟨ga,gi,bi,ni,ci,ba,na,ca,A',n',c',sl⟩,⟨⟨q,q1,q2,q3⟩,i7,i8,i9,i10,fun r id=>(h4 r id).symm.trans (i11 r id),h7,hf⟩,[g],gi::bi::(bf++[ga,ba]),fun x=>?_,⟨rfl,hB⟩,⟨[gi,bi],bf++[ga,ba],fun x=>?_,⟨rfl,?_,i1,i2,i3⟩,⟨bf,[ga,ba],fun x=>List.mem_append,⟨hbf.symm,ownF_slU.1 a3⟩,⟨rfl,?_,a1,a2,a4⟩,fun x hx hm=>?_⟩,fun x hx hm=>?_⟩,fun x hx hm=>?_⟩
 ·simp only [List.mem_cons,List.mem_append,List.not_mem_nil,or_false]
  grind
 ·simp only [List.mem_cons,List.mem_append,List.not_mem_nil,or_false]
  grind
 ·exact d1
 ·exact d2
 ·exact d3 x hx hm
 ·exact d4 x hx hm
 ·exact d5 x hx hm
theorem blk_nodup (v:Value):(blk v).Nodup:=by
 unfold blk
 cases v.ownBlock<;>simp
theorem stD_close {d:SD} (h:(stD g n room cs free d).at_ W F) (hd:SDok n room cs free d):∃F',(∀ y∈F',y∈F)∧(stR g n room cs free).at_ W F':=by
 classical
 obtain ⟨F1,F2,e0,⟨rfl,hB⟩,⟨F3,F4,e1,⟨rfl,i0,i1,i2,i3⟩,⟨F5,F6,e2,hU,⟨rfl,a0,a1,a2,a4⟩,d2⟩,d1⟩,d0⟩:=h
 have hlU:=slR_len hU
 obtain ⟨rfl,hU⟩:=hU
 generalize hbf:blk (.slice d.A d.n d.c)=bf at *
 have hbn:bf.Nodup:=hbf▸blk_nodup _
 have m1:∀x∈bf,x∈F:=fun x hx=>(e0 x).2 (.inr ((e1 x).2 (.inr ((e2 x).2 (.inl hx)))))
 have m2:∀x∈[d.ga,d.ba],x∈F:=fun x hx=>(e0 x).2 (.inr ((e1 x).2 (.inr ((e2 x).2 (.inr hx)))))
 have m3:∀x∈[d.gi,d.bi],x∈F:=fun x hx=>(e0 x).2 (.inr ((e1 x).2 (.inl hx)))
 have m4:g∈F:=(e0 g).2 (.inl (by simp))
 have hnd:(g::((d.ga::([d.ba]++bf))++(d.gi::[d.bi]))).Nodup:=by
  have k0:∀x∈F2,x≠g:=fun x hx e=>d0 g (by simp) (e▸hx)
  have k1:∀x∈F4,x≠d.gi∧x≠d.bi:=fun x hx=>⟨fun e=>d1 d.gi (by simp) (e▸hx),fun e=>d1 d.bi (by simp) (e▸hx)⟩
  have k2:∀x∈bf,x≠d.ga∧x≠d.ba:=fun x hx=>⟨fun e=>d2 x hx (by simp [e]),fun e=>d2 x hx (by simp [e])⟩
  have k3:∀x∈bf,x∈F4:=fun x hx=>(e2 x).2 (.inl hx)
  have k4:d.ga∈F4∧d.ba∈F4:=⟨(e2 _).2 (.inr (by simp)),(e2 _).2 (.inr (by simp))⟩
  have k5:∀x∈F4,x∈F2:=fun x hx=>(e1 x).2 (.inr hx)
  have k6:d.gi∈F2∧d.bi∈F2:=⟨(e1 _).2 (.inl (by simp)),(e1 _).2 (.inl (by simp))⟩
  clear e0 e1 e2 d0 d1 d2 m1 m2 m3 m4 hB i1 i2 i3 a1 a2 a4 hU hd hlU hbf
  simp only [List.nodup_cons,List.mem_cons,List.mem_append,List.nodup_append,not_or,List.not_mem_nil,or_false,List.cons_append,List.nil_append]
  grind
 have huq:∀(r:Rec) (i j:Nat),recAt cs i=some r→recAt cs j=some r→i=j:=fun r i j h1 h2=>by
  obtain ⟨a,ha⟩:=(hd.look r i).1 h1
  obtain ⟨b,hb⟩:=(hd.look r j).1 h2
  have:=hd.tab.uniq hsh ha hb
  subst this
  exact (ha.inj hb).2
 have hm:∀(r:Rec) (id:Nat),(if h:∃id:Nat,recAt cs id=some r then some (Classical.choose h) else none)=some id↔recAt cs id=some r:=fun r id=>by
  by_cases h:∃id:Nat,recAt cs id=some r
  ·rw [dif_pos h]
   have hs:=Classical.choose_spec h
   exact ⟨fun e=>by injection e with e;rw [← e];exact hs,fun e=>congrArg some (huq r _ _ hs e)⟩
  ·rw [dif_neg h]
   exact ⟨(fun e=>by cases e),(fun e=>(h ⟨id,e⟩).elim)⟩
 refine ⟨_,fun y hy=>?_,⟨d.ga,d.gi,d.ga::([d.ba]++bf),d.gi::[d.bi],fun r=>if h:∃id:Nat,recAt cs id=some r then some (Classical.choose h) else none,hB,⟨_,d.Na,d.ca,d.A,d.n,d.c,a1,a2,ownF_slU.2 hU,a4,hlU,by rw [hbf];rfl,?_⟩,⟨d.sl,⟨_,d.Ni,d.ci,i1,i2,i3,rfl,by simpa [blk,Value.ownBlock] using i0⟩,hd.pow,hd.tab,hd.cnt,hd.half,hd.ok,fun r id=>?_⟩,fun r id=>?_,rfl,hnd,hd.st⟩,hd.fr⟩
 ·simp only [List.mem_cons,List.mem_append,List.not_mem_nil,or_false,List.cons_append,List.nil_append] at hy
  rcases hy with rfl|rfl|rfl|hy|rfl|rfl
  ·exact m4
  ·exact m2 _ (by simp)
  ·exact m2 _ (by simp)
  ·exact m1 _ hy
  ·exact m3 _ (by simp)
  ·exact m3 _ (by simp)
 ·have:=(List.nodup_append.1 (List.nodup_cons.1 hnd).2).1
  exact this
 ·exact (hm r id).trans (hd.look r id)
 ·exact hm r id
theorem cntC_gone:∀{cs:List (Option Rec)} {i:Nat} {r:Rec},cs[i]? =some (some r)→cntC (cs.set i none)+1=cntC cs
 | [],i,r,h=>by cases h
 | x::cs,0,r,h=>by
  injection h with h
  subst h
  unfold cntC
  simp
 | x::cs,i+1,r,h=>by
  have:=cntC_gone (cs:=cs) (i:=i) (r:=r) h
  unfold cntC at this ⊢
  rw [List.set_cons_succ,List.countP_cons,List.countP_cons]
  omega
theorem recAt_gone {i:Nat} {id:Nat} {r2:Rec}:recAt (cs.set i none) (id:Int)=some r2↔id≠i+2∧recAt cs (id:Int)=some r2:=by
 unfold recAt
 by_cases h2:2≤(id:Int)
 ·rw [if_pos h2,if_pos h2]
  by_cases e:id=i+2
  ·have:((id:Int)-2).toNat=i:=by omega
   rw [this]
   constructor
   ·intro h
    rw [List.getElem?_set,if_pos rfl] at h
    split at h<;>cases h
   ·intro h
    exact (h.1 e).elim
  ·have:¬i=((id:Int)-2).toNat:=by omega
   rw [List.getElem?_set_ne this]
   exact ⟨fun h=>⟨e,h⟩,fun h=>h.2⟩
 ·rw [if_neg h2,if_neg h2]
  exact ⟨(fun h=>by cases h),(fun h=>by cases h.2)⟩
theorem SDok.drop {d:SD} {i k:Nat} {r:Rec} {sl:List (Option (Rec×Nat))} (h:SDok n room cs free d) (hy:cs[i]? =some (some r)) (hk:cntC cs=k+1) (ht:Tab hsh sl) (hD:DrpOk d.sl sl r k) (hl:sl.length=d.sl.length) (A:Option Addr) (n' c':Nat) :
  SDok n room (cs.set i none) (free++[((i+2:Nat):Int)]) {d with sl:=sl,A:=A,n:=n',c:=c'}:=by
 have hr:recAt cs ((i+2:Nat):Int)=some r:=by
  unfold recAt
  rw [if_pos (by omega),show (((i+2:Nat):Int)-2).toNat=i by omega,hy]
  rfl
 have hc:=cntC_gone hy
 have hil:i<cs.length:=(List.getElem?_eq_some_iff.1 hy).1
 have hk':cntC (cs.set i none)=k:=by omega
 refine ⟨?_,ht,by rw [hk'];exact hD.cnt,?_,hD.ok,fun r2 id=>?_,⟨h.st.n16,h.st.room20,by rw [List.length_set];exact h.st.len,?_,fun j r2 hj=>?_⟩,?_,fun id hid=>?_⟩
 ·show ∃q,3≤q∧q≤22∧sl.length=2^q
  rw [hl]
  exact h.pow
 ·show 2*cntC (cs.set i none)≤sl.length
  rw [hl]
  have:=h.half
  omega
 ·show recAt (cs.set i none) (id:Int)=some r2↔Look sl r2 id
  rw [recAt_gone,hD.look,←h.look]
  constructor
  ·rintro ⟨e,h2⟩
   refine ⟨?_,h2⟩
   rintro rfl
   obtain ⟨a,ha⟩:=(h.look r2 id).1 h2
   obtain ⟨b,hb⟩:=(h.look r2 (i+2)).1 hr
   have:=h.tab.uniq hsh ha hb
   subst this
   exact e (ha.inj hb).2
  ·rintro ⟨e,h2⟩
   refine ⟨?_,h2⟩
   rintro rfl
   rw [hr] at h2
   injection h2 with h2
   exact e h2.symm
 ·have:=h.st.cnt
  rw [List.length_append,List.length_set,List.length_cons,List.length_nil]
  omega
 ·by_cases e:j=i
  ·subst e
   rw [List.getElem?_set] at hj
   simp at hj
  ·rw [List.getElem?_set_ne (fun e'=>e e'.symm)] at hj
   exact h.st.wf j r2 hj
 ·rw [List.nodup_append]
  refine ⟨h.fr.1,by simp,fun a ha b hb e=>?_⟩
  rw [List.mem_singleton] at hb
  obtain ⟨h1,h2⟩:=h.fr.2 a ha
  rw [e,hb,show (((i+2:Nat):Int)-2).toNat=i by omega,hy] at h2
  injection h2 with h2
  cases h2
 ·rcases List.mem_append.1 hid with hid|hid
  ·obtain ⟨h1,h2⟩:=h.fr.2 id hid
   refine ⟨h1,?_⟩
   by_cases e:i=(id-2).toNat
   ·rw [← e,hy] at h2
    injection h2 with h2
    cases h2
   ·rw [List.getElem?_set_ne e]
    exact h2
  ·rw [List.mem_singleton] at hid
   subst hid
   refine ⟨by omega,?_⟩
   rw [show (((i+2:Nat):Int)-2).toNat=i by omega,List.getElem?_set_self hil]
end
theorem sepR_snd {A B:Res} {W:World} {F:List Nat} (h:(sepR A B).at_ W F):∃Y,B.at_ W Y:=by
 obtain ⟨_,Y,_,_,h,_⟩:=h
 exact ⟨Y,h⟩
theorem sepR_fst {A B:Res} {W:World} {F:List Nat} (h:(sepR A B).at_ W F):∃Y,A.at_ W Y:=by
 obtain ⟨Y,_,_,h,_,_⟩:=h
 exact ⟨Y,h⟩
section
variable {P:Program} {f:FuncId} {args:Array Value} {w:World} {F:List Nat} {v:Value} {A B B' C D:Res}
theorem frame1 (h:(sepR B C).at_ w F) (hc:∀X,B.at_ w X→Calls P f args w (Says v B' X w)):Calls P f args w (Says v (sepR B' C) F w):=by
 obtain ⟨F1,F2,h0,h1,h2,h3⟩:=h
 exact (hc F1 h1).mono fun e w' ⟨e1,e2⟩=>⟨e1,lands_sep h0 h2 h3 e2⟩
theorem frame2 (h:(sepR A B).at_ w F) (hc:∀X,B.at_ w X→Calls P f args w (Says v B' X w)):Calls P f args w (Says v (sepR A B') F w):=by
 obtain ⟨F1,F2,h0,h1,h2,h3⟩:=h
 exact (hc F2 h2).mono fun e w' ⟨e1,e2⟩=>⟨e1,lands_sep' h0 h1 h3 e2⟩
end
section
variable {g n room k:Nat} {cs:List (Option Rec)} {free:List Int} {w:World} {F:List Nat} {d:SD} {r:Rec} {i:Nat}
theorem stD_arena (h:(stD g n room cs free d).at_ w F):∃Fa,ArenaAt w Fa d.ga cs free room:=by
 obtain ⟨F1,F2,e0,⟨rfl,hB⟩,⟨F3,F4,e1,⟨rfl,i0,i1,i2,i3⟩,⟨F5,F6,e2,hU,⟨rfl,a0,a1,a2,a4⟩,d2⟩,d1⟩,d0⟩:=h
 have hlU:=slR_len hU
 obtain ⟨rfl,hU⟩:=hU
 refine ⟨_,_,d.Na,d.ca,d.A,d.n,d.c,a1,a2,ownF_slU.2 hU,a4,hlU,rfl,?_⟩
 have e7:blk (.slice (some ⟨d.ba,0,none⟩) d.Na d.ca)=[d.ba]:=rfl
 rw [e7]
 have hbn:=blk_nodup (.slice d.A d.n d.c)
 generalize blk (.slice d.A d.n d.c)=bf at *
 have k2:∀x∈bf,x≠d.ga∧x≠d.ba:=fun x hx=>⟨fun e=>d2 x hx (by simp [e]),fun e=>d2 x hx (by simp [e])⟩
 clear e0 e1 e2 d0 d1 d2 hB i1 i2 i3 a1 a2 a4 hU hlU
 simp only [List.nodup_cons,List.mem_cons,List.mem_append,List.nodup_append,not_or,List.not_mem_nil,or_false,List.cons_append,List.nil_append]
 grind
theorem stD_get (h:(stD g n room cs free d).at_ w F) (hr:recAt cs ((i+2:Nat):Int)=some r) (hi:i≤1048576):Calls Tryz.prog 76 #[.pointer (some ⟨d.ga,0,none⟩),.int .u32 ((i+2:Nat):Int)] w (Says (.tuple #[.agg r.cells.toArray,.bool true]) (stD g n room cs free d) F w):=by
 obtain ⟨Fa,ha⟩:=stD_arena h
 refine (arenaGet_some Fa d.ga cs free room _ r w ha (by omega) hr).mono ?_
 rintro e w' ⟨rfl,hb⟩
 exact ⟨rfl,.of_below h hb⟩
def stM (g n room:Nat) (cs:List (Option Rec)) (free:List Int) (d:SD) (r:Rec) (k:Nat):Res:=
 sepR (blkR g tSt #[.int .i64 (n:Nat),.pointer (some ⟨d.ga,0,none⟩),.pointer (some ⟨d.gi,0,none⟩)]) (sepR (dropR d.gi d.bi d.Ni d.ci d.sl r k) (sepR (slU d.A d.n d.c free) (arC d.ga d.ba d.Na d.ca (.slice d.A d.n d.c) cs (k+1) room)))
theorem stD_drop (h:(stD g n room cs free d).at_ w F) (hd:SDok n room cs free d) (hk:cntC cs=k+1) (hr:recAt cs ((i+2:Nat):Int)=some r):Calls Tryz.prog 95 #[.pointer (some ⟨d.gi,0,none⟩),.agg r.cells.toArray] w (Says (.bool true) (stM g n room cs free d r k) F w):=by
 obtain ⟨p,hp⟩:=(hd.look r (i+2)).1 hr
 obtain ⟨q,q1,q2,q3⟩:=hd.pow
 have hc20:k+1≤1048576:=by
  have:=hd.st.len;have:=hd.st.room20;have:=hd.st.cnt
  omega
 unfold stD at h
 rw [hk] at h
 refine frame2 h fun X hX=>frame1 hX fun Y hY=>?_
 have hN:d.sl.length=d.Ni:=hY.2.2.2.2
 exact idxDropR hY (Lib.hid ⟨q,by omega,by rw [← hN];exact q3⟩) hN (by have:=hd.cnt;have:=hd.half;have:=Nat.two_pow_pos q;omega) (by rw [hd.cnt,hk]) hc20 hd.tab hd.ok hp (hd.ok p r _ hp).1
theorem stM_drop (h:(stM g n room cs free d r k).at_ w F) (hd:SDok n room cs free d) (hk:cntC cs=k+1) (hy:cs[i]? =some (some r)):Calls Tryz.prog 96 #[.pointer (some ⟨d.ga,0,none⟩),.int .u32 ((i+2:Nat):Int)] w (Says (.bool true) (sepR (blkR g tSt #[.int .i64 (n:Nat),.pointer (some ⟨d.ga,0,none⟩),.pointer (some ⟨d.gi,0,none⟩)]) (sepR (dropR d.gi d.bi d.Ni d.ci d.sl r k) (arDr d.ga d.ba d.Na d.ca room (cs.set i none) (free++[((i+2:Nat):Int)]) k))) F w):=by
 have hil:i<cs.length:=(List.getElem?_eq_some_iff.1 hy).1
 have h1:=hd.st.len
 have h2:=hd.st.room20
 have h3:=hd.st.cnt
 refine frame2 h fun X hX=>frame2 hX fun Y hY=>?_
 have hn:free.length=d.n:=by
  obtain ⟨_,_,_,h,_⟩:=hY
  exact slR_len h
 exact arDrop hY hy (by omega) (by omega) (by omega)
theorem stD_Ni (h:(stD g n room cs free d).at_ w F):d.sl.length=d.Ni:=by
 obtain ⟨_,_,_,_,⟨_,_,_,h,_⟩,_⟩:=h
 exact h.2.2.2.2
theorem stX_close (h:(sepR (blkR g tSt #[.int .i64 (n:Nat),.pointer (some ⟨d.ga,0,none⟩),.pointer (some ⟨d.gi,0,none⟩)]) (sepR (dropR d.gi d.bi d.Ni d.ci d.sl r k) (arDr d.ga d.ba d.Na d.ca room (cs.set i none) (free++[((i+2:Nat):Int)]) k))).at_ w F) (hd:SDok n room cs free d) (hN:d.sl.length=d.Ni) (hk:cntC cs=k+1) (hy:cs[i]? =some (some r)) :
  ∃F',(∀ y∈F',y∈F)∧(stR g n room (cs.set i none) (free++[((i+2:Nat):Int)])).at_ w F':=by
 obtain ⟨F1,F2,e0,hB,⟨F3,F4,e1,⟨sl,ht,hD,hI⟩,⟨A,n',c',hA⟩,d1⟩,d0⟩:=h
 have hl:sl.length=d.sl.length:=by rw [hN];exact hI.2.2.2.2
 have hc:=cntC_gone hy
 have hk':cntC (cs.set i none)=k:=by omega
 have hd':=hd.drop hy hk ht hD hl A n' c'
 refine stD_close (d:={d with sl:=sl,A:=A,n:=n',c:=c'}) ?_ hd'
 unfold stD
 rw [hk']
 exact ⟨F1,F2,e0,hB,⟨F3,F4,e1,hI,hA,d1⟩,d0⟩
end
end
section
section
open Go Go.RowKit
def Local {α:Type} (B:Nat) (I:List Nat→List α→World→Prop):Prop:=
 ∀Fp pre W W',I Fp pre W→W'.os=W.os→W'.tape=W.tape→W'.output=W.output→W.heap.size≤W'.heap.size→(∀ k,k<W.heap.size→(k<B∨k∈Fp)→W'.heap[k]? =W.heap[k]?)→I Fp pre W'
def Bounded {α:Type} (I:List Nat→List α→World→Prop):Prop:=∀Fp pre W,I Fp pre W→∀k∈Fp,k<W.heap.size
def Grows (Fp Fp':List Nat) (W:World):Prop:=∀k∈Fp',k∈Fp∨W.heap.size≤k
def RoundPost {α:Type} (I Ix:List Nat→List α→World→Prop) (Fp:List Nat) (xs:List α) (W:World) (e:Ending) (W':World):Prop:=
 ∃Fp',Grows Fp Fp' W∧Chg Fp W W'∧((e = .returned (.bool true)∧I Fp' xs W')∨(e = .returned (.bool false)∧Ix Fp' xs W'))
def SeqRuns {α:Type} (P:Program) (g:Nat) (lb:Array Value) (encs:α→Array Value) (R:Nat→Prop) (xs:List α) (w:World):Prop:=
 ∀(l:Nat) (I Ix:List Nat→List α→World→Prop) (Fp0:List Nat) (W:World),Below w.heap.size w W→(∀ k∈Fp0,¬R k)→Local W.heap.size I→Local W.heap.size Ix→Bounded I→Bounded Ix→
  (∀ Fp pre x W1,I Fp pre W1→W.heap.size≤W1.heap.size→pre++[x] <+: xs→YieldAt Fence.wide 0 P l (encs x) W1 (RoundPost I Ix Fp (pre++[x]) W1))→
  I Fp0 [] W→
  CallsIn Fence.wide 0 P g (#[.func (.yield l) #[] #[]]++lb) W fun e W'=>(∃ v,e = .returned v)∧∃Fp',I Fp' xs W'∨∃pre,pre <+: xs∧Ix Fp' pre W'
def fpPost {α:Type} (I:List Nat→List α→World→Prop) (Ix:Code→List Nat→List α→World→Prop) (Fp:List Nat) (xs:List α) (W:World):Exit→Act→World→Prop
 | .normal,_,W'=>∃Fp',Grows Fp Fp' W∧Chg Fp W W'∧I Fp' xs W'
 | .ret,_,W'=>∃Fp',Grows Fp Fp' W∧Chg Fp W W'∧Ix .ret Fp' xs W'
 | .exit id,_,W'=>∃Fp',Grows Fp Fp' W∧Chg Fp W W'∧Ix (.exit id) Fp' xs W'
 | .goto t,_,W'=>∃Fp',Grows Fp Fp' W∧Chg Fp W W'∧Ix (.goto t) Fp' xs W'
 | .panic _,_,_=>False
 | .outgrown,_,_=>False
theorem chg_putObj {F:List Nat} {w W:World} (h:Chg F w W) {l:Nat} (hl:l∈F∨w.heap.size≤l) (o:Obj):Chg F w (W.putObj l o):=
 ⟨h.os,h.tape,h.output,by rw [World.putObj_size];exact h.size,fun k hk hn=>by
  rw [World.putObj_heap_other (fun e=>by subst e;rcases hl with h1|h1<;>first |exact hn h1|omega)]
  exact h.block k hk hn⟩
theorem Local.putObj {α:Type} {B:Nat} {I:List Nat→List α→World→Prop} (h:Local B I) {Fp:List Nat} {pre:List α} {W:World} {l:Nat} (o:Obj) (hi:I Fp pre W) (hB:B≤l) (hl:¬l∈Fp):I Fp pre (W.putObj l o):=
 h Fp pre W _ hi rfl rfl rfl (by simp) fun k hk hm=>World.putObj_heap_other (fun e=>by subst e;rcases hm with h1|h1<;>first |exact hl h1|omega)
theorem Local.alloc {α:Type} {B:Nat} {I:List Nat→List α→World→Prop} (h:Local B I) {Fp:List Nat} {pre:List α} {W:World} (o:Obj) (hi:I Fp pre W):I Fp pre (W.alloc o):=
 h Fp pre W _ hi rfl rfl rfl (by simp) fun k hk _=>Below.heap_alloc W o k hk
variable {P:Program}
theorem wpIn_rangeFunc_fp {α:Type} {g:Operand} {ps:Array Tmp} {assign body:Code} {Q:Exit→Act→World→Prop} {a:Act} {w:World}
  {gf:Nat} {lb:Array Value} (hg:a.eval g = .func (.func gf) #[] lb) (eg:∀args w,(callFunc gf args).run P w = .ok (.enter gf args) w)
  {encs:α→Array Value} {R:Nat→Prop} {xs:List α} (hseq:SeqRuns P gf lb encs R xs w) (hps:∀x,(encs x).size=ps.size)
  (I:List Nat→List α→World→Prop) (Ix:Code→List Nat→List α→World→Prop) (hI:Local w.heap.size I) (hIx:∀c,Local w.heap.size (Ix c)) (bI:Bounded I) (bIx:∀c,Bounded (Ix c)) (Fp0:List Nat) (hR:∀k∈Fp0,¬R k) (hRl:∀k,R k→k<w.heap.size) (h0:I Fp0 [] w) (a₁:α→Act)
  (hassign:∀(l:Nat) (x:α) (W:World) (K:Act→World→Prop),K (a₁ x) W→
   assign.wpIn (Fence.wide.inRound l) 0 P (Exit.then K (fun _ _ _=>False)) {tmps:=(ps.zip (encs x)).foldl (fun t (p,v)=>t.setIfInBounds p v) a.tmps,defers:=[]} W)
  (hbody:∀(l:Nat) (Fp:List Nat) (pre:List α) (x:α) (W:World),I Fp pre W→w.heap.size≤W.heap.size→pre++[x] <+: xs→body.wpIn (Fence.wide.inRound l) 0 P (fpPost I Ix Fp (pre++[x]) W) (a₁ x) W)
  (hdone:∀(D:Nat) (Fp:List Nat) (W:World),w.heap.size≤D→¬D∈Fp→I Fp xs W→W.heap[D]? =some (.deferred (some []))→Q .normal {a with defers:={target:= .collected D,args:= #[]}::a.defers} W)
  (hstop:∀(D:Nat) (c:Code) (Fp:List Nat) (pre:List α) (W:World),w.heap.size≤D→¬D∈Fp→pre <+: xs→Ix c Fp pre W→W.heap[D]? =some (.deferred (some []))→c.wpIn Fence.wide 0 P Q {a with defers:={target:= .collected D,args:= #[]}::a.defers} W) :
  (Code.rangeFunc g ps assign body).wpIn Fence.wide 0 P Q a w:=by
 refine wpIn_rangeFunc ?_
 intro fn hfn
 have hro:Fence.wide.round=none:=rfl
 rw [hro]
 obtain ⟨rec,hrec⟩:∃rec:LoopState→Option Code→Loop,rec=fun st pe=>{state:=st,pending:=pe,fn,tmps:=a.tmps,params:=ps,assign,body,defers:=w.heap.size}:=⟨_,rfl⟩
 obtain ⟨W1,hW1⟩:∃W1,(w.alloc (.deferred (some []))).alloc (.loop (rec .ready none))=W1:=⟨_,rfl⟩
 have hs1:W1.heap.size=w.heap.size+2:=by rw [← hW1];simp
 have hL1:W1.heap[w.heap.size+1]? =some (.loop (rec .ready none)):=by
  rw [← hW1];have:=World.alloc_heap_new (w.alloc (.deferred (some []))) (.loop (rec .ready none));rwa [World.size_alloc] at this
 have hK1:W1.heap[w.heap.size]? =some (.deferred (some [])):=by
  rw [← hW1];exact (Below.heap_alloc _ _ _ (by simp)).trans (World.alloc_heap_new w _)
 have hI1:I Fp0 [] W1:=by rw [← hW1];exact hI.alloc _ (hI.alloc _ h0)
 have hb1:Below w.heap.size w W1:=by rw [← hW1];exact ((Below.refl _ w).alloc (Nat.le_refl _) _).alloc (by simp) _
 refine ⟨w.heap.size+1,[{target:= .collected w.heap.size,args:= #[]}],W1,{target:= .fn (.func gf) lb,args:= #[.func (.yield (w.heap.size+1)) #[] #[]]},W1,gf,
  #[.func (.yield (w.heap.size+1)) #[] #[]]++lb,W1,?_,?_,?_,?_,(fun h=>by cases h),?_⟩
 ·rw [← hW1,hrec];exact run_enterLoop_outer _ _ _ _ _
 ·simp only [resolve,hg]
  simp [go_sem]
 ·intro f' hf';trivial
 ·simp [invoke,go_sem,eg]
 ·
  have hd0:∀k∈Fp0,k<w.heap.size:=bI _ _ _ h0
  refine (hseq (w.heap.size+1)
   (fun Fp pre W=>∃Fp1,Fp=(w.heap.size+1)::w.heap.size::Fp1∧I Fp1 pre W∧¬(w.heap.size+1)∈Fp1∧¬w.heap.size∈Fp1∧W.heap[w.heap.size+1]? =some (.loop (rec .ready none))∧W.heap[w.heap.size]? =some (.deferred (some [])))
   (fun Fp pre W=>∃c Fp1,Fp=(w.heap.size+1)::w.heap.size::Fp1∧Ix c Fp1 pre W∧¬(w.heap.size+1)∈Fp1∧¬w.heap.size∈Fp1∧W.heap[w.heap.size+1]? =some (.loop (rec .done (some c)))∧W.heap[w.heap.size]? =some (.deferred (some [])))
   ((w.heap.size+1)::w.heap.size::Fp0) W1 hb1 (fun k hk=>?_) ?_ ?_ ?_ ?_ ?_ ⟨Fp0,rfl,hI1,fun h=>by have:=hd0 _ h;omega,fun h=>by have:=hd0 _ h;omega,hL1,hK1⟩).mono ?_
  ·rcases List.mem_cons.1 hk with rfl|hk
   ·intro h;have:=hRl _ h;omega
   ·rcases List.mem_cons.1 hk with rfl|hk
    ·intro h;have:=hRl _ h;omega
    ·exact hR k hk
  ·rintro Fp pre W W' ⟨Fp1,rfl,hi,n1,n2,hl,hk⟩ h1 h2 h3 h4 h5
   have e1:=h5 (w.heap.size+1) (Array.getElem?_eq_some_iff.1 hl).1 (.inl (by omega))
   have e2:=h5 w.heap.size (Array.getElem?_eq_some_iff.1 hk).1 (.inl (by omega))
   exact ⟨Fp1,rfl,hI Fp1 pre W W' hi h1 h2 h3 h4 fun k hk' hm=>h5 k hk' (hm.imp (fun h=>by omega) (fun h=>by simp [h])),n1,n2,e1.trans hl,e2.trans hk⟩
  ·rintro Fp pre W W' ⟨c,Fp1,rfl,hi,n1,n2,hl,hk⟩ h1 h2 h3 h4 h5
   have e1:=h5 (w.heap.size+1) (Array.getElem?_eq_some_iff.1 hl).1 (.inl (by omega))
   have e2:=h5 w.heap.size (Array.getElem?_eq_some_iff.1 hk).1 (.inl (by omega))
   exact ⟨c,Fp1,rfl,hIx c Fp1 pre W W' hi h1 h2 h3 h4 fun k hk' hm=>h5 k hk' (hm.imp (fun h=>by omega) (fun h=>by simp [h])),n1,n2,e1.trans hl,e2.trans hk⟩
  ·rintro Fp pre W ⟨Fp1,rfl,hi,n1,n2,hl,hk⟩ k hm
   rcases List.mem_cons.1 hm with rfl|hm
   ·exact (Array.getElem?_eq_some_iff.1 hl).1
   ·rcases List.mem_cons.1 hm with rfl|hm
    ·exact (Array.getElem?_eq_some_iff.1 hk).1
    ·exact bI _ _ _ hi k hm
  ·rintro Fp pre W ⟨c,Fp1,rfl,hi,n1,n2,hl,hk⟩ k hm
   rcases List.mem_cons.1 hm with rfl|hm
   ·exact (Array.getElem?_eq_some_iff.1 hl).1
   ·rcases List.mem_cons.1 hm with rfl|hm
    ·exact (Array.getElem?_eq_some_iff.1 hk).1
    ·exact bIx c _ _ _ hi k hm
  ·
   rintro Fp pre x W ⟨Fp1,rfl,hi,n1,n2,hl,hk⟩ hsz hpre
   have hlt:w.heap.size+1<W.heap.size:=(Array.getElem?_eq_some_iff.1 hl).1
   have hy:=run_yield (P:=P) (args:=encs x) hl (by rw [hrec];exact hps x)
   rw [hrec] at hy
   refine ⟨fn,_,assign,body,hy,roundIn_of_wpIn hfn (hassign _ x W _ ⟨_,run_beginRound hl (by rw [hrec]),?_⟩)⟩
   have hl2:(W.putObj (w.heap.size+1) (.loop {rec .ready none with state:= .busy})).heap[w.heap.size+1]? =some (.loop {rec .ready none with state:= .busy}):=World.putObj_heap_same hlt
   have hk2:(W.putObj (w.heap.size+1) (.loop {rec .ready none with state:= .busy})).heap[w.heap.size]? =some (.deferred (some [])):=(World.putObj_heap_other (by omega)).trans hk
   refine wpIn_mono (hbody _ Fp1 pre x _ (hI.putObj _ hi (by omega) n1) (by rw [World.putObj_size];omega) hpre) ?_
   have fin:∀(jump:Option Code) (W3:World) (Fp':List Nat),Grows Fp1 Fp' (W.putObj (w.heap.size+1) (.loop {rec .ready none with state:= .busy}))→Chg Fp1 (W.putObj (w.heap.size+1) (.loop {rec .ready none with state:= .busy})) W3→
     (Instr.endRound (w.heap.size+1) jump).run P W3 = .ok (.bool jump.isNone) (W3.putObj (w.heap.size+1) (.loop (rec (if jump.isNone then .ready else .done) jump)))∧
     (W3.putObj (w.heap.size+1) (.loop (rec (if jump.isNone then .ready else .done) jump))).heap[w.heap.size+1]? =some (.loop (rec (if jump.isNone then .ready else .done) jump))∧
     (W3.putObj (w.heap.size+1) (.loop (rec (if jump.isNone then .ready else .done) jump))).heap[w.heap.size]? =some (.deferred (some []))∧
     ¬(w.heap.size+1)∈Fp'∧¬w.heap.size∈Fp'∧Grows ((w.heap.size+1)::w.heap.size::Fp1) ((w.heap.size+1)::w.heap.size::Fp') W∧
     Chg ((w.heap.size+1)::w.heap.size::Fp1) W (W3.putObj (w.heap.size+1) (.loop (rec (if jump.isNone then .ready else .done) jump))):=fun jump W3 Fp' hg hc=>by
    have hl3:W3.heap[w.heap.size+1]? =some (.loop {rec .ready none with state:= .busy}):=(hc.block _ (by rw [World.putObj_size];exact hlt) n1).trans hl2
    have hk3:W3.heap[w.heap.size]? =some (.deferred (some [])):=(hc.block _ (by rw [World.putObj_size];omega) n2).trans hk2
    have hrun:=run_endRound (P:=P) jump hl3
    rw [hrec] at hrun ⊢
    have hgg:∀k∈Fp',k∈Fp1∨W.heap.size≤k:=fun k hk'=>by have:=hg k hk';rwa [World.putObj_size] at this
    refine ⟨hrun,World.putObj_heap_same (Array.getElem?_eq_some_iff.1 hl3).1,(World.putObj_heap_other (by omega)).trans hk3,fun h=>?_,fun h=>?_,fun k hm=>?_,?_⟩
    ·rcases hgg _ h with h|h
     ·exact n1 h
     ·omega
    ·rcases hgg _ h with h|h
     ·exact n2 h
     ·omega
    ·rcases List.mem_cons.1 hm with rfl|hm
     ·left;simp
     ·rcases List.mem_cons.1 hm with rfl|hm
      ·left;simp
      ·rcases hgg k hm with h|h
       ·left;simp [h]
       ·exact .inr h
    ·refine chg_putObj ?_ (.inl (by simp)) _
     refine ⟨hc.os,hc.tape,hc.output,by have:=hc.size;rwa [World.putObj_size] at this,fun k hk' hn=>?_⟩
     rw [hc.block k (by rw [World.putObj_size];exact hk') (fun h=>hn (by simp [h]))]
     exact World.putObj_heap_other (fun e=>hn (by simp [e]))
   rintro e a3 W3 hp
   cases e with
   | normal=>
    obtain ⟨Fp',hg,hc,hi3⟩:=hp
    obtain ⟨hr,hl4,hk4,m1,m2,g2,c2⟩:=fin none W3 Fp' hg hc
    exact ⟨_,_,hr,_,g2,c2,.inl ⟨rfl,Fp',rfl,hI.putObj _ hi3 (by omega) m1,m1,m2,hl4,hk4⟩⟩
   | ret=>
    obtain ⟨Fp',hg,hc,hi3⟩:=hp
    obtain ⟨hr,hl4,hk4,m1,m2,g2,c2⟩:=fin (some .ret) W3 Fp' hg hc
    exact ⟨_,_,hr,_,g2,c2,.inr ⟨rfl,.ret,Fp',rfl,(hIx _).putObj _ hi3 (by omega) m1,m1,m2,hl4,hk4⟩⟩
   | exit id=>
    obtain ⟨Fp',hg,hc,hi3⟩:=hp
    obtain ⟨hr,hl4,hk4,m1,m2,g2,c2⟩:=fin (some (.exit id)) W3 Fp' hg hc
    exact ⟨_,_,hr,_,g2,c2,.inr ⟨rfl,.exit id,Fp',rfl,(hIx _).putObj _ hi3 (by omega) m1,m1,m2,hl4,hk4⟩⟩
   | goto t=>
    obtain ⟨Fp',hg,hc,hi3⟩:=hp
    obtain ⟨hr,hl4,hk4,m1,m2,g2,c2⟩:=fin (some (.goto t)) W3 Fp' hg hc
    exact ⟨_,_,hr,_,g2,c2,.inr ⟨rfl,.goto t,Fp',rfl,(hIx _).putObj _ hi3 (by omega) m1,m1,m2,hl4,hk4⟩⟩
   | panic ch=>exact hp.elim
   | outgrown=>exact hp.elim
  ·
   rintro e W2 ⟨⟨v,rfl⟩,Fp',(⟨Fp1,rfl,hi,n1,n2,hl,hk⟩|⟨pre,hSp,c,Fp1,rfl,hi,n1,n2,hl,hk⟩)⟩
   ·exact ⟨none,_,by have:=run_endLoop (P:=P) hl (by rw [hrec];simp);rw [hrec] at this;exact this,hdone _ Fp1 _ (Nat.le_refl _) n2 (hI.putObj _ hi (by omega) n1) ((World.putObj_heap_other (by omega)).trans hk)⟩
   ·exact ⟨some c,_,by have:=run_endLoop (P:=P) hl (by rw [hrec];simp);rw [hrec] at this;exact this,hstop _ c Fp1 pre _ (Nat.le_refl _) n2 hSp ((hIx c).putObj _ hi (by omega) n1) ((World.putObj_heap_other (by omega)).trans hk)⟩
end
section
open Go Go.RowKit Go.Shelf
def Sofar (I:List Nat→List Nat→World→Prop) (Fp0:List Nat) (W:World) (Fp:List Nat) (pre:List Nat) (wr:World):Prop:=I Fp pre wr∧Grows Fp0 Fp W∧Chg Fp0 W wr
theorem grows_chg {F F' G:List Nat} {w W W':World} (hg:Grows F F' w) (hc:Chg F w W) (hg2:Grows F' G W) (hc2:Chg F' W W'):Grows F G w∧Chg F w W':=by
 have hs:=hc.size
 refine ⟨fun k hk=>?_,hc.trans hc2 hg⟩
 rcases hg2 k hk with h|h
 ·exact hg k h
 ·exact .inr (by omega)
end
end
end Go.Proofs.YtnlmlehcpngcgaaGreat
