/- What a sweep leaves: pure facts. An append inside a fence; what hangs on blocks. -/
import Derived.Test.YtnlmlehcpngcgaaGreatQal
import Derived.Test.YtnlmlehcpngcgaaGreatQaj
import Derived.Test.YtnlmlehcpngcgaaGreatQbp
import Derived.Shelf.Abstract
import Derived.OwnWalkIn
import Derived.TacticsInMore
namespace Go.Proofs.YtnlmlehcpngcgaaGreat
set_option linter.unusedSimpArgs false
set_option linter.unusedVariables false
section
open Go.RowKit
def SeenE (cs:List (Option Rec)) (V:List Int) (e:Edg):Prop:=e.pos∈V∨recAt cs e.pos=none
theorem SeenE.mono {cs:List (Option Rec)} {V V':List Int} {e:Edg} (h:SeenE cs V e) (hv:∀id∈V,id∈V'):SeenE cs V' e:=h.imp (hv _) id
theorem Vis.seen {cs:List (Option Rec)} {V V':List Int} {e:Edg} (h:Vis cs V e V'):(∀ id∈V,id∈V')∧SeenE cs V' e∧∀id∈V',id∉V→∀r,recAt cs id=some r→SeenE cs V' r.lo∧SeenE cs V' r.hi:=by
 induction h with
 | none h=>exact ⟨fun _ h=>h,.inr h,fun id h1 h2=>(h2 h1).elim⟩
 | old h=>exact ⟨fun _ h=>h,.inl h,fun id h1 h2=>(h2 h1).elim⟩
 | @new V e r V2 V3 hr hn _ _ ih1 ih2=>
  obtain ⟨a1,a2,a3⟩:=ih1
  obtain ⟨b1,b2,b3⟩:=ih2
  have hp:e.pos∈V3:=b1 _ (a1 _ (by simp))
  refine ⟨fun id hid=>b1 _ (a1 _ (by simp [hid])),.inl hp,fun id h1 h2 r' hr'=>?_⟩
  by_cases e1:id=e.pos
  ·subst e1
   rw [hr] at hr'
   injection hr' with hr'
   subst hr'
   exact ⟨a2.mono b1,b2⟩
  ·by_cases e2:id∈V2
   ·have:=a3 id e2 (by simp [h2,e1]) r' hr'
    exact ⟨this.1.mono b1,this.2.mono b1⟩
   ·exact b3 id h1 e2 r' hr'
theorem VisL.seen {cs:List (Option Rec)} {V V':List Int} {l:List Edg} (h:VisL cs V l V'):(∀ id∈V,id∈V')∧(∀ e∈l,SeenE cs V' e)∧∀id∈V',id∉V→∀r,recAt cs id=some r→SeenE cs V' r.lo∧SeenE cs V' r.hi:=by
 induction h with
 | nil=>exact ⟨fun _ h=>h,(fun e h=>by cases h),fun id h1 h2=>(h2 h1).elim⟩
 | @snoc l V1 e V2 _ h2 ih=>
  obtain ⟨a1,a2,a3⟩:=ih
  obtain ⟨b1,b2,b3⟩:=h2.seen
  refine ⟨fun id hid=>b1 _ (a1 _ hid),fun x hx=>?_,fun id k1 k2 r hr=>?_⟩
  ·rcases List.mem_append.1 hx with hx|hx
   ·exact (a2 x hx).mono b1
   ·rw [List.mem_singleton.1 hx]
    exact b2
  ·by_cases e2:id∈V1
   ·have:=a3 id e2 k2 r hr
    exact ⟨this.1.mono b1,this.2.mono b1⟩
   ·exact b3 id k1 e2 r hr
def swC (cs:List (Option Rec)) (V:List Int):List (Option Rec):=cs.mapIdx fun i r=>if ((i+2:Nat):Int)∈V then r else none
theorem recAt_swC (cs:List (Option Rec)) (V:List Int) (id:Int):recAt (swC cs V) id=if id∈V then recAt cs id else none:=by
 unfold recAt swC
 by_cases h2:2≤id
 ·rw [if_pos h2,if_pos h2,List.getElem?_mapIdx]
  have:(((id-2).toNat+2:Nat):Int)=id:=by omega
  rw [this]
  cases h:cs[(id-2).toNat]? with
  | none=>simp
  | some x=>
   by_cases hv:id∈V
   ·simp [hv]
   ·simp [hv]
 ·rw [if_neg h2,if_neg h2]
  simp
def Shut (cs:List (Option Rec)) (V:List Int):Prop:=∀id∈V,∀r,recAt cs id=some r→SeenE cs V r.lo∧SeenE cs V r.hi
theorem VisL.shut {cs:List (Option Rec)} {V:List Int} {l:List Edg} (h:VisL cs [] l V):Shut cs V:=fun id hid r hr=>h.seen.2.2 id hid (by simp) r hr
theorem Unf.swept {cs:List (Option Rec)} {f:Int} {V:List Int} (hs:Shut cs V):∀{T:Dg} {e:Edg},SeenE cs V e→Unf cs f e T→Unf (swC cs V) f e T
 | .nil,e,_,k=>k
 | .one t,e,_,k=>k
 | .node tag top bot lo hi,e,h,k=>by
  obtain ⟨h1,r,h2,h3,h4,h5,h6,h7⟩:=k
  have hv:e.pos∈V:=h.resolve_right (by rw [h2];simp)
  obtain ⟨s1,s2⟩:=hs _ hv r h2
  exact ⟨h1,r,by rw [recAt_swC,if_pos hv];exact h2,h3,h4,h5,h6.swept hs s1,h7.swept hs s2⟩
def idsL (cs:List (Option Rec)):List Nat:=(List.range cs.length).filter fun i=>(cs[i]?.getD none).isSome
theorem mem_idsL {cs:List (Option Rec)} {i:Nat}:i∈idsL cs↔∃r,cs[i]? =some (some r):=by
 unfold idsL
 rw [List.mem_filter,List.mem_range]
 constructor
 ·rintro ⟨h1,h2⟩
  rw [List.getElem?_eq_getElem h1] at h2 ⊢
  simp only [Option.getD_some] at h2
  obtain ⟨r,hr⟩:=Option.isSome_iff_exists.1 h2
  exact ⟨r,by rw [hr]⟩
 ·rintro ⟨r,hr⟩
  exact ⟨(List.getElem?_eq_some_iff.1 hr).1,by rw [hr];rfl⟩
def goneL (V:List Int) (is:List Nat):List Nat:=is.filter fun i=> !decide (((i+2:Nat):Int)∈V)
def uN (is:List Nat):List Int:=is.map fun i=>((i+2:Nat):Int)
def dropL (cs:List (Option Rec)) (is:List Nat):List (Option Rec):=is.foldl (fun cs i=>cs.set i none) cs
theorem dropL_snoc (cs:List (Option Rec)) (is:List Nat) (i:Nat):dropL cs (is++[i])=(dropL cs is).set i none:=by simp [dropL,List.foldl_append]
theorem dropL_get:∀(is:List Nat) (cs:List (Option Rec)) (j:Nat),(dropL cs is)[j]? =if j∈is then cs[j]?.map (fun _=>none) else cs[j]?
 | [],cs,j=>by simp [dropL]
 | i::is,cs,j=>by
  show (dropL (cs.set i none) is)[j]? =_
  rw [dropL_get is (cs.set i none) j,List.getElem?_set]
  by_cases e:i=j
  ·subst e
   rcases Nat.lt_or_ge i cs.length with hl|hl
   ·simp [hl]
   ·simp [hl,List.getElem?_eq_none hl]
  ·have:¬j=i:=fun h=>e h.symm
   simp [e,this]
theorem goneL_nodup (V:List Int) (cs:List (Option Rec)):(goneL V (idsL cs)).Nodup:=(List.nodup_range.filter _).filter _
theorem mem_goneL {V:List Int} {cs:List (Option Rec)} {i:Nat}:i∈goneL V (idsL cs)↔(∃ r,cs[i]? =some (some r))∧¬((i+2:Nat):Int)∈V:=by
 unfold goneL
 rw [List.mem_filter,mem_idsL]
 simp
theorem dropL_all (cs:List (Option Rec)) (V:List Int):dropL cs (goneL V (idsL cs))=swC cs V:=by
 apply List.ext_getElem?
 intro j
 rw [dropL_get]
 unfold swC
 rw [List.getElem?_mapIdx]
 by_cases h:j∈goneL V (idsL cs)
 ·rw [if_pos h]
  rw [mem_goneL] at h
  cases cs[j]? with
  | none=>rfl
  | some x=>simp only [Option.map_some,if_neg h.2]
 ·rw [if_neg h]
  rw [mem_goneL] at h
  cases hj:cs[j]? with
  | none=>rfl
  | some x=>
   cases x with
   | none=>simp
   | some r=>
    have:((j+2:Nat):Int)∈V:=Classical.byContradiction fun hn=>h ⟨⟨r,hj⟩,hn⟩
    simp only [Option.map_some,this,if_true]
theorem dropL_at {cs:List (Option Rec)} {V:List Int} {k i:Nat} (h:(goneL V (idsL cs))[k]? =some i):∃r,cs[i]? =some (some r)∧(dropL cs ((goneL V (idsL cs)).take k))[i]? =some (some r):=by
 have hm:=List.mem_of_getElem? h
 obtain ⟨⟨r,hr⟩,_⟩:=mem_goneL.1 hm
 refine ⟨r,hr,?_⟩
 rw [dropL_get,if_neg,hr]
 intro hin
 obtain ⟨j,hj⟩:=List.mem_iff_getElem?.1 hin
 rw [List.getElem?_take] at hj
 split at hj
 ·rename_i hjk
  have:=(List.getElem?_inj (List.getElem?_eq_some_iff.1 hj).1 (goneL_nodup V cs)).1 (hj.trans h.symm)
  omega
 ·cases hj
end
section
open Go Go.RowKit Go.Shelf
attribute [local go_sem] Oper.semAt_some
section
variable {F:Fence} {n:Nat} {ops:Array Oper} {rest:List Oper} {o:Oper} {a:Act} {Q:Exit→Act→World→Prop} {P:Program}
theorem wpIn_app1 {α:Type} {f:α→Value} {T E:TypeId} {i:TypeInfo} {z:Value} {bytes:Nat} (hT:P.underlying T=some (.slice E)) (hi:P.info? E=some i) (hz0:i.zero=some z) (hz1:i.size=1) (hz2:i.bytes=bytes)
  (hzc:z.cells.size=1) (hbytes:bytes≤4096)
  (W:World) (hg:o.guard=none) (s x:Operand) (hop:o.op = .call {callee:= .builtin .append,args:= #[s,x],argTypes:= #[T,T]})
  (base:Nat) (v:Value) (xs:List α) (e:α) (c:Nat) (hone:(f e).oneCell'=true)
  (hown:OwnF f E W base v xs) (hbase:base≤W.heap.size) (hlen:xs.length≤34359738366) {H:Nat} (hs:a.eval s=v) (hx:a.eval x = .slice (some ⟨H,0,none⟩) 1 c) (hH:W.heap.size=H)
  (h:∀v' w',OwnF f E w' base v' (xs++[e])→Below base W w'→W.heap.size<w'.heap.size→W.grownBy w' v.ownBlock→(∀ k,v'.ownBlock=some k→v.ownBlock=some k∨W.heap.size≤k)→wpListIn F n P ops Q rest (a.put o.dst v') w') :
  wpListIn F n P ops Q (o::rest) a (W.alloc (.cells #[f e] E)):=by
 refine wpListIn_plain hg fun K hK=>?_
 subst hH
 obtain ⟨v',w',hrun,hown',hgr,_,hat⟩:=run_append_own_at (P:=P) (W.alloc (.cells #[f e] E)) base T o.type E i z 1 bytes hT hi hz0 hz1 hz2 hzc (by decide) v xs.length (xs.map f) (World.ownsRow.alloc hown _)
  ⟨W.heap.size,0,none⟩ 1 c [f e] rfl (fun j u hj=>by
   match j,hj with
   | 0,hj=>simp at hj;subst hj;rw [Addr.add_lit];exact World.cell?_alloc_at _ _ _ _ rfl)
  (fun u hu=>by simp at hu;subst hu;exact hone)
  (by unfold maxLen;omega) (by have:(xs.length+1)*bytes≤34359738367*4096:=Nat.mul_le_mul (by omega) hbytes;omega) (by simp;omega)
 unfold Oper.wpIn
 refine ⟨?_,?_⟩
 ·simp [Oper.about,hop,resolve,Target.leads,Sem.run_pure]
 ·rw [Oper.semAt_plain F _ _ (by rw [hop];intro c hc';cases hc')]
  simp [execOp,hop,resolve,invoke,builtin,hs,hx,hrun,Result.andThen]
  have hb:Below base W w':=((Below.refl _ _).alloc hbase _).grown hgr (by simp;omega) (fun k hk=>(hown.lt k hk).1)
  have hs:W.heap.size<w'.heap.size:=by have:=hgr.size;simp at this;omega
  refine hK _ _ (h v' w' ?_ hb hs ⟨hgr.os,hgr.tape,hgr.output,by omega,fun k hk hne=>?_⟩ (fun k hk=>?_))
  ·unfold OwnF
   simpa using hown'
  ·rw [hgr.block k (by simp;omega) hne,Below.heap_alloc _ _ _ hk]
  ·rcases hat with h|h
   ·exact .inl (by rw [← h];exact hk)
   ·rw [h] at hk;injection hk with hk;simp at hk;right;omega
end
theorem local_chg {B:Nat} {Fp:List Nat} {V V':World} (e1:V'.os=V.os) (e2:V'.tape=V.tape) (e3:V'.output=V.output) (e4:V.heap.size≤V'.heap.size) (e5:∀k,k<V.heap.size→(k<B∨k∈Fp)→V'.heap[k]? =V.heap[k]?) :
  Chg ((List.range V.heap.size).filter fun k=>decide (¬ (k<B∨k∈Fp))) V V'∧∀k,(k<B∨k∈Fp)→¬k∈((List.range V.heap.size).filter fun k=>decide (¬ (k<B∨k∈Fp))):=
 ⟨⟨e1,e2,e3,e4,fun k hk hn=>e5 k hk (by
  rcases Classical.em (k<B∨k∈Fp) with h|h
  ·exact h
  ·exact absurd (List.mem_filter.2 ⟨List.mem_range.2 hk,decide_eq_true h⟩) hn)⟩,fun k h hm=>by
  have:=(List.mem_filter.1 hm).2
  exact (of_decide_eq_true this) h⟩
theorem chg_grown {V W:World} {v:Value} (h:V.grownBy W v.ownBlock):Chg (blk v) V W:=⟨h.os,h.tape,h.output,h.size,fun k hk hn=>h.block k hk (fun e=>hn (mem_blk.2 e.symm))⟩
end
end Go.Proofs.YtnlmlehcpngcgaaGreat
