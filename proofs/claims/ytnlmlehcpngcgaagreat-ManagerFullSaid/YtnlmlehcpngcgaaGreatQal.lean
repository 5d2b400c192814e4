/- What edges reach, as the program's walk finds it: pure facts. A set of ids kept as a map from uint32 to int. Contract: a visit of store.reached. -/
import Derived.Test.YtnlmlehcpngcgaaGreatQab
import Derived.Test.YtnlmlehcpngcgaaGreatQaa
import Derived.Maps.Own
import Derived.Maps.OwnOps
import Derived.Maps.OwnSet
import Derived.Maps.Views
import Derived.Test.YtnlmlehcpngcgaaGreatQai
import Derived.Deep.DeepCutAuto
namespace Go.Proofs.YtnlmlehcpngcgaaGreat
set_option linter.unusedSimpArgs false
set_option linter.unusedVariables false
section
section
inductive Vis (cs:List (Option Rec)):List Int→Edg→List Int→Prop
 | none {V e}:recAt cs e.pos=none→Vis cs V e V
 | old {V e}:e.pos∈V→Vis cs V e V
 | new {V e r V2 V3}:recAt cs e.pos=some r→e.pos∉V→Vis cs (V++[e.pos]) r.lo V2→Vis cs V2 r.hi V3→Vis cs V e V3
inductive VisL (cs:List (Option Rec)):List Int→List Edg→List Int→Prop
 | nil {V}:VisL cs V [] V
 | snoc {V l V1 e V2}:VisL cs V l V1→Vis cs V1 e V2→VisL cs V (l++[e]) V2
structure Ids (cs:List (Option Rec)) (V:List Int):Prop where
 nodup:V.Nodup
 node:∀id∈V,recAt cs id≠none
theorem Ids.nil {cs}:Ids cs []:=⟨List.nodup_nil,by simp⟩
theorem Ids.snoc {cs V} (h:Ids cs V) {id:Int} (hn:recAt cs id≠none) (hid:id∉V):Ids cs (V++[id]):=by
 refine ⟨?_,fun x hx=>?_⟩
 ·rw [List.nodup_append]
  exact ⟨h.nodup,by simp,fun a ha b hb e=>hid (by rw [List.mem_singleton] at hb;rw [← hb,←e];exact ha)⟩
 ·rcases List.mem_append.1 hx with hx|hx
  ·exact h.node x hx
  ·rw [List.mem_singleton.1 hx];exact hn
theorem nodup_bound:∀(n:Nat) (l:List Nat),l.Nodup→(∀ x∈l,x<n)→l.length≤n
 | 0,l,_,h=>by
  cases l with
  | nil=>simp
  | cons x l=>exact absurd (h x (by simp)) (by omega)
 | n+1,l,hd,h=>by
  by_cases hn:n∈l
  ·have h1:=nodup_bound n (l.erase n) (hd.erase n) (fun x hx=>by
    have h2:=(hd.mem_erase_iff).1 hx
    have:=h x h2.2
    have:=h2.1
    omega)
   rw [List.length_erase_of_mem hn] at h1
   omega
  ·have h1:=nodup_bound n l hd (fun x hx=>by
    have:=h x hx
    rcases Nat.lt_or_ge x n with h2|h2
    ·exact h2
    ·have:x=n:=by omega
     rw [this] at hx
     exact absurd hx hn)
   omega
theorem rec_lt {cs:List (Option Rec)} {id:Int} (h:recAt cs id≠none):2≤id∧(id-2).toNat<cs.length:=by
 unfold recAt at h
 split at h
 ·rename_i h2
  refine ⟨h2,?_⟩
  rcases Nat.lt_or_ge (id-2).toNat cs.length with h3|h3
  ·exact h3
  ·rw [List.getElem?_eq_none h3] at h;exact absurd rfl h
 ·exact absurd rfl h
theorem Ids.len {cs V} (h:Ids cs V):V.length≤cs.length:=by
 have h1:=nodup_bound cs.length (V.map fun id=>(id-2).toNat) (by
  rw [List.nodup_iff_pairwise_ne,List.pairwise_map]
  refine (List.nodup_iff_pairwise_ne.1 h.nodup).imp_of_mem ?_
  intro a b ha hb hne e
  have:=rec_lt (h.node a ha)
  have:=rec_lt (h.node b hb)
  omega) (fun x hx=>by
  obtain ⟨id,hid,rfl⟩:=List.mem_map.1 hx
  exact (rec_lt (h.node id hid)).2)
 simpa using h1
theorem Vis.ids {cs V e V'} (h:Vis cs V e V'):Ids cs V→Ids cs V'∧(∀ id∈V,id∈V')∧V.length≤V'.length:=by
 induction h with
 | none=>intro h;exact ⟨h,fun _ h=>h,Nat.le_refl _⟩
 | old=>intro h;exact ⟨h,fun _ h=>h,Nat.le_refl _⟩
 | new hr hn _ _ ih1 ih2=>
  intro h
  obtain ⟨a1,a2,a3⟩:=ih1 (h.snoc (by rw [hr];simp) hn)
  obtain ⟨b1,b2,b3⟩:=ih2 a1
  exact ⟨b1,fun id hid=>b2 id (a2 id (by simp [hid])),by simp at a3;omega⟩
theorem VisL.ids {cs V l V'} (h:VisL cs V l V'):Ids cs V→Ids cs V'∧(∀ id∈V,id∈V'):=by
 induction h with
 | nil=>intro h;exact ⟨h,fun _ h=>h⟩
 | snoc _ h2 ih=>
  intro h
  obtain ⟨a1,a2⟩:=ih h
  obtain ⟨b1,b2,_⟩:=h2.ids a1
  exact ⟨b1,fun id hid=>b2 id (a2 id hid)⟩
end
section
open Go Go.RowKit Go.Maps
theorem keyU:Keyed Tryz.prog 46:=int_keyed Tryz.underlying46
theorem zeroInt (w:World):(zeroValue 3).run Tryz.prog w = .ok (.int .i64 0) w:=by kernel_rfl
def isU (id:Int):Prop:=(Lit.int .u32 id).wf=true
theorem keyOf_u {id:Int} (h:isU id):keyOf Tryz.prog 46 (.int .u32 id)=some (.int .u32 id):=keyOf_int_mk Tryz.underlying46 h
def MapIs (w:World) (q:Nat) (V:List Int):Prop:=
 ∃D:DataW Unit,w.ownsMap Tryz.prog 46 (plainElem Tryz.prog 3) q V.length D∧IsMap D∧
  (∀ id,isU id→D.atKey (.int .u32 id) (.lit (.int .i64 0)) = .lit (.int .i64 (if id∈V then 1 else 0)))∧(∀ id,isU id→has D (.int .u32 id)=decide (id∈V))
theorem MapIs.made (w:World):MapIs (w.alloc (.map #[] 0)) w.heap.size []:=by
 refine ⟨.map [],World.ownsMap_made w _ _ _,isMap_empty,fun id _=>?_,fun id _=>?_⟩
 ·rfl
 ·rfl
theorem MapIs.lt {w:World} {q:Nat} {V:List Int} (h:MapIs w q V):q<w.heap.size:=by
 obtain ⟨D,h1,_⟩:=h
 exact h1.lt
theorem MapIs.keep {w w':World} {q:Nat} {V:List Int} (h:MapIs w q V) (hk:w'.heap[q]? =w.heap[q]?):MapIs w' q V:=by
 obtain ⟨D,⟨es,clock,hb,h2⟩,h3⟩:=h
 exact ⟨D,⟨es,clock,hk.trans hb,h2⟩,h3⟩
theorem MapIs.chg {w w':World} {q:Nat} {V:List Int} {F:List Nat} (h:MapIs w q V) (hc:Chg F w w') (hq:q∉F):MapIs w' q V:=h.keep (hc.block q h.lt hq)
set_option maxRecDepth 100000 in
theorem MapIs.look {w:World} {q:Nat} {V:List Int} (h:MapIs w q V) {id:Int} (hid:isU id):(Instr.lookup 174 (.map (some q)) (.int .u32 id) false).run Tryz.prog w = .ok (.int .i64 (if id∈V then 1 else 0)) w:=by
 obtain ⟨D,h1,_,h2,_⟩:=h
 obtain ⟨c,hrun,hat,_⟩:=h1.lookup_int keyU Tryz.underlying174 Tryz.underlying3 (zeroInt w) (keyOf_u hid)
 rw [h2 id hid] at hat
 injection hat with hat
 injection hat with _ hat
 rw [hrun,←hat]
set_option maxRecDepth 100000 in
theorem MapIs.put {w:World} {q:Nat} {V:List Int} (h:MapIs w q V) {id:Int} (hid:isU id) (hlen:V.length<maxLen):∃w',(Instr.mapUpdate 174 (.map (some q)) (.int .u32 id) (.int .i64 1)).run Tryz.prog w = .ok () w'∧MapIs w' q (V++[id])∧Chg [q] w w':=by
 obtain ⟨D,h1,h0,h2,h3⟩:=h
 obtain ⟨w',hrun,hown,hgr⟩:=h1.update (d:= .lit (.int .i64 1)) (ps:=[]) keyU Tryz.underlying174 hlen (keyOf_u hid) (plainElem_int Tryz.underlying3 (by decide))
 have hk:WideAt.IsKeyLit (.int .u32 id):=by trivial
 refine ⟨w',hrun,⟨D.put (.int .u32 id) (.lit (.int .i64 1)),?_,h0.put _ _,fun x hx=>?_,fun x hx=>?_⟩,⟨hgr.os,hgr.tape,hgr.output,hgr.size,fun k hk hn=>hgr.block k hk (fun e=>hn (by injection e with e;simp [e]))⟩⟩
 ·rw [List.length_append]
  exact hown
 ·by_cases hxi:x=id
  ·subst hxi
   rw [atKey_put_same h0 hk]
   simp
  ·rw [atKey_put_other (by intro e;injection e with _ e;exact hxi e),h2 x hx]
   simp [hxi]
 ·by_cases hxi:x=id
  ·subst hxi
   rw [has_put_same h0 hk]
   simp
  ·rw [has_put_other (by intro e;injection e with _ e;exact hxi e),h3 x hx]
   simp [hxi]
end
section
open Go Go.RowKit
theorem getR_eq (x:Option Rec):getR x = .tuple #[.agg (x.getD Rec.nil).cells.toArray,.bool x.isSome]:=by cases x<;>rfl
theorem isU_pos {e:Edg} (h:e.Wf):isU e.pos:=by
 obtain ⟨_,_,h1,h2⟩:=h
 simp [isU,Lit.wf,IntKind.min,IntKind.max,IntKind.signed,IntKind.bits]
 omega
theorem Blk.rec7 {w:World} {g:Nat} {T:TypeId} {a0 a1 a2 a3 a4 a5 a6:Value} (h:Blk w g T #[a0,a1,a2,a3,a4,a5,a6]) (v0 v1 v2 v3 v4 v5 v6:Value) :
  Blk (((((((w.setCell ⟨g,0,none⟩ v0).setCell ⟨g,1,none⟩ v1).setCell ⟨g,2,none⟩ v2).setCell ⟨g,3,none⟩ v3).setCell ⟨g,4,none⟩ v4).setCell ⟨g,5,none⟩ v5).setCell ⟨g,6,none⟩ v6) g T #[v0,v1,v2,v3,v4,v5,v6]:=by
 have h0:Blk (w.setCell ⟨g,0,none⟩ v0) g T #[v0,a1,a2,a3,a4,a5,a6]:=h.set_ 0 v0
 have h1:Blk ((w.setCell ⟨g,0,none⟩ v0).setCell ⟨g,1,none⟩ v1) g T #[v0,v1,a2,a3,a4,a5,a6]:=h0.set_ 1 v1
 have h2:Blk (((w.setCell ⟨g,0,none⟩ v0).setCell ⟨g,1,none⟩ v1).setCell ⟨g,2,none⟩ v2) g T #[v0,v1,v2,a3,a4,a5,a6]:=h1.set_ 2 v2
 have h3:Blk ((((w.setCell ⟨g,0,none⟩ v0).setCell ⟨g,1,none⟩ v1).setCell ⟨g,2,none⟩ v2).setCell ⟨g,3,none⟩ v3) g T #[v0,v1,v2,v3,a4,a5,a6]:=h2.set_ 3 v3
 have h4:Blk (((((w.setCell ⟨g,0,none⟩ v0).setCell ⟨g,1,none⟩ v1).setCell ⟨g,2,none⟩ v2).setCell ⟨g,3,none⟩ v3).setCell ⟨g,4,none⟩ v4) g T #[v0,v1,v2,v3,v4,a5,a6]:=h3.set_ 4 v4
 have h5:Blk ((((((w.setCell ⟨g,0,none⟩ v0).setCell ⟨g,1,none⟩ v1).setCell ⟨g,2,none⟩ v2).setCell ⟨g,3,none⟩ v3).setCell ⟨g,4,none⟩ v4).setCell ⟨g,5,none⟩ v5) g T #[v0,v1,v2,v3,v4,v5,a6]:=h4.set_ 5 v5
 have h6:Blk (((((((w.setCell ⟨g,0,none⟩ v0).setCell ⟨g,1,none⟩ v1).setCell ⟨g,2,none⟩ v2).setCell ⟨g,3,none⟩ v3).setCell ⟨g,4,none⟩ v4).setCell ⟨g,5,none⟩ v5).setCell ⟨g,6,none⟩ v6) g T #[v0,v1,v2,v3,v4,v5,v6]:=h5.set_ 6 v6
 exact h6
structure VS (w:World) (F:List Nat) (gs n room:Nat) (cs:List (Option Rec)) (free:List Int) (bs bi bv q:Nat):Prop where
 st:StoreAt w F gs n room cs free
 s:w.cell? ⟨bs,0,none⟩=some (.pointer (some ⟨gs,0,none⟩))
 i:w.cell? ⟨bi,0,none⟩=some (.map (some q))
 v:w.cell? ⟨bv,0,none⟩=some (.func (.func 109) #[] #[.pointer (some ⟨bs,0,none⟩),.pointer (some ⟨bi,0,none⟩),.pointer (some ⟨bv,0,none⟩)])
 q1:q∉F
 q2:bs≠q∧bi≠q∧bv≠q
 lt:bs<w.heap.size∧bi<w.heap.size∧bv<w.heap.size
theorem VS.chg {w w':World} {F:List Nat} {gs n room:Nat} {cs:List (Option Rec)} {free:List Int} {bs bi bv q:Nat} (h:VS w F gs n room cs free bs bi bv q) (hc:Chg [q] w w'):VS w' F gs n room cs free bs bi bv q:=by
 obtain ⟨b1,b2,b3⟩:=h.lt
 obtain ⟨n1,n2,n3⟩:=h.q2
 exact ⟨h.st.chg hc (fun k hk=>fun e=>h.q1 (by rw [List.mem_singleton] at e;rw [← e];exact hk)),(hc.cell (p:=⟨bs,0,none⟩) b1 (by simp;omega)).trans h.s,(hc.cell (p:=⟨bi,0,none⟩) b2 (by simp;omega)).trans h.i,(hc.cell (p:=⟨bv,0,none⟩) b3 (by simp;omega)).trans h.v,h.q1,h.q2,⟨by have:=hc.size;omega,by have:=hc.size;omega,by have:=hc.size;omega⟩⟩
def VisOut (cs:List (Option Rec)) (q:Nat) (V:List Int) (e:Edg) (w:World) (w':World):Prop:=∃V',Vis cs V e V'∧MapIs w' q V'∧Chg [q] w w'
def VisC (F:List Nat) (gs n room:Nat) (cs:List (Option Rec)) (free:List Int) (bs bi bv q m:Nat):Prop:=∀(V:List Int) (e:Edg) (w:World),cs.length≤V.length+m→Ids cs V→MapIs w q V→VS w F gs n room cs free bs bi bv q→e.Wf→
 Calls Tryz.prog 109 #[.agg #[.int .u8 e.tag,.int .u32 e.pos],.pointer (some ⟨bs,0,none⟩),.pointer (some ⟨bi,0,none⟩),.pointer (some ⟨bv,0,none⟩)] w fun x w'=>x = .returned (.tuple #[])∧VisOut cs q V e w w'
set_option maxRecDepth 100000 in
set_option maxHeartbeats 16000000 in
theorem visit_step (F:List Nat) (gs n room:Nat) (cs:List (Option Rec)) (free:List Int) (bs bi bv q m:Nat) (hcs:cs.length≤1048576) (ih:∀k,k<m→VisC F gs n room cs free bs bi bv q k):VisC F gs n room cs free bs bi bv q m:=by
 intro V e w hm hV hM hS hwf
 obtain ⟨tag,pos⟩:=e
 have hwfp:=hwf
 obtain ⟨t0,t1,p0,p1⟩:=hwf
 simp only at t0 t1 p0 p1
 obtain ⟨ga,gi,Fa,Fi,mm,hB,hA,_,_,_,_⟩:=hS.st
 obtain ⟨W,hW⟩:∃W,W=w.alloc (.cells #[.int .u8 tag,.int .u32 pos] 48):=⟨_,rfl⟩
 have hbW:Below w.heap.size w W:=by rw [hW];exact (Below.refl _ _).alloc (Nat.le_refl _) _
 have hK:Blk W w.heap.size 48 #[.int .u8 tag,.int .u32 pos]:=by rw [hW];exact Blk.new w _ _
 have hkW:=hK.lt
 have hg0:=hB.lt
 have hgW:gs<W.heap.size:=by have:=hbW.size;omega
 have hbW2:bs<W.heap.size:=by have:=hbW.size;have:=hS.lt.1;omega
 have c0:=(hbW.cell (p:=⟨bs,0,none⟩) hS.lt.1).trans hS.s
 have c1:W.cell? ⟨gs,1,none⟩=some (.pointer (some ⟨ga,0,none⟩)):=(hbW.cell (p:=⟨gs,1,none⟩) hg0).trans (hB.cell 1)
 have FACTS:Hid (∀ w',Below W.heap.size W w'→w'.cell? ⟨bs,0,none⟩=some (.pointer (some ⟨gs,0,none⟩))∧w'.cell? ⟨gs,1,none⟩=some (.pointer (some ⟨ga,0,none⟩))∧w'.cell? ⟨w.heap.size,0,none⟩=some (.int .u8 tag)∧w'.cell? ⟨w.heap.size,1,none⟩=some (.int .u32 pos)):=Lib.hid fun w' hw=>⟨(hw.cell (p:=⟨bs,0,none⟩) hbW2).trans c0,(hw.cell (p:=⟨gs,1,none⟩) hgW).trans c1,(hw.cell (p:=⟨w.heap.size,0,none⟩) hkW).trans (hK.cell 0),(hw.cell (p:=⟨w.heap.size,1,none⟩) hkW).trans (hK.cell 1)⟩
 have HA:=Lib.hid (hA.on hbW)
 obtain ⟨rr,hrr⟩:∃rr,rr=recAt cs pos:=⟨_,rfl⟩
 obtain ⟨r,hr⟩:∃r,r=rr.getD Rec.nil:=⟨_,rfl⟩
 obtain ⟨ok,hok⟩:∃ok,ok=rr.isSome:=⟨_,rfl⟩
 have hGE:∀W',Below W.heap.size W W'→Calls Tryz.prog 76 #[.pointer (some ⟨ga,0,none⟩),.int .u32 pos] W' fun x w'=>x = .returned (.tuple #[.agg #[.int .u8 r.form,.int .u8 r.top,.int .u8 r.bot,.int .u8 r.lo.tag,.int .u32 r.lo.pos,.int .u8 r.hi.tag,.int .u32 r.hi.pos],.bool ok])∧Below W.heap.size W w'∧Below W'.heap.size W' w':=fun W' hW'=>(arenaGet_any _ _ _ _ _ pos W' (HA.out.on hW') p0 p1).mono fun _ _ ⟨q1,q2⟩=>⟨by rw [q1,←hrr,getR_eq,←hr,←hok];rfl,hW'.trans (q2.mono hW'.size),q2⟩
 have HGE:=Lib.hid hGE
 have hbel6:Below W.heap.size W W:=Below.refl _ _
 have HWW:=Lib.hid hW
 have HbW:=Lib.hid hbW
 have HR:=Lib.hid (And.intro hrr (And.intro hr hok))
 have HST:=Lib.hid (And.intro hV (And.intro hM (And.intro hS hwfp)))
 have IH:=Lib.hid ih
 have HKW:=Lib.hid hK
 have lts:=hS.lt
 clear hB hA hGE hK hbW c0 c1 hrr hr hok hV hM hS hwfp ih
 go_enter Tryz.func109,Tryz.ntmps109
 go_upto_region 1 with fail
 rw [← HWW.out]
 clear hW
 go_cut [5,6] (fun p o wx=>∃rb,p = .pointer (some ⟨rb,0,none⟩)∧o = .bool ok∧Blk wx rb 78 #[.int .u8 r.form,.int .u8 r.top,.int .u8 r.bot,.int .u8 r.lo.tag,.int .u32 r.lo.pos,.int .u8 r.hi.tag,.int .u32 r.hi.pos]∧W.heap.size≤rb∧Below W.heap.size W wx)
 case first=>
  go_region_held3 (fun w'=>w'.cell? ⟨bs,0,none⟩=some (.pointer (some ⟨gs,0,none⟩))∧w'.cell? ⟨gs,1,none⟩=some (.pointer (some ⟨ga,0,none⟩))∧w'.cell? ⟨w.heap.size,0,none⟩=some (.int .u8 tag)∧w'.cell? ⟨w.heap.size,1,none⟩=some (.int .u32 pos)) ((refine FACTS.out _ ?_;with_reducible (first|exact hbel6|exact hbel6.drew|exact keepD hbel6 _|exact keepE hbel6 _|exact hbel7|exact keepC hbel7|exact keep7' (Below.size hbel6) hbel7|fail))) (first|(go_at_call 76;refine (HGE.out _ ?_).mono ?_;(with_reducible first |exact keepD hbel6 _|exact keepE hbel6 _);rintro e w7 ⟨rfl,hbel7,hb7⟩;have HNB:=Lib.hid (newA hb7);clear hb7;have n0:w7.cell? ⟨W.heap.size,0,none⟩=some (.int .u8 0):=HNB.out.cell 0;have z0:=HNB.out.frozen 0;have n1:w7.cell? ⟨W.heap.size,1,none⟩=some (.int .u8 0):=HNB.out.cell 1;have z1:=HNB.out.frozen 1;have n2:w7.cell? ⟨W.heap.size,2,none⟩=some (.int .u8 0):=HNB.out.cell 2;have z2:=HNB.out.frozen 2;have n3:w7.cell? ⟨W.heap.size,3,none⟩=some (.int .u8 0):=HNB.out.cell 3;have z3:=HNB.out.frozen 3;have n4:w7.cell? ⟨W.heap.size,4,none⟩=some (.int .u32 0):=HNB.out.cell 4;have z4:=HNB.out.frozen 4;have n5:w7.cell? ⟨W.heap.size,5,none⟩=some (.int .u8 0):=HNB.out.cell 5;have z5:=HNB.out.frozen 5;have n6:w7.cell? ⟨W.heap.size,6,none⟩=some (.int .u32 0):=HNB.out.cell 6;have z6:=HNB.out.frozen 6;have q0:¬gs=W.heap.size:=(by have:=Below.size hbel6;omega);have q1:¬w.heap.size=W.heap.size:=(by have:=Below.size hbel6;omega);have q2:¬bs=W.heap.size:=(by omega))|(go_at_call 76;refine (HGE.out _ ?_).mono ?_;(with_reducible first |exact hbel6.drew|exact hbel6);rintro e w7 ⟨rfl,hbel7,hb7⟩;clear hb7;have q0:¬gs=w7.heap.size:=(by have:=hbel7.size;omega);have q1:¬w.heap.size=w7.heap.size:=(by have:=hbel7.size;omega);have q2:¬bs=w7.heap.size:=(by have:=hbel7.size;omega))|fail)
  all_goals
   go_wp2_with fail
   go_meet
   with_reducible first
    | exact ⟨_,rfl,rfl,HNB.out.rec7 _ _ _ _ _ _ _,Nat.le_refl _,keep7' (Nat.le_refl _) hbel7⟩
    | exact ⟨_,rfl,rfl,Blk.new _ _ _,hbel7.size,keepC hbel7⟩
 obtain ⟨rb,rfl,rfl,hrb,hrl,hbx⟩:=hcut
 obtain ⟨hrr,hr,hok⟩:=HR.out
 obtain ⟨hV,hM,hS,hwfp⟩:=HST.out
 have hbwc:Below w.heap.size w wc:=HbW.out.trans (hbx.mono HbW.out.size)
 have hS1:=hS.chg (chg_of_below hbwc:Chg [q] w wc)
 have hM1:MapIs wc q V:=hM.keep (hbwc.block q hM.lt)
 have k4:=HKW.out.onB hbx
 have e0:wc.cell? ⟨w.heap.size,0,none⟩=some (.int .u8 tag):=k4.cell 0
 have e1:wc.cell? ⟨w.heap.size,1,none⟩=some (.int .u32 pos):=k4.cell 1
 have HCH:=Lib.hid (chg_of_below hbwc:Chg [q] w wc)
 cases rr with
 | none=>
  simp only [Option.isSome_none] at hok
  subst hok
  have HFIN:Hid (VisOut cs q V ⟨tag,pos⟩ w wc):=Lib.hid ⟨V,.none hrr.symm,hM1,HCH.out⟩
  clear hrr hr hV hM hS hwfp hS1 hM1 k4 hrb hbx hbwc HR HST
  go_wp2_with fail
  exact bodyPost_ret (results_none rfl _ _ _) rfl ⟨rfl,HFIN.out⟩
 | some r0=>
  simp only [Option.isSome_some] at hok
  simp only [Option.getD_some] at hr
  subst hok hr
  have hlk:=hM1.look (isU_pos hwfp)
  by_cases hin:pos∈V
  ·rw [if_pos hin] at hlk
   have j2:=hS1.i
   have HFIN:Hid (VisOut cs q V ⟨tag,pos⟩ w wc):=Lib.hid ⟨V,.old hin,hM1,HCH.out⟩
   clear hrr hV hM hS hwfp hS1 hM1 k4 hrb hbx hbwc HR HST hin
   go_wp2_with fail
   exact bodyPost_ret (results_none rfl _ _ _) rfl ⟨rfl,HFIN.out⟩
  ·rw [if_neg hin] at hlk
   have hVl:=hV.len
   obtain ⟨w2,hput,hM2,hc2⟩:=hM1.put (isU_pos hwfp) (by unfold maxLen;omega)
   have hS2:=hS1.chg hc2
   have hV2:Ids cs (V++[pos]):=hV.snoc (by rw [← hrr];simp) hin
   have hV2l:=hV2.len
   rw [List.length_append] at hV2l
   simp only [List.length_cons,List.length_nil] at hV2l
   have hrwf:r.Wf:=recAt_wf hS.st.ok hrr.symm
   have hrq:rb≠q:=by have:=hM.lt;have:=HbW.out.size;omega
   have hr2:Blk w2 rb 78 #[.int .u8 r.form,.int .u8 r.top,.int .u8 r.bot,.int .u8 r.lo.tag,.int .u32 r.lo.pos,.int .u8 r.hi.tag,.int .u32 r.hi.pos]:=hrb.chg hc2 (by simp;exact hrq)
   have x3:w2.cell? ⟨rb,3,none⟩=some (.int .u8 r.lo.tag):=hr2.cell 3
   have x4:w2.cell? ⟨rb,4,none⟩=some (.int .u32 r.lo.pos):=hr2.cell 4
   have j1:=hS1.i
   have j2:=hS2.v
   obtain ⟨w3,hw3⟩:∃w3,w3=w2.alloc (.cells #[.int .u8 r.lo.tag,.int .u32 r.lo.pos] 48):=⟨_,rfl⟩
   have HV1:=Lib.hid (IH.out (m-1) (by omega) (V++[pos]) r.lo w2 (by simp;omega) hV2 hM2 hS2 hrwf.2.2.2.1)
   have HN:=Lib.hid (And.intro hrr (And.intro hin (And.intro hV2 (And.intro hrwf (And.intro hr2 (And.intro hS2 (And.intro (HCH.out.trans hc2 (fun x hx=> .inl hx)) hrq)))))))
   have hm1:1≤m:=by omega
   have hrb2:=hr2.lt
   clear hrr hV hM hS hwfp hS1 hM1 k4 hrb hbx hbwc HR HST hin hM2 hc2 hS2 hV2 hrwf hr2 hw3
   go_wp2_with fail
   refine HV1.out.mono ?_
   rintro x w4 ⟨rfl,V2,hv2,hM4,hc4⟩
   obtain ⟨hrr,hin,hV2,hrwf,hr2,hS2,hch2,hrq⟩:=HN.out
   obtain ⟨hV4,hsub,hlen⟩:=hv2.ids hV2
   have hS4:=hS2.chg hc4
   have hr4:=hr2.chg hc4 (by simp;exact hrq)
   have x5:w4.cell? ⟨rb,5,none⟩=some (.int .u8 r.hi.tag):=hr4.cell 5
   have x6:w4.cell? ⟨rb,6,none⟩=some (.int .u32 r.hi.pos):=hr4.cell 6
   have j4:=hS4.v
   have hrb4:=hr4.lt
   simp only [List.length_append,List.length_cons,List.length_nil] at hlen
   have HV2:=Lib.hid (IH.out (m-1) (by omega) V2 r.hi w4 (by omega) hV4 hM4 hS4 hrwf.2.2.2.2)
   have HN2:=Lib.hid (And.intro hv2 (hch2.trans hc4 (fun x hx=> .inl hx)))
   clear hrr hin hV2 hrwf hr2 hS2 hch2 hV4 hsub hlen hS4 hr4 hv2 hM4 hc4 hrq
   go_wp2_with fail
   refine HV2.out.mono ?_
   rintro x w5 ⟨rfl,V3,hv3,hM5,hc5⟩
   have HFIN:Hid (VisOut cs q V ⟨tag,pos⟩ w w5):=Lib.hid ⟨V3,.new HN.out.1.symm HN.out.2.1 HN2.out.1 hv3,hM5,HN2.out.2.trans hc5 (fun x hx=> .inl hx)⟩
   clear hv3 hM5 hc5
   go_wp2_with fail
   go_end0
   exact ⟨rfl,HFIN.out⟩
theorem visit_any (F:List Nat) (gs n room:Nat) (cs:List (Option Rec)) (free:List Int) (bs bi bv q:Nat) (hcs:cs.length≤1048576):∀m,VisC F gs n room cs free bs bi bv q m:=fun m=>Nat.strongRecOn m fun m ih=>visit_step F gs n room cs free bs bi bv q m hcs ih
end
end
end Go.Proofs.YtnlmlehcpngcgaaGreat
