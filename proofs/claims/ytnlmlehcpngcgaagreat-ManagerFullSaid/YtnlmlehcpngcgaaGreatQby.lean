/- Kept sums: a map from ids to numbers, as a resource. Contracts: meter's same, numbers, product. Contracts: meter's node, edge. -/
import Derived.Test.YtnlmlehcpngcgaaGreatQbt
import Derived.Test.YtnlmlehcpngcgaaGreatQal
import Derived.Test.YtnlmlehcpngcgaaGreatQbj
import Derived.Test.YtnlmlehcpngcgaaGreatQbw
import Derived.Test.YtnlmlehcpngcgaaGreatQbx
namespace Go.Proofs.YtnlmlehcpngcgaaGreat
set_option linter.unusedSimpArgs false
set_option linter.unusedVariables false
section
open Go Go.RowKit Go.Sort Go.Maps
structure KEn where
 id:Int
 A:Option Addr
 n:Nat
 c:Nat
 x:Nat
def KEn.val (e:KEn):Value:= .slice e.A e.n e.c
def rdV (v:Value):Option (DataW Value×List MemPlace):=some (.held v,[])
abbrev nilW:Value:= .slice none 0 0
structure KeptIs (W:World) (F:List Nat) (q N:Nat) (L:List KEn):Prop where
 map:∃D:DataW Value,W.ownsMap Tryz.prog 46 rdV q N D∧IsMap D∧∀id,isU id→has D (.int .u32 id)=true→∃en∈L,en.id=id∧D.atKey (.int .u32 id) (.held nilW) = .held en.val
 q:q∈F
 lt:∀k∈F,k<W.heap.size
 rows:∀en∈L,RowF UN 0 W W.heap.size en.A (wl en.x)∧∀a,en.A=some a→0<(wl en.x).length→a.block∈F
theorem rowF_chg {W W':World} {G:List Nat} {A:Option Addr} {xs:List Nat} (h:RowF UN 0 W W.heap.size A xs) (hc:Chg G W W') (hA:∀a,A=some a→0<xs.length→¬a.block∈G):RowF UN 0 W' W'.heap.size A xs:=fun hn=>by
 obtain ⟨b,off,e,hb,h2⟩:=h hn
 refine ⟨b,off,e,Nat.lt_of_lt_of_le hb hc.size,fun j hj=>?_⟩
 rw [← h2 j hj]
 have:=hA ⟨b,off,none⟩ e hn
 unfold World.cell?
 rw [hc.block b hb this]
def keptR (q N:Nat) (L:List KEn):Res:=
 ⟨fun W F=>KeptIs W F q N L,(fun {W W' F G} h hc hd=>by
  obtain ⟨⟨D,⟨es,clock,hb,h2⟩,h3⟩,hq,hl,hr⟩:=h
  refine ⟨⟨D,⟨es,clock,(hc.block q (hl q hq) (hd q hq)).trans hb,h2⟩,h3⟩,hq,fun k hk=>Nat.lt_of_lt_of_le (hl k hk) hc.size,fun en he=>⟨rowF_chg (hr en he).1 hc (fun a ha hn=>hd _ ((hr en he).2 a ha hn)),(hr en he).2⟩⟩),(fun h=>h.lt)⟩
section
variable {q N:Nat} {L:List KEn} {R:Res} {w:World} {F:List Nat}
theorem kept_look (h:(keptR q N L).at_ w F) {id:Int} (hid:isU id):(∃ en∈L,en.id=id∧(Instr.lookup 150 (.map (some q)) (.int .u32 id) true).run Tryz.prog w = .ok (.tuple #[en.val,.bool true]) w)∨(Instr.lookup 150 (.map (some q)) (.int .u32 id) true).run Tryz.prog w = .ok (.tuple #[nilW,.bool false]) w:=by
 obtain ⟨⟨D,h1,h0,h2⟩,_,_,_⟩:=h
 obtain ⟨v,ps,hrun,hR⟩:=h1.look_ok keyU Tryz.underlying150 (show (zeroValue 70).run Tryz.prog w = .ok nilW w by kernel_rfl) (zd:= .held nilW) (zp:=[]) rfl (keyOf_u hid)
 injection hR with hR
 injection hR with hR _
 cases hh:has D (.int .u32 id) with
 | true=>
  obtain ⟨en,he,e1,e2⟩:=h2 id hid hh
  rw [e2] at hR
  injection hR with hR
  subst hR
  rw [hh] at hrun
  exact .inl ⟨en,he,e1,hrun⟩
 | false=>
  rw [atKey_of_not_has hh] at hR
  injection hR with hR
  subst hR
  rw [hh] at hrun
  exact .inr hrun
theorem kept_put (en:KEn) (h:(sepR (slW en.A en.n en.c (wl en.x)) (sepR (keptR q N L) R)).at_ w F) (hid:isU en.id) (hN:N<maxLen) (hd:en.x≠0→∃b,en.A=some ⟨b,0,none⟩) :
  ∃w',(do Instr.mapUpdate 150 (.map (some q)) (.int .u32 en.id) (.slice en.A en.n en.c);pure undef:Sem Value).run Tryz.prog w = .ok undef w'∧Lands (sepR (keptR q (N+1) (L++[en])) R) F w w':=by
 obtain ⟨F1,F2,e0,hS,⟨F3,F4,e1,⟨⟨D,h1,h0,h2⟩,hq,hl,hr⟩,hR,d1⟩,d0⟩:=h
 have hrow:=slW_row hS
 obtain ⟨w',hrun,hown,hgr⟩:=h1.update (d:= .held en.val) (ps:=[]) keyU Tryz.underlying150 hN (keyOf_u hid) (val:=en.val) rfl
 have hch:Chg [q] w w':=⟨hgr.os,hgr.tape,hgr.output,hgr.size,fun k hk hn=>hgr.block k hk (fun e=>hn (by injection e with e;simp [e]))⟩
 have hk:WideAt.IsKeyLit (.int .u32 en.id):=by trivial
 have hq2:q∈F2:=(e1 q).2 (.inl hq)
 have hq1:¬q∈F1:=fun hm=>d0 q hm hq2
 refine ⟨w',?_,F1++F3++F4,⟨F1++F3,F4,fun x=>List.mem_append,⟨⟨D.put (.int .u32 en.id) (.held en.val),hown,h0.put _ _,fun id hu hh=>?_⟩,by simp [hq],fun k hk=>?_,fun e' he'=>?_⟩,R.chg hR hch (fun k hk hm=>?_),fun x hx hm=>?_⟩,fun y hy=> .inl ?_,hch.mono fun x hx=>?_⟩
 ·have hrun':(Instr.mapUpdate 150 (.map (some q)) (.int .u32 en.id) (.slice en.A en.n en.c)).run Tryz.prog w = .ok () w':=hrun
  simp only [Sem.run_bind,hrun',Result.andThen_ok,Sem.run_pure]
 ·by_cases e:id=en.id
  ·subst e
   exact ⟨en,by simp,rfl,atKey_put_same h0 hk _ _⟩
  ·have hne:(Lit.int .u32 id)≠ .int .u32 en.id:=by intro h;injection h with _ h;exact e h
   rw [has_put_other hne] at hh
   rw [atKey_put_other hne]
   obtain ⟨e',a1,a2,a3⟩:=h2 id hu hh
   exact ⟨e',by simp [a1],a2,a3⟩
 ·rcases List.mem_append.1 hk with hk|hk
  ·exact Nat.lt_of_lt_of_le (Res.lt _ hS k hk) hch.size
  ·exact Nat.lt_of_lt_of_le (hl k hk) hch.size
 ·rcases List.mem_append.1 he' with he'|he'
  ·refine ⟨rowF_chg (hr e' he').1 hch (fun a ha hn hm=>?_),fun a ha hn=>List.mem_append.2 (.inr ((hr e' he').2 a ha hn))⟩
   obtain ⟨b,off,e2,hb,hc2⟩:=(hr e' he').1 hn
   rw [List.mem_singleton] at hm
   have hcell:=hc2 0 hn
   have:=h1
   obtain ⟨es,clock,hbk,_⟩:=this
   rw [e2] at ha
   injection ha with ha
   subst ha
   simp only at hm
   subst hm
   rw [World.cell?] at hcell
   simp [hbk] at hcell
  ·rw [List.mem_singleton] at he'
   subst he'
   have hA:∀a,e'.A=some a→0<(wl e'.x).length→a.block∈F1:=fun a ha hn=>by
    have hx:e'.x≠0:=fun h=>by rw [h] at hn;exact absurd hn (by decide)
    obtain ⟨b,hb⟩:=hd hx
    rw [hb] at ha
    injection ha with ha
    subst ha
    rw [hS.1,hb]
    simp [blk,Value.ownBlock]
   exact ⟨rowF_chg hrow hch (fun a ha hn hm=>hq1 (by rw [← List.mem_singleton.1 hm];exact hA a ha hn)),fun a ha hn=>List.mem_append.2 (.inl (hA a ha hn))⟩
 ·rw [List.mem_singleton] at hm
  subst hm
  exact d1 k hq hk
 ·rcases List.mem_append.1 hx with hx|hx
  ·exact d0 x hx ((e1 x).2 (.inr hm))
  ·exact d1 x hx hm
 ·rcases List.mem_append.1 hy with hy|hy
  ·rcases List.mem_append.1 hy with hy|hy
   ·exact (e0 y).2 (.inl hy)
   ·exact (e0 y).2 (.inr ((e1 y).2 (.inl hy)))
  ·exact (e0 y).2 (.inr ((e1 y).2 (.inr hy)))
 ·rw [List.mem_singleton] at hx
  subst hx
  exact .inl ((e0 x).2 (.inr hq2))
theorem kept_new (h:R.at_ w F):(Instr.makeMap 150 none).run Tryz.prog w = .ok (.map (some w.heap.size)) (w.alloc (.map #[] 0))∧Lands (sepR (keptR w.heap.size 0 []) R) F w (w.alloc (.map #[] 0)):=by
 refine ⟨rfl,lands_new (b:=w.heap.size) h (Nat.le_refl _) ⟨⟨.map [],World.ownsMap_made w _ _ _,isMap_empty,fun id _ h=>by cases h⟩,by simp,fun k hk=>?_,fun en he=>by cases he⟩ ((Below.refl _ _).alloc (Nat.le_refl _) _)⟩
 rw [List.mem_singleton] at hk
 subst hk
 simp
theorem kept_num (en:KEn) (he:en∈L) (h1:en.n=(wl en.x).length) (h2:en.n≤en.c) (h3:en.x<18446744073709551616) (h4:en.x≠0→∃b,en.A=some ⟨b,0,none⟩):NumIn (keptR q N L) en.A en.n en.c en.x:=⟨h1,h2,h3,h4,fun h=>(h.rows en he).1⟩
end
end
section
open Go.RowKit Go.Sort
def oneL (n i:Nat):List Nat:=List.replicate i 1++List.replicate (n-i) 0
theorem oneL_zero {n:Nat}:oneL n 0=List.replicate n 0:=rfl
theorem oneL_all {n:Nat}:oneL n n=List.replicate n 1:=by simp [oneL]
theorem oneL_set {n i:Nat} (h:i<n):oneL n (i+1)=(oneL n i).set i 1:=by
 unfold oneL
 rw [List.set_append_right _ _ (by simp),List.length_replicate,Nat.sub_self,show n-i=(n-(i+1))+1 by omega,List.replicate_succ (n:=n-(i+1)),List.set_cons_zero,List.replicate_succ' (n:=i),List.append_assoc]
 rfl
def encO:Option (Nat×Nat)→List Value
 | some p=>[.slice (some ⟨p.1,0,none⟩) 1 p.2]
 | none=>[.slice none 0 0]
theorem encO_len (x:Option (Nat×Nat)):(encO x).length=1:=by cases x<;>rfl
abbrev slO (A:Option Addr) (n c:Nat) (xs:List (Option (Nat×Nat))):Res:=slR 1 encO 70 A n c xs
def optL (n:Nat) (vs:List (Nat×Nat)):List (Option (Nat×Nat)):=vs.map some++List.replicate (n-vs.length) none
theorem optL_all {n:Nat} {vs:List (Nat×Nat)} (h:vs.length=n):optL n vs=vs.map some:=by simp [optL,h]
theorem optL_set {n i:Nat} {vs:List (Nat×Nat)} {p:Nat×Nat} (hl:vs.length=i) (h:i<n):(optL n vs).set i (some p)=optL n (vs++[p]):=by
 unfold optL
 rw [List.set_append_right _ _ (by simp [hl]),List.length_map,hl,Nat.sub_self,List.length_append,hl,show n-i=(n-(i+[p].length))+1 by simp;omega,List.replicate_succ,List.set_cons_zero,List.map_append,List.append_assoc]
 rfl
def numsR (vs:List (Nat×Nat)):Res:=
 ⟨fun W F=>(∀ k∈F,k<W.heap.size)∧∀p∈vs,p.1∈F∧1≤p.2∧RowF UN 0 W W.heap.size (some ⟨p.1,0,none⟩) [1],(fun {W W' F G} h hc hd=>⟨fun k hk=>Nat.lt_of_lt_of_le (h.1 k hk) hc.size,fun p hp=>⟨(h.2 p hp).1,(h.2 p hp).2.1,rowF_chg (h.2 p hp).2.2 hc (fun a ha _=>by
  injection ha with ha
  subst ha
  exact hd _ (h.2 p hp).1)⟩⟩),(fun h=>h.1)⟩
theorem nums_num {vs:List (Nat×Nat)} {p:Nat×Nat} (hp:p∈vs) (hc:1≤p.2):NumIn (numsR vs) (some ⟨p.1,0,none⟩) 1 p.2 1:=⟨rfl,hc,by decide,fun _=>⟨_,rfl⟩,fun h=>(h.2 p hp).2.2⟩
theorem nums_in {b c n:Nat} {A:Option Addr} {xs:List (Option (Nat×Nat))} {vs:List (Nat×Nat)} {R:Res} {W:World} {F:List Nat} (hc:1≤c) (h:(sepR (slW (some ⟨b,0,none⟩) 1 c (wl 1)) (sepR (slO A n n xs) (sepR (numsR vs) R))).at_ W F):(sepR (slO A n n xs) (sepR (numsR (vs++[(b,c)])) R)).at_ W F:=by
 refine sepR_imp (sepR_swap h) (fun _ h=>h) (fun Y h=>?_)
 obtain ⟨F1,F2,e0,hS,⟨F3,F4,e1,⟨n1,n2⟩,hR,d1⟩,d0⟩:=h
 have hrow:=slW_row hS
 have hF1:F1=[b]:=hS.1
 refine ⟨F1++F3,F4,fun x=>?_,⟨fun k hk=>?_,fun p hp=>?_⟩,hR,fun x hx hm=>?_⟩
 ·rw [e0,e1,List.mem_append,or_assoc]
 ·rcases List.mem_append.1 hk with hk|hk
  ·exact Res.lt _ hS k hk
  ·exact n1 k hk
 ·rcases List.mem_append.1 hp with hp|hp
  ·obtain ⟨a1,a2,a3⟩:=n2 p hp
   exact ⟨List.mem_append.2 (.inr a1),a2,a3⟩
  ·rw [List.mem_singleton] at hp
   subst hp
   exact ⟨by rw [hF1];simp,hc,hrow⟩
 ·rcases List.mem_append.1 hx with hx|hx
  ·exact d0 x hx ((e1 x).2 (.inr hm))
  ·exact d1 x hx hm
theorem nums_start {A:Option Addr} {n:Nat} {R:Res} {W:World} {F:List Nat} (h:(sepR (slO A n n (List.replicate n none)) R).at_ W F):(sepR (slO A n n (optL n [])) (sepR (numsR []) R)).at_ W F:=
 sepR_imp h (fun _ h=>h) (fun Y h=>⟨[],Y,fun x=>by simp,⟨(fun k hk=>by cases hk),(fun p hp=>by cases hp)⟩,h,fun x hx=>by cases hx⟩)
theorem slO_st {b n:Nat} {xs:List (Option (Nat×Nat))} {R:Res} {w:World} {F:List Nat} (i:Nat) (p:Nat×Nat) (h:(sepR (slO (some ⟨b,0,none⟩) n n xs) R).at_ w F) (hi:i<n) :
  (do Instr.storeAt 70 (.pointer (some ⟨b,0+i*1,none⟩)) (.slice (some ⟨p.1,0,none⟩) 1 p.2);pure undef:Sem Value).run Tryz.prog w = .ok undef (w.setCells b (0+i*1) [.slice (some ⟨p.1,0,none⟩) 1 p.2])∧Lands (sepR (slO (some ⟨b,0,none⟩) n n (xs.set i (some p))) R) F w (w.setCells b (0+i*1) [.slice (some ⟨p.1,0,none⟩) 1 p.2]):=by
 obtain ⟨F1,F2,e0,hS,hR,hd⟩:=h
 have hl:=slR_len hS
 obtain ⟨rfl,hO⟩:=hS
 obtain ⟨y,hy⟩:∃y,xs[i]? =some y:=⟨_,List.getElem?_eq_getElem (by omega)⟩
 obtain ⟨hat,hth⟩:=OwnS.at_ (s:=1) (enc:=encO) encO_len hO i y hy
 have hset:=OwnS.set_ (s:=1) (enc:=encO) encO_len hO i (by omega) (some p)
 have hbk:blk (.slice (some ⟨b,0,none⟩) n n)=[b]:=rfl
 have hch:Chg [b] w (w.setCells b (0+i*1) [.slice (some ⟨p.1,0,none⟩) 1 p.2]):=Chg.setCells (Chg.refl _ _) (.inl (by simp)) _ _
 have e1:0+i*1=i*1:=by omega
 refine ⟨?_,F,⟨[b],F2,e0,⟨hbk.symm,?_⟩,R.chg hR hch (fun k hk hm=>?_),hd⟩,fun y hy=> .inl hy,hch.mono fun y hy=>?_⟩
 ·refine run_st (v:= .slice (some ⟨p.1,0,none⟩) 1 p.2) (by kernel_rfl) (fun j hj=>?_) (fun j hj=>?_) (by simp [Value.cells,Value.oneCell'])
  ·have:j=0:=by simp [Value.cells] at hj;exact hj
   subst this
   obtain ⟨u,hu⟩:∃u,(encO y)[0]? =some u:=⟨_,List.getElem?_eq_getElem (by rw [encO_len];decide)⟩
   have:=hat 0 u hu
   rw [e1]
   exact Option.isSome_iff_exists.2 ⟨_,this⟩
  ·have:j=0:=by simp [Value.cells] at hj;exact hj
   subst this
   rw [e1]
   exact (hth 0 (by decide)).2
 ·rw [e1]
  exact hset
 ·rw [List.mem_singleton] at hm
  subst hm
  exact hd k (by rw [hbk];simp) hk
 ·rw [List.mem_singleton] at hy
  subst hy
  exact .inl ((e0 y).2 (.inl (by rw [hbk];simp)))
structure ScIn (R:Res) (sc g f q n bl bh:Nat) (vl vh:List (Nat×Nat)):Prop where
 n16:n≤16
 lvl:vl.length=n
 lvh:vh.length=n
 blk:∀{W:World} {F:List Nat},R.at_ W F→Blk W sc 152 #[vP g,.int .u8 (f:Int),.slice (some ⟨bl,0,none⟩) n n,.slice (some ⟨bh,0,none⟩) n n,.map (some q)]
 lrow:∀{W:World} {F:List Nat} {k b c:Nat},R.at_ W F→vl[k]? =some (b,c)→W.cell? ⟨bl,0+k*1,none⟩=some (.slice (some ⟨b,0,none⟩) 1 c)
 hrow:∀{W:World} {F:List Nat} {k b c:Nat},R.at_ W F→vh[k]? =some (b,c)→W.cell? ⟨bh,0+k*1,none⟩=some (.slice (some ⟨b,0,none⟩) 1 c)
 lnum:∀{k b c:Nat},vl[k]? =some (b,c)→NumIn R (some ⟨b,0,none⟩) 1 c 1
 hnum:∀{k b c:Nat},vh[k]? =some (b,c)→NumIn R (some ⟨b,0,none⟩) 1 c 1
theorem ScIn.right {X R:Res} {sc g f q n bl bh:Nat} {vl vh:List (Nat×Nat)} (h:ScIn R sc g f q n bl bh vl vh):ScIn (sepR X R) sc g f q n bl bh vl vh:=
 ⟨h.n16,h.lvl,h.lvh,fun hR=>h.blk (sepR_snd hR).choose_spec,fun hR=>h.lrow (sepR_snd hR).choose_spec,fun hR=>h.hrow (sepR_snd hR).choose_spec,fun hk=>(h.lnum hk).right,fun hk=>(h.hnum hk).right⟩
def pw (both:Bool) (fr tt:Int):Nat:=if both then 2^(tt-fr).toNat else 1
theorem pw_ne (both:Bool) (fr tt:Int):pw both fr tt≠0:=by
 unfold pw
 split
 ·exact Nat.ne_of_gt (Nat.two_pow_pos _)
 ·decide
theorem pw_zero {both:Bool} {fr:Int}:pw both fr fr=1:=by
 unfold pw
 rw [Int.sub_self]
 split<;>rfl
theorem pw_succ_true {fr k:Int} (h:fr≤k):pw true fr k*(1+1)=pw true fr (k+1):=by
 unfold pw
 rw [if_pos rfl,if_pos rfl,show (k+1-fr).toNat=(k-fr).toNat+1 by omega,Nat.pow_succ]
theorem pw_succ_false {fr k:Int} (h:fr≤k):pw false fr k*1=pw false fr (k+1):=rfl
theorem pw_lt {both:Bool} {fr tt:Int} (h:tt≤17) (h0:0≤fr):pw both fr tt<18446744073709551616:=by
 unfold pw
 split
 ·have:2^(tt-fr).toNat≤2^17:=Nat.pow_le_pow_right (by omega) (by omega)
  omega
 ·decide
theorem pw_end {both:Bool} {fr tt k:Int} (h1:fr≤k) (h2:k≤tt∨k=fr) (h3:tt≤k):pw both fr k=pw both fr tt:=by
 unfold pw
 have:(k-fr).toNat=(tt-fr).toNat:=by omega
 rw [this]
theorem sepR_lose1 {A B C:Res} {W:World} {F:List Nat} (h:(sepR A (sepR B C)).at_ W F):∃F',(∀ y∈F',y∈F)∧(sepR A C).at_ W F':=by
 obtain ⟨F1,F2,e0,hA,⟨F3,F4,e1,hB,hC,d1⟩,d0⟩:=h
 exact ⟨F1++F4,fun y hy=>(e0 y).2 ((List.mem_append.1 hy).imp id (fun h=>(e1 y).2 (.inr h))),F1,F4,fun x=>List.mem_append,hA,hC,fun x hx hm=>d0 x hx ((e1 x).2 (.inr hm))⟩
theorem sepR_lose2 {A B C D:Res} {W:World} {F:List Nat} (h:(sepR A (sepR B (sepR C D))).at_ W F):∃F',(∀ y∈F',y∈F)∧(sepR A D).at_ W F':=by
 obtain ⟨F1,h1,h2⟩:=sepR_lose1 h
 obtain ⟨F2,h3,h4⟩:=sepR_lose1 h2
 exact ⟨F2,fun y hy=>h1 y (h3 y hy),h4⟩
set_option maxRecDepth 100000 in
set_option maxHeartbeats 2000000 in
theorem sameM_ones {R:Res} {F:List Nat} {w:World} {n:Nat} (h:R.at_ w F) (h1:1≤n) (h16:n≤16):Calls Tryz.prog 50 #[.int .u64 1,.int .i64 (n:Int)] w (fun e w'=>∃b:Nat,e = .returned (.slice (some ⟨b,0,none⟩) n n)∧Lands (sepR (slW (some ⟨b,0,none⟩) n n (List.replicate n 1)) R) F w w'):=by
 refine TTg [VU 1,V64 (n:Int)] Tryz.func50 Tryz.ntmps50 h ?_
 refine TTa 0 ⟨[(0,VU 1),(1,V64 (n:Int))],[]⟩ ?_
 refine TTe 1 [1] ?_
 refine RV.mk (α:=Nat) (s:=1) (enc:=fun x:Nat=>[.int .u64 (x:Int)]) (E:=73) 1 70 n 0 (z:= .int .u64 0) (bytes:=8) (by kernel_rfl) (by kernel_rfl) (by kernel_rfl) (by kernel_rfl) (by kernel_rfl) rfl (by decide) (fun _=>rfl) (by omega) (by unfold maxLen;omega) (fun A7=>?_)
 refine RVz ⟨[(0,VU 1),(5,.v (.slice A7 n n))],[]⟩ ?_
 refine TT.seq ?_
 refine TT.know (∃ b,A7=some ⟨b,0,none⟩) (fun w F h=>by obtain ⟨b,hb,_⟩:=slR_head (sepR_fst h).choose_spec (by omega);exact ⟨b,hb⟩) (fun hA7=>?_)
 obtain ⟨b7,rfl⟩:=hA7
 refine TTa 0 ⟨[(0,VU 1),(5,.v (.slice (some ⟨b7,0,none⟩) n n)),(10,V64 (n:Int)),(11,V64 0)],[]⟩ ?_
 refine TT.block ?_
 refine TT.res (R':=sepR (slW (some ⟨b7,0,none⟩) n n (oneL n 0)) R) (fun W F h=>by rw [oneL_zero];exact h) ?_
 refine TT.loop (ι:=Nat) (fun i=>i≤n) (fun i=>⟨[(0,VU 1),(5,.v (.slice (some ⟨b7,0,none⟩) n n)),(10,V64 (n:Int)),(11,V64 (i:Int))],[]⟩) (fun i=>sepR (slW (some ⟨b7,0,none⟩) n n (oneL n i)) R) (fun i=>n-i) 0 (by omega) rfl rfl (fun i hi1=>?_)
 have hi0:i≤n:=hi1
 have hup:IntKind.i64.wrap ((i:Int)+1)=((i+1:Nat):Int):=i64_up (by omega)
 refine TTa 0 ⟨[(0,VU 1),(5,.v (.slice (some ⟨b7,0,none⟩) n n)),(10,V64 (n:Int)),(11,V64 (i:Int)),(12,VB (decide ((i:Int)<(n:Int))))],[]⟩ ?_
 refine TT.seq ?_
 refine TT.cond (b:=decide ((i:Int)<(n:Int))) (by kernel_rfl) (fun hc2=>?_) (fun hc2=>?_)
 ·have hin:i<n:=by simp only [decide_eq_true_eq] at hc2;omega
  refine TT.skip ?_
  refine TT.next ?_
  refine TT.seq ?_
  refine TT.block ?_
  refine TTa 0 ⟨[(0,VU 1),(5,.v (.slice (some ⟨b7,0,none⟩) n n)),(6,V64 (i:Int)),(10,V64 (n:Int)),(11,V64 (i:Int))],[]⟩ ?_
  refine TT.r (m:=2) false [3,4] 0 mixed (by kernel_rfl) ?_
  refine RVd 3 (.idx 70 (.v (.slice (some ⟨b7,0,none⟩) n n)) (V64 (i:Int))) (.v (.pointer (some ⟨b7,0+i*1,none⟩))) (fun ρ w F hF=>run_ixS (e:=73) (s:=1) (off:=0) i (by kernel_rfl) (by kernel_rfl) hin) ?_
  refine RVw 4 (.store 73 (.v (.pointer (some ⟨b7,0+i*1,none⟩))) (VU 1)) (fun ρ w F hF=>⟨_,.v undef,sepR (slW (some ⟨b7,0,none⟩) n n (oneL n (i+1))) R,(slW_st i 1 hF hin).1,by rw [oneL_set hin];exact (slW_st i 1 hF hin).2,?_⟩)
  refine RV.fin (s':=⟨[(0,VU 1),(5,.v (.slice (some ⟨b7,0,none⟩) n n)),(10,V64 (n:Int)),(11,V64 (i:Int))],[]⟩) (by kernel_rfl) (by kernel_rfl) ?_
  refine TT.next ?_
  refine TT.p0 (s':=⟨[(0,VU 1),(5,.v (.slice (some ⟨b7,0,none⟩) n n)),(10,V64 (n:Int)),(11,V64 (IntKind.i64.wrap ((i:Int)+1)))],[]⟩) 0 (by kernel_rfl) ?_
  rw [hup]
  exact fun ρ a w hs=>⟨ρ,i+1,by omega,by omega,hs⟩
 ·have hin:n=i:=by simp only [decide_eq_false_iff_not] at hc2;omega
  subst hin
  refine TTx ?_
  refine TT.next ?_
  refine TTa 0 ⟨[(4,.v (.slice (some ⟨b7,0,none⟩) n n))],[]⟩ ?_
  refine TTs Tryz.results50 (.v (.slice (some ⟨b7,0,none⟩) n n)) (fun _ _ h=>h) (fun ρ a w3 hs3=>?_)
  exact ⟨b7,rfl,by rw [← oneL_all];exact hs3.lands⟩
set_option maxRecDepth 100000 in
set_option maxHeartbeats 2000000 in
theorem numbersM {R:Res} {F:List Nat} {w:World} {n bl cl:Nat} (h:R.at_ w F) (h1:1≤n) (h16:n≤16) (hr:∀{W:World} {F:List Nat},R.at_ W F→RowF UN 0 W W.heap.size (some ⟨bl,0,none⟩) (List.replicate n 1)):Calls Tryz.prog 62 #[.slice (some ⟨bl,0,none⟩) n cl] w (fun e w'=>∃i:Nat×List (Nat×Nat),(i.2.length=n∧e = .returned (.slice (some ⟨i.1,0,none⟩) n n))∧Lands (sepR (slO (some ⟨i.1,0,none⟩) n n (i.2.map some)) (sepR (numsR i.2) R)) F w w'):=by
 refine TTg [.v (.slice (some ⟨bl,0,none⟩) n cl)] Tryz.func62 Tryz.ntmps62 h ?_
 refine TTa 0 ⟨[(0,.v (.slice (some ⟨bl,0,none⟩) n cl))],[]⟩ ?_
 refine TTe 1 [2] ?_
 refine RV.mk (α:=Option (Nat×Nat)) (s:=1) (enc:=encO) (E:=70) 2 148 n none (z:= .slice none 0 0) (bytes:=24) (by kernel_rfl) (by kernel_rfl) (by kernel_rfl) (by kernel_rfl) (by kernel_rfl) rfl (by decide) encO_len (by omega) (by unfold maxLen;omega) (fun A7=>?_)
 refine RVz ⟨[(0,.v (.slice (some ⟨bl,0,none⟩) n cl)),(3,.v (.slice A7 n n))],[]⟩ ?_
 refine TT.seq ?_
 refine TT.know (∃ b,A7=some ⟨b,0,none⟩) (fun w F h=>by obtain ⟨b,hb,_⟩:=slR_head (sepR_fst h).choose_spec (by omega);exact ⟨b,hb⟩) (fun hA7=>?_)
 obtain ⟨b7,rfl⟩:=hA7
 refine TTa 0 ⟨[(3,.v (.slice (some ⟨b7,0,none⟩) n n)),(9,.v (.slice (some ⟨bl,0,none⟩) n cl)),(10,V64 (n:Int)),(11,V64 0)],[]⟩ ?_
 refine TT.block ?_
 refine TT.res (R':=sepR (slO (some ⟨b7,0,none⟩) n n (optL n [])) (sepR (numsR []) R)) (fun W F h=>nums_start h) ?_
 refine TT.loop (ι:=Nat×List (Nat×Nat)) (fun ⟨i,vs⟩=>i≤n∧vs.length=i) (fun ⟨i,vs⟩=>⟨[(3,.v (.slice (some ⟨b7,0,none⟩) n n)),(9,.v (.slice (some ⟨bl,0,none⟩) n cl)),(10,V64 (n:Int)),(11,V64 (i:Int))],[]⟩) (fun ⟨i,vs⟩=>sepR (slO (some ⟨b7,0,none⟩) n n (optL n vs)) (sepR (numsR vs) R)) (fun ⟨i,vs⟩=>n-i) ⟨0,[]⟩ (⟨by simp,rfl⟩) rfl rfl (fun ⟨i,vs⟩ hi1=>?_)
 show TT _ _ _ ⟨[(3,.v (.slice (some ⟨b7,0,none⟩) n n)),(9,.v (.slice (some ⟨bl,0,none⟩) n cl)),(10,V64 (n:Int)),(11,V64 (i:Int))],[]⟩ (sepR (slO (some ⟨b7,0,none⟩) n n (optL n vs)) (sepR (numsR vs) R)) _
 obtain ⟨hi0,hlv⟩:=hi1
 have hup:IntKind.i64.wrap ((i:Int)+1)=((i+1:Nat):Int):=i64_up (by omega)
 refine TTa 0 ⟨[(3,.v (.slice (some ⟨b7,0,none⟩) n n)),(9,.v (.slice (some ⟨bl,0,none⟩) n cl)),(10,V64 (n:Int)),(11,V64 (i:Int)),(12,VB (decide ((i:Int)<(n:Int))))],[]⟩ ?_
 refine TT.seq ?_
 refine TT.cond (b:=decide ((i:Int)<(n:Int))) (by kernel_rfl) (fun hc2=>?_) (fun hc2=>?_)
 ·have hin:i<n:=by simp only [decide_eq_true_eq] at hc2;omega
  refine TT.skip ?_
  refine TT.next ?_
  refine TT.seq ?_
  refine TT.block ?_
  refine TTe 2 [1,2] ?_
  refine RVd 1 (.idx 70 (.v (.slice (some ⟨bl,0,none⟩) n cl)) (V64 (i:Int))) (.v (.pointer (some ⟨bl,0+i*1,none⟩))) (fun ρ w F hF=>run_ixS (e:=73) (s:=1) (off:=0) i (by kernel_rfl) (by kernel_rfl) hin) ?_
  refine RVd 2 (.load 73 (.v (.pointer (some ⟨bl,0+i*1,none⟩)))) (VU 1) (fun ρ w F hF=>run_ld (by kernel_rfl) (row_at (hr (sepR_snd (sepR_snd hF).choose_spec).choose_spec) (i:=i) (List.getElem?_replicate_of_lt hin))) ?_
  refine RVz ⟨[(3,.v (.slice (some ⟨b7,0,none⟩) n n)),(4,V64 (i:Int)),(5,VU 1),(9,.v (.slice (some ⟨bl,0,none⟩) n cl)),(10,V64 (n:Int)),(11,V64 (i:Int))],[]⟩ ?_
  refine TT.r (m:=3) false [3,4,5] 0 mixed (by kernel_rfl) ?_
  refine RVc 3 82 (fun ρ=>[.int .u64 1]) [] (fun ρ w3 F3 hF3 hpk3=>?_)
  refine (ofN (x:=1) hF3 (by decide) (by decide)).mono ?_
  rintro e3 w'3 ⟨A8,n8,c8,rfl,hN8,hl3⟩
  obtain ⟨b8,rfl⟩:=hN8.hd (by decide)
  obtain rfl:n8=1:=hN8.len
  have hc8:=hN8.cap
  refine ⟨.v (.slice (some ⟨b8,0,none⟩) 1 c8),_,rfl,hl3.imp (fun _ h=>nums_in hc8 h),?_⟩
  refine RVd 4 (.idx 148 (.v (.slice (some ⟨b7,0,none⟩) n n)) (V64 (i:Int))) (.v (.pointer (some ⟨b7,0+i*1,none⟩))) (fun ρ w F hF=>run_ixS (e:=70) (s:=1) (off:=0) i (by kernel_rfl) (by kernel_rfl) hin) ?_
  refine RVw 5 (.store 70 (.v (.pointer (some ⟨b7,0+i*1,none⟩))) (.v (.slice (some ⟨b8,0,none⟩) 1 c8))) (fun ρ w F hF=>⟨_,.v undef,sepR (slO (some ⟨b7,0,none⟩) n n (optL n (vs++[(b8,c8)]))) (sepR (numsR (vs++[(b8,c8)])) R),(slO_st i (b8,c8) hF hin).1,by rw [← optL_set hlv hin];exact (slO_st i (b8,c8) hF hin).2,?_⟩)
  refine RV.fin (s':=⟨[(3,.v (.slice (some ⟨b7,0,none⟩) n n)),(9,.v (.slice (some ⟨bl,0,none⟩) n cl)),(10,V64 (n:Int)),(11,V64 (i:Int))],[]⟩) (by kernel_rfl) (by kernel_rfl) ?_
  refine TT.next ?_
  refine TT.p0 (s':=⟨[(3,.v (.slice (some ⟨b7,0,none⟩) n n)),(9,.v (.slice (some ⟨bl,0,none⟩) n cl)),(10,V64 (n:Int)),(11,V64 (IntKind.i64.wrap ((i:Int)+1)))],[]⟩) 0 (by kernel_rfl) ?_
  rw [hup]
  exact fun ρ a w hs=>⟨ρ,⟨i+1,vs++[(b8,c8)]⟩,⟨by omega,by rw [List.length_append,hlv];rfl⟩,(show n-(i+1)<n-i by omega),hs⟩
 ·have hin:n=i:=by simp only [decide_eq_false_iff_not] at hc2;omega
  subst hin
  refine TTx ?_
  refine TT.next ?_
  refine TTa 0 ⟨[(2,.v (.slice (some ⟨b7,0,none⟩) n n))],[]⟩ ?_
  refine TTs Tryz.results62 (.v (.slice (some ⟨b7,0,none⟩) n n)) (fun _ _ h=>h) (fun ρ a w4 hs4=>?_)
  exact ⟨(b7,vs),⟨hlv,rfl⟩,by rw [← optL_all hlv];exact hs4.lands⟩
set_option maxRecDepth 100000 in
set_option maxHeartbeats 2000000 in
theorem product_true {R:Res} {F:List Nat} {w:World} {sc g f q n bl bh:Nat} {vl vh:List (Nat×Nat)} {fr tt:Int} (h:R.at_ w F) (hS:ScIn R sc g f q n bl bh vl vh) (h0:0≤fr) (hto:tt≤n) (hfr:fr≤n):Calls Tryz.prog 87 #[.pointer (some ⟨sc,0,none⟩),.int .i64 fr,.int .i64 tt,.bool true] w (NumOut R (pw true fr tt) F w):=by
 have hn16:=hS.n16
 refine TTg [VP sc,V64 fr,V64 tt,VB true] Tryz.func87 Tryz.ntmps87 h ?_
 refine TTa 0 ⟨[(0,VP sc),(1,V64 fr),(2,V64 tt),(3,VB true)],[]⟩ ?_
 refine TTe 1 [0] ?_
 refine RVc 0 82 (fun ρ=>[.int .u64 1]) [] (fun ρ w1 F1 hF1 hpk1=>?_)
 refine (ofN (x:=1) hF1 (by decide) (by decide)).mono ?_
 rintro e1 w'1 ⟨A8,n8,c8,rfl,hN8,hl1⟩
 refine ⟨.v (.slice A8 n8 c8),_,rfl,hl1,?_⟩
 refine RVz ⟨[(0,VP sc),(1,V64 fr),(2,V64 tt),(3,VB true),(9,.v (.slice A8 n8 c8))],[]⟩ ?_
 refine TT.seq (TTa 0 ⟨[(0,VP sc),(2,V64 tt),(3,VB true),(9,.v (.slice A8 n8 c8)),(10,V64 fr)],[]⟩ ?_)
 refine TT.block ?_
 refine TT.loop (ι:=Int×Option Addr×Nat×Nat) (fun ⟨k,A,n',c'⟩=>(fr≤k∧(k≤tt∨k=fr))∧NumIn (slW A n' c' (wl (pw true fr k))) A n' c' (pw true fr k)) (fun ⟨k,A,n',c'⟩=>⟨[(0,VP sc),(2,V64 tt),(3,VB true),(9,.v (.slice A n' c')),(10,V64 k)],[]⟩) (fun ⟨k,A,n',c'⟩=>sepR (slW A n' c' (wl (pw true fr k))) R) (fun ⟨k,A,n',c'⟩=>(tt-k).toNat) ⟨fr,A8,n8,c8⟩ (⟨⟨Int.le_refl _,.inr rfl⟩,by rw [pw_zero];exact hN8⟩) rfl (by show _=sepR (slW A8 n8 c8 (wl (pw _ fr fr))) R;rw [pw_zero]) (fun ⟨k,A,n',c'⟩ hi=>?_)
 show TT _ _ _ ⟨[(0,VP sc),(2,V64 tt),(3,VB true),(9,.v (.slice A n' c')),(10,V64 k)],[]⟩ (sepR (slW A n' c' (wl (pw true fr k))) R) _
 obtain ⟨⟨hk1,hk2⟩,hNk⟩:=hi
 have hup:∀{kn:Nat},kn<n→IntKind.i64.wrap ((kn:Int)+1)=(kn:Int)+1:=fun h=>IntWalk.i64_in _ (by omega)
 refine TT.seq (TTa 0 ⟨[(0,VP sc),(2,V64 tt),(3,VB true),(9,.v (.slice A n' c')),(10,V64 k),(16,VB (decide (k<tt)))],[]⟩ ?_)
 refine TT.cond (b:=decide (k<tt)) (by kernel_rfl) (fun hc2=>?_) (fun hc2=>?_)
 ·have hkt:k<tt:=by simpa using hc2
  obtain ⟨kn,rfl⟩:=Int.eq_ofNat_of_zero_le (show 0≤k by omega)
  have hkn:kn<n:=by omega
  obtain ⟨⟨xl,yl⟩,hxl⟩:∃p,vl[kn]? =some p:=⟨_,List.getElem?_eq_getElem (by have:=hS.lvl;omega)⟩
  obtain ⟨⟨xh,yh⟩,hxh⟩:∃p,vh[kn]? =some p:=⟨_,List.getElem?_eq_getElem (by have:=hS.lvh;omega)⟩
  have hpw:pw true fr (kn:Int)*(1+1)=pw true fr ((kn:Int)+1):=pw_succ_true (by omega)
  refine TT.skip ?_
  refine TT.next ?_
  refine TT.seq ?_
  refine TT.block ?_
  refine TTe 3 [3,5,6] ?_
  refine RVd 3 (.load 148 (.v (.pointer (some ⟨sc,2,none⟩)))) (.v (.slice (some ⟨bl,0,none⟩) n n)) (fun ρ w F hF=>run_ld (by kernel_rfl) ((hS.blk (sepR_snd hF).choose_spec).cell 2)) ?_
  refine RVd 5 (.idx 148 (.v (.slice (some ⟨bl,0,none⟩) n n)) (V64 (kn:Int))) (.v (.pointer (some ⟨bl,0+kn*1,none⟩))) (fun ρ w F hF=>run_ixS (e:=70) (s:=1) (off:=0) kn (by kernel_rfl) (by kernel_rfl) hkn) ?_
  refine RVd 6 (.load 70 (.v (.pointer (some ⟨bl,0+kn*1,none⟩)))) (.v (.slice (some ⟨xl,0,none⟩) 1 yl)) (fun ρ w F hF=>run_ld (by kernel_rfl) (hS.lrow (sepR_snd hF).choose_spec hxl)) ?_
  refine RVz ⟨[(0,VP sc),(2,V64 tt),(3,VB true),(9,.v (.slice A n' c')),(10,V64 (kn:Int)),(11,.v (.slice (some ⟨xl,0,none⟩) 1 yl))],[]⟩ ?_
  refine TT.seq (TTa 0 ⟨[(0,VP sc),(2,V64 tt),(3,VB true),(9,.v (.slice A n' c')),(10,V64 (kn:Int)),(11,.v (.slice (some ⟨xl,0,none⟩) 1 yl)),(26,VB true)],[]⟩ ?_)
  refine TTy ?_
  refine TT.r (m:=4) false [4,6,7,8] 0 mixed (by kernel_rfl) ?_
  refine RVd 4 (.load 148 (.v (.pointer (some ⟨sc,3,none⟩)))) (.v (.slice (some ⟨bh,0,none⟩) n n)) (fun ρ w F hF=>run_ld (by kernel_rfl) ((hS.blk (sepR_snd hF).choose_spec).cell 3)) ?_
  refine RVd 6 (.idx 148 (.v (.slice (some ⟨bh,0,none⟩) n n)) (V64 (kn:Int))) (.v (.pointer (some ⟨bh,0+kn*1,none⟩))) (fun ρ w F hF=>run_ixS (e:=70) (s:=1) (off:=0) kn (by kernel_rfl) (by kernel_rfl) hkn) ?_
  refine RVd 7 (.load 70 (.v (.pointer (some ⟨bh,0+kn*1,none⟩)))) (.v (.slice (some ⟨xh,0,none⟩) 1 yh)) (fun ρ w F hF=>run_ld (by kernel_rfl) (hS.hrow (sepR_snd hF).choose_spec hxh)) ?_
  refine RVc 8 106 (fun ρ=>[.slice (some ⟨xl,0,none⟩) 1 yl,.slice (some ⟨xh,0,none⟩) 1 yh]) [] (fun ρ w3 F3 hF3 hpk3=>?_)
  refine (addM hF3 (hS.lnum hxl).right (hS.hnum hxh).right (by decide)).mono ?_
  rintro e3 w'3 ⟨A6,n6,c6,rfl,hN6,hl3⟩
  refine ⟨.v (.slice A6 n6 c6),_,rfl,hl3,?_⟩
  refine RV.fin (s':=⟨[(0,VP sc),(2,V64 tt),(3,VB true),(9,.v (.slice A n' c')),(10,V64 (kn:Int)),(11,.v (.slice A6 n6 c6))],[]⟩) (by kernel_rfl) (by kernel_rfl) ?_
  refine TT.next ?_
  refine TT.r (m:=1) false [2] 0 mixed (by kernel_rfl) ?_
  refine RVc 2 86 (fun ρ=>[.slice A n' c',.slice A6 n6 c6]) [] (fun ρ w4 F4 hF4 hpk4=>?_)
  refine (mulM hF4 hNk.left.right hN6.left (pw_ne _ _ _) (by rw [hpw];exact pw_lt (by omega) (by omega))).mono ?_
  rintro e4 w'4 ⟨A9,n9,c9,rfl,hN9,hl4⟩
  rw [hpw] at hN9 hl4
  refine ⟨.v (.slice A9 n9 c9),_,rfl,hl4,?_⟩
  refine RV.fin (s':=⟨[(0,VP sc),(2,V64 tt),(3,VB true),(9,.v (.slice A9 n9 c9)),(10,V64 (kn:Int))],[]⟩) (by kernel_rfl) (by kernel_rfl) ?_
  refine TT.next ?_
  refine TT.p0 (s':=⟨[(0,VP sc),(2,V64 tt),(3,VB true),(9,.v (.slice A9 n9 c9)),(10,V64 (IntKind.i64.wrap ((kn:Int)+1)))],[]⟩) 0 (by kernel_rfl) ?_
  rw [hup hkn]
  exact fun ρ a w hs=>⟨ρ,⟨(kn:Int)+1,A9,n9,c9⟩,⟨⟨by omega,.inl (by omega)⟩,hN9⟩,(show (tt-((kn:Int)+1)).toNat<(tt-(kn:Int)).toNat by omega),hs.toL (fun F h=>sepR_lose2 h)⟩
 ·have hkt:tt≤k:=by simpa using hc2
  refine TTx ?_
  refine TT.next ?_
  refine TTa 0 ⟨[(8,.v (.slice A n' c'))],[]⟩ ?_
  refine TTs Tryz.results87 (.v (.slice A n' c')) (fun _ _ h=>h) (fun ρ a w5 hs5=>?_)
  rw [pw_end hk1 hk2 hkt] at hNk hs5
  exact ⟨A,n',c',rfl,hNk,hs5.lands⟩
set_option maxRecDepth 100000 in
set_option maxHeartbeats 2000000 in
theorem product_false {R:Res} {F:List Nat} {w:World} {sc g f q n bl bh:Nat} {vl vh:List (Nat×Nat)} {fr tt:Int} (h:R.at_ w F) (hS:ScIn R sc g f q n bl bh vl vh) (h0:0≤fr) (hto:tt≤n) (hfr:fr≤n):Calls Tryz.prog 87 #[.pointer (some ⟨sc,0,none⟩),.int .i64 fr,.int .i64 tt,.bool false] w (NumOut R (pw false fr tt) F w):=by
 have hn16:=hS.n16
 refine TTg [VP sc,V64 fr,V64 tt,VB false] Tryz.func87 Tryz.ntmps87 h ?_
 refine TTa 0 ⟨[(0,VP sc),(1,V64 fr),(2,V64 tt),(3,VB false)],[]⟩ ?_
 refine TTe 1 [0] ?_
 refine RVc 0 82 (fun ρ=>[.int .u64 1]) [] (fun ρ w1 F1 hF1 hpk1=>?_)
 refine (ofN (x:=1) hF1 (by decide) (by decide)).mono ?_
 rintro e1 w'1 ⟨A8,n8,c8,rfl,hN8,hl1⟩
 refine ⟨.v (.slice A8 n8 c8),_,rfl,hl1,?_⟩
 refine RVz ⟨[(0,VP sc),(1,V64 fr),(2,V64 tt),(3,VB false),(9,.v (.slice A8 n8 c8))],[]⟩ ?_
 refine TT.seq (TTa 0 ⟨[(0,VP sc),(2,V64 tt),(3,VB false),(9,.v (.slice A8 n8 c8)),(10,V64 fr)],[]⟩ ?_)
 refine TT.block ?_
 refine TT.loop (ι:=Int×Option Addr×Nat×Nat) (fun ⟨k,A,n',c'⟩=>(fr≤k∧(k≤tt∨k=fr))∧NumIn (slW A n' c' (wl (pw false fr k))) A n' c' (pw false fr k)) (fun ⟨k,A,n',c'⟩=>⟨[(0,VP sc),(2,V64 tt),(3,VB false),(9,.v (.slice A n' c')),(10,V64 k)],[]⟩) (fun ⟨k,A,n',c'⟩=>sepR (slW A n' c' (wl (pw false fr k))) R) (fun ⟨k,A,n',c'⟩=>(tt-k).toNat) ⟨fr,A8,n8,c8⟩ (⟨⟨Int.le_refl _,.inr rfl⟩,by rw [pw_zero];exact hN8⟩) rfl (by show _=sepR (slW A8 n8 c8 (wl (pw _ fr fr))) R;rw [pw_zero]) (fun ⟨k,A,n',c'⟩ hi=>?_)
 show TT _ _ _ ⟨[(0,VP sc),(2,V64 tt),(3,VB false),(9,.v (.slice A n' c')),(10,V64 k)],[]⟩ (sepR (slW A n' c' (wl (pw false fr k))) R) _
 obtain ⟨⟨hk1,hk2⟩,hNk⟩:=hi
 have hup:∀{kn:Nat},kn<n→IntKind.i64.wrap ((kn:Int)+1)=(kn:Int)+1:=fun h=>IntWalk.i64_in _ (by omega)
 refine TT.seq (TTa 0 ⟨[(0,VP sc),(2,V64 tt),(3,VB false),(9,.v (.slice A n' c')),(10,V64 k),(16,VB (decide (k<tt)))],[]⟩ ?_)
 refine TT.cond (b:=decide (k<tt)) (by kernel_rfl) (fun hc2=>?_) (fun hc2=>?_)
 ·have hkt:k<tt:=by simpa using hc2
  obtain ⟨kn,rfl⟩:=Int.eq_ofNat_of_zero_le (show 0≤k by omega)
  have hkn:kn<n:=by omega
  obtain ⟨⟨xl,yl⟩,hxl⟩:∃p,vl[kn]? =some p:=⟨_,List.getElem?_eq_getElem (by have:=hS.lvl;omega)⟩
  obtain ⟨⟨xh,yh⟩,hxh⟩:∃p,vh[kn]? =some p:=⟨_,List.getElem?_eq_getElem (by have:=hS.lvh;omega)⟩
  have hpw:pw false fr (kn:Int)*1=pw false fr ((kn:Int)+1):=pw_succ_false (by omega)
  refine TT.skip ?_
  refine TT.next ?_
  refine TT.seq ?_
  refine TT.block ?_
  refine TTe 3 [3,5,6] ?_
  refine RVd 3 (.load 148 (.v (.pointer (some ⟨sc,2,none⟩)))) (.v (.slice (some ⟨bl,0,none⟩) n n)) (fun ρ w F hF=>run_ld (by kernel_rfl) ((hS.blk (sepR_snd hF).choose_spec).cell 2)) ?_
  refine RVd 5 (.idx 148 (.v (.slice (some ⟨bl,0,none⟩) n n)) (V64 (kn:Int))) (.v (.pointer (some ⟨bl,0+kn*1,none⟩))) (fun ρ w F hF=>run_ixS (e:=70) (s:=1) (off:=0) kn (by kernel_rfl) (by kernel_rfl) hkn) ?_
  refine RVd 6 (.load 70 (.v (.pointer (some ⟨bl,0+kn*1,none⟩)))) (.v (.slice (some ⟨xl,0,none⟩) 1 yl)) (fun ρ w F hF=>run_ld (by kernel_rfl) (hS.lrow (sepR_snd hF).choose_spec hxl)) ?_
  refine RVz ⟨[(0,VP sc),(2,V64 tt),(3,VB false),(9,.v (.slice A n' c')),(10,V64 (kn:Int)),(11,.v (.slice (some ⟨xl,0,none⟩) 1 yl))],[]⟩ ?_
  refine TT.seq (TTa 0 ⟨[(0,VP sc),(2,V64 tt),(3,VB false),(9,.v (.slice A n' c')),(10,V64 (kn:Int)),(11,.v (.slice (some ⟨xl,0,none⟩) 1 yl)),(26,VB false)],[]⟩ ?_)
  refine TTu (TT.next ?_)
  refine TT.r (m:=1) false [2] 0 mixed (by kernel_rfl) ?_
  refine RVc 2 86 (fun ρ=>[.slice A n' c',.slice (some ⟨xl,0,none⟩) 1 yl]) [] (fun ρ w3 F3 hF3 hpk3=>?_)
  refine (mulM hF3 hNk.left (hS.lnum hxl).right (pw_ne _ _ _) (by rw [hpw];exact pw_lt (by omega) (by omega))).mono ?_
  rintro e3 w'3 ⟨A9,n9,c9,rfl,hN9,hl3⟩
  rw [hpw] at hN9 hl3
  refine ⟨.v (.slice A9 n9 c9),_,rfl,hl3,?_⟩
  refine RV.fin (s':=⟨[(0,VP sc),(2,V64 tt),(3,VB false),(9,.v (.slice A9 n9 c9)),(10,V64 (kn:Int))],[]⟩) (by kernel_rfl) (by kernel_rfl) ?_
  refine TT.next ?_
  refine TT.p0 (s':=⟨[(0,VP sc),(2,V64 tt),(3,VB false),(9,.v (.slice A9 n9 c9)),(10,V64 (IntKind.i64.wrap ((kn:Int)+1)))],[]⟩) 0 (by kernel_rfl) ?_
  rw [hup hkn]
  exact fun ρ a w hs=>⟨ρ,⟨(kn:Int)+1,A9,n9,c9⟩,⟨⟨by omega,.inl (by omega)⟩,hN9⟩,(show (tt-((kn:Int)+1)).toNat<(tt-(kn:Int)).toNat by omega),hs.toL (fun F h=>sepR_lose1 h)⟩
 ·have hkt:tt≤k:=by simpa using hc2
  refine TTx ?_
  refine TT.next ?_
  refine TTa 0 ⟨[(8,.v (.slice A n' c'))],[]⟩ ?_
  refine TTs Tryz.results87 (.v (.slice A n' c')) (fun _ _ h=>h) (fun ρ a w4 hs4=>?_)
  rw [pw_end hk1 hk2 hkt] at hNk hs4
  exact ⟨A,n',c',rfl,hNk,hs4.lands⟩
def dgsz:Dg→Nat
 | .node _ _ _ lo hi=>1+dgsz lo+dgsz hi
 | _=>0
theorem pow16 {a:Int} (h:a≤16):2^a.toNat≤65536:=by
 show 2^a.toNat≤2^16
 exact Nat.pow_le_pow_right (by decide) (by omega)
def GoodL (cs:List (Option Rec)) (f:Nat) (n:Nat) (L:List KEn):Prop:=∀en∈L,(en.n=(wl en.x).length∧en.n≤en.c∧en.x<18446744073709551616∧(en.x≠0→∃b,en.A=some ⟨b,0,none⟩))∧∀r lo hi,recAt cs en.id=some r→Unf cs f r.lo lo→Unf cs f r.hi hi→en.x=ndD f n r.top r.bot lo hi
def MEdge (R0:Res) (q n f:Nat) (cs:List (Option Rec)) (N sz:Nat) (F:List Nat) (w:World) (x:Nat) (e:Ending) (w':World):Prop:=
 ∃i:Nat×List KEn×Option Addr×Nat×Nat,(i.1≤N+sz∧GoodL cs f n i.2.1∧e = .returned (.slice i.2.2.1 i.2.2.2.1 i.2.2.2.2)∧NumIn (slW i.2.2.1 i.2.2.2.1 i.2.2.2.2 (wl x)) i.2.2.1 i.2.2.2.1 i.2.2.2.2 x)∧Lands (sepR (slW i.2.2.1 i.2.2.2.1 i.2.2.2.2 (wl x)) (sepR (keptR q i.1 i.2.1) R0)) F w w'
def MNode (R0:Res) (q n f:Nat) (cs:List (Option Rec)) (N sz:Nat) (id:Int) (F:List Nat) (w:World) (x:Nat) (e:Ending) (w':World):Prop:=
 ∃i:Nat×List KEn×KEn,(i.1≤N+sz∧GoodL cs f n i.2.1∧i.2.2∈i.2.1∧i.2.2.id=id∧i.2.2.x=x∧e = .returned i.2.2.val)∧Lands (sepR (keptR q i.1 i.2.1) R0) F w w'
def EdgeOk (R0:Res) (sc q n f:Nat) (cs:List (Option Rec)) (T:Dg):Prop:=∀(l et ep:Int) (N:Nat) (L:List KEn) (w:World) (F:List Nat),(sepR (keptR q N L) R0).at_ w F→GoodL cs f n L→Unf cs f ⟨et,ep⟩ T→Ft f l T→Gd f n T→0≤l→l≤n→N+dgsz T<maxLen→
 Calls Tryz.prog 64 #[.pointer (some ⟨sc,0,none⟩),Ed et ep,.int .i64 l] w (MEdge R0 q n f cs N (dgsz T) F w (edD f n l T))
theorem goodL_snoc {cs:List (Option Rec)} {f n:Nat} {L:List KEn} {R:Res} {A:Option Addr} {nn c:Nat} {id:Int} {r:Rec} {lo hi:Dg} (h:GoodL cs f n L) (hN:NumIn R A nn c (ndD f n r.top r.bot lo hi)) (hr:recAt cs id=some r) (hlo:Unf cs f r.lo lo) (hhi:Unf cs f r.hi hi):GoodL cs f n (L++[⟨id,A,nn,c,ndD f n r.top r.bot lo hi⟩]):=fun en he=>by
 rcases List.mem_append.1 he with he|he
 ·exact h en he
 ·rw [List.mem_singleton] at he
  subst he
  refine ⟨⟨hN.len,hN.cap,hN.lt,hN.hd⟩,fun r' lo' hi' h1 h2 h3=>?_⟩
  rw [show recAt cs id=some r' from h1] at hr
  injection hr with hr
  subst hr
  rw [unf_fun h2 hlo,unf_fun h3 hhi]
theorem frD_1 {f:Nat} {tag l top:Int} (h:f=1):frD f tag l top=top:=by unfold frD;rw [if_pos (.inl (by omega))]
theorem frD_5 {f:Nat} {tag l top:Int} (h:f=5):frD f tag l top=tag:=by unfold frD;rw [if_neg (by omega),if_pos (by omega)]
theorem frD_l {f:Nat} {tag l top:Int} (h1:¬f=1) (h3:¬f=3) (h5:¬f=5):frD f tag l top=l:=by unfold frD;rw [if_neg (by omega),if_neg (by omega)]
theorem pw_false (a b:Int):pw false a b=1:=rfl
theorem one_eq {f n:Nat} {t l x:Int} (h:frD f t l n=x):pw true l x=edD f n l (.one t):=by
 unfold edD pw
 rw [if_pos rfl,h]
theorem node_eq {f n:Nat} {tag top bot l x:Int} {lo hi:Dg} (h:frD f tag l top=x):pw true l x*ndD f n top bot lo hi=edD f n l (.node tag top bot lo hi):=by
 unfold edD pw ndD
 rw [if_pos rfl,h]
theorem recAt_one {cs:List (Option Rec)}:recAt cs 1=none:=by
 unfold recAt
 rw [if_neg (by omega)]
theorem slW_none {R:Res} {W:World} {F:List Nat} (h:R.at_ W F):(sepR (slW none 0 0 (wl 0)) R).at_ W F:=⟨[],F,fun x=>by simp,slR_nil,h,fun x hx=>by cases hx⟩
theorem sepR_lose4 {A B C D E G:Res} {W:World} {F:List Nat} (h:(sepR A (sepR B (sepR C (sepR D (sepR E G))))).at_ W F):∃F',(∀ y∈F',y∈F)∧(sepR A G).at_ W F':=by
 obtain ⟨F1,h1,h2⟩:=sepR_lose2 h
 obtain ⟨F2,h3,h4⟩:=sepR_lose2 h2
 exact ⟨F2,fun y hy=>h1 y (h3 y hy),h4⟩
theorem sepR_lose6 {A B C D E G H I:Res} {W:World} {F:List Nat} (h:(sepR A (sepR B (sepR C (sepR D (sepR E (sepR G (sepR H I))))))).at_ W F):∃F',(∀ y∈F',y∈F)∧(sepR A I).at_ W F':=by
 obtain ⟨F1,h1,h2⟩:=sepR_lose4 h
 obtain ⟨F2,h3,h4⟩:=sepR_lose2 h2
 exact ⟨F2,fun y hy=>h1 y (h3 y hy),h4⟩
theorem stGet {g n room:Nat} {cs:List (Option Rec)} {free:List Int} {R:Res} {w:World} {F:List Nat} {id:Int} (h:R.at_ w F) (hSt:∀{W:World} {X:List Nat},R.at_ W X→∃Y,StoreAt W Y g n room cs free) (h0:0≤id) (h1:id≤4294967295):Calls Tryz.prog 84 #[.pointer (some ⟨g,0,none⟩),.int .u32 id] w (Says (getR (recAt cs id)) R F w):=by
 obtain ⟨Y,hY⟩:=hSt h
 exact (storeGet_any Y g n room cs free id w hY h0 h1).mono fun e w' ⟨e1,hb⟩=>⟨e1,.of_below h hb⟩
theorem stVars {g n room:Nat} {cs:List (Option Rec)} {free:List Int} {R:Res} {w:World} {F:List Nat} (h:R.at_ w F) (hSt:∀{W:World} {X:List Nat},R.at_ W X→∃Y,StoreAt W Y g n room cs free):Calls Tryz.prog 45 #[.pointer (some ⟨g,0,none⟩)] w (Says (.int .i64 (n:Int)) R F w):=by
 obtain ⟨Y,hY⟩:=hSt h
 exact (storeVars_any Y g n room cs free w hY).mono fun e w' ⟨e1,hb⟩=>⟨e1,.of_below h (by rw [← hb];exact Below.refl _ _)⟩
structure ScO (Rn Ro:Res) (sc g f q n bl bh:Nat) (vl vh:List (Nat×Nat)):Prop where
 blk:∀{W:World} {F:List Nat},Ro.at_ W F→Blk W sc 152 #[vP g,.int .u8 (f:Int),.slice (some ⟨bl,0,none⟩) n n,.slice (some ⟨bh,0,none⟩) n n,.map (some q)]
 lrow:∀{W:World} {F:List Nat} {k b c:Nat},Ro.at_ W F→vl[k]? =some (b,c)→W.cell? ⟨bl,0+k*1,none⟩=some (.slice (some ⟨b,0,none⟩) 1 c)
 hrow:∀{W:World} {F:List Nat} {k b c:Nat},Ro.at_ W F→vh[k]? =some (b,c)→W.cell? ⟨bh,0+k*1,none⟩=some (.slice (some ⟨b,0,none⟩) 1 c)
 lnum:∀{k b c:Nat},vl[k]? =some (b,c)→NumIn Rn (some ⟨b,0,none⟩) 1 c 1
 hnum:∀{k b c:Nat},vh[k]? =some (b,c)→NumIn Rn (some ⟨b,0,none⟩) 1 c 1
section
variable {Rn Ro:Res} {sc g f q n bl bh N room:Nat} {vl vh:List (Nat×Nat)} {L:List KEn} {cs:List (Option Rec)} {free:List Int} {w:World} {F:List Nat}
set_option maxRecDepth 100000 in
set_option maxHeartbeats 4000000 in
theorem nodeM {r:Rec} {id:Int} {lo hi:Dg} {tag:Int} (hS:ScIn (sepR Rn Ro) sc g f q n bl bh vl vh) (hO:ScO Rn Ro sc g f q n bl bh vl vh) (hf:¬f=3) (Elo:EdgeOk (sepR Rn Ro) sc q n f cs lo) (Ehi:EdgeOk (sepR Rn Ro) sc q n f cs hi) (h:(sepR (keptR q N L) (sepR Rn Ro)).at_ w F) (hG:GoodL cs f n L) (hr:recAt cs id=some r) (hu:isU id) (hlo:Unf cs f r.lo lo) (hhi:Unf cs f r.hi hi) (hg:Gd f n (.node tag r.top r.bot lo hi)) (hsz:N+(1+dgsz lo+dgsz hi)<maxLen) :
  Calls Tryz.prog 85 #[.pointer (some ⟨sc,0,none⟩),.int .u32 id,.agg r.cells.toArray] w (MNode (sepR Rn Ro) q n f cs N (1+dgsz lo+dgsz hi) id F w (ndD f n r.top r.bot lo hi)):=by
 have hn16:=hS.n16
 obtain ⟨hb1,hb2,hb3⟩:=ndD_le hg
 obtain ⟨⟨g1,g2,g3,g4⟩,g5,⟨g6,g7⟩,⟨g8,g9⟩,g10⟩:=hg
 have hp1:=pow16 (a:=(n:Int)-(r.bot+1)) (by omega)
 have hp2:=pow16 (a:=(n:Int)-r.top) (by omega)
 have htop:IntKind.i64.wrap r.top=r.top:=IntWalk.i64_in _ (by omega)
 have hbot:IntKind.i64.wrap r.bot=r.bot:=IntWalk.i64_in _ (by omega)
 have hbot1:IntKind.i64.wrap (r.bot+1)=r.bot+1:=IntWalk.i64_in _ (by omega)
 have hf3:((f:Int)==3)=false:=by simp;omega
 obtain ⟨bn,hbn⟩:∃bn:Nat,(bn:Int)=r.bot:=⟨r.bot.toNat,by omega⟩
 have hbl:bn<n:=by omega
 obtain ⟨⟨xl,yl⟩,hxl⟩:∃p,vl[bn]? =some p:=⟨_,List.getElem?_eq_getElem (by have:=hS.lvl;omega)⟩
 obtain ⟨⟨xh,yh⟩,hxh⟩:∃p,vh[bn]? =some p:=⟨_,List.getElem?_eq_getElem (by have:=hS.lvh;omega)⟩
 have hndl:pw true r.top r.bot*(edD f n (r.bot+1) lo+edD f n (r.bot+1) hi)<18446744073709551616:=by
  have:pw true r.top r.bot*(edD f n (r.bot+1) lo+edD f n (r.bot+1) hi)=ndD f n r.top r.bot lo hi:=rfl
  omega
 have hnd:pw true r.top r.bot*(1*edD f n (r.bot+1) lo+1*edD f n (r.bot+1) hi)=ndD f n r.top r.bot lo hi:=by
  rw [Nat.one_mul,Nat.one_mul]
  rfl
 refine TTg [VP sc,V32 id,.v (.agg #[.int .u8 r.form,.int .u8 r.top,.int .u8 r.bot,.int .u8 r.lo.tag,.int .u32 r.lo.pos,.int .u8 r.hi.tag,.int .u32 r.hi.pos])] Tryz.func85 Tryz.ntmps85 h ?_
 refine TTa 0 ⟨[(0,VP sc),(1,V32 id),(5,.p 0 0)],[(0,⟨78,false,[V8 r.form,V8 r.top,V8 r.bot,V8 r.lo.tag,V32 r.lo.pos,V8 r.hi.tag,V32 r.hi.pos]⟩)]⟩ ?_
 refine TT.seq (TTE 2 false [3,5] 10 ?_)
 refine RVd 3 (.load 150 (.v (.pointer (some ⟨sc,4,none⟩)))) (.v (.map (some q))) (fun ρ w F hF=>run_ld (by kernel_rfl) ((hS.blk (sepR_snd hF).choose_spec).cell 4)) ?_
 refine RVw 5 (.look 150 (.v (.map (some q))) (V32 id) true) (fun ρ w F hF=>?_)
 rcases kept_look (sepR_fst hF).choose_spec hu with ⟨en,hen,hid,hrun⟩|hrun
 ·refine ⟨w,.v (.tuple #[.slice en.A en.n en.c,.bool true]),_,hrun,.of_below hF (Below.refl _ _),?_⟩
  refine RVz ⟨[(0,VP sc),(1,V32 id),(5,.p 0 0),(7,.v (.slice en.A en.n en.c)),(8,VB true)],[(0,⟨78,false,[V8 r.form,V8 r.top,V8 r.bot,V8 r.lo.tag,V32 r.lo.pos,V8 r.hi.tag,V32 r.hi.pos]⟩)]⟩ ?_
  refine TTa 10 ⟨[(0,VP sc),(1,V32 id),(5,.p 0 0),(7,.v (.slice en.A en.n en.c)),(25,VB true)],[(0,⟨78,false,[V8 r.form,V8 r.top,V8 r.bot,V8 r.lo.tag,V32 r.lo.pos,V8 r.hi.tag,V32 r.hi.pos]⟩)]⟩ ?_
  refine TTy ?_
  refine TTa 10 ⟨[(6,.v (.slice en.A en.n en.c))],[]⟩ ?_
  refine TTs Tryz.results85 (.v (.slice en.A en.n en.c)) (fun _ _ h=>h) (fun ρ a w1 hs1=>?_)
  exact ⟨(N,L,en),⟨by omega,hG,hen,hid,(hG en hen).2 r lo hi (by rw [hid];exact hr) hlo hhi,rfl⟩,hs1.lands⟩
 ·refine ⟨w,.v (.tuple #[.slice none 0 0,.bool false]),_,hrun,.of_below hF (Below.refl _ _),?_⟩
  refine RVz ⟨[(0,VP sc),(1,V32 id),(5,.p 0 0),(7,.v (.slice none 0 0)),(8,VB false)],[(0,⟨78,false,[V8 r.form,V8 r.top,V8 r.bot,V8 r.lo.tag,V32 r.lo.pos,V8 r.hi.tag,V32 r.hi.pos]⟩)]⟩ ?_
  refine TTa 10 ⟨[(0,VP sc),(1,V32 id),(5,.p 0 0),(7,.v (.slice none 0 0)),(25,VB false)],[(0,⟨78,false,[V8 r.form,V8 r.top,V8 r.bot,V8 r.lo.tag,V32 r.lo.pos,V8 r.hi.tag,V32 r.hi.pos]⟩)]⟩ ?_
  refine TTu (TT.next ?_)
  refine TT.sd0 (s':=⟨[(0,VP sc),(1,V32 id),(5,.p 0 0),(9,V64 (IntKind.i64.wrap r.top)),(10,V64 (IntKind.i64.wrap r.bot))],[(0,⟨78,false,[V8 r.form,V8 r.top,V8 r.bot,V8 r.lo.tag,V32 r.lo.pos,V8 r.hi.tag,V32 r.hi.pos]⟩)]⟩) 10 mixed (by kernel_rfl) ?_
  rw [htop,hbot]
  refine TTE 4 true [4,5,10,11] 10 ?_
  refine RVp 4 (.int .i64 (IntKind.i64.wrap (r.bot+1))) (.int .i64 (r.bot+1)) (by rw [hbot1]) ?_
  refine RVp 10 (.int .i64 (IntKind.i64.wrap (r.bot+1))) (.int .i64 (r.bot+1)) (by rw [hbot1]) ?_
  refine RVc 5 64 (fun ρ=>[.pointer (some ⟨sc,0,none⟩),Ed r.lo.tag r.lo.pos,.int .i64 (r.bot+1)]) [] (fun ρ w2 F2 hF2 hpk2=>?_)
  refine (Elo (r.bot+1) r.lo.tag r.lo.pos N L _ _ hF2 hG hlo g6 g7 (by omega) (by omega) (by omega)).mono ?_
  rintro e2 w'2 ⟨⟨N1,L1,A1,n1,c1⟩,⟨hN1,hG1,rfl,hx1⟩,hl2⟩
  refine ⟨.v (.slice A1 n1 c1),_,rfl,hl2,?_⟩
  refine RVc 11 64 (fun ρ=>[.pointer (some ⟨sc,0,none⟩),Ed r.hi.tag r.hi.pos,.int .i64 (r.bot+1)]) [] (fun ρ w3 F3 hF3 hpk3=>?_)
  refine (frame2x hF3 (fun X hX=>Ehi (r.bot+1) r.hi.tag r.hi.pos N1 L1 _ _ hX hG1 hhi g8 g9 (by omega) (by omega) (by omega))).mono ?_
  rintro e3 w'3 ⟨⟨N2,L2,A2,n2,c2⟩,⟨hN2,hG2,rfl,hx2⟩,hl3⟩
  refine ⟨.v (.slice A2 n2 c2),_,rfl,hl3,?_⟩
  refine RVz ⟨[(0,VP sc),(1,V32 id),(9,V64 r.top),(10,V64 r.bot),(11,.v (.slice A1 n1 c1)),(12,.v (.slice A2 n2 c2))],[]⟩ ?_
  refine TTa 0 ⟨[(0,VP sc),(1,V32 id),(9,V64 r.top),(10,V64 r.bot),(11,.v (.slice A1 n1 c1)),(12,.v (.slice A2 n2 c2))],[]⟩ ?_
  refine TT.seq (TTe 1 [3] ?_)
  refine RVd 3 (.load 23 (.v (.pointer (some ⟨sc,1,none⟩)))) (V8 (f:Int)) (fun ρ w F hF=>run_ld (by kernel_rfl) ((hS.right.right.right.blk hF).cell 1)) ?_
  refine RVz ⟨[(0,VP sc),(1,V32 id),(9,V64 r.top),(10,V64 r.bot),(11,.v (.slice A1 n1 c1)),(12,.v (.slice A2 n2 c2)),(48,V8 (f:Int))],[]⟩ ?_
  refine TT.block ?_
  refine TTa 0 ⟨[(0,VP sc),(1,V32 id),(9,V64 r.top),(10,V64 r.bot),(11,.v (.slice A1 n1 c1)),(12,.v (.slice A2 n2 c2)),(74,VB ((f:Int)==3))],[]⟩ ?_
  rw [hf3]
  refine TTn ?_
  refine TT.res (R':=sepR (sepR (slW A1 n1 c1 (wl (edD f n (r.bot+1) lo))) (sepR (slW A2 n2 c2 (wl (edD f n (r.bot+1) hi))) (sepR (keptR q N2 L2) Rn))) Ro) (fun W F h=>sepR_unassoc (sepR_imp h (fun _ h=>h) (fun _ h=>sepR_unassoc (sepR_imp h (fun _ h=>h) (fun _ h=>sepR_unassoc (sepR_imp h (fun _ h=>h) (fun _ h=>h))))))) ?_
  refine TT.out Ro (fun w1 F1 F2 hfn=>?_)
  refine TTE 9 true [3,5,6,8,12,14,15,17,18] 0 ?_
  refine RV.rdC 12 (.load 148 (.v (.pointer (some ⟨sc,3,none⟩)))) (.v (.slice (some ⟨bh,0,none⟩) n n)) (by kernel_rfl) (by kernel_rfl) (by kernel_rfl) (fun ρ w hc=>run_ld (by kernel_rfl) ((hO.blk (hfn.read hc)).cell 3)) ?_
  refine RV.rdC 14 (.idx 148 (.v (.slice (some ⟨bh,0,none⟩) n n)) (V64 r.bot)) (.v (.pointer (some ⟨bh,0+bn*1,none⟩))) (by kernel_rfl) (by kernel_rfl) (by kernel_rfl) (fun ρ w hc=>hbn▸run_ixS (e:=70) (s:=1) (off:=0) bn (by kernel_rfl) (by kernel_rfl) hbl) ?_
  refine RV.rdC 15 (.load 70 (.v (.pointer (some ⟨bh,0+bn*1,none⟩)))) (.v (.slice (some ⟨xh,0,none⟩) 1 yh)) (by kernel_rfl) (by kernel_rfl) (by kernel_rfl) (fun ρ w hc=>run_ld (by kernel_rfl) (hO.hrow (hfn.read hc) hxh)) ?_
  refine RV.rdC 3 (.load 148 (.v (.pointer (some ⟨sc,2,none⟩)))) (.v (.slice (some ⟨bl,0,none⟩) n n)) (by kernel_rfl) (by kernel_rfl) (by kernel_rfl) (fun ρ w hc=>run_ld (by kernel_rfl) ((hO.blk (hfn.read hc)).cell 2)) ?_
  refine RV.rdC 5 (.idx 148 (.v (.slice (some ⟨bl,0,none⟩) n n)) (V64 r.bot)) (.v (.pointer (some ⟨bl,0+bn*1,none⟩))) (by kernel_rfl) (by kernel_rfl) (by kernel_rfl) (fun ρ w hc=>hbn▸run_ixS (e:=70) (s:=1) (off:=0) bn (by kernel_rfl) (by kernel_rfl) hbl) ?_
  refine RV.rdC 6 (.load 70 (.v (.pointer (some ⟨bl,0+bn*1,none⟩)))) (.v (.slice (some ⟨xl,0,none⟩) 1 yl)) (by kernel_rfl) (by kernel_rfl) (by kernel_rfl) (fun ρ w hc=>run_ld (by kernel_rfl) (hO.lrow (hfn.read hc) hxl)) ?_
  refine RVc 8 86 (fun ρ=>[.slice (some ⟨xl,0,none⟩) 1 yl,.slice A1 n1 c1]) [] (fun ρ w4 F4 hF4 hpk4=>?_)
  refine (mulM hF4 (hO.lnum hxl).right.right.right hx1.left (by decide) (by rw [Nat.one_mul];omega)).mono ?_
  rintro e4 w'4 ⟨A3,n3,c3,rfl,hN3,hl4⟩
  refine ⟨.v (.slice A3 n3 c3),_,rfl,hl4,?_⟩
  refine RVc 17 86 (fun ρ=>[.slice (some ⟨xh,0,none⟩) 1 yh,.slice A2 n2 c2]) [] (fun ρ w5 F5 hF5 hpk5=>?_)
  refine (mulM hF5 (hO.hnum hxh).right.right.right.right hx2.left.right.right (by decide) (by rw [Nat.one_mul];omega)).mono ?_
  rintro e5 w'5 ⟨A4,n4,c4,rfl,hN4,hl5⟩
  refine ⟨.v (.slice A4 n4 c4),_,rfl,hl5,?_⟩
  refine RVc 18 106 (fun ρ=>[.slice A3 n3 c3,.slice A4 n4 c4]) [] (fun ρ w6 F6 hF6 hpk6=>?_)
  refine (addM hF6 hN3.left.right hN4.left (by rw [Nat.one_mul,Nat.one_mul];omega)).mono ?_
  rintro e6 w'6 ⟨A5,n5,c5,rfl,hN5,hl6⟩
  refine ⟨.v (.slice A5 n5 c5),_,rfl,hl6,?_⟩
  refine RVz ⟨[(0,VP sc),(1,V32 id),(9,V64 r.top),(10,V64 r.bot),(13,.v (.slice A5 n5 c5))],[]⟩ ?_
  refine TT.back hfn (ro_all rfl) ?_
  refine TT.res (R':=sepR (slW A5 n5 c5 (wl (1*edD f n (r.bot+1) lo+1*edD f n (r.bot+1) hi))) (sepR (slW A4 n4 c4 (wl (1*edD f n (r.bot+1) hi))) (sepR (slW A3 n3 c3 (wl (1*edD f n (r.bot+1) lo))) (sepR (slW A1 n1 c1 (wl (edD f n (r.bot+1) lo))) (sepR (slW A2 n2 c2 (wl (edD f n (r.bot+1) hi))) (sepR (keptR q N2 L2) (sepR Rn Ro))))))) (fun W F h=>sepR_imp (sepR_assoc h) (fun _ h=>h) (fun _ h=>sepR_imp (sepR_assoc h) (fun _ h=>h) (fun _ h=>sepR_imp (sepR_assoc h) (fun _ h=>h) (fun _ h=>sepR_imp (sepR_assoc h) (fun _ h=>h) (fun _ h=>sepR_imp (sepR_assoc h) (fun _ h=>h) (fun _ h=>sepR_assoc h)))))) ?_
  refine TT.r (m:=2) false [3,5] 0 mixed (by kernel_rfl) ?_
  refine RVc 3 87 (fun ρ=>[.pointer (some ⟨sc,0,none⟩),.int .i64 r.top,.int .i64 r.bot,.bool true]) [] (fun ρ w7 F7 hF7 hpk7=>?_)
  refine (product_true hF7 hS.right.right.right.right.right.right (by omega) (by omega) (by omega)).mono ?_
  rintro e7 w'7 ⟨A6,n6,c6,rfl,hN6,hl7⟩
  refine ⟨.v (.slice A6 n6 c6),_,rfl,hl7,?_⟩
  refine RVc 5 86 (fun ρ=>[.slice A6 n6 c6,.slice A5 n5 c5]) [] (fun ρ w8 F8 hF8 hpk8=>?_)
  refine (mulM hF8 hN6.left hN5.left.right (pw_ne _ _ _) (by rw [Nat.one_mul,Nat.one_mul];exact hndl)).mono ?_
  rintro e8 w'8 ⟨A7,n7,c7,rfl,hN7,hl8⟩
  refine ⟨.v (.slice A7 n7 c7),_,rfl,hl8,?_⟩
  refine RV.fin (s':=⟨[(0,VP sc),(1,V32 id),(13,.v (.slice A7 n7 c7))],[]⟩) (by kernel_rfl) (by kernel_rfl) ?_
  refine TT.next ?_
  refine TT.resL (R':=sepR (slW A7 n7 c7 (wl (ndD f n r.top r.bot lo hi))) (sepR (keptR q N2 L2) (sepR Rn Ro))) (fun W F h=>by obtain ⟨F1,h1,h2⟩:=sepR_lose6 h;exact ⟨F1,h1,by rw [← hnd];exact h2⟩) ?_
  rw [hnd] at hN7
  refine TTe 2 [3,6] ?_
  refine RVd 3 (.load 150 (.v (.pointer (some ⟨sc,4,none⟩)))) (.v (.map (some q))) (fun ρ w F hF=>run_ld (by kernel_rfl) ((hS.right.right.blk hF).cell 4)) ?_
  refine RVw 6 (.upd 150 (.v (.map (some q))) (V32 id) (.v (.slice A7 n7 c7))) (fun ρ w F hF=>?_)
  obtain ⟨w',hrun,hl⟩:=kept_put ⟨id,A7,n7,c7,ndD f n r.top r.bot lo hi⟩ hF hu (by omega) hN7.hd
  refine ⟨w',.v undef,_,hrun,hl,?_⟩
  refine RVz ⟨[(13,.v (.slice A7 n7 c7))],[]⟩ ?_
  refine TTa 0 ⟨[(6,.v (.slice A7 n7 c7))],[]⟩ ?_
  refine TTs Tryz.results85 (.v (.slice A7 n7 c7)) (fun _ _ h=>h) (fun ρ a w9 hs9=>?_)
  exact ⟨(N2+1,L2++[⟨id,A7,n7,c7,ndD f n r.top r.bot lo hi⟩],⟨id,A7,n7,c7,ndD f n r.top r.bot lo hi⟩),⟨by omega,goodL_snoc hG2 hN7 hr hlo hhi,by simp,rfl,rfl,rfl⟩,hs9.lands⟩
set_option maxRecDepth 100000 in
set_option maxHeartbeats 4000000 in
theorem edge_nil {l x:Int} {r:Rec} {lo hi:Dg} (hS:ScIn (sepR Rn Ro) sc g f q n bl bh vl vh) (hO:ScO Rn Ro sc g f q n bl bh vl vh) (hf:¬f=3) (hSt:∀{W:World} {X:List Nat},(sepR Rn Ro).at_ W X→∃Y,StoreAt W Y g n room cs free) (h:(sepR (keptR q N L) (sepR Rn Ro)).at_ w F) (hG:GoodL cs f n L) (hl0:0≤l) (hln:l≤n) :
  Calls Tryz.prog 64 #[.pointer (some ⟨sc,0,none⟩),Ed 0 0,.int .i64 l] w (MEdge (sepR Rn Ro) q n f cs N 0 F w (edD f n l .nil)):=by
 refine TTg [VP sc,.v (Ed 0 0),V64 l] Tryz.func64 Tryz.ntmps64 h ?_
 refine TTa 0 ⟨[(0,VP sc),(2,V64 l),(4,.p 0 0)],[(0,⟨48,false,[V8 0,V32 0]⟩)]⟩ ?_
 refine TT.seq (TTa 10 ⟨[(0,VP sc),(2,V64 l),(4,.p 0 0),(14,VB true)],[(0,⟨48,false,[V8 0,V32 0]⟩)]⟩ ?_)
 refine TTy ?_
 refine TTa 10 ⟨[(6,.v (.slice none 0 0))],[]⟩ ?_
 refine TTs Tryz.results64 (.v (.slice none 0 0)) (fun _ _ h=>h) (fun ρ a w1 hs1=>?_)
 exact ⟨(N,L,none,0,0),⟨by omega,hG,rfl,⟨rfl,Nat.le_refl _,(show (0:Nat)<18446744073709551616 by decide),fun h=>absurd rfl h,fun _=>RowF.nil_⟩⟩,hs1.lands.imp (fun _ h=>slW_none h)⟩
set_option maxRecDepth 100000 in
set_option maxHeartbeats 4000000 in
theorem edge_one {l t:Int} {r:Rec} {lo hi:Dg} (hS:ScIn (sepR Rn Ro) sc g f q n bl bh vl vh) (hO:ScO Rn Ro sc g f q n bl bh vl vh) (hf:¬f=3) (hSt:∀{W:World} {X:List Nat},(sepR Rn Ro).at_ W X→∃Y,StoreAt W Y g n room cs free) (h:(sepR (keptR q N L) (sepR Rn Ro)).at_ w F) (hG:GoodL cs f n L) (hl0:0≤l) (hln:l≤n) (hft:f=5→l≤t) (hgt:if f=5 then 0≤t∧t≤n else t=0) :
  Calls Tryz.prog 64 #[.pointer (some ⟨sc,0,none⟩),Ed t 1,.int .i64 l] w (MEdge (sepR Rn Ro) q n f cs N 0 F w (edD f n l (.one t))):=by
 have hn16:=hS.n16
 have hf3:((f:Int)==3)=false:=by simp;omega
 have htg:0≤t∧t≤n:=by
  split at hgt<;>omega
 have htag:IntKind.i64.wrap t=t:=IntWalk.i64_in _ (by omega)
 refine TTg [VP sc,.v (Ed t 1),V64 l] Tryz.func64 Tryz.ntmps64 h ?_
 refine TTa 0 ⟨[(0,VP sc),(2,V64 l),(4,.p 0 0)],[(0,⟨48,false,[V8 t,V32 1]⟩)]⟩ ?_
 refine TT.seq (TTa 10 ⟨[(0,VP sc),(2,V64 l),(4,.p 0 0),(14,VB false)],[(0,⟨48,false,[V8 t,V32 1]⟩)]⟩ ?_)
 refine TTu (TT.next ?_)
 refine TTE 2 true [3,6] 10 ?_
 refine RVd 3 (.load 36 (.v (.pointer (some ⟨sc,0,none⟩)))) (VP g) (fun ρ w F hF=>run_ld (by kernel_rfl) ((hS.right.blk hF).cell 0)) ?_
 refine RVc 6 84 (fun ρ=>[.pointer (some ⟨g,0,none⟩),.int .u32 1]) [] (fun ρ w1 F1 hF1 hpk1=>?_)
 refine (stGet hF1 (fun h=>hSt (sepR_snd h).choose_spec) (by decide) (by decide)).mono ?_
 rintro e1 w'1 ⟨rfl,hl1⟩
 rw [recAt_one]
 refine ⟨.v (.tuple #[.agg #[.int .u8 0,.int .u8 0,.int .u8 0,.int .u8 0,.int .u32 0,.int .u8 0,.int .u32 0],.bool false]),_,rfl,hl1,?_⟩
 refine RVz ⟨[(0,VP sc),(2,V64 l),(4,.p 0 0),(7,.p 20 0),(8,VB false)],[(0,⟨48,false,[V8 t,V32 1]⟩),(20,⟨78,false,[V8 0,V8 0,V8 0,V8 0,V32 0,V8 0,V32 0]⟩)]⟩ ?_
 refine TTE 3 false [3,4,5] 30 ?_
 refine RVd 3 (.load 36 (.v (.pointer (some ⟨sc,0,none⟩)))) (VP g) (fun ρ w F hF=>run_ld (by kernel_rfl) ((hS.right.blk hF).cell 0)) ?_
 refine RVc 4 45 (fun ρ=>[.pointer (some ⟨g,0,none⟩)]) [] (fun ρ w2 F2 hF2 hpk2=>?_)
 refine (stVars hF2 (fun h=>hSt (sepR_snd h).choose_spec)).mono ?_
 rintro e2 w'2 ⟨rfl,hl2⟩
 refine ⟨V64 (n:Int),_,rfl,hl2,?_⟩
 refine RVc 5 82 (fun ρ=>[.int .u64 1]) [] (fun ρ w3 F3 hF3 hpk3=>?_)
 refine (ofN (x:=1) hF3 (by decide) (by decide)).mono ?_
 rintro e3 w'3 ⟨A1,n1,c1,rfl,hN1,hl3⟩
 refine ⟨.v (.slice A1 n1 c1),_,rfl,hl3,?_⟩
 refine RVz ⟨[(0,VP sc),(2,V64 l),(4,.p 0 0),(7,.p 20 0),(8,VB false),(9,V64 (n:Int)),(10,.v (.slice A1 n1 c1))],[(0,⟨48,false,[V8 t,V32 1]⟩),(20,⟨78,false,[V8 0,V8 0,V8 0,V8 0,V32 0,V8 0,V32 0]⟩)]⟩ ?_
 refine TT.seq (TTa 30 ⟨[(0,VP sc),(2,V64 l),(4,.p 0 0),(7,.p 20 0),(9,V64 (n:Int)),(10,.v (.slice A1 n1 c1)),(31,VB false)],[(0,⟨48,false,[V8 t,V32 1]⟩),(20,⟨78,false,[V8 0,V8 0,V8 0,V8 0,V32 0,V8 0,V32 0]⟩)]⟩ ?_)
 refine TTu (TT.next ?_)
 refine TTa 30 ⟨[(0,VP sc),(2,V64 l),(4,.p 0 0),(9,V64 (n:Int)),(10,.v (.slice A1 n1 c1)),(11,V64 l)],[(0,⟨48,false,[V8 t,V32 1]⟩)]⟩ ?_
 refine TT.seq (TTE 1 false [3] 10 ?_)
 refine RVd 3 (.load 23 (.v (.pointer (some ⟨sc,1,none⟩)))) (V8 (f:Int)) (fun ρ w F hF=>run_ld (by kernel_rfl) ((hS.right.right.blk hF).cell 1)) ?_
 refine RVz ⟨[(0,VP sc),(2,V64 l),(4,.p 0 0),(9,V64 (n:Int)),(10,.v (.slice A1 n1 c1)),(11,V64 l),(44,V8 (f:Int))],[(0,⟨48,false,[V8 t,V32 1]⟩)]⟩ ?_
 refine TT.block ?_
 refine TT.seq (TTa 10 ⟨[(0,VP sc),(2,V64 l),(4,.p 0 0),(9,V64 (n:Int)),(10,.v (.slice A1 n1 c1)),(11,V64 l),(44,V8 (f:Int)),(45,VB ((f:Int)==1))],[(0,⟨48,false,[V8 t,V32 1]⟩)]⟩ ?_)
 refine TT.cond (b:=(f:Int)==1) (by kernel_rfl) (fun hc4=>?_) (fun hc4=>?_)
 ·have hf1:f=1:=by have:=hc4;simp at this;omega
  refine TT.skip ?_
  refine TT.next ?_
  refine TT.cond (b:=(f:Int)==1) (by kernel_rfl) (fun hc5=>?_) (fun hc5=>?_)
  ·have hf1:f=1:=by have:=hc5;simp at this;omega
   refine TT.p0 (s':=⟨[(0,VP sc),(2,V64 l),(9,V64 (n:Int)),(10,.v (.slice A1 n1 c1)),(11,V64 (n:Int))],[]⟩) 10 (by kernel_rfl) ?_
   refine TT.next ?_
   refine TTe 4 [3,7,8,10] ?_
   refine RVc 3 87 (fun ρ=>[.pointer (some ⟨sc,0,none⟩),.int .i64 l,.int .i64 (n:Int),.bool true]) [] (fun ρ w6 F6 hF6 hpk6=>?_)
   refine (product_true hF6 hS.right.right (by omega) (by omega) (by omega)).mono ?_
   rintro e6 w'6 ⟨A5,n5,c5,rfl,hN5,hl6⟩
   refine ⟨.v (.slice A5 n5 c5),_,rfl,hl6,?_⟩
   refine RVc 7 87 (fun ρ=>[.pointer (some ⟨sc,0,none⟩),.int .i64 (n:Int),.int .i64 (n:Int),.bool false]) [] (fun ρ w7 F7 hF7 hpk7=>?_)
   refine (product_false hF7 hS.right.right.right (by omega) (by omega) (by omega)).mono ?_
   rintro e7 w'7 ⟨A6,n6,c6,rfl,hN6,hl7⟩
   refine ⟨.v (.slice A6 n6 c6),_,rfl,hl7,?_⟩
   refine RVc 8 86 (fun ρ=>[.slice A5 n5 c5,.slice A6 n6 c6]) [] (fun ρ w8 F8 hF8 hpk8=>?_)
   refine (mulM hF8 hN5.left.right hN6.left (pw_ne _ _ _) (by rw [pw_false,Nat.mul_one];exact pw_lt (by omega) (by omega))).mono ?_
   rintro e8 w'8 ⟨A7,n7,c7,rfl,hN7,hl8⟩
   refine ⟨.v (.slice A7 n7 c7),_,rfl,hl8,?_⟩
   refine RVc 10 86 (fun ρ=>[.slice A7 n7 c7,.slice A1 n1 c1]) [] (fun ρ w9 F9 hF9 hpk9=>?_)
   refine (mulM hF9 hN7.left hN1.left.right.right.right (Nat.mul_ne_zero (pw_ne _ _ _) (pw_ne _ _ _)) (by rw [pw_false,Nat.mul_one];exact (by rw [Nat.mul_one];exact pw_lt (by omega) (by omega)))).mono ?_
   rintro e9 w'9 ⟨A8,n8,c8,rfl,hN8,hl9⟩
   refine ⟨.v (.slice A8 n8 c8),_,rfl,hl9,?_⟩
   refine RVz ⟨[(6,.v (.slice A8 n8 c8))],[]⟩ ?_
   refine TTs Tryz.results64 (.v (.slice A8 n8 c8)) (fun _ _ h=>h) (fun ρ a w10 hs10=>?_)
   have hx:∀z x:Int,frD f t l n=x→pw true l x*pw false z (n:Int)*1=edD f n l (.one t):=fun z x h=>by rw [pw_false,Nat.mul_one,Nat.mul_one];exact one_eq h
   rw [hx _ _ (frD_1 hf1)] at hN8 hs10
   exact ⟨(N,L,A8,n8,c8),⟨by omega,hG,rfl,hN8⟩,hs10.lands.drop2.drop2.drop2.drop2⟩
  ·have hf1:¬f=1:=by have:=hc5;simp at this;omega
   refine TTa 10 ⟨[(0,VP sc),(2,V64 l),(4,.p 0 0),(9,V64 (n:Int)),(10,.v (.slice A1 n1 c1)),(11,V64 l),(49,VB ((f:Int)==5))],[(0,⟨48,false,[V8 t,V32 1]⟩)]⟩ ?_
   refine TT.cond (b:=(f:Int)==5) (by kernel_rfl) (fun hc11=>?_) (fun hc11=>?_)
   ·have hf5:f=5:=by have:=hc11;simp at this;omega
    have hta:=hft hf5
    refine TT.p0 (s':=⟨[(0,VP sc),(2,V64 l),(9,V64 (n:Int)),(10,.v (.slice A1 n1 c1)),(11,V64 (IntKind.i64.wrap t))],[]⟩) 10 (by kernel_rfl) ?_
    rw [htag]
    refine TT.next ?_
    refine TTe 4 [3,7,8,10] ?_
    refine RVc 3 87 (fun ρ=>[.pointer (some ⟨sc,0,none⟩),.int .i64 l,.int .i64 t,.bool true]) [] (fun ρ w12 F12 hF12 hpk12=>?_)
    refine (product_true hF12 hS.right.right (by omega) (by omega) (by omega)).mono ?_
    rintro e12 w'12 ⟨A5,n5,c5,rfl,hN5,hl12⟩
    refine ⟨.v (.slice A5 n5 c5),_,rfl,hl12,?_⟩
    refine RVc 7 87 (fun ρ=>[.pointer (some ⟨sc,0,none⟩),.int .i64 t,.int .i64 (n:Int),.bool false]) [] (fun ρ w13 F13 hF13 hpk13=>?_)
    refine (product_false hF13 hS.right.right.right (by omega) (by omega) (by omega)).mono ?_
    rintro e13 w'13 ⟨A6,n6,c6,rfl,hN6,hl13⟩
    refine ⟨.v (.slice A6 n6 c6),_,rfl,hl13,?_⟩
    refine RVc 8 86 (fun ρ=>[.slice A5 n5 c5,.slice A6 n6 c6]) [] (fun ρ w14 F14 hF14 hpk14=>?_)
    refine (mulM hF14 hN5.left.right hN6.left (pw_ne _ _ _) (by rw [pw_false,Nat.mul_one];exact pw_lt (by omega) (by omega))).mono ?_
    rintro e14 w'14 ⟨A7,n7,c7,rfl,hN7,hl14⟩
    refine ⟨.v (.slice A7 n7 c7),_,rfl,hl14,?_⟩
    refine RVc 10 86 (fun ρ=>[.slice A7 n7 c7,.slice A1 n1 c1]) [] (fun ρ w15 F15 hF15 hpk15=>?_)
    refine (mulM hF15 hN7.left hN1.left.right.right.right (Nat.mul_ne_zero (pw_ne _ _ _) (pw_ne _ _ _)) (by rw [pw_false,Nat.mul_one];exact (by rw [Nat.mul_one];exact pw_lt (by omega) (by omega)))).mono ?_
    rintro e15 w'15 ⟨A8,n8,c8,rfl,hN8,hl15⟩
    refine ⟨.v (.slice A8 n8 c8),_,rfl,hl15,?_⟩
    refine RVz ⟨[(6,.v (.slice A8 n8 c8))],[]⟩ ?_
    refine TTs Tryz.results64 (.v (.slice A8 n8 c8)) (fun _ _ h=>h) (fun ρ a w16 hs16=>?_)
    have hx:∀z x:Int,frD f t l n=x→pw true l x*pw false z (n:Int)*1=edD f n l (.one t):=fun z x h=>by rw [pw_false,Nat.mul_one,Nat.mul_one];exact one_eq h
    rw [hx _ _ (frD_5 hf5)] at hN8 hs16
    exact ⟨(N,L,A8,n8,c8),⟨by omega,hG,rfl,hN8⟩,hs16.lands.drop2.drop2.drop2.drop2⟩
   ·have hf5:¬f=5:=by have:=hc11;simp at this;omega
    refine TT.skip ?_
    refine TT.next ?_
    refine TTE 4 false [3,7,8,10] 10 ?_
    refine RVc 3 87 (fun ρ=>[.pointer (some ⟨sc,0,none⟩),.int .i64 l,.int .i64 l,.bool true]) [] (fun ρ w17 F17 hF17 hpk17=>?_)
    refine (product_true hF17 hS.right.right (by omega) (by omega) (by omega)).mono ?_
    rintro e17 w'17 ⟨A5,n5,c5,rfl,hN5,hl17⟩
    refine ⟨.v (.slice A5 n5 c5),_,rfl,hl17,?_⟩
    refine RVc 7 87 (fun ρ=>[.pointer (some ⟨sc,0,none⟩),.int .i64 l,.int .i64 (n:Int),.bool false]) [] (fun ρ w18 F18 hF18 hpk18=>?_)
    refine (product_false hF18 hS.right.right.right (by omega) (by omega) (by omega)).mono ?_
    rintro e18 w'18 ⟨A6,n6,c6,rfl,hN6,hl18⟩
    refine ⟨.v (.slice A6 n6 c6),_,rfl,hl18,?_⟩
    refine RVc 8 86 (fun ρ=>[.slice A5 n5 c5,.slice A6 n6 c6]) [] (fun ρ w19 F19 hF19 hpk19=>?_)
    refine (mulM hF19 hN5.left.right hN6.left (pw_ne _ _ _) (by rw [pw_false,Nat.mul_one];exact pw_lt (by omega) (by omega))).mono ?_
    rintro e19 w'19 ⟨A7,n7,c7,rfl,hN7,hl19⟩
    refine ⟨.v (.slice A7 n7 c7),_,rfl,hl19,?_⟩
    refine RVc 10 86 (fun ρ=>[.slice A7 n7 c7,.slice A1 n1 c1]) [] (fun ρ w20 F20 hF20 hpk20=>?_)
    refine (mulM hF20 hN7.left hN1.left.right.right.right (Nat.mul_ne_zero (pw_ne _ _ _) (pw_ne _ _ _)) (by rw [pw_false,Nat.mul_one];exact (by rw [Nat.mul_one];exact pw_lt (by omega) (by omega)))).mono ?_
    rintro e20 w'20 ⟨A8,n8,c8,rfl,hN8,hl20⟩
    refine ⟨.v (.slice A8 n8 c8),_,rfl,hl20,?_⟩
    refine RVz ⟨[(6,.v (.slice A8 n8 c8))],[]⟩ ?_
    refine TTs Tryz.results64 (.v (.slice A8 n8 c8)) (fun _ _ h=>h) (fun ρ a w21 hs21=>?_)
    have hx:∀z x:Int,frD f t l n=x→pw true l x*pw false z (n:Int)*1=edD f n l (.one t):=fun z x h=>by rw [pw_false,Nat.mul_one,Nat.mul_one];exact one_eq h
    rw [hx _ _ (frD_l hf1 hf hf5)] at hN8 hs21
    exact ⟨(N,L,A8,n8,c8),⟨by omega,hG,rfl,hN8⟩,hs21.lands.drop2.drop2.drop2.drop2⟩
 ·have hf1:¬f=1:=by have:=hc4;simp at this;omega
  refine TT.p0 (s':=⟨[(0,VP sc),(2,V64 l),(4,.p 0 0),(9,V64 (n:Int)),(10,.v (.slice A1 n1 c1)),(11,V64 l),(44,V8 (f:Int)),(45,VB ((f:Int)==3))],[(0,⟨48,false,[V8 t,V32 1]⟩)]⟩) 10 (by kernel_rfl) ?_
  rw [hf3]
  refine TT.next ?_
  refine TTn ?_
  refine TTa 10 ⟨[(0,VP sc),(2,V64 l),(4,.p 0 0),(9,V64 (n:Int)),(10,.v (.slice A1 n1 c1)),(11,V64 l),(49,VB ((f:Int)==5))],[(0,⟨48,false,[V8 t,V32 1]⟩)]⟩ ?_
  refine TT.cond (b:=(f:Int)==5) (by kernel_rfl) (fun hc22=>?_) (fun hc22=>?_)
  ·have hf5:f=5:=by have:=hc22;simp at this;omega
   have hta:=hft hf5
   refine TT.p0 (s':=⟨[(0,VP sc),(2,V64 l),(9,V64 (n:Int)),(10,.v (.slice A1 n1 c1)),(11,V64 (IntKind.i64.wrap t))],[]⟩) 10 (by kernel_rfl) ?_
   rw [htag]
   refine TT.next ?_
   refine TTe 4 [3,7,8,10] ?_
   refine RVc 3 87 (fun ρ=>[.pointer (some ⟨sc,0,none⟩),.int .i64 l,.int .i64 t,.bool true]) [] (fun ρ w23 F23 hF23 hpk23=>?_)
   refine (product_true hF23 hS.right.right (by omega) (by omega) (by omega)).mono ?_
   rintro e23 w'23 ⟨A5,n5,c5,rfl,hN5,hl23⟩
   refine ⟨.v (.slice A5 n5 c5),_,rfl,hl23,?_⟩
   refine RVc 7 87 (fun ρ=>[.pointer (some ⟨sc,0,none⟩),.int .i64 t,.int .i64 (n:Int),.bool false]) [] (fun ρ w24 F24 hF24 hpk24=>?_)
   refine (product_false hF24 hS.right.right.right (by omega) (by omega) (by omega)).mono ?_
   rintro e24 w'24 ⟨A6,n6,c6,rfl,hN6,hl24⟩
   refine ⟨.v (.slice A6 n6 c6),_,rfl,hl24,?_⟩
   refine RVc 8 86 (fun ρ=>[.slice A5 n5 c5,.slice A6 n6 c6]) [] (fun ρ w25 F25 hF25 hpk25=>?_)
   refine (mulM hF25 hN5.left.right hN6.left (pw_ne _ _ _) (by rw [pw_false,Nat.mul_one];exact pw_lt (by omega) (by omega))).mono ?_
   rintro e25 w'25 ⟨A7,n7,c7,rfl,hN7,hl25⟩
   refine ⟨.v (.slice A7 n7 c7),_,rfl,hl25,?_⟩
   refine RVc 10 86 (fun ρ=>[.slice A7 n7 c7,.slice A1 n1 c1]) [] (fun ρ w26 F26 hF26 hpk26=>?_)
   refine (mulM hF26 hN7.left hN1.left.right.right.right (Nat.mul_ne_zero (pw_ne _ _ _) (pw_ne _ _ _)) (by rw [pw_false,Nat.mul_one];exact (by rw [Nat.mul_one];exact pw_lt (by omega) (by omega)))).mono ?_
   rintro e26 w'26 ⟨A8,n8,c8,rfl,hN8,hl26⟩
   refine ⟨.v (.slice A8 n8 c8),_,rfl,hl26,?_⟩
   refine RVz ⟨[(6,.v (.slice A8 n8 c8))],[]⟩ ?_
   refine TTs Tryz.results64 (.v (.slice A8 n8 c8)) (fun _ _ h=>h) (fun ρ a w27 hs27=>?_)
   have hx:∀z x:Int,frD f t l n=x→pw true l x*pw false z (n:Int)*1=edD f n l (.one t):=fun z x h=>by rw [pw_false,Nat.mul_one,Nat.mul_one];exact one_eq h
   rw [hx _ _ (frD_5 hf5)] at hN8 hs27
   exact ⟨(N,L,A8,n8,c8),⟨by omega,hG,rfl,hN8⟩,hs27.lands.drop2.drop2.drop2.drop2⟩
  ·have hf5:¬f=5:=by have:=hc22;simp at this;omega
   refine TT.skip ?_
   refine TT.next ?_
   refine TTE 4 false [3,7,8,10] 10 ?_
   refine RVc 3 87 (fun ρ=>[.pointer (some ⟨sc,0,none⟩),.int .i64 l,.int .i64 l,.bool true]) [] (fun ρ w28 F28 hF28 hpk28=>?_)
   refine (product_true hF28 hS.right.right (by omega) (by omega) (by omega)).mono ?_
   rintro e28 w'28 ⟨A5,n5,c5,rfl,hN5,hl28⟩
   refine ⟨.v (.slice A5 n5 c5),_,rfl,hl28,?_⟩
   refine RVc 7 87 (fun ρ=>[.pointer (some ⟨sc,0,none⟩),.int .i64 l,.int .i64 (n:Int),.bool false]) [] (fun ρ w29 F29 hF29 hpk29=>?_)
   refine (product_false hF29 hS.right.right.right (by omega) (by omega) (by omega)).mono ?_
   rintro e29 w'29 ⟨A6,n6,c6,rfl,hN6,hl29⟩
   refine ⟨.v (.slice A6 n6 c6),_,rfl,hl29,?_⟩
   refine RVc 8 86 (fun ρ=>[.slice A5 n5 c5,.slice A6 n6 c6]) [] (fun ρ w30 F30 hF30 hpk30=>?_)
   refine (mulM hF30 hN5.left.right hN6.left (pw_ne _ _ _) (by rw [pw_false,Nat.mul_one];exact pw_lt (by omega) (by omega))).mono ?_
   rintro e30 w'30 ⟨A7,n7,c7,rfl,hN7,hl30⟩
   refine ⟨.v (.slice A7 n7 c7),_,rfl,hl30,?_⟩
   refine RVc 10 86 (fun ρ=>[.slice A7 n7 c7,.slice A1 n1 c1]) [] (fun ρ w31 F31 hF31 hpk31=>?_)
   refine (mulM hF31 hN7.left hN1.left.right.right.right (Nat.mul_ne_zero (pw_ne _ _ _) (pw_ne _ _ _)) (by rw [pw_false,Nat.mul_one];exact (by rw [Nat.mul_one];exact pw_lt (by omega) (by omega)))).mono ?_
   rintro e31 w'31 ⟨A8,n8,c8,rfl,hN8,hl31⟩
   refine ⟨.v (.slice A8 n8 c8),_,rfl,hl31,?_⟩
   refine RVz ⟨[(6,.v (.slice A8 n8 c8))],[]⟩ ?_
   refine TTs Tryz.results64 (.v (.slice A8 n8 c8)) (fun _ _ h=>h) (fun ρ a w32 hs32=>?_)
   have hx:∀z x:Int,frD f t l n=x→pw true l x*pw false z (n:Int)*1=edD f n l (.one t):=fun z x h=>by rw [pw_false,Nat.mul_one,Nat.mul_one];exact one_eq h
   rw [hx _ _ (frD_l hf1 hf hf5)] at hN8 hs32
   exact ⟨(N,L,A8,n8,c8),⟨by omega,hG,rfl,hN8⟩,hs32.lands.drop2.drop2.drop2.drop2⟩
set_option maxRecDepth 100000 in
set_option maxHeartbeats 4000000 in
theorem edge_node {l et ep:Int} {r:Rec} {lo hi:Dg} (hS:ScIn (sepR Rn Ro) sc g f q n bl bh vl vh) (hO:ScO Rn Ro sc g f q n bl bh vl vh) (hf:¬f=3) (hSt:∀{W:World} {X:List Nat},(sepR Rn Ro).at_ W X→∃Y,StoreAt W Y g n room cs free) (h:(sepR (keptR q N L) (sepR Rn Ro)).at_ w F) (hG:GoodL cs f n L) (hl0:0≤l) (hln:l≤n) (hr:recAt cs ep=some r) (hep:isU ep) (hft:f=5→l≤et) (hlt:l≤r.top) (hg:Gd f n (.node et r.top r.bot lo hi)) (hsz:N+(1+dgsz lo+dgsz hi)<maxLen) (HN:∀(N:Nat) (L:List KEn) (w:World) (F:List Nat),(sepR (keptR q N L) (sepR Rn Ro)).at_ w F→GoodL cs f n L→N+(1+dgsz lo+dgsz hi)<maxLen→Calls Tryz.prog 85 #[.pointer (some ⟨sc,0,none⟩),.int .u32 ep,.agg r.cells.toArray] w (MNode (sepR Rn Ro) q n f cs N (1+dgsz lo+dgsz hi) ep F w (ndD f n r.top r.bot lo hi))) :
  Calls Tryz.prog 64 #[.pointer (some ⟨sc,0,none⟩),Ed et ep,.int .i64 l] w (MEdge (sepR Rn Ro) q n f cs N (1+dgsz lo+dgsz hi) F w (edD f n l (.node et r.top r.bot lo hi))):=by
 have hn16:=hS.n16
 have hf3:((f:Int)==3)=false:=by simp;omega
 have hep2:=(recAt_some hr).1
 have hp0:(ep==0)=false:=by simp;omega
 have hpu:ep≤4294967295:=by
  simp [isU,Lit.wf,IntKind.min,IntKind.max,IntKind.signed,IntKind.bits] at hep
  omega
 obtain ⟨hb1,hb2,hb3⟩:=ndD_le hg
 have hel0:=edD_le (T:= .node et r.top r.bot lo hi) (l:=l) (f:=(f:Int)) ⟨hlt,fun h=>hft (by omega)⟩ hg (by omega)
 obtain ⟨⟨g1,g2,g3,g4⟩,g5,⟨g6,g7⟩,⟨g8,g9⟩,g10⟩:=hg
 have hp1:=pow16 (a:=(n:Int)-l) (by omega)
 have het:0≤et∧et≤r.top:=by split at g5<;>omega
 have htop:IntKind.i64.wrap r.top=r.top:=IntWalk.i64_in _ (by omega)
 have htag:IntKind.i64.wrap et=et:=IntWalk.i64_in _ (by omega)
 have hel:∀x,frD f et l r.top=x→pw true l x*ndD f n r.top r.bot lo hi<18446744073709551616:=fun x hx=>by rw [node_eq hx];omega
 refine TTg [VP sc,.v (Ed et ep),V64 l] Tryz.func64 Tryz.ntmps64 h ?_
 refine TTa 0 ⟨[(0,VP sc),(2,V64 l),(4,.p 0 0)],[(0,⟨48,false,[V8 et,V32 ep]⟩)]⟩ ?_
 refine TT.seq (TTa 10 ⟨[(0,VP sc),(2,V64 l),(4,.p 0 0),(14,VB (ep==0))],[(0,⟨48,false,[V8 et,V32 ep]⟩)]⟩ ?_)
 rw [hp0]
 refine TTu (TT.next ?_)
 refine TTE 2 true [3,6] 10 ?_
 refine RVd 3 (.load 36 (.v (.pointer (some ⟨sc,0,none⟩)))) (VP g) (fun ρ w F hF=>run_ld (by kernel_rfl) ((hS.right.blk hF).cell 0)) ?_
 refine RVc 6 84 (fun ρ=>[.pointer (some ⟨g,0,none⟩),.int .u32 ep]) [] (fun ρ w1 F1 hF1 hpk1=>?_)
 refine (stGet hF1 (fun h=>hSt (sepR_snd h).choose_spec) (by omega) (by omega)).mono ?_
 rintro e1 w'1 ⟨rfl,hl1⟩
 rw [hr]
 refine ⟨.v (.tuple #[.agg #[.int .u8 r.form,.int .u8 r.top,.int .u8 r.bot,.int .u8 r.lo.tag,.int .u32 r.lo.pos,.int .u8 r.hi.tag,.int .u32 r.hi.pos],.bool true]),_,rfl,hl1,?_⟩
 refine RVz ⟨[(0,VP sc),(2,V64 l),(4,.p 0 0),(7,.p 20 0),(8,VB true)],[(0,⟨48,false,[V8 et,V32 ep]⟩),(20,⟨78,false,[V8 r.form,V8 r.top,V8 r.bot,V8 r.lo.tag,V32 r.lo.pos,V8 r.hi.tag,V32 r.hi.pos]⟩)]⟩ ?_
 refine TTE 3 false [3,4,5] 30 ?_
 refine RVd 3 (.load 36 (.v (.pointer (some ⟨sc,0,none⟩)))) (VP g) (fun ρ w F hF=>run_ld (by kernel_rfl) ((hS.right.blk hF).cell 0)) ?_
 refine RVc 4 45 (fun ρ=>[.pointer (some ⟨g,0,none⟩)]) [] (fun ρ w2 F2 hF2 hpk2=>?_)
 refine (stVars hF2 (fun h=>hSt (sepR_snd h).choose_spec)).mono ?_
 rintro e2 w'2 ⟨rfl,hl2⟩
 refine ⟨V64 (n:Int),_,rfl,hl2,?_⟩
 refine RVc 5 82 (fun ρ=>[.int .u64 1]) [] (fun ρ w3 F3 hF3 hpk3=>?_)
 refine (ofN (x:=1) hF3 (by decide) (by decide)).mono ?_
 rintro e3 w'3 ⟨A1,n1,c1,rfl,hN1,hl3⟩
 refine ⟨.v (.slice A1 n1 c1),_,rfl,hl3,?_⟩
 refine RVz ⟨[(0,VP sc),(2,V64 l),(4,.p 0 0),(7,.p 20 0),(8,VB true),(9,V64 (n:Int)),(10,.v (.slice A1 n1 c1))],[(0,⟨48,false,[V8 et,V32 ep]⟩),(20,⟨78,false,[V8 r.form,V8 r.top,V8 r.bot,V8 r.lo.tag,V32 r.lo.pos,V8 r.hi.tag,V32 r.hi.pos]⟩)]⟩ ?_
 refine TT.seq (TTa 30 ⟨[(0,VP sc),(2,V64 l),(4,.p 0 0),(7,.p 20 0),(9,V64 (n:Int)),(10,.v (.slice A1 n1 c1)),(31,VB true)],[(0,⟨48,false,[V8 et,V32 ep]⟩),(20,⟨78,false,[V8 r.form,V8 r.top,V8 r.bot,V8 r.lo.tag,V32 r.lo.pos,V8 r.hi.tag,V32 r.hi.pos]⟩)]⟩ ?_)
 refine TTy ?_
 refine TT.r (m:=1) true [7] 30 mixed (by kernel_rfl) ?_
 refine RVc 7 85 (fun ρ=>[.pointer (some ⟨sc,0,none⟩),.int .u32 ep,.agg #[.int .u8 r.form,.int .u8 r.top,.int .u8 r.bot,.int .u8 r.lo.tag,.int .u32 r.lo.pos,.int .u8 r.hi.tag,.int .u32 r.hi.pos]]) [] (fun ρ w4 F4 hF4 hpk4=>?_)
 refine (frame2x hF4 (fun X hX=>HN N L _ _ hX hG hsz)).mono ?_
 rintro e4 w'4 ⟨⟨N2,L2,en⟩,⟨hN2,hG2,hen,hid,hx2,rfl⟩,hl4⟩
 obtain ⟨⟨k1,k2,k3,k4⟩,_⟩:=hG2 en hen
 have hNe:NumIn (keptR q N2 L2) en.A en.n en.c en.x:=kept_num en hen k1 k2 k3 k4
 rw [hx2] at hNe
 refine ⟨.v (.slice en.A en.n en.c),_,rfl,hl4,?_⟩
 refine RV.fin (s':=⟨[(0,VP sc),(2,V64 l),(4,.p 0 0),(9,V64 (IntKind.i64.wrap r.top)),(10,.v (.slice en.A en.n en.c))],[(0,⟨48,false,[V8 et,V32 ep]⟩)]⟩) (by kernel_rfl) (by kernel_rfl) ?_
 rw [htop]
 refine TT.next ?_
 refine TTa 10 ⟨[(0,VP sc),(2,V64 l),(4,.p 0 0),(9,V64 r.top),(10,.v (.slice en.A en.n en.c)),(11,V64 l)],[(0,⟨48,false,[V8 et,V32 ep]⟩)]⟩ ?_
 refine TT.seq (TTE 1 false [3] 10 ?_)
 refine RVd 3 (.load 23 (.v (.pointer (some ⟨sc,1,none⟩)))) (V8 (f:Int)) (fun ρ w F hF=>run_ld (by kernel_rfl) ((hS.right.right.blk hF).cell 1)) ?_
 refine RVz ⟨[(0,VP sc),(2,V64 l),(4,.p 0 0),(9,V64 r.top),(10,.v (.slice en.A en.n en.c)),(11,V64 l),(44,V8 (f:Int))],[(0,⟨48,false,[V8 et,V32 ep]⟩)]⟩ ?_
 refine TT.block ?_
 refine TT.seq (TTa 10 ⟨[(0,VP sc),(2,V64 l),(4,.p 0 0),(9,V64 r.top),(10,.v (.slice en.A en.n en.c)),(11,V64 l),(44,V8 (f:Int)),(45,VB ((f:Int)==1))],[(0,⟨48,false,[V8 et,V32 ep]⟩)]⟩ ?_)
 refine TT.cond (b:=(f:Int)==1) (by kernel_rfl) (fun hc5=>?_) (fun hc5=>?_)
 ·have hf1:f=1:=by have:=hc5;simp at this;omega
  refine TT.skip ?_
  refine TT.next ?_
  refine TT.cond (b:=(f:Int)==1) (by kernel_rfl) (fun hc6=>?_) (fun hc6=>?_)
  ·have hf1:f=1:=by have:=hc6;simp at this;omega
   refine TT.p0 (s':=⟨[(0,VP sc),(2,V64 l),(9,V64 r.top),(10,.v (.slice en.A en.n en.c)),(11,V64 r.top)],[]⟩) 10 (by kernel_rfl) ?_
   refine TT.next ?_
   refine TTe 4 [3,7,8,10] ?_
   refine RVc 3 87 (fun ρ=>[.pointer (some ⟨sc,0,none⟩),.int .i64 l,.int .i64 r.top,.bool true]) [] (fun ρ w7 F7 hF7 hpk7=>?_)
   refine (product_true hF7 hS.right.right (by omega) (by omega) (by omega)).mono ?_
   rintro e7 w'7 ⟨A5,n5,c5,rfl,hN5,hl7⟩
   refine ⟨.v (.slice A5 n5 c5),_,rfl,hl7,?_⟩
   refine RVc 7 87 (fun ρ=>[.pointer (some ⟨sc,0,none⟩),.int .i64 r.top,.int .i64 r.top,.bool false]) [] (fun ρ w8 F8 hF8 hpk8=>?_)
   refine (product_false hF8 hS.right.right.right (by omega) (by omega) (by omega)).mono ?_
   rintro e8 w'8 ⟨A6,n6,c6,rfl,hN6,hl8⟩
   refine ⟨.v (.slice A6 n6 c6),_,rfl,hl8,?_⟩
   refine RVc 8 86 (fun ρ=>[.slice A5 n5 c5,.slice A6 n6 c6]) [] (fun ρ w9 F9 hF9 hpk9=>?_)
   refine (mulM hF9 hN5.left.right hN6.left (pw_ne _ _ _) (by rw [pw_false,Nat.mul_one];exact pw_lt (by omega) (by omega))).mono ?_
   rintro e9 w'9 ⟨A7,n7,c7,rfl,hN7,hl9⟩
   refine ⟨.v (.slice A7 n7 c7),_,rfl,hl9,?_⟩
   refine RVc 10 86 (fun ρ=>[.slice A7 n7 c7,.slice en.A en.n en.c]) [] (fun ρ w10 F10 hF10 hpk10=>?_)
   refine (mulM hF10 hN7.left hNe.left.right.right.right.right (Nat.mul_ne_zero (pw_ne _ _ _) (pw_ne _ _ _)) (by rw [pw_false,Nat.mul_one];exact hel _ (frD_1 hf1))).mono ?_
   rintro e10 w'10 ⟨A8,n8,c8,rfl,hN8,hl10⟩
   refine ⟨.v (.slice A8 n8 c8),_,rfl,hl10,?_⟩
   refine RVz ⟨[(6,.v (.slice A8 n8 c8))],[]⟩ ?_
   refine TTs Tryz.results64 (.v (.slice A8 n8 c8)) (fun _ _ h=>h) (fun ρ a w11 hs11=>?_)
   have hx:∀z x:Int,frD f et l r.top=x→pw true l x*pw false z r.top*ndD f n r.top r.bot lo hi=edD f n l (.node et r.top r.bot lo hi):=fun z x h=>by rw [pw_false,Nat.mul_one];exact node_eq h
   rw [hx _ _ (frD_1 hf1)] at hN8 hs11
   exact ⟨(N2,L2,A8,n8,c8),⟨by omega,hG2,rfl,hN8⟩,hs11.lands.drop2.drop2.drop2.drop2⟩
  ·have hf1:¬f=1:=by have:=hc6;simp at this;omega
   refine TTa 10 ⟨[(0,VP sc),(2,V64 l),(4,.p 0 0),(9,V64 r.top),(10,.v (.slice en.A en.n en.c)),(11,V64 l),(49,VB ((f:Int)==5))],[(0,⟨48,false,[V8 et,V32 ep]⟩)]⟩ ?_
   refine TT.cond (b:=(f:Int)==5) (by kernel_rfl) (fun hc12=>?_) (fun hc12=>?_)
   ·have hf5:f=5:=by have:=hc12;simp at this;omega
    have hta:=hft hf5
    refine TT.p0 (s':=⟨[(0,VP sc),(2,V64 l),(9,V64 r.top),(10,.v (.slice en.A en.n en.c)),(11,V64 (IntKind.i64.wrap et))],[]⟩) 10 (by kernel_rfl) ?_
    rw [htag]
    refine TT.next ?_
    refine TTe 4 [3,7,8,10] ?_
    refine RVc 3 87 (fun ρ=>[.pointer (some ⟨sc,0,none⟩),.int .i64 l,.int .i64 et,.bool true]) [] (fun ρ w13 F13 hF13 hpk13=>?_)
    refine (product_true hF13 hS.right.right (by omega) (by omega) (by omega)).mono ?_
    rintro e13 w'13 ⟨A5,n5,c5,rfl,hN5,hl13⟩
    refine ⟨.v (.slice A5 n5 c5),_,rfl,hl13,?_⟩
    refine RVc 7 87 (fun ρ=>[.pointer (some ⟨sc,0,none⟩),.int .i64 et,.int .i64 r.top,.bool false]) [] (fun ρ w14 F14 hF14 hpk14=>?_)
    refine (product_false hF14 hS.right.right.right (by omega) (by omega) (by omega)).mono ?_
    rintro e14 w'14 ⟨A6,n6,c6,rfl,hN6,hl14⟩
    refine ⟨.v (.slice A6 n6 c6),_,rfl,hl14,?_⟩
    refine RVc 8 86 (fun ρ=>[.slice A5 n5 c5,.slice A6 n6 c6]) [] (fun ρ w15 F15 hF15 hpk15=>?_)
    refine (mulM hF15 hN5.left.right hN6.left (pw_ne _ _ _) (by rw [pw_false,Nat.mul_one];exact pw_lt (by omega) (by omega))).mono ?_
    rintro e15 w'15 ⟨A7,n7,c7,rfl,hN7,hl15⟩
    refine ⟨.v (.slice A7 n7 c7),_,rfl,hl15,?_⟩
    refine RVc 10 86 (fun ρ=>[.slice A7 n7 c7,.slice en.A en.n en.c]) [] (fun ρ w16 F16 hF16 hpk16=>?_)
    refine (mulM hF16 hN7.left hNe.left.right.right.right.right (Nat.mul_ne_zero (pw_ne _ _ _) (pw_ne _ _ _)) (by rw [pw_false,Nat.mul_one];exact hel _ (frD_5 hf5))).mono ?_
    rintro e16 w'16 ⟨A8,n8,c8,rfl,hN8,hl16⟩
    refine ⟨.v (.slice A8 n8 c8),_,rfl,hl16,?_⟩
    refine RVz ⟨[(6,.v (.slice A8 n8 c8))],[]⟩ ?_
    refine TTs Tryz.results64 (.v (.slice A8 n8 c8)) (fun _ _ h=>h) (fun ρ a w17 hs17=>?_)
    have hx:∀z x:Int,frD f et l r.top=x→pw true l x*pw false z r.top*ndD f n r.top r.bot lo hi=edD f n l (.node et r.top r.bot lo hi):=fun z x h=>by rw [pw_false,Nat.mul_one];exact node_eq h
    rw [hx _ _ (frD_5 hf5)] at hN8 hs17
    exact ⟨(N2,L2,A8,n8,c8),⟨by omega,hG2,rfl,hN8⟩,hs17.lands.drop2.drop2.drop2.drop2⟩
   ·have hf5:¬f=5:=by have:=hc12;simp at this;omega
    refine TT.skip ?_
    refine TT.next ?_
    refine TTE 4 false [3,7,8,10] 10 ?_
    refine RVc 3 87 (fun ρ=>[.pointer (some ⟨sc,0,none⟩),.int .i64 l,.int .i64 l,.bool true]) [] (fun ρ w18 F18 hF18 hpk18=>?_)
    refine (product_true hF18 hS.right.right (by omega) (by omega) (by omega)).mono ?_
    rintro e18 w'18 ⟨A5,n5,c5,rfl,hN5,hl18⟩
    refine ⟨.v (.slice A5 n5 c5),_,rfl,hl18,?_⟩
    refine RVc 7 87 (fun ρ=>[.pointer (some ⟨sc,0,none⟩),.int .i64 l,.int .i64 r.top,.bool false]) [] (fun ρ w19 F19 hF19 hpk19=>?_)
    refine (product_false hF19 hS.right.right.right (by omega) (by omega) (by omega)).mono ?_
    rintro e19 w'19 ⟨A6,n6,c6,rfl,hN6,hl19⟩
    refine ⟨.v (.slice A6 n6 c6),_,rfl,hl19,?_⟩
    refine RVc 8 86 (fun ρ=>[.slice A5 n5 c5,.slice A6 n6 c6]) [] (fun ρ w20 F20 hF20 hpk20=>?_)
    refine (mulM hF20 hN5.left.right hN6.left (pw_ne _ _ _) (by rw [pw_false,Nat.mul_one];exact pw_lt (by omega) (by omega))).mono ?_
    rintro e20 w'20 ⟨A7,n7,c7,rfl,hN7,hl20⟩
    refine ⟨.v (.slice A7 n7 c7),_,rfl,hl20,?_⟩
    refine RVc 10 86 (fun ρ=>[.slice A7 n7 c7,.slice en.A en.n en.c]) [] (fun ρ w21 F21 hF21 hpk21=>?_)
    refine (mulM hF21 hN7.left hNe.left.right.right.right.right (Nat.mul_ne_zero (pw_ne _ _ _) (pw_ne _ _ _)) (by rw [pw_false,Nat.mul_one];exact hel _ (frD_l hf1 hf hf5))).mono ?_
    rintro e21 w'21 ⟨A8,n8,c8,rfl,hN8,hl21⟩
    refine ⟨.v (.slice A8 n8 c8),_,rfl,hl21,?_⟩
    refine RVz ⟨[(6,.v (.slice A8 n8 c8))],[]⟩ ?_
    refine TTs Tryz.results64 (.v (.slice A8 n8 c8)) (fun _ _ h=>h) (fun ρ a w22 hs22=>?_)
    have hx:∀z x:Int,frD f et l r.top=x→pw true l x*pw false z r.top*ndD f n r.top r.bot lo hi=edD f n l (.node et r.top r.bot lo hi):=fun z x h=>by rw [pw_false,Nat.mul_one];exact node_eq h
    rw [hx _ _ (frD_l hf1 hf hf5)] at hN8 hs22
    exact ⟨(N2,L2,A8,n8,c8),⟨by omega,hG2,rfl,hN8⟩,hs22.lands.drop2.drop2.drop2.drop2⟩
 ·have hf1:¬f=1:=by have:=hc5;simp at this;omega
  refine TT.p0 (s':=⟨[(0,VP sc),(2,V64 l),(4,.p 0 0),(9,V64 r.top),(10,.v (.slice en.A en.n en.c)),(11,V64 l),(44,V8 (f:Int)),(45,VB ((f:Int)==3))],[(0,⟨48,false,[V8 et,V32 ep]⟩)]⟩) 10 (by kernel_rfl) ?_
  rw [hf3]
  refine TT.next ?_
  refine TTn ?_
  refine TTa 10 ⟨[(0,VP sc),(2,V64 l),(4,.p 0 0),(9,V64 r.top),(10,.v (.slice en.A en.n en.c)),(11,V64 l),(49,VB ((f:Int)==5))],[(0,⟨48,false,[V8 et,V32 ep]⟩)]⟩ ?_
  refine TT.cond (b:=(f:Int)==5) (by kernel_rfl) (fun hc23=>?_) (fun hc23=>?_)
  ·have hf5:f=5:=by have:=hc23;simp at this;omega
   have hta:=hft hf5
   refine TT.p0 (s':=⟨[(0,VP sc),(2,V64 l),(9,V64 r.top),(10,.v (.slice en.A en.n en.c)),(11,V64 (IntKind.i64.wrap et))],[]⟩) 10 (by kernel_rfl) ?_
   rw [htag]
   refine TT.next ?_
   refine TTe 4 [3,7,8,10] ?_
   refine RVc 3 87 (fun ρ=>[.pointer (some ⟨sc,0,none⟩),.int .i64 l,.int .i64 et,.bool true]) [] (fun ρ w24 F24 hF24 hpk24=>?_)
   refine (product_true hF24 hS.right.right (by omega) (by omega) (by omega)).mono ?_
   rintro e24 w'24 ⟨A5,n5,c5,rfl,hN5,hl24⟩
   refine ⟨.v (.slice A5 n5 c5),_,rfl,hl24,?_⟩
   refine RVc 7 87 (fun ρ=>[.pointer (some ⟨sc,0,none⟩),.int .i64 et,.int .i64 r.top,.bool false]) [] (fun ρ w25 F25 hF25 hpk25=>?_)
   refine (product_false hF25 hS.right.right.right (by omega) (by omega) (by omega)).mono ?_
   rintro e25 w'25 ⟨A6,n6,c6,rfl,hN6,hl25⟩
   refine ⟨.v (.slice A6 n6 c6),_,rfl,hl25,?_⟩
   refine RVc 8 86 (fun ρ=>[.slice A5 n5 c5,.slice A6 n6 c6]) [] (fun ρ w26 F26 hF26 hpk26=>?_)
   refine (mulM hF26 hN5.left.right hN6.left (pw_ne _ _ _) (by rw [pw_false,Nat.mul_one];exact pw_lt (by omega) (by omega))).mono ?_
   rintro e26 w'26 ⟨A7,n7,c7,rfl,hN7,hl26⟩
   refine ⟨.v (.slice A7 n7 c7),_,rfl,hl26,?_⟩
   refine RVc 10 86 (fun ρ=>[.slice A7 n7 c7,.slice en.A en.n en.c]) [] (fun ρ w27 F27 hF27 hpk27=>?_)
   refine (mulM hF27 hN7.left hNe.left.right.right.right.right (Nat.mul_ne_zero (pw_ne _ _ _) (pw_ne _ _ _)) (by rw [pw_false,Nat.mul_one];exact hel _ (frD_5 hf5))).mono ?_
   rintro e27 w'27 ⟨A8,n8,c8,rfl,hN8,hl27⟩
   refine ⟨.v (.slice A8 n8 c8),_,rfl,hl27,?_⟩
   refine RVz ⟨[(6,.v (.slice A8 n8 c8))],[]⟩ ?_
   refine TTs Tryz.results64 (.v (.slice A8 n8 c8)) (fun _ _ h=>h) (fun ρ a w28 hs28=>?_)
   have hx:∀z x:Int,frD f et l r.top=x→pw true l x*pw false z r.top*ndD f n r.top r.bot lo hi=edD f n l (.node et r.top r.bot lo hi):=fun z x h=>by rw [pw_false,Nat.mul_one];exact node_eq h
   rw [hx _ _ (frD_5 hf5)] at hN8 hs28
   exact ⟨(N2,L2,A8,n8,c8),⟨by omega,hG2,rfl,hN8⟩,hs28.lands.drop2.drop2.drop2.drop2⟩
  ·have hf5:¬f=5:=by have:=hc23;simp at this;omega
   refine TT.skip ?_
   refine TT.next ?_
   refine TTE 4 false [3,7,8,10] 10 ?_
   refine RVc 3 87 (fun ρ=>[.pointer (some ⟨sc,0,none⟩),.int .i64 l,.int .i64 l,.bool true]) [] (fun ρ w29 F29 hF29 hpk29=>?_)
   refine (product_true hF29 hS.right.right (by omega) (by omega) (by omega)).mono ?_
   rintro e29 w'29 ⟨A5,n5,c5,rfl,hN5,hl29⟩
   refine ⟨.v (.slice A5 n5 c5),_,rfl,hl29,?_⟩
   refine RVc 7 87 (fun ρ=>[.pointer (some ⟨sc,0,none⟩),.int .i64 l,.int .i64 r.top,.bool false]) [] (fun ρ w30 F30 hF30 hpk30=>?_)
   refine (product_false hF30 hS.right.right.right (by omega) (by omega) (by omega)).mono ?_
   rintro e30 w'30 ⟨A6,n6,c6,rfl,hN6,hl30⟩
   refine ⟨.v (.slice A6 n6 c6),_,rfl,hl30,?_⟩
   refine RVc 8 86 (fun ρ=>[.slice A5 n5 c5,.slice A6 n6 c6]) [] (fun ρ w31 F31 hF31 hpk31=>?_)
   refine (mulM hF31 hN5.left.right hN6.left (pw_ne _ _ _) (by rw [pw_false,Nat.mul_one];exact pw_lt (by omega) (by omega))).mono ?_
   rintro e31 w'31 ⟨A7,n7,c7,rfl,hN7,hl31⟩
   refine ⟨.v (.slice A7 n7 c7),_,rfl,hl31,?_⟩
   refine RVc 10 86 (fun ρ=>[.slice A7 n7 c7,.slice en.A en.n en.c]) [] (fun ρ w32 F32 hF32 hpk32=>?_)
   refine (mulM hF32 hN7.left hNe.left.right.right.right.right (Nat.mul_ne_zero (pw_ne _ _ _) (pw_ne _ _ _)) (by rw [pw_false,Nat.mul_one];exact hel _ (frD_l hf1 hf hf5))).mono ?_
   rintro e32 w'32 ⟨A8,n8,c8,rfl,hN8,hl32⟩
   refine ⟨.v (.slice A8 n8 c8),_,rfl,hl32,?_⟩
   refine RVz ⟨[(6,.v (.slice A8 n8 c8))],[]⟩ ?_
   refine TTs Tryz.results64 (.v (.slice A8 n8 c8)) (fun _ _ h=>h) (fun ρ a w33 hs33=>?_)
   have hx:∀z x:Int,frD f et l r.top=x→pw true l x*pw false z r.top*ndD f n r.top r.bot lo hi=edD f n l (.node et r.top r.bot lo hi):=fun z x h=>by rw [pw_false,Nat.mul_one];exact node_eq h
   rw [hx _ _ (frD_l hf1 hf hf5)] at hN8 hs33
   exact ⟨(N2,L2,A8,n8,c8),⟨by omega,hG2,rfl,hN8⟩,hs33.lands.drop2.drop2.drop2.drop2⟩
theorem edgeM (hS:ScIn (sepR Rn Ro) sc g f q n bl bh vl vh) (hO:ScO Rn Ro sc g f q n bl bh vl vh) (hf:¬f=3) (hSt:∀{W:World} {X:List Nat},(sepR Rn Ro).at_ W X→∃Y,StoreAt W Y g n room cs free) (hcs:cs.length≤1048576):∀T:Dg,EdgeOk (sepR Rn Ro) sc q n f cs T
 | .nil=>fun l et ep N L w F h hG hu hft hg h0 hn hsz=>by
  injection (show (⟨et,ep⟩:Edg)=⟨0,0⟩ from hu) with e1 e2
  subst e1 e2
  exact edge_nil (x:=0) (r:=Rec.nil) (lo:= .nil) (hi:= .nil) hS hO hf hSt h hG h0 hn
 | .one t=>fun l et ep N L w F h hG hu hft hg h0 hn hsz=>by
  injection (show (⟨et,ep⟩:Edg)=⟨t,1⟩ from hu) with e1 e2
  subst e1 e2
  exact edge_one (r:=Rec.nil) (lo:= .nil) (hi:= .nil) hS hO hf hSt h hG h0 hn (fun h5=>hft (by omega)) (by
   unfold Gd at hg
   by_cases h5:f=5
   ·rw [if_pos (by omega)] at hg
    rw [if_pos h5]
    exact hg
   ·rw [if_neg (by omega)] at hg
    rw [if_neg h5]
    exact hg)
 | .node tag top bot lo hi=>fun l et ep N L w F h hG hu hft hg h0 hn hsz=>by
  obtain ⟨e1,r,hr,_,e3,e4,hlo,hhi⟩:=hu
  simp only at e1 hr
  subst e1 e3 e4
  have hlt:=(recAt_some hr).2.1
  have h2:=(recAt_some hr).1
  have hid:isU ep:=by
   simp [isU,Lit.wf,IntKind.min,IntKind.max,IntKind.signed,IntKind.bits]
   omega
  exact edge_node hS hO hf hSt h hG h0 hn hr hid (fun h5=>hft.2 (by omega)) hft.1 hg hsz (fun N L w F h hG hsz=>nodeM hS hO hf (edgeM hS hO hf hSt hcs lo) (edgeM hS hO hf hSt hcs hi) h hG hr hid hlo hhi hg hsz)
end
end
end Go.Proofs.YtnlmlehcpngcgaaGreat
