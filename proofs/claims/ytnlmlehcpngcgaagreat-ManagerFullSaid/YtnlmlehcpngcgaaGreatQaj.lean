/- What a store holds behind a new record: plain, and of memory. Plain: which diagram an edge of a store leads to; stores that grow. Contract: arena.Put where a cell is free. A record that is put into a store: plain, and of memory; free cells serve first. -/
import Derived.Test.YtnlmlehcpngcgaaGreatQai
import Derived.Test.YtnlmlehcpngcgaaGreatQab
import Derived.Test.YtnlmlehcpngcgaaGreatQaf
namespace Go.Proofs.YtnlmlehcpngcgaaGreat
set_option linter.unusedSimpArgs false
set_option linter.unusedVariables false
section
open Go.RowKit
def idOf (cs:List (Option Rec)) (r:Rec):Option Nat:=if some r∈cs then some (cs.idxOf (some r)+2) else none
theorem idOf_eq {cs:List (Option Rec)} {m:Rec→Option Nat} (h:∀(r:Rec) (id:Nat),m r=some id↔recAt cs id=some r) (r:Rec):m r=idOf cs r:=by
 unfold idOf
 split
 ·rename_i hm
  rw [h]
  have hi:=List.idxOf_lt_length_of_mem hm
  unfold recAt
  rw [if_pos (by omega),show ((cs.idxOf (some r)+2:Nat):Int)-2=((cs.idxOf (some r):Nat):Int) by omega,Int.toNat_natCast,List.getElem?_eq_getElem hi,List.getElem_idxOf]
  rfl
 ·rename_i hm
  cases hx:m r with
  | none=>rfl
  | some id=>
   exfalso
   apply hm
   exact List.mem_of_getElem? (recAt_some ((h r id).1 hx)).2.2
theorem recAt_snoc (cs:List (Option Rec)) (r:Rec) (id:Nat):recAt (cs++[some r]) id=if id=cs.length+2 then some r else recAt cs id:=by
 unfold recAt
 split
 ·rename_i h2
  have e:((id:Int)-2).toNat=id-2:=by omega
  rw [e]
  split
  ·rename_i h3
   subst h3
   simp
  ·rename_i h3
   rcases Nat.lt_or_ge (id-2) cs.length with h4|h4
   ·rw [List.getElem?_append_left h4]
   ·rw [List.getElem?_eq_none (by simp;omega),List.getElem?_eq_none h4]
 ·rename_i h2
  rw [if_neg (by omega)]
theorem StOk.snoc {n room:Nat} {cs:List (Option Rec)} {r:Rec} (h:StOk n room cs []) (hr:r.Wf) (hc:cntC cs<room):StOk n room (cs++[some r]) []:=by
 have h1:=h.cnt
 simp at h1
 refine ⟨h.n16,h.room20,by simp;omega,by rw [cntC_snoc];simp;omega,fun i r' hi=>?_⟩
 rcases Nat.lt_trichotomy i cs.length with h2|h2|h2
 ·rw [List.getElem?_append_left h2] at hi;exact h.wf i r' hi
 ·subst h2;simp at hi;subst hi;exact hr
 ·rw [List.getElem?_eq_none (by simp;omega)] at hi;cases hi
theorem IdxAt.nodup {w:World} {F:List Nat} {g k:Nat} {m:Rec→Option Nat} (h:IdxAt w F g m k):F.Nodup:=by
 obtain ⟨sl,⟨A,q,c',_,_,_,rfl,hnd⟩,_⟩:=h
 exact hnd
theorem turns_of_below {A:World→List Nat→Prop} {F:List Nat} {w w':World} (h:A w' F) (hb:Below w.heap.size w w'):Turns A F w w':=⟨⟨F,h,fun _ hk=> .inl hk⟩,chg_of_below hb⟩
theorem idOf_le {cs:List (Option Rec)} {r:Rec} {id:Nat} (h:idOf cs r=some id):2≤id∧id≤cs.length+1:=by
 unfold idOf at h
 split at h
 ·rename_i hm
  injection h with h
  have:=List.idxOf_lt_length_of_mem hm
  omega
 ·cases h
def Unf (cs:List (Option Rec)) (f:Int):Edg→Dg→Prop
 | e,.nil=>e=⟨0,0⟩
 | e,.one t=>e=⟨t,1⟩
 | e,.node tag top bot lo hi=>e.tag=tag∧∃r,recAt cs e.pos=some r∧r.form=f∧r.top=top∧r.bot=bot∧Unf cs f r.lo lo∧Unf cs f r.hi hi
def Uniq (cs:List (Option Rec)):Prop:=∀i j r,recAt cs i=some r→recAt cs j=some r→i=j
def Ext (cs cs':List (Option Rec)):Prop:=∀id r,recAt cs id=some r→recAt cs' id=some r
theorem Ext.refl (cs:List (Option Rec)):Ext cs cs:=fun _ _ h=>h
theorem Ext.trans {a b c:List (Option Rec)} (h:Ext a b) (k:Ext b c):Ext a c:=fun id r x=>k id r (h id r x)
section
variable {cs cs':List (Option Rec)} {f n l:Int} {e e':Edg} {T T':Dg}
theorem Unf.ext (h:Ext cs cs'):∀{T:Dg} {e:Edg},Unf cs f e T→Unf cs' f e T
 | .nil,e,k=>k
 | .one t,e,k=>k
 | .node tag top bot lo hi,e,k=>by
  obtain ⟨h1,r,h2,h3,h4,h5,h6,h7⟩:=k
  exact ⟨h1,r,h _ _ h2,h3,h4,h5,h6.ext h,h7.ext h⟩
theorem unf_fun:∀{T T':Dg} {e:Edg},Unf cs f e T→Unf cs f e T'→T=T'
 | .nil,T',e,h,k=>by
  obtain rfl:e=⟨0,0⟩:=h
  cases T' with
  | nil=>rfl
  | one t=>injection (show (⟨0,0⟩:Edg)=⟨t,1⟩ from k) with _ h1;omega
  | node tag top bot lo hi=>
   obtain ⟨_,r,h2,_⟩:=k
   have:=(recAt_some h2).1
   simp only at this
   omega
 | .one t,T',e,h,k=>by
  obtain rfl:e=⟨t,1⟩:=h
  cases T' with
  | nil=>injection (show (⟨t,1⟩:Edg)=⟨0,0⟩ from k) with _ h1;omega
  | one t'=>injection (show (⟨t,1⟩:Edg)=⟨t',1⟩ from k) with h1 _;rw [h1]
  | node tag top bot lo hi=>
   obtain ⟨_,r,h2,_⟩:=k
   have:=(recAt_some h2).1
   simp only at this
   omega
 | .node tag top bot lo hi,T',e,h,k=>by
  obtain ⟨h1,r,h2,h3,h4,h5,h6,h7⟩:=h
  have hp:=(recAt_some h2).1
  cases T' with
  | nil=>rw [show e=⟨0,0⟩ from k] at hp;simp only at hp;omega
  | one t'=>rw [show e=⟨t',1⟩ from k] at hp;simp only at hp;omega
  | node tag' top' bot' lo' hi'=>
   obtain ⟨k1,r',k2,k3,k4,k5,k6,k7⟩:=k
   rw [h2] at k2
   injection k2 with k2
   subst k2
   rw [← h1,←k1,←h4,←k4,←h5,←k5,unf_fun h6 k6,unf_fun h7 k7]
theorem unf_inj (hu:Uniq cs):∀{T:Dg} {e e':Edg},Unf cs f e T→Unf cs f e' T→e=e'
 | .nil,e,e',h,k=>h.trans k.symm
 | .one t,e,e',h,k=>h.trans k.symm
 | .node tag top bot lo hi,e,e',h,k=>by
  obtain ⟨h1,r,h2,h3,h4,h5,h6,h7⟩:=h
  obtain ⟨k1,r',k2,k3,k4,k5,k6,k7⟩:=k
  have e1:=unf_inj hu h6 k6
  have e2:=unf_inj hu h7 k7
  have er:r=r':=by
   obtain ⟨a1,a2,a3,a4,a5⟩:=r
   obtain ⟨b1,b2,b3,b4,b5⟩:=r'
   simp only at h3 h4 h5 k3 k4 k5 e1 e2
   subst h3 h4 h5 k3 k4 k5 e1 e2
   rfl
  subst er
  have e3:=hu _ _ _ h2 k2
  obtain ⟨t1,p1⟩:=e
  obtain ⟨t2,p2⟩:=e'
  simp only at h1 k1 e3
  subst h1 k1 e3
  rfl
theorem unf_nil (h:Unf cs f e T):e.pos=0↔T = .nil:=by
 cases T with
 | nil=>rw [show e=⟨0,0⟩ from h];simp
 | one t=>rw [show e=⟨t,1⟩ from h];simp
 | node tag top bot lo hi=>
  obtain ⟨_,r,h2,_⟩:=h
  have:=(recAt_some h2).1
  simp
  omega
theorem unf_tag (h:Unf cs f e T):e.tag=T.tag:=by
 cases T with
 | nil=>rw [show e=⟨0,0⟩ from h];rfl
 | one t=>rw [show e=⟨t,1⟩ from h];rfl
 | node tag top bot lo hi=>exact h.1
theorem unf_pos (h:Unf cs f e T):0≤e.pos:=by
 cases T with
 | nil=>rw [show e=⟨0,0⟩ from h];simp
 | one t=>rw [show e=⟨t,1⟩ from h];simp
 | node tag top bot lo hi=>
  obtain ⟨_,r,h2,_⟩:=h
  have:=(recAt_some h2).1
  omega
theorem unf_rec_none (h:Unf cs f e T) (hr:recAt cs e.pos=none):T = .nil∨∃t,T = .one t:=by
 cases T with
 | nil=>exact .inl rfl
 | one t=>exact .inr ⟨t,rfl⟩
 | node tag top bot lo hi=>
  obtain ⟨_,r,h2,_⟩:=h
  rw [hr] at h2;cases h2
theorem unf_rec_some {r:Rec} (h:Unf cs f e T) (hr:recAt cs e.pos=some r):∃lo hi,T = .node e.tag r.top r.bot lo hi∧r.form=f∧Unf cs f r.lo lo∧Unf cs f r.hi hi:=by
 cases T with
 | nil=>
  rw [show e=⟨0,0⟩ from h] at hr
  have:=(recAt_some hr).1
  simp only at this
  omega
 | one t=>
  rw [show e=⟨t,1⟩ from h] at hr
  have:=(recAt_some hr).1
  simp only at this
  omega
 | node tag top bot lo hi=>
  obtain ⟨h1,r',h2,h3,h4,h5,h6,h7⟩:=h
  rw [hr] at h2
  injection h2 with h2
  subst h2
  exact ⟨lo,hi,by rw [h1,h4,h5],h3,h6,h7⟩
theorem unf_retag {t:Int} (h:Unf cs f e T) (hn:T≠ .nil):Unf cs f ⟨t,e.pos⟩ (T.retag t):=by
 cases T with
 | nil=>exact absurd rfl hn
 | one t'=>rw [show e=⟨t',1⟩ from h];rfl
 | node tag top bot lo hi=>
  obtain ⟨h1,h2⟩:=h
  exact ⟨rfl,h2⟩
theorem leads_of (hn:0≤n∧n≤16) (hf:1≤f∧f≤5) (hl:0≤l∧l≤n) (h:Unf cs f e T) (hF:Ft f l T) (hG:Gd f n T):leads cs n f e l=true:=by
 have hb:decide (1≤f∧f≤5∧0≤n∧n≤16∧0≤l∧l≤n)=true:=by simp;omega
 unfold leads plain
 rw [hb,Bool.true_and]
 cases T with
 | nil=>rw [show e=⟨0,0⟩ from h];simp
 | one t=>
  rw [show e=⟨t,1⟩ from h]
  have h1:=hF
  unfold Ft at h1
  unfold Gd at hG
  by_cases h5:f=5
  ·rw [if_pos h5] at hG
   have:=h1 h5
   rw [if_neg (by simp [h5])]
   simp
   omega
  ·rw [if_neg h5] at hG
   rw [if_pos (.inl h5)]
   simp [hG]
 | node tag top bot lo hi=>
  obtain ⟨h1,r,h2,h3,h4,h5,h6,h7⟩:=h
  obtain ⟨⟨g1,g2,g3,g4⟩,g5,g6,g7,g8⟩:=hG
  obtain ⟨f1,f2⟩:=hF
  have hp:=(recAt_some h2).1
  rw [h2,h1]
  have hrr:decide (r.form=f∧l≤r.top∧tag≤r.top)=true:=by
   rw [decide_eq_true_eq,h4]
   refine ⟨h3,f1,?_⟩
   split at g5<;>omega
  simp only [hrr,Bool.or_true,Bool.and_true]
  by_cases h5:f=5
  ·rw [if_pos h5] at g5
   have:=f2 h5
   rw [if_neg (by omega)]
   simp
   omega
  ·rw [if_neg h5] at g5
   rw [if_pos (.inl h5)]
   simp [g5]
theorem plain_of_leads (h:leads cs n f e l=true):plain f e l n=true:=by
 unfold leads at h
 rw [Bool.and_eq_true] at h
 exact h.1
theorem right_of {top bot:Int} {lo hi:Edg} {a b:Dg} (hn:0≤n∧n≤16) (hf:1≤f∧f≤5) (ht:0≤top∧top≤bot∧bot<n∧(top=bot∨f=3∨f=4)) (h1:Unf cs f lo a) (h2:Unf cs f hi b)
  (ha:Ft f (bot+1) a∧Gd f n a) (hb:Ft f (bot+1) b∧Gd f n b) (hc:if f=2∨f=4 then b≠ .nil else a≠b):right ⟨f,top,bot,lo,hi⟩ n=true:=by
 have p1:=plain_of_leads (leads_of hn hf ⟨by omega,by omega⟩ h1 ha.1 ha.2)
 have p2:=plain_of_leads (leads_of hn hf ⟨by omega,by omega⟩ h2 hb.1 hb.2)
 unfold right
 simp only [p1,p2,Bool.and_true]
 rw [Bool.and_eq_true]
 refine ⟨by simp;omega,?_⟩
 split at hc
 ·rename_i h5
  rw [if_pos h5]
  simp only [decide_eq_true_eq]
  rw [Ne,unf_nil h2]
  exact hc
 ·rename_i h5
  rw [if_neg h5]
  simp only [decide_eq_true_eq]
  rintro rfl
  exact hc (unf_fun h1 h2)
theorem unf_wf (hn:n≤16) (hw:∀id r,recAt cs id=some r→id≤4294967295) (h:Unf cs f e T) (hG:Gd f n T):e.Wf:=by
 have h0:=unf_pos h
 have ht:=unf_tag h
 have hp:e.pos≤4294967295:=by
  cases hr:recAt cs e.pos with
  | none=>
   rcases unf_rec_none h hr with rfl|⟨t,rfl⟩
   ·rw [show e=⟨0,0⟩ from h];simp
   ·rw [show e=⟨t,1⟩ from h];simp
  | some r=>exact hw _ _ hr
 refine ⟨?_,?_,h0,hp⟩
 ·rw [ht]
  cases T with
  | nil=>simp [Dg.tag]
  | one t=>simp only [Dg.tag];unfold Gd at hG;split at hG<;>omega
  | node tag top bot lo hi=>simp only [Dg.tag];have:=hG.2.1;split at this<;>omega
 ·rw [ht]
  cases T with
  | nil=>simp [Dg.tag]
  | one t=>simp only [Dg.tag];unfold Gd at hG;split at hG<;>omega
  | node tag top bot lo hi=>simp only [Dg.tag];have h1:=hG.2.1;have h2:=hG.1;split at h1<;>omega
end
def FreeOk (cs:List (Option Rec)) (free:List Int):Prop:=free.Nodup∧∀id∈free,2≤id∧cs[(id-2).toNat]? =some none
theorem uniq_of {cs:List (Option Rec)} {m:Rec→Option Nat} (h:∀(r:Rec) (id:Nat),m r=some id↔recAt cs id=some r):Uniq cs:=fun i j r h1 h2=>by
 have i2:=(recAt_some h1).1
 have j2:=(recAt_some h2).1
 have e1:=(h r i.toNat).2 (by rw [Int.toNat_of_nonneg (by omega)];exact h1)
 have e2:=(h r j.toNat).2 (by rw [Int.toNat_of_nonneg (by omega)];exact h2)
 rw [e1] at e2
 injection e2 with e2
 omega
theorem recAt_set {cs:List (Option Rec)} {i:Int} (r:Option Rec) (hi:2≤i) (hl:(i-2).toNat<cs.length) (id:Int):recAt (cs.set (i-2).toNat r) id=if id=i then r else recAt cs id:=by
 unfold recAt
 by_cases h2:2≤id
 ·rw [if_pos h2,if_pos h2]
  split
  ·rename_i e;subst e
   rw [List.getElem?_set_self hl];rfl
  ·rename_i e
   rw [List.getElem?_set_ne (by omega)]
 ·rw [if_neg h2,if_neg h2,if_neg (by omega)]
theorem cntC_set {cs:List (Option Rec)} {k:Nat} (r:Rec) (hl:cs[k]? =some none):cntC (cs.set k (some r))=cntC cs+1:=by
 obtain ⟨hk,he⟩:=List.getElem?_eq_some_iff.1 hl
 unfold cntC
 rw [List.set_eq_take_append_cons_drop,if_pos hk,List.countP_append,List.countP_cons]
 have h2:cs=cs.take k++cs[k]::cs.drop (k+1):=by rw [List.getElem_cons_drop,List.take_append_drop]
 have h3:cs.countP Option.isSome=(cs.take k).countP Option.isSome+(cs.drop (k+1)).countP Option.isSome:=by
  conv=>lhs;rw [h2]
  rw [List.countP_append,List.countP_cons,he]
  simp
 rw [h3]
 simp
 omega
theorem FreeOk.snoc {cs:List (Option Rec)} (r:Rec):FreeOk (cs++[some r]) []:=⟨.nil,fun _ h=>by cases h⟩
theorem FreeOk.set_ {cs:List (Option Rec)} {free:List Int} {id:Int} (h:FreeOk cs (free++[id])) (r:Rec):FreeOk (cs.set (id-2).toNat (some r)) free:=by
 obtain ⟨h1,h2⟩:=h
 rw [List.nodup_append] at h1
 refine ⟨h1.1,fun i hi=>?_⟩
 have e1:=h2 i (by simp [hi])
 have e2:=h2 id (by simp)
 refine ⟨e1.1,?_⟩
 rw [List.getElem?_set_ne]
 ·exact e1.2
 ·have:=h1.2.2 i hi id (by simp)
  omega
theorem OwnF.init_ {α:Type} {f:α→Value} {E:TypeId} {w:World} {base n c:Nat} {A:Option Addr} {xs:List α} {x:α} (h:OwnF f E w base (.slice A (n+1) c) (xs++[x])):OwnF f E w base (.slice A n c) xs:=by
 rcases h with ⟨hl,⟨hv,h0⟩|⟨g,cap,cur,hv,hg,hh,hc,hm,hsz,ht⟩⟩
 ·cases hv
 ·injection hv with h1 h2 h3
  subst h1 h3
  have hn:n=xs.length:=by simp at h2;omega
  subst hn
  refine ⟨by simp,.inr ⟨g,c,cur,rfl,hg,hh,by simp at hc;omega,hm,hsz,?_⟩⟩
  simp only [List.length_append,List.length_cons,List.length_nil,Nat.mul_one,List.map_append,List.map_cons,List.map_nil] at ht
  have:=congrArg (List.take xs.length) ht
  rw [List.take_take,Nat.min_eq_left (by omega)] at this
  rw [Nat.mul_one,this]
  simp
theorem OwnF.setCells_far {α:Type} {f:α→Value} {E:TypeId} {w:World} {base:Nat} {v:Value} {xs:List α} (h:OwnF f E w base v xs) {b:Nat} (o:Nat) (vs:List Value) (hb:b∉blk v):OwnF f E (w.setCells b o vs) base v xs:=
 h.chg (F:=[b]) (((Chg.refl [b] w)).setCells (.inl (by simp)) _ _) (fun k hk hm=>hb (by simp at hm;rw [← hm];exact hk))
set_option maxRecDepth 100000 in
set_option maxHeartbeats 4000000 in
theorem arenaPut_old (F:List Nat) (g:Nat) (cs:List (Option Rec)) (free:List Int) (id:Int) (room:Nat) (r:Rec) (w:World) (h:ArenaAt w F g cs (free++[id]) room) (hfull:cntC cs<room) (hroom:room≤1048576) (hlen:cs.length≤1048576) (hfr:FreeOk cs (free++[id])) :
  Calls Tryz.prog 131 #[.pointer (some ⟨g,0,none⟩),.agg r.cells.toArray] w fun e w'=>e = .returned (.tuple #[.int .u32 id,.bool true])∧Turns (fun W X=>ArenaAt W X g (cs.set (id-2).toNat (some r)) free room) F w w':=by
 have hltF:=h.lt
 obtain ⟨hid,hget⟩:=hfr.2 id (by simp)
 obtain ⟨i,rfl⟩:∃i:Nat,id=(i:Int)+2:=⟨(id-2).toNat,by omega⟩
 rw [show ((i:Int)+2-2).toNat=i by omega] at hget ⊢
 have HGET:=Lib.hid hget
 have hil:=(List.getElem?_eq_some_iff.1 hget).1
 obtain ⟨A,n,c,A',n',c',hB,hS,hF,hn,hn',rfl,hnd⟩:=h
 have hlt:=hB.lt
 have hc0:w.cell? ⟨g,0,none⟩=some (.slice A n c):=hB.cell 0
 have hc1:w.cell? ⟨g,1,none⟩=some (.slice A' n' c'):=hB.cell 1
 have hc2:w.cell? ⟨g,2,none⟩=some (.int .i64 (cntC cs:Nat)):=hB.cell 2
 have hc3:w.cell? ⟨g,3,none⟩=some (.int .i64 (room:Nat)):=hB.cell 3
 have hfz:∀k,w.frozen? ⟨g,k,none⟩=false:=fun k=>hB.frozen k
 have hne:¬g=w.heap.size:=by omega
 have hfi:(cntC cs:Nat)<(room:Int):=by omega
 have hdd:decide ((room:Int)≤(cntC cs:Nat))=false:=by simp;omega
 obtain ⟨k,rfl⟩:∃k,n'=k+1:=⟨free.length,by simpa using hn'.symm⟩
 have hk:free.length=k:=by simpa using hn'
 obtain ⟨b2,c2,hv2,_,hbl2,hcl2⟩:=OwnF.head hF (by simp)
 injection hv2 with e1 e2 e3
 subst e1 e3
 obtain ⟨b1,c1,hv1,_,hbl1,hcl1⟩:=OwnS.head hS (by omega)
 injection hv1 with e4 e5 e6
 subst e4 e6
 have hfree:w.cell? ⟨b2,k,none⟩=some (.int .u32 ((i:Int)+2)):=by
  have:=(OwnF.at_ hF k (by simp;omega)).1
  rw [this,←hk]
  simp
 have hkc:(k:Int)≤(c':Int):=by simp at hcl2;omega
 have HIL:=Lib.hid hil
 have hb12:b1≠b2:=by
  rintro rfl
  simp [blk,Value.ownBlock] at hnd
 have hg1:g≠b1:=by rintro rfl;simp [blk,Value.ownBlock] at hnd
 have hg2:g≠b2:=by rintro rfl;simp [blk,Value.ownBlock] at hnd
 have HB12:=Lib.hid hb12
 have HB:=Lib.hid hB
 have HS:=Lib.hid hS
 have HF:=Lib.hid hF
 have HND:=Lib.hid hnd
 have HLT:=Lib.hid hltF
 have HN:=Lib.hid hn
 obtain ⟨f,t,b,⟨lt,lp⟩,⟨ht,hp⟩⟩:=r
 simp only [Rec.cells]
 have HK:=Lib.hid hk
 have hk63:(k:Int)≤9223372036854775806:=by have:=OwnF.len_le HF.out;simp at this;omega
 clear hn hn' hB hS hF hnd hltF hfr hget e2 e5 hk
 go_enter Tryz.func131,Tryz.ntmps131
 go_wp2_with fail
 go_quiet (fail)
 go_wp2_with fail
 refine wp_gen (fun W=>Chg [g] w W∧Blk W g 125 #[.slice (some ⟨b1,0,none⟩) n c,.slice (some ⟨b2,0,none⟩) k c',.int .i64 (cntC cs+1),.int .i64 (room:Nat)]∧W.heap.size=w.heap.size+2∧
  Blk W (w.heap.size+1) 185 #[.int .u8 f,.int .u8 t,.int .u8 b,.int .u8 lt,.int .u32 lp,.int .u8 ht,.int .u32 hp,.bool true,.int .i64 0]) ⟨?_,?_,?_,?_⟩ ?_
 ·exact (((((Chg.refl _ _).alloc _).drewN _).setCell (.inl (by simp)) _).setCell (.inl (by simp)) _).alloc _
 ·exact (((HB.out.alloc _).set_ 2 _).set_ 1 _).alloc _
 ·simp
 ·exact Blk.new_at (by simp) _ _
 rintro W ⟨hch,hBW,hsz,hC⟩
 have hSW:=HS.out.chg hch (fun k hk hm=>by simp at hm;subst hm;exact (List.nodup_cons.1 HND.out).1 (by simp [hk]))
 have hFW:=HF.out.chg hch (fun k hk hm=>by simp at hm;subst hm;exact (List.nodup_cons.1 HND.out).1 (by simp [hk]))
 have hat:=OwnS.at_ cellEnc_len hSW _ _ HGET.out
 have hth:=hat.2
 have HTH:=Lib.hid hth
 have c0:=hC.cell 0
 have c1:=hC.cell 1
 have c2:=hC.cell 2
 have c3:=hC.cell 3
 have c4:=hC.cell 4
 have c5:=hC.cell 5
 have c6:=hC.cell 6
 have c7:=hC.cell 7
 have c8:=hC.cell 8
 have hcg:W.cell? ⟨g,0,none⟩=some (.slice (some ⟨b1,0,none⟩) n c):=hBW.cell 0
 have HBW:=Lib.hid hBW
 have HSW:=Lib.hid hSW
 have HFW:=Lib.hid hFW
 have HCH:=Lib.hid hch
 have hin:(i:Int)<(n:Int):=by rw [← HN.out];omega
 have hiw:IntKind.u32.wrap (i:Int)=(i:Int):=by rw [IntKind.wrap_u32];omega
 clear hat hth hC hBW hSW hFW hch hsz hne hfi hdd hc0 hc1 hc2 hc3 hfz hlt hfull hfree hb12 hbl1 hbl2 hcl1 hcl2
 go_still_tail 8,(by kernel_rfl)
 refine wpList_store_mid ?_ 185 (.tmp 62) (.tmp 61) ?_ b1 (i*9) #[.int .u8 f,.int .u8 t,.int .u8 b,.int .u8 lt,.int .u32 lp,.int .u8 ht,.int .u32 hp,.bool true,.int .i64 0] ?_ ?_ HTH.out (by kernel_rfl) (all_oneCell_toArray (cellEnc_one (some ⟨f,t,b,⟨lt,lp⟩,⟨ht,hp⟩⟩))) ?_
 ·rfl
 ·rfl
 ·simp [Act.eval]
 ·simp [Act.eval]
 refine wpL_gen (fun W2=>Chg (g::(blk (.slice (some ⟨b1,0,none⟩) n c)++blk (.slice (some ⟨b2,0,none⟩) (k+1) c'))) w W2∧ArenaAt W2 (g::(blk (.slice (some ⟨b1,0,none⟩) n c)++blk (.slice (some ⟨b2,0,none⟩) (k+1) c'))) g (cs.set i (some ⟨f,t,b,⟨lt,lp⟩,⟨ht,hp⟩⟩)) free room) ⟨?_,?_⟩ ?_
 ·exact ((HCH.out.mono (G:=g::(blk (.slice (some ⟨b1,0,none⟩) n c)++blk (.slice (some ⟨b2,0,none⟩) (k+1) c'))) (fun x hx=> .inl (by simp at hx;simp [hx]))).drew).setCells (.inl (by simp [blk,Value.ownBlock])) _ _
 ·have hF2:OwnF (Value.int .u32) 46 W.drew 0 (.slice (some ⟨b2,0,none⟩) k c') free:=OwnF.init_ HFW.out.drew
  have hF3:=OwnF.setCells_far (b:=b1) hF2 (i*9) [.int .u8 f,.int .u8 t,.int .u8 b,.int .u8 lt,.int .u32 lp,.int .u8 ht,.int .u32 hp,.bool true,.int .i64 0] (fun h=>HB12.out (by simpa [mem_blk,Value.ownBlock,eq_comm] using h))
  have HF3:=Lib.hid hF3
  have hO:=OwnS.set_ cellEnc_len (HSW.out.drew) i HIL.out (some ⟨f,t,b,⟨lt,lp⟩,⟨ht,hp⟩⟩)
  refine ⟨some ⟨b1,0,none⟩,n,c,some ⟨b2,0,none⟩,k,c',?_,hO,?_,by rw [List.length_set];exact HN.out,HK.out,?_,HND.out⟩
  ·rw [cntC_set _ HGET.out]
   exact (setCells_other hg1 _ _ _).trans HBW.out
  ·exact HF3.out
  ·simp [blk,Value.ownBlock]
 rintro W2 ⟨hch2,hA2⟩
 have HE:=Lib.hid (And.intro hch2 hA2)
 clear hch2 hA2
 go_wp2_with fail
 go_ret2
 exact ⟨rfl,⟨_,HE.out.2,fun _ hk=> .inl hk⟩,HE.out.1⟩
def putC (cs:List (Option Rec)) (free:List Int) (r:Rec):Nat×List (Option Rec)×List Int:=
 match free.getLast? with
 | none=>(cs.length+2,cs++[some r],[])
 | some id=>(id.toNat,cs.set (id-2).toNat (some r),free.dropLast)
theorem putC_nil (cs:List (Option Rec)) (r:Rec):putC cs [] r=(cs.length+2,cs++[some r],[]):=rfl
theorem putC_snoc (cs:List (Option Rec)) (l:List Int) (id:Int) (r:Rec):putC cs (l++[id]) r=(id.toNat,cs.set (id-2).toNat (some r),l):=by
 unfold putC
 simp
theorem free_cases (free:List Int):free=[]∨∃l id,free=l++[id]:=by
 rcases List.eq_nil_or_concat free with h|⟨l,a,h⟩
 ·exact .inl h
 ·exact .inr ⟨l,a,by simpa using h⟩
structure PutOk (n room:Nat) (cs:List (Option Rec)) (free:List Int) (r:Rec) (x:Nat×List (Option Rec)×List Int):Prop where
 at_:∀id:Int,recAt x.2.1 id=if id=x.1 then some r else recAt cs id
 new:recAt cs x.1=none
 free:FreeOk x.2.1 x.2.2
 cnt:cntC x.2.1=cntC cs+1
 ok:StOk n room x.2.1 x.2.2
 two:2≤x.1
 big:x.1≤1048577
theorem putC_ok {n room:Nat} {cs:List (Option Rec)} {free:List Int} {r:Rec} (h:StOk n room cs free) (hf:FreeOk cs free) (hr:r.Wf) (hc:cntC cs<room):PutOk n room cs free r (putC cs free r):=by
 have h0:=h.len
 have h1:=h.room20
 rcases free_cases free with rfl|⟨l,id,rfl⟩
 ·rw [putC_nil]
  have hl:cs.length<room:=by have:=h.cnt;simp at this;omega
  refine ⟨fun id=>?_,?_,FreeOk.snoc r,cntC_snoc cs r,h.snoc hr hc,by simp,by simp only;omega⟩
  ·by_cases h2:2≤id
   ·obtain ⟨k,rfl⟩:∃k:Nat,id=k:=⟨id.toNat,by omega⟩
    rw [recAt_snoc]
    by_cases h3:k=cs.length+2
    ·rw [if_pos h3,if_pos (by omega)]
    ·rw [if_neg h3,if_neg (by simp only;omega)]
   ·rw [if_neg (by simp only;omega)]
    unfold recAt
    rw [if_neg h2,if_neg h2]
  ·unfold recAt
   rw [if_pos (by omega),List.getElem?_eq_none (by simp only;omega)]
   rfl
 ·obtain ⟨h2,h3⟩:=hf.2 id (by simp)
  have hl:=(List.getElem?_eq_some_iff.1 h3).1
  rw [putC_snoc]
  have he:((id.toNat:Nat):Int)=id:=by omega
  refine ⟨fun i=>?_,?_,hf.set_ r,?_,?_,by simp only;omega,by simp only;omega⟩
  ·simp only [he]
   exact recAt_set _ h2 hl i
  ·simp only [he]
   unfold recAt
   rw [if_pos h2,h3]
   rfl
  ·exact cntC_set r h3
  ·refine ⟨h.n16,h1,by rw [List.length_set];exact h0,?_,fun i r' hi=>?_⟩
   ·rw [cntC_set r h3,List.length_set]
    have:=h.cnt
    simp at this
    simp only
    omega
   ·rw [List.getElem?_set] at hi
    split at hi
    ·injection hi with hi;injection hi with hi;rw [← hi];exact hr
    ·exact h.wf i r' hi
theorem PutOk.ext {n room:Nat} {cs:List (Option Rec)} {free:List Int} {r:Rec} {x:Nat×List (Option Rec)×List Int} (h:PutOk n room cs free r x):Ext cs x.2.1:=fun id r' hr=>by
 rw [h.at_]
 split
 ·rename_i e;subst e
  rw [h.new] at hr
  cases hr
 ·exact hr
theorem PutOk.upd_ {n room:Nat} {cs:List (Option Rec)} {free:List Int} {m:Rec→Option Nat} {r:Rec} {x:Nat×List (Option Rec)×List Int} (h:PutOk n room cs free r x) (hm:∀(r:Rec) (id:Nat),m r=some id↔recAt cs id=some r) (hn:m r=none) (r':Rec) (id:Nat) :
  upd m r x.1 r'=some id↔recAt x.2.1 id=some r':=by
 rw [h.at_]
 unfold upd
 split
 ·rename_i e
  subst e
  constructor
  ·intro h2;injection h2 with h2;rw [if_pos (by omega)]
  ·intro h2
   split at h2
   ·rename_i h3;congr 1;omega
   ·rw [← hm,hn] at h2;cases h2
 ·rename_i e
  split
  ·rename_i h3
   constructor
   ·intro h4
    exfalso
    have h5:=(hm r' id).1 h4
    rw [h3,h.new] at h5
    cases h5
   ·intro h4;injection h4 with h4;exact absurd h4.symm e
  ·exact hm r' id
theorem arenaPut_any (F:List Nat) (g n:Nat) (cs:List (Option Rec)) (free:List Int) (room:Nat) (r:Rec) (w:World) (h:ArenaAt w F g cs free room) (hfull:cntC cs<room) (hok:StOk n room cs free) (hfr:FreeOk cs free) :
  Calls Tryz.prog 131 #[.pointer (some ⟨g,0,none⟩),.agg r.cells.toArray] w fun e w'=>e = .returned (.tuple #[.int .u32 ((putC cs free r).1:Nat),.bool true])∧Turns (fun W X=>ArenaAt W X g (putC cs free r).2.1 (putC cs free r).2.2 room) F w w':=by
 have h0:=hok.len
 have h1:=hok.room20
 rcases free_cases free with rfl|⟨l,id,rfl⟩
 ·rw [putC_nil]
  exact arenaPut_new F g cs room r w h hfull h1 (by omega)
 ·rw [putC_snoc]
  have h2:=(hfr.2 id (by simp)).1
  rw [show ((id.toNat:Nat):Int)=id by omega]
  exact arenaPut_old F g cs l id room r w h hfull h1 (by omega) hfr
theorem store_put_endF {w w9 w10 w11:World} {g ga gi n room:Nat} {Fa Fi:List Nat} {m:Rec→Option Nat} {cs:List (Option Rec)} {free:List Int} {r:Rec} {x:Nat×List (Option Rec)×List Int} (hb:Below w.heap.size w w9) (hF:∀k∈g::(Fa++Fi),k<w.heap.size)
  (hB:Blk w9 g 84 #[.int .i64 (n:Nat),.pointer (some ⟨ga,0,none⟩),.pointer (some ⟨gi,0,none⟩)]) (hnd:(g::(Fa++Fi)).Nodup) (hp:PutOk n room cs free r x)
  (hm:∀(r:Rec) (id:Nat),m r=some id↔recAt cs id=some r) (hn:m r=none)
  (hA:Turns (fun W X=>ArenaAt W X ga x.2.1 x.2.2 room) Fa w9 w10) (hI:Turns (fun W X=>IdxAt W X gi (upd m r x.1) (cntC cs+1)) Fi w10.drew w11) :
  Turns (fun W X=>StoreAt W X g n room x.2.1 x.2.2) (g::(Fa++Fi)) w w11:=by
 obtain ⟨⟨Fa',hA',hFa'⟩,hcA⟩:=hA
 obtain ⟨⟨Fi',hI',hFi'⟩,hcI0⟩:=hI
 have hcI:Chg Fi w10 w11:=⟨hcI0.os,hcI0.tape,hcI0.output,hcI0.size,hcI0.block⟩
 have hFi':∀k∈Fi',k∈Fi∨w10.heap.size≤k:=hFi'
 have hs9:=hb.size
 have hs10:=hcA.size
 have hAlt:=hA'.lt
 rw [List.nodup_cons,List.nodup_append] at hnd
 obtain ⟨n1,n2,n3,n4⟩:=hnd
 have hga:g∉Fa:=fun h=>n1 (by simp [h])
 have hgi:g∉Fi:=fun h=>n1 (by simp [h])
 have hg:=hF g (by simp)
 have hdis:∀x∈Fa',∀y∈Fi',x≠y:=fun x hx y hy=>by
  rintro rfl
  rcases hFi' x hy with h|h
  ·rcases hFa' x hx with h2|h2
   ·exact n4 x h2 x h rfl
   ·have:=hF x (by simp [h]);omega
  ·have:=hAlt x hx;omega
 have hdis2:∀x∈Fa',¬x∈Fi:=fun x hx h=>by
  rcases hFa' x hx with h2|h2
  ·exact n4 x h2 x h rfl
  ·have:=hF x (by simp [h]);omega
 refine ⟨⟨g::(Fa'++Fi'),⟨ga,gi,Fa',Fi',upd m r x.1,(hB.chg hcA hga).chg hcI hgi,hA'.chg hcI hdis2,?_,fun r' id=>hp.upd_ hm hn r' id,rfl,?_,hp.ok⟩,?_⟩,?_⟩
 ·rw [hp.cnt];exact hI'
 ·rw [List.nodup_cons,List.nodup_append]
  refine ⟨fun hx=>?_,hA'.nodup,hI'.nodup,hdis⟩
  rcases List.mem_append.1 hx with h|h
  ·rcases hFa' g h with h2|h2
   ·exact hga h2
   ·omega
  ·rcases hFi' g h with h2|h2
   ·exact hgi h2
   ·omega
 ·intro k hk
  rcases List.mem_cons.1 hk with rfl|hk
  ·exact .inl (by simp)
  ·rcases List.mem_append.1 hk with h|h
   ·rcases hFa' k h with h2|h2
    ·exact .inl (by simp [h2])
    ·right;omega
   ·rcases hFi' k h with h2|h2
    ·exact .inl (by simp [h2])
    ·right;omega
 ·exact ((chg_of_below hb).trans hcA (fun x hx=> .inl (by simp [hx]))).trans hcI (fun x hx=> .inl (by simp [hx]))
theorem idOf_rec {cs:List (Option Rec)} {r:Rec} {id:Nat} (h:idOf cs r=some id):recAt cs id=some r∧id≤cs.length+1:=by
 have hb:=idOf_le h
 unfold idOf at h
 split at h
 ·rename_i hm
  injection h with h
  subst h
  refine ⟨?_,hb.2⟩
  have hi:=List.idxOf_lt_length_of_mem hm
  unfold recAt
  rw [if_pos (by omega),show ((cs.idxOf (some r)+2:Nat):Int)-2=((cs.idxOf (some r):Nat):Int) by omega,Int.toNat_natCast,List.getElem?_eq_getElem hi,List.getElem_idxOf]
  rfl
 ·cases h
structure Grow (k:Nat) (cs:List (Option Rec)) (cs':List (Option Rec)) (free':List Int):Prop where
 ext:Ext cs cs'
 free:FreeOk cs' free'
 cnt:cntC cs'≤cntC cs+k
theorem Grow.refl {cs:List (Option Rec)} {free:List Int} (h:FreeOk cs free) (k:Nat):Grow k cs cs free:=⟨Ext.refl _,h,by omega⟩
theorem Grow.trans {a b c:List (Option Rec)} {f2 f3:List Int} {i j k:Nat} (h:Grow i a b f2) (h2:Grow j b c f3) (hk:i+j≤k):Grow k a c f3:=⟨h.ext.trans h2.ext,h2.free,by have:=h.cnt;have:=h2.cnt;omega⟩
theorem Grow.mono {a b:List (Option Rec)} {f2:List Int} {i k:Nat} (h:Grow i a b f2) (hk:i≤k):Grow k a b f2:=⟨h.ext,h.free,by have:=h.cnt;omega⟩
def FindOut (w:World) (F:List Nat) (g n room:Nat) (cs:List (Option Rec)) (free:List Int) (r:Rec) (e:Ending) (w':World):Prop:=
 (∃ (id:Nat) (cs':List (Option Rec)) (free':List Int),e = .returned (.tuple #[.int .u32 (id:Nat),.int .u8 0])∧id≤1048577∧recAt cs' id=some r∧Grow 1 cs cs' free'∧Turns (fun W X=>StoreAt W X g n room cs' free') F w w')∨
 (e = .returned (.tuple #[.int .u32 0,.int .u8 6])∧room≤cntC cs∧Turns (fun W X=>StoreAt W X g n room cs free) F w w')
end
end Go.Proofs.YtnlmlehcpngcgaaGreat
