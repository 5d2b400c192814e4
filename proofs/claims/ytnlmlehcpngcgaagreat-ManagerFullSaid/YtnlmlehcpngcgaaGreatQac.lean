/- Edges as arguments. Slices of records as arguments. Plain: a table of slots in which a key stands as near behind its hash's place as can be. Plain: a key goes out of a table of slots; those behind it come nearer. -/
import Derived.Test.YtnlmlehcpngcgaaGreatQab
import Derived.Test.YtnlmlehcpngcgaaGreatRows
import Derived.WalkKit
import Derived.ProofKit
import Derived.OpenShut
import Derived.ShutString
import Derived.ChangeOld
import Derived.Lib.SmallJoins
import Derived.Test.YtnlmlehcpngcgaaGreatQaa
import Derived.Deep.Slices
import Derived.Below
namespace Go.Proofs.YtnlmlehcpngcgaaGreat
set_option linter.unusedSimpArgs false
set_option linter.unusedVariables false
section
section
open Go.RowKit Go.ChangeShapes Go.WideShapes Go.ChangeAt Go.Joins
theorem u8_wf {n:Int} (h:(Lit.int .u8 n).wf=true):0≤n∧n≤255:=by simpa [Lit.wf,IntKind.min,IntKind.max,IntKind.signed,IntKind.bits] using h
theorem u32_wf {n:Int} (h:(Lit.int .u32 n).wf=true):0≤n∧n≤4294967295:=by simpa [Lit.wf,IntKind.min,IntKind.max,IntKind.signed,IntKind.bits] using h
theorem edge_cells:Tryz.prog.cellsOf 48=2:=by kernel_rfl
set_option maxRecDepth 100000 in
theorem edge_arg {H:Type} {enc:TypeId×Value→H} {W:World} {base:Nat} {v:Value} {d:DataW H} {p:List MemPlace} (hv:Value.okWide Tryz.prog W .any base 48 v) (h:DataW.Trod enc Tryz.prog W 0 (fun _=>true) true 48 v d p) :
  ∃e:Edg,v = .agg e.cells.toArray∧e.Wf:=by
 obtain ⟨c0,c1,y0,y1,m,rfl,rfl,rfl,hy0,hy1⟩:=open_agg2 Tryz.underlying48 (by kernel_rfl) edge_cells hv h
 obtain ⟨a,e0,rfl,wa⟩:=DataW.trod_int Tryz.underlying5 hy0
 obtain ⟨b,e1,rfl,wb⟩:=DataW.trod_int Tryz.underlying46 hy1
 simp at e0 e1
 subst e0 e1
 have h1:=u8_wf wa
 have h2:=u32_wf wb
 exact ⟨⟨a,b⟩,rfl,h1.1,h1.2,h2.1,h2.2⟩
end
section
open Go.RowKit Go.ChangeShapes Go.WideShapes Go.ChangeAt Go.Joins Go.Deep
theorem cellsForm:Tryz.prog.cellsOf 23=1:=by kernel_rfl
theorem cellsU8:Tryz.prog.cellsOf 5=1:=by kernel_rfl
theorem cellsU32:Tryz.prog.cellsOf 46=1:=by kernel_rfl
theorem cellsRec:Tryz.prog.cellsOf 78=7:=by kernel_rfl
section
variable {H:Type} {enc:TypeId×Value→H} {W:World} {base:Nat} {spare:Nat→Bool} {held:Bool} {n:Nat} {x:DataW H×List MemPlace}
set_option maxRecDepth 100000 in
theorem edge_cells_of {cs:List Value} (h:DataW.trod enc Tryz.prog W base spare held n 48 cs=some x):∃e:Edg,cs=e.cells∧e.Wf:=by
 obtain ⟨xs,m,_,_,hlen,hx,hg⟩:=DataW.trod_struct Tryz.underlying48 h
 rw [edge_cells] at hlen
 match cs,hlen with
 | [c0,c1],_=>
  match xs,hx with
  | [y0,y1],_=>
   have g0:=hg 0 _ rfl
   have g1:=hg 1 _ rfl
   simp only [List.getElem_toArray,List.getElem_cons_zero,List.getElem_cons_succ,cellsU8,cellsU32] at g0 g1
   obtain ⟨a,e0,rfl,wa⟩:=DataW.trod_int Tryz.underlying5 g0
   obtain ⟨b,e1,rfl,wb⟩:=DataW.trod_int Tryz.underlying46 g1
   simp at e0 e1
   subst e0 e1
   have h1:=u8_wf wa
   have h2:=u32_wf wb
   exact ⟨⟨a,b⟩,rfl,h1.1,h1.2,h2.1,h2.2⟩
set_option maxRecDepth 100000 in
theorem rec_cells_of {cs:List Value} (h:DataW.trod enc Tryz.prog W base spare held n 78 cs=some x):∃r:Rec,cs=r.cells∧r.Wf:=by
 obtain ⟨xs,m,_,_,hlen,hx,hg⟩:=DataW.trod_struct Tryz.underlying78 h
 rw [cellsRec] at hlen
 match cs,hlen with
 | [c0,c1,c2,c3,c4,c5,c6],_=>
  match xs,hx with
  | [y0,y1,y2,y3,y4],_=>
   have g0:=hg 0 _ rfl
   have g1:=hg 1 _ rfl
   have g2:=hg 2 _ rfl
   have g3:=hg 3 _ rfl
   have g4:=hg 4 _ rfl
   simp only [List.getElem_toArray,List.getElem_cons_zero,List.getElem_cons_succ,cellsU8,cellsForm,edge_cells] at g0 g1 g2 g3 g4
   obtain ⟨a,e0,rfl,wa⟩:=DataW.trod_int Tryz.underlying23 g0
   obtain ⟨b,e1,rfl,wb⟩:=DataW.trod_int Tryz.underlying5 g1
   obtain ⟨c,e2,rfl,wc⟩:=DataW.trod_int Tryz.underlying5 g2
   obtain ⟨lo,e3,wlo⟩:=edge_cells_of g3
   obtain ⟨hi,e4,whi⟩:=edge_cells_of g4
   simp [Edg.cells] at e0 e1 e2 e3 e4
   obtain ⟨e5,e6⟩:=e3
   obtain ⟨e7,e8⟩:=e4
   subst e0 e1 e2 e5 e6 e7 e8
   exact ⟨⟨a,b,c,lo,hi⟩,rfl,u8_wf wa,u8_wf wb,u8_wf wc,wlo,whi⟩
end
def RecsArg (w:World) (A:Option Addr) (n c:Nat) (rs:List Rec):Prop:=
 rs.length=n∧n≤c∧c≤maxLen∧RowS 7 Rec.cells w w.heap.size A rs∧∀r∈rs,r.Wf
end
section
variable {K:Type} (hsh:K→Nat)
def At (sl:List (Option (K×Nat))) (i:Nat) (k:K) (id:Nat):Prop:=sl[i]? =some (some (k,id))
def Past (sl:List (Option (K×Nat))) (k:K) (d:Nat):Prop:=∀e,e<d→∃k' id',At sl ((hsh k+e)%sl.length) k' id'∧k'≠k
def Tab (sl:List (Option (K×Nat))):Prop:=∀i k id,At sl i k id→∃d,i=(hsh k+d)%sl.length∧Past hsh sl k d
def Stops (sl:List (Option (K×Nat))) (k:K) (p:Nat):Prop:=p<sl.length∧(∃ d,p=(hsh k+d)%sl.length∧Past hsh sl k d)∧(sl[p]? =some none∨∃id,At sl p k id)
def Look (sl:List (Option (K×Nat))) (k:K) (id:Nat):Prop:=∃i,At sl i k id
def cnt (sl:List (Option (K×Nat))):Nat:=sl.countP Option.isSome
theorem At.lt {sl:List (Option (K×Nat))} {i:Nat} {k:K} {id:Nat} (h:At sl i k id):i<sl.length:=(List.getElem?_eq_some_iff.1 h).1
theorem At.inj {sl:List (Option (K×Nat))} {i:Nat} {k k':K} {id id':Nat} (h:At sl i k id) (h':At sl i k' id'):k=k'∧id=id':=by
 unfold At at h h'
 rw [h] at h'
 injection h' with h'
 injection h' with h'
 injection h' with h1 h2
 exact ⟨h1,h2⟩
theorem At.not_none {sl:List (Option (K×Nat))} {i:Nat} {k:K} {id:Nat} (h:At sl i k id) (h':sl[i]? =some none):False:=by
 unfold At at h
 rw [h] at h'
 injection h' with h'
 cases h'
theorem Stops.only {sl:List (Option (K×Nat))} {k:K} {p i id:Nat} (h:Stops hsh sl k p) (ht:Tab hsh sl) (hi:At sl i k id):p=i∧At sl p k id:=by
 obtain ⟨hp,⟨d,rfl,hd⟩,hend⟩:=h
 obtain ⟨d',rfl,hd'⟩:=ht i k id hi
 rcases Nat.lt_trichotomy d d' with h1|h1|h1
 ·obtain ⟨k',id',ha,hne⟩:=hd' d h1
  rcases hend with h2|⟨id2,h2⟩
  ·exact (ha.not_none h2).elim
  ·exact absurd (ha.inj h2).1 hne
 ·subst h1
  exact ⟨rfl,hi⟩
 ·obtain ⟨k',id',ha,hne⟩:=hd d' h1
  exact absurd (ha.inj hi).1 hne
theorem Stops.none_look {sl:List (Option (K×Nat))} {k:K} {p:Nat} (h:Stops hsh sl k p) (ht:Tab hsh sl) (hn:sl[p]? =some none) (id:Nat):¬Look sl k id:=by
 rintro ⟨i,hi⟩
 exact ((h.only hsh ht hi).2).not_none hn
theorem At.set_ne {sl:List (Option (K×Nat))} {i p:Nat} {k:K} {id:Nat} {x:Option (K×Nat)} (h:At sl i k id) (hne:i≠p):At (sl.set p x) i k id:=by
 unfold At at *
 rw [List.getElem?_set_ne (fun e=>hne e.symm)]
 exact h
theorem At.set_self {sl:List (Option (K×Nat))} {p:Nat} (hp:p<sl.length) (k:K) (id:Nat):At (sl.set p (some (k,id))) p k id:=by
 unfold At
 rw [List.getElem?_set_self hp]
theorem At.of_set {sl:List (Option (K×Nat))} {i p:Nat} {k k':K} {id id':Nat} (h:At (sl.set p (some (k',id'))) i k id) (hp:p<sl.length):(i=p∧k=k'∧id=id')∨(i≠p∧At sl i k id):=by
 by_cases e:i=p
 ·subst e
  have:=h.inj (At.set_self hp k' id')
  exact .inl ⟨rfl,this.1,this.2⟩
 ·refine .inr ⟨e,?_⟩
  unfold At at *
  rw [List.getElem?_set_ne (fun e'=>e e'.symm)] at h
  exact h
theorem Past.set_ {sl:List (Option (K×Nat))} {p:Nat} {k k0:K} {id0 d:Nat} (h:Past hsh sl k d) (hp:p<sl.length)
  (he:sl[p]? =some none∨∃id,At sl p k0 id):Past hsh (sl.set p (some (k0,id0))) k d:=by
 intro e hed
 obtain ⟨k',id',ha,hne⟩:=h e hed
 rw [List.length_set]
 by_cases hq:(hsh k+e)%sl.length=p
 ·rw [hq] at ha ⊢
  rcases he with he|⟨id,he⟩
  ·exact (ha.not_none he).elim
  ·obtain ⟨rfl,_⟩:=ha.inj he
   exact ⟨k',id0,At.set_self hp _ _,hne⟩
 ·exact ⟨k',id',ha.set_ne hq,hne⟩
theorem Tab.put {sl:List (Option (K×Nat))} {k:K} {p:Nat} (ht:Tab hsh sl) (h:Stops hsh sl k p) (id:Nat):Tab hsh (sl.set p (some (k,id))):=by
 intro i k2 id2 ha
 obtain ⟨hp,⟨d,rfl,hd⟩,hend⟩:=h
 rcases ha.of_set hp with ⟨rfl,rfl,rfl⟩|⟨hne,ha⟩
 ·exact ⟨d,by rw [List.length_set],hd.set_ hsh hp hend⟩
 ·obtain ⟨d2,rfl,hd2⟩:=ht i k2 id2 ha
  exact ⟨d2,by rw [List.length_set],hd2.set_ hsh hp hend⟩
theorem Stops.look_put {sl:List (Option (K×Nat))} {k:K} {p:Nat} (ht:Tab hsh sl) (h:Stops hsh sl k p) (id:Nat) (k2:K) (id2:Nat) :
  Look (sl.set p (some (k,id))) k2 id2↔(k2=k∧id2=id)∨(k2≠k∧Look sl k2 id2):=by
 have hp:=h.1
 constructor
 ·rintro ⟨i,hi⟩
  rcases hi.of_set hp with ⟨rfl,rfl,rfl⟩|⟨hne,ha⟩
  ·exact .inl ⟨rfl,rfl⟩
  ·by_cases e:k2=k
   ·subst e
    exact absurd (h.only hsh ht ha).1.symm hne
   ·exact .inr ⟨e,i,ha⟩
 ·rintro (⟨rfl,rfl⟩|⟨hne,i,hi⟩)
  ·exact ⟨p,At.set_self hp _ _⟩
  ·refine ⟨i,hi.set_ne ?_⟩
   rintro rfl
   rcases h.2.2 with h2|⟨id0,h2⟩
   ·exact hi.not_none h2
   ·exact hne (hi.inj h2).1
theorem cnt_set_none {sl:List (Option (K×Nat))} {p:Nat} (hp:p<sl.length) (hn:sl[p]? =some none) (x:K×Nat):cnt (sl.set p (some x))=cnt sl+1:=by
 unfold cnt
 rw [List.getElem?_eq_getElem hp] at hn
 injection hn with hn
 rw [List.countP_set hp]
 simp [hn]
theorem cnt_set_some {sl:List (Option (K×Nat))} {p id:Nat} {k:K} (hs:At sl p k id) (x:K×Nat):cnt (sl.set p (some x))=cnt sl:=by
 have hp:=hs.lt
 unfold At at hs
 unfold cnt
 rw [List.getElem?_eq_getElem hp] at hs
 injection hs with hs
 rw [List.countP_set hp]
 have h1:0<sl.countP Option.isSome:=List.countP_pos_iff.2 ⟨sl[p],List.getElem_mem hp,by simp [hs]⟩
 simp [hs]
 omega
theorem cnt_lt {sl:List (Option (K×Nat))} (h:cnt sl<sl.length):∃i:Nat,sl[i]? =some none:=by
 rcases Classical.em (∃ i:Nat,sl[i]? =some none) with h1|h1
 ·exact h1
 ·exfalso
  have:cnt sl=sl.length:=by
   unfold cnt
   rw [List.countP_eq_length]
   intro x hx
   obtain ⟨i,hi⟩:=List.getElem?_of_mem hx
   cases x with
   | none=>exact absurd ⟨i,hi⟩ h1
   | some y=>rfl
  omega
theorem mod_reach (h s i:Nat) (hi:i<s):∃d,d<s∧(h+d)%s=i:=by
 have hs:0<s:=by omega
 have hm:h%s<s:=Nat.mod_lt _ hs
 rcases Nat.lt_or_ge i (h%s) with h1|h1
 ·refine ⟨s+i-h%s,by omega,?_⟩
  rw [Nat.add_mod,Nat.mod_eq_of_lt (a:=s+i-h%s) (by omega)]
  rw [show h%s+(s+i-h%s)=i+s by omega,Nat.add_mod_right,Nat.mod_eq_of_lt hi]
 ·refine ⟨i-h%s,by omega,?_⟩
  rw [Nat.add_mod,Nat.mod_eq_of_lt (a:=i-h%s) (by omega)]
  rw [show h%s+(i-h%s)=i by omega,Nat.mod_eq_of_lt hi]
theorem Past.lt {sl:List (Option (K×Nat))} {k:K} {d:Nat} (h:Past hsh sl k d) (hc:cnt sl<sl.length):d<sl.length:=by
 rcases Nat.lt_or_ge d sl.length with h1|h1
 ·exact h1
 ·exfalso
  obtain ⟨i,hi⟩:=cnt_lt hc
  have hil:i<sl.length:=(List.getElem?_eq_some_iff.1 hi).1
  obtain ⟨e,he,hei⟩:=mod_reach (hsh k) sl.length i hil
  obtain ⟨k',id',ha,_⟩:=h e (by omega)
  rw [hei] at ha
  exact ha.not_none hi
theorem Past.zero (sl:List (Option (K×Nat))) (k:K):Past hsh sl k 0:=fun e h=>by omega
theorem Past.succ {sl:List (Option (K×Nat))} {k k':K} {d id:Nat} (h:Past hsh sl k d) (ha:At sl ((hsh k+d)%sl.length) k' id) (hne:k'≠k):Past hsh sl k (d+1):=by
 intro e he
 rcases Nat.lt_or_ge e d with h1|h1
 ·exact h e h1
 ·obtain rfl:e=d:=by omega
  exact ⟨k',id,ha,hne⟩
theorem Tab.blank (n:Nat):Tab hsh (List.replicate n none):=by
 intro i k id h
 unfold At at h
 rw [List.getElem?_replicate] at h
 split at h
 ·injection h with h;cases h
 ·cases h
theorem cnt_blank (n:Nat):cnt (List.replicate n (none:Option (K×Nat)))=0:=by
 unfold cnt
 rw [List.countP_eq_zero]
 intro a ha
 rw [List.mem_replicate] at ha
 rw [ha.2]
 simp
theorem look_blank (n:Nat) (k:K) (id:Nat):¬Look (List.replicate n none) k id:=by
 rintro ⟨i,h⟩
 unfold At at h
 rw [List.getElem?_replicate] at h
 split at h
 ·injection h with h;cases h
 ·cases h
theorem Stops.uniq {sl:List (Option (K×Nat))} {k:K} {p p':Nat} (h:Stops hsh sl k p) (h':Stops hsh sl k p'):p=p':=by
 obtain ⟨_,⟨d,rfl,hd⟩,hend⟩:=h
 obtain ⟨_,⟨d',rfl,hd'⟩,hend'⟩:=h'
 rcases Nat.lt_trichotomy d d' with h1|h1|h1
 ·obtain ⟨k',id',ha,hne⟩:=hd' d h1
  rcases hend with h2|⟨id2,h2⟩
  ·exact (ha.not_none h2).elim
  ·exact absurd (ha.inj h2).1 hne
 ·rw [h1]
 ·obtain ⟨k',id',ha,hne⟩:=hd d' h1
  rcases hend' with h2|⟨id2,h2⟩
  ·exact (ha.not_none h2).elim
  ·exact absurd (ha.inj h2).1 hne
theorem stops_ex {sl:List (Option (K×Nat))} (k:K) (hc:cnt sl<sl.length):∃p,Stops hsh sl k p:=by
 have go:∀(f d:Nat),d+f=sl.length→Past hsh sl k d→∃p,Stops hsh sl k p:=by
  intro f
  induction f with
  | zero=>intro d h hp;have:=hp.lt hsh hc;omega
  | succ f ih=>
   intro d h hp
   have hm:(hsh k+d)%sl.length<sl.length:=Nat.mod_lt _ (by omega)
   cases hx:sl[(hsh k+d)%sl.length]? with
   | none=>rw [List.getElem?_eq_none_iff] at hx;omega
   | some x=>
    cases x with
    | none=>exact ⟨_,hm,⟨d,rfl,hp⟩,.inl hx⟩
    | some y=>
     obtain ⟨k',id'⟩:=y
     rcases Classical.em (k'=k) with e|e
     ·subst e
      exact ⟨_,hm,⟨d,rfl,hp⟩,.inr ⟨id',hx⟩⟩
     ·exact ih (d+1) (by omega) (hp.succ hsh hx e)
 exact go sl.length 0 (by omega) (Past.zero hsh sl k)
structure Moved (old new:List (Option (K×Nat))) (j:Nat):Prop where
 tab:Tab hsh new
 cnt:cnt new=Go.Proofs.YtnlmlehcpngcgaaGreat.cnt (old.take j)
 look:∀k id,Look new k id↔∃i,i<j∧At old i k id
theorem take_cnt_succ (old:List (Option (K×Nat))) (j:Nat) (x:Option (K×Nat)) (h:old[j]? =some x):Go.Proofs.YtnlmlehcpngcgaaGreat.cnt (old.take (j+1))=Go.Proofs.YtnlmlehcpngcgaaGreat.cnt (old.take j)+(if x.isSome then 1 else 0):=by
 unfold Go.Proofs.YtnlmlehcpngcgaaGreat.cnt
 rw [List.take_add_one,h]
 simp [List.countP_append]
theorem cnt_take_le (old:List (Option (K×Nat))) (j:Nat):Go.Proofs.YtnlmlehcpngcgaaGreat.cnt (old.take j)≤Go.Proofs.YtnlmlehcpngcgaaGreat.cnt old:=by
 unfold Go.Proofs.YtnlmlehcpngcgaaGreat.cnt
 exact List.Sublist.countP_le (List.take_sublist j old)
theorem Moved.zero (old:List (Option (K×Nat))) (n:Nat):Moved hsh old (List.replicate n none) 0:=
 ⟨Tab.blank hsh n,by rw [cnt_blank];simp [Go.Proofs.YtnlmlehcpngcgaaGreat.cnt],fun k id=>⟨fun h=>(look_blank n k id h).elim,fun ⟨i,h,_⟩=>by omega⟩⟩
theorem Moved.skip {old new:List (Option (K×Nat))} {j:Nat} (h:Moved hsh old new j) (hj:old[j]? =some none):Moved hsh old new (j+1):=by
 refine ⟨h.tab,?_,fun k id=>?_⟩
 ·rw [take_cnt_succ old j none hj,h.cnt];rfl
 ·rw [h.look]
  constructor
  ·rintro ⟨i,hi,ha⟩;exact ⟨i,by omega,ha⟩
  ·rintro ⟨i,hi,ha⟩
   refine ⟨i,?_,ha⟩
   rcases Nat.lt_or_ge i j with h1|h1
   ·exact h1
   ·obtain rfl:i=j:=by omega
    exact (ha.not_none hj).elim
theorem Tab.uniq {sl:List (Option (K×Nat))} (ht:Tab hsh sl) {i j:Nat} {k:K} {id id':Nat} (h:At sl i k id) (h':At sl j k id'):i=j:=by
 have hs:Stops hsh sl k i:=⟨h.lt,ht i k id h,.inr ⟨id,h⟩⟩
 exact (hs.only hsh ht h').1
theorem Moved.none_ {old new:List (Option (K×Nat))} {j:Nat} (h:Moved hsh old new j) (ht:Tab hsh old) {k:K} {id:Nat} (hj:At old j k id) {p:Nat} (hs:Stops hsh new k p):new[p]? =some none:=by
 rcases hs.2.2 with h1|⟨id',h1⟩
 ·exact h1
 ·obtain ⟨i,hi,ha⟩:=(h.look k id').1 ⟨p,h1⟩
  have:=ht.uniq hsh ha hj
  omega
theorem Moved.put {old new:List (Option (K×Nat))} {j:Nat} (h:Moved hsh old new j) (ht:Tab hsh old) {k:K} {id:Nat} (hj:At old j k id) {p:Nat} (hs:Stops hsh new k p):Moved hsh old (new.set p (some (k,id))) (j+1):=by
 have hn:=h.none_ hsh ht hj hs
 refine ⟨h.tab.put hsh hs id,?_,fun k2 id2=>?_⟩
 ·rw [take_cnt_succ old j _ hj,cnt_set_none hs.1 hn,h.cnt];rfl
 ·rw [Stops.look_put hsh h.tab hs,h.look]
  constructor
  ·rintro (⟨rfl,rfl⟩|⟨hne,i,hi,ha⟩)
   ·exact ⟨j,by omega,hj⟩
   ·exact ⟨i,by omega,ha⟩
  ·rintro ⟨i,hi,ha⟩
   rcases Nat.lt_or_ge i j with h1|h1
   ·by_cases e:k2=k
    ·subst e
     have:=ht.uniq hsh ha hj
     omega
    ·exact .inr ⟨e,i,h1,ha⟩
   ·obtain rfl:i=j:=by omega
    have:=ha.inj hj
    exact .inl this
theorem Moved.all {old new:List (Option (K×Nat))} (h:Moved hsh old new old.length) (k:K) (id:Nat):Look new k id↔Look old k id:=by
 rw [h.look]
 constructor
 ·rintro ⟨i,_,ha⟩;exact ⟨i,ha⟩
 ·rintro ⟨i,ha⟩;exact ⟨i,ha.lt,ha⟩
end
def pl (N a e:Nat):Nat:=if a+e<N then a+e else a+e-N
theorem pl_mod {N a e:Nat} (ha:a<N) (he:e<N):(a+e)%N=pl N a e:=by
 unfold pl
 split
 ·exact Nat.mod_eq_of_lt (by assumption)
 ·rw [Nat.mod_eq_sub_mod (by omega),Nat.mod_eq_of_lt (by omega)]
theorem pl_hsh {N x e:Nat} (hN:0<N) (he:e<N):(x+e)%N=pl N (x%N) e:=by
 rw [← pl_mod (Nat.mod_lt _ hN) he,Nat.mod_add_mod]
def dst (N a b:Nat):Nat:=if a≤b then b-a else b+N-a
theorem plc_ (N a e:Nat):(a+e<N∧pl N a e=a+e)∨(N≤a+e∧pl N a e=a+e-N):=by
 unfold pl
 split<;>omega
theorem dsc_ (N a b:Nat):(a≤b∧dst N a b=b-a)∨(b<a∧dst N a b=b+N-a):=by
 unfold dst
 split<;>omega
section
variable {K:Type} (hsh:K→Nat)
structure Hol (sl:List (Option (K×Nat))) (N hole t u:Nat):Prop where
 len:sl.length=N
 h0:hole<N
 hn:sl[hole]? =some none
 t1:1≤t
 tu:t≤u
 uN:u<N
 occ:∀s,1≤s→s<t→∃k id,At sl (pl N hole s) k id
 emp:sl[pl N hole u]? =some none
 uni:∀i j k id id',At sl i k id→At sl j k id'→i=j
 way:∀j k id,At sl j k id→∃d,d<N∧j=pl N (hsh k%N) d∧(∀ e,e<d→pl N (hsh k%N) e=hole∨∃k' id',At sl (pl N (hsh k%N) e) k' id'∧k'≠k)∧((∀ e,e<d→pl N (hsh k%N) e≠hole)∨∃s,t≤s∧s<N∧j=pl N hole s)
theorem at_of_setn {sl:List (Option (K×Nat))} {i p:Nat} {k:K} {id:Nat} (h:At (sl.set p none) i k id):i≠p∧At sl i k id:=by
 unfold At at *
 by_cases e:i=p
 ·subst e
  rw [List.getElem?_set] at h
  simp at h
 ·refine ⟨e,?_⟩
  rw [List.getElem?_set_ne (fun e'=>e e'.symm)] at h
  exact h
theorem Hol.start {sl:List (Option (K×Nat))} {p id:Nat} {k:K} (ht:Tab hsh sl) (hp:At sl p k id) (hc:cnt sl<sl.length):∃u,Hol hsh (sl.set p none) sl.length p 1 u:=by
 have hpl:=hp.lt
 obtain ⟨i0,hi0⟩:=cnt_lt hc
 have hi0l:i0<sl.length:=(List.getElem?_eq_some_iff.1 hi0).1
 have hne:i0≠p:=by rintro rfl;exact hp.not_none hi0
 refine ⟨dst sl.length p i0,⟨by simp,hpl,by rw [List.getElem?_set_self hpl],Nat.le_refl _,?_,?_,fun s h1 h2=>by omega,?_,fun i j k id id' h1 h2=>ht.uniq hsh (at_of_setn h1).2 (at_of_setn h2).2,fun j k2 id2 h=>?_⟩⟩
 ·have:=dsc_ sl.length p i0;omega
 ·have:=dsc_ sl.length p i0;omega
 ·have:pl sl.length p (dst sl.length p i0)=i0:=by
   have:=dsc_ sl.length p i0
   have:=plc_ sl.length p (dst sl.length p i0)
   omega
  rw [this,List.getElem?_set_ne (fun e=>hne e.symm)]
  exact hi0
 ·obtain ⟨hj,ha⟩:=at_of_setn h
  obtain ⟨d,e1,hd⟩:=ht j k2 id2 ha
  have hN:0<sl.length:=by omega
  have hdl:d<sl.length:=hd.lt hsh hc
  have hjl:=ha.lt
  refine ⟨d,hdl,by rw [e1,pl_hsh hN hdl],fun e he=>?_,.inr ⟨dst sl.length p j,?_,?_,?_⟩⟩
  ·obtain ⟨k',id',h1,h2⟩:=hd e he
   rw [pl_hsh hN (by omega)] at h1
   by_cases e2:pl sl.length (hsh k2%sl.length) e=p
   ·exact .inl e2
   ·exact .inr ⟨k',id',h1.set_ne e2,h2⟩
  ·have:=dsc_ sl.length p j;omega
  ·have:=dsc_ sl.length p j;omega
  ·have:=dsc_ sl.length p j
   have:=plc_ sl.length p (dst sl.length p j)
   omega
section
variable {sl:List (Option (K×Nat))} {N hole t u:Nat} (h:Hol hsh sl N hole t u)
include h
theorem Hol.lt_u {k:K} {id:Nat} (ha:At sl (pl N hole t) k id):t<u:=by
 rcases Nat.lt_or_ge t u with h1|h1
 ·exact h1
 ·have:t=u:=by have:=h.tu;omega
  rw [this] at ha
  exact (ha.not_none h.emp).elim
theorem Hol.stay {k:K} {id:Nat} (ha:At sl (pl N hole t) k id) (hd:dst N (hsh k%N) (pl N hole t)<t):Hol hsh sl N hole (t+1) u:=by
 have htu:=h.lt_u hsh ha
 have h0:=h.h0
 have huN:=h.uN
 have ht1:=h.t1
 have hN:0<N:=by omega
 have hk:=Nat.mod_lt (hsh k) hN
 refine ⟨h.len,h.h0,h.hn,by omega,htu,h.uN,fun s h1 h2=>?_,h.emp,h.uni,fun j k2 id2 h2=>?_⟩
 ·by_cases e:s=t
  ·subst e;exact ⟨k,id,ha⟩
  ·exact h.occ s h1 (by omega)
 ·obtain ⟨d,e1,e2,e3,e4⟩:=h.way j k2 id2 h2
  refine ⟨d,e1,e2,e3,?_⟩
  rcases e4 with e4|⟨s,s1,s2,s3⟩
  ·exact .inl e4
  ·by_cases es:s=t
   ·subst es
    subst s3
    have hkk:=(h2.inj ha).1
    subst hkk
    refine .inl fun e he hh=>?_
    generalize hsh k2%N=x at *
    have q1:=plc_ N hole s
    have q2:=plc_ N x d
    have q3:=plc_ N x e
    have q4:=dsc_ N x (pl N hole s)
    clear e3 h ha h2
    omega
   ·exact .inr ⟨s,by omega,s2,s3⟩
theorem Hol.move {k:K} {id:Nat} (ha:At sl (pl N hole t) k id) (hd:t≤dst N (hsh k%N) (pl N hole t)):Hol hsh ((sl.set hole (some (k,id))).set (pl N hole t) none) N (pl N hole t) 1 (u-t):=by
 have htu:=h.lt_u hsh ha
 have h0:=h.h0
 have huN:=h.uN
 have ht1:=h.t1
 have hN:0<N:=by omega
 have hlen:=h.len
 have hi:pl N hole t<N:=by have:=plc_ N hole t;omega
 have hih:pl N hole t≠hole:=by have:=plc_ N hole t;omega
 have hne:∀j k2 id2,At ((sl.set hole (some (k,id))).set (pl N hole t) none) j k2 id2→(j=hole∧k2=k∧id2=id)∨(j≠hole∧j≠pl N hole t∧At sl j k2 id2):=fun j k2 id2 h1=>by
  obtain ⟨h2,h3⟩:=at_of_setn h1
  rcases h3.of_set (by rw [hlen];exact h0) with h4|⟨h4,h5⟩
  ·exact .inl h4
  ·exact .inr ⟨h4,h2,h5⟩
 have hkeep:∀j k2 id2,At sl j k2 id2→j≠pl N hole t→At ((sl.set hole (some (k,id))).set (pl N hole t) none) j k2 id2:=fun j k2 id2 h1 h2=>by
  refine At.set_ne (At.set_ne h1 ?_) h2
  rintro rfl
  exact h1.not_none h.hn
 have hput:At ((sl.set hole (some (k,id))).set (pl N hole t) none) hole k id:=At.set_ne (At.set_self (by rw [hlen];exact h0) k id) (fun e=>hih e.symm)
 refine ⟨by simp [hlen],hi,by rw [List.getElem?_set_self (by simp [hlen];exact hi)],Nat.le_refl _,by omega,by omega,fun s h1 h2=>by omega,?_,fun i j k2 id1 id2 h1 h2=>?_,fun j k2 id2 h2=>?_⟩
 ·have e1:pl N (pl N hole t) (u-t)=pl N hole u:=by
   have:=plc_ N hole t;have:=plc_ N hole u;have:=plc_ N (pl N hole t) (u-t)
   omega
  have e2:pl N hole u≠pl N hole t:=by have:=plc_ N hole t;have:=plc_ N hole u;omega
  have e3:pl N hole u≠hole:=by have:=plc_ N hole u;omega
  rw [e1,List.getElem?_set_ne (fun e=>e2 e.symm),List.getElem?_set_ne (fun e=>e3 e.symm)]
  exact h.emp
 ·rcases hne i k2 id1 h1 with ⟨rfl,rfl,rfl⟩|⟨g1,g2,g3⟩<;>rcases hne j _ id2 h2 with ⟨rfl,q2,q3⟩|⟨q1,q2,q3⟩
  ·rfl
  ·exact absurd (h.uni _ _ _ _ _ q3 ha) q2
  ·subst q2
   exact absurd (h.uni _ _ _ _ _ g3 ha) g2
  ·exact h.uni _ _ _ _ _ g3 q3
 ·rcases hne j k2 id2 h2 with ⟨rfl,rfl,rfl⟩|⟨q1,q2,q3⟩
  ·obtain ⟨d,e1,e2,e3,e4⟩:=h.way _ _ _ ha
   have hx:=Nat.mod_lt (hsh k2) hN
   generalize hsh k2%N=x at *
   have hdd:d=dst N x (pl N j t):=by
    have q1:=plc_ N x d
    have q2:=dsc_ N x (pl N j t)
    omega
   have htd:t≤d:=by omega
   refine ⟨d-t,by omega,?_,fun e he=>?_,.inl fun e he hh=>?_⟩
   ·have q1:=plc_ N x d;have q2:=plc_ N j t;have q3:=plc_ N x (d-t)
    clear e3 e4
    omega
   ·have q1:=plc_ N x d;have q2:=plc_ N j t;have q3:=plc_ N x e
    have hnh:pl N x e≠j:=by
     clear e3 e4
     omega
    have hni:pl N x e≠pl N j t:=by
     clear e3 e4
     omega
    rcases e3 e (by omega) with h5|⟨k',id',h5,h6⟩
    ·exact absurd h5 hnh
    ·exact .inr ⟨k',id',hkeep _ _ _ h5 hni,h6⟩
   ·have q1:=plc_ N x d;have q3:=plc_ N x e
    clear e3 e4
    omega
  ·obtain ⟨d,e1,e2,e3,e4⟩:=h.way _ _ _ q3
   have hjl:j<N:=by have:=q3.lt;omega
   refine ⟨d,e1,e2,fun e he=>?_,.inr ⟨dst N (pl N hole t) j,?_,?_,?_⟩⟩
   ·by_cases h5:pl N (hsh k2%N) e=pl N hole t
    ·exact .inl h5
    ·right
     rcases e3 e he with h6|⟨k',id',h6,h7⟩
     ·rw [h6]
      refine ⟨k,id,hput,?_⟩
      rintro rfl
      exact q2 (h.uni _ _ _ _ _ q3 ha)
     ·exact ⟨k',id',hkeep _ _ _ h6 h5,h7⟩
   ·have:=dsc_ N (pl N hole t) j;omega
   ·have:=dsc_ N (pl N hole t) j;omega
   ·have:=dsc_ N (pl N hole t) j
    have:=plc_ N (pl N hole t) (dst N (pl N hole t) j)
    omega
theorem Hol.tab (he:sl[pl N hole t]? =some none):Tab hsh sl:=fun j k id ha=>by
 have h0:=h.h0
 have huN:=h.uN
 have htu:=h.tu
 have ht1:=h.t1
 have hN:0<N:=by omega
 obtain ⟨d,e1,e2,e3,e4⟩:=h.way j k id ha
 have hx:=Nat.mod_lt (hsh k) hN
 refine ⟨d,by rw [h.len,pl_hsh hN e1,e2],fun e he'=>?_⟩
 rw [h.len,pl_hsh hN (by omega)]
 have hno:pl N (hsh k%N) e≠hole:=by
  rcases e4 with e4|⟨s,s1,s2,s3⟩
  ·exact e4 e he'
  ·intro hh
   have hst:e+t≤d:=by
    rw [s3] at e2
    clear e3
    generalize hsh k%N=x at *
    have q1:=plc_ N x d;have q2:=plc_ N x e;have q3:=plc_ N hole s
    omega
   have hpos:pl N (hsh k%N) (e+t)=pl N hole t:=by
    have q1:=plc_ N (hsh k%N) (e+t);have q2:=plc_ N (hsh k%N) e;have q3:=plc_ N hole t
    omega
   by_cases hd:e+t=d
   ·rw [hd,←e2] at hpos
    rw [← hpos] at he
    exact ha.not_none he
   ·rcases e3 (e+t) (by omega) with h5|⟨k',id',h5,h6⟩
    ·rw [hpos] at h5
     have:=plc_ N hole t
     omega
    ·rw [hpos] at h5
     exact h5.not_none he
 rcases e3 e he' with h5|h5
 ·exact absurd h5 hno
 ·exact h5
end
theorem look_move {sl:List (Option (K×Nat))} {hole i id:Nat} {k:K} (hn:sl[hole]? =some none) (ha:At sl i k id) (hne:i≠hole) (k2:K) (id2:Nat):Look ((sl.set hole (some (k,id))).set i none) k2 id2↔Look sl k2 id2:=by
 have hl:hole<sl.length:=(List.getElem?_eq_some_iff.1 hn).1
 constructor
 ·rintro ⟨j,h⟩
  obtain ⟨h1,h2⟩:=at_of_setn h
  rcases h2.of_set hl with ⟨rfl,rfl,rfl⟩|⟨_,h3⟩
  ·exact ⟨i,ha⟩
  ·exact ⟨j,h3⟩
 ·rintro ⟨j,h⟩
  by_cases e:j=i
  ·subst e
   obtain ⟨rfl,rfl⟩:=h.inj ha
   exact ⟨hole,At.set_ne (At.set_self hl _ _) (fun e=>hne e.symm)⟩
  ·refine ⟨j,At.set_ne (At.set_ne h ?_) e⟩
   rintro rfl
   exact h.not_none hn
theorem cnt_setn {sl:List (Option (K×Nat))} {p id:Nat} {k:K} (h:At sl p k id):cnt (sl.set p none)+1=cnt sl:=by
 have hp:=h.lt
 have h1:=cnt_set_none (sl:=sl.set p none) (p:=p) (by simpa using hp) (by rw [List.getElem?_set_self hp]) (k,id)
 rw [List.set_set] at h1
 have h2:=cnt_set_some h (k,id)
 omega
theorem cnt_move {sl:List (Option (K×Nat))} {hole i id:Nat} {k:K} (hn:sl[hole]? =some none) (ha:At sl i k id) (hne:i≠hole):cnt ((sl.set hole (some (k,id))).set i none)=cnt sl:=by
 have hl:hole<sl.length:=(List.getElem?_eq_some_iff.1 hn).1
 have h1:=cnt_set_none hl hn (k,id)
 have h2:=cnt_setn (At.set_ne (x:=some (k,id)) ha hne)
 omega
theorem look_start {sl:List (Option (K×Nat))} {p id:Nat} {k:K} (hu:∀i j k id id',At sl i k id→At sl j k id'→i=j) (hp:At sl p k id) (k2:K) (id2:Nat):Look (sl.set p none) k2 id2↔k2≠k∧Look sl k2 id2:=by
 constructor
 ·rintro ⟨j,h⟩
  obtain ⟨h1,h2⟩:=at_of_setn h
  refine ⟨?_,j,h2⟩
  rintro rfl
  exact h1 (hu _ _ _ _ _ h2 hp)
 ·rintro ⟨hne,j,h⟩
  refine ⟨j,At.set_ne h ?_⟩
  rintro rfl
  exact hne (h.inj hp).1
end
end
end Go.Proofs.YtnlmlehcpngcgaaGreat
