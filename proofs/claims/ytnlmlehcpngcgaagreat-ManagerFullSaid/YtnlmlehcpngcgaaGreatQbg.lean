/- Symbolic values: one operation of a region, done when others are. Symbolic values: how things stand behind one operation more. Symbolic values: a region walked, whatever its order. Symbolic values: regions, drawn or not; their tables; the rules for code. -/
import Derived.Test.YtnlmlehcpngcgaaGreatQbf
namespace Go.Proofs.YtnlmlehcpngcgaaGreat
set_option linter.unusedSimpArgs false
set_option linter.unusedVariables false
section
open Go.RowKit
section
variable {g:Rg} {E:List (Option Eff)} {nt:Nat} {P:Program}
theorem Rg.stat_ms (h:g.stat nt=true):g.ms.length=g.l.length∧∀j,j<g.l.length→g.ms.getD j 0<2^j:=by
 unfold Rg.stat at h
 simp only [Bool.and_eq_true,beq_iff_eq,List.all_eq_true,List.mem_range,decide_eq_true_eq] at h
 exact ⟨h.1.1.1.1,h.1.1.1.2⟩
theorem Rg.bit_lt (h:g.stat nt=true) {j i:Nat} (hb:bit g.ms j i=true):i<j:=by
 obtain ⟨h1,h2⟩:=Rg.stat_ms h
 unfold bit at hb
 rcases Nat.lt_or_ge j g.l.length with hj|hj
 ·rcases Nat.lt_or_ge i j with hi|hi
  ·exact hi
  ·have h3:=Nat.lt_of_lt_of_le (h2 j hj) (Nat.pow_le_pow_right (by omega) hi)
   rw [Nat.testBit_lt_two_pow h3] at hb
   cases hb
 ·rw [List.getD_eq_getElem?_getD,List.getElem?_eq_none (by omega)] at hb
  simp at hb
theorem Rg.stat_op (h:g.stat nt=true) {j:Nat} {o:Oper} (ho:g.l[j]? =some o):noSel o.op=true∧(∀ d,o.dst=some d→d<nt∧g.wr d=some j)∧
  (∀ t∈o.looksAt g.l.toArray,∀i,g.wr t=some i→i≠j∧(bit g.ms j i=true∨bit g.ms i j=true))∧(∀ i want,o.guard=some (i,want)→i<g.l.length):=by
 have hj:j<g.l.length:=(List.getElem?_eq_some_iff.1 ho).1
 unfold Rg.stat at h
 simp only [Bool.and_eq_true,List.all_eq_true,List.mem_range] at h
 have h1:=h.1.1.2 j hj
 rw [ho] at h1
 simp only [Bool.and_eq_true,List.all_eq_true] at h1
 obtain ⟨⟨⟨h1,h2⟩,h3⟩,h4⟩:=h1
 refine ⟨h1,fun d hd=>?_,fun t ht i hi=>?_,fun i want hg=>?_⟩
 ·rw [hd] at h2
  simp only [Bool.and_eq_true,decide_eq_true_eq,beq_iff_eq] at h2
  exact h2
 ·have:=h3 t ht
  rw [hi] at this
  simp only [Bool.and_eq_true,bne_iff_ne,ne_eq,Bool.or_eq_true] at this
  exact this
 ·rw [hg] at h4
  simpa using h4
theorem lk_mem {α:Type}:∀{l:List (Nat×α)} {t:Nat} {x:α},lk l t=some x→(t,x)∈l
 | [],t,x,h=>by cases h
 | (u,y)::r,t,x,h=>by
  unfold lk at h
  split at h
  ·rename_i e
   injection h with h
   rw [← h,show u=t by simpa using e]
   simp
  ·exact List.mem_cons_of_mem _ (lk_mem h)
theorem Rg.stat_fr (h:g.stat nt=true) {t:Nat} {x:SV} (ht:lk g.s0.fr t=some x):∀k∈x.keys,k<g.kb:=by
 unfold Rg.stat at h
 simp only [Bool.and_eq_true,List.all_eq_true,decide_eq_true_eq] at h
 exact h.2 _ (lk_mem ht)
theorem Rg.stat_hp (h:g.stat nt=true) {k:Nat} {b:SBlk} (hk:lk g.s0.hp k=some b):k<g.kb∧∀x∈b.cells,∀k'∈x.keys,k'<g.kb:=by
 unfold Rg.stat at h
 simp only [Bool.and_eq_true,List.all_eq_true,decide_eq_true_eq,List.mem_flatMap,forall_exists_index,and_imp] at h
 obtain ⟨h1,h2⟩:=h.1.2 _ (lk_mem hk)
 exact ⟨h1,fun x hx k' hk'=>h2 k' x hx hk'⟩
theorem wr_some {t i:Nat} (h:g.wr t=some i):∃o,g.l[i]? =some o∧o.dst=some t:=by
 unfold Rg.wr at h
 rw [List.findIdx?_eq_some_iff_getElem] at h
 obtain ⟨hi,h1,_⟩:=h
 exact ⟨g.l[i],List.getElem?_eq_getElem hi,by simpa using h1⟩
theorem wr_none {t:Nat} (h:g.wr t=none) {i:Nat} {o:Oper} (ho:g.l[i]? =some o):o.dst≠some t:=by
 unfold Rg.wr at h
 rw [List.findIdx?_eq_none_iff] at h
 intro hd
 have:=h o (List.mem_of_getElem? ho)
 simp [hd] at this
theorem stoAt_len (S:Nat→Bool) (k:Nat) (cells:List SV) (i:Nat):(stoAt E S k cells i).length=cells.length:=by
 unfold stoAt
 split
 ·split
  ·exact updS_len _ _ _
  ·rfl
 ·rfl
theorem stos_len (S:Nat→Bool) (k:Nat):∀(l:List Nat) (cells:List SV),(stos E S k l cells).length=cells.length
 | [],_=>rfl
 | i::l,cells=>by
  show (stos E S k l (stoAt E S k cells i)).length=_
  rw [stos_len S k l,stoAt_len]
def Hits (E:List (Option Eff)) (k o i:Nat):Prop:=∃off xs,eff E i=some (.sto k off xs)∧off≤o∧o<off+xs.length
theorem stoAt_get {S:Nat→Bool} {k o i:Nat} {c c':List SV} {E':List (Option Eff)} {S':Nat→Bool} (hc:c[o]? =c'[o]?) (h:S i=true→Hits E k o i→S' i=true∧eff E' i=eff E i) (h':S' i=true→Hits E' k o i→S i=true∧eff E i=eff E' i) :
  (stoAt E S k c i)[o]? =(stoAt E' S' k c' i)[o]? :=by
 have one:∀(E:List (Option Eff)) (S:Nat→Bool) (c:List SV),¬(S i=true∧Hits E k o i)→(stoAt E S k c i)[o]? =c[o]? :=fun E S c hn=>by
  unfold stoAt
  split
  ·rename_i k' off xs he
   split
   ·rename_i hs
    rw [Bool.and_eq_true,beq_iff_eq] at hs
    rw [updS_out (fun hr=>hn ⟨hs.1,off,xs,by rw [he,hs.2],hr⟩)]
   ·rfl
  ·rfl
 by_cases h1:S i=true∧Hits E k o i
 ·obtain ⟨h2,h3⟩:=h h1.1 h1.2
  obtain ⟨off,xs,he,hr⟩:=h1.2
  unfold stoAt
  rw [h3,he]
  simp only [h1.1,h2,BEq.rfl,Bool.and_self,if_true]
  rw [updS_get,updS_get,hc]
 ·by_cases h2:S' i=true∧Hits E' k o i
  ·obtain ⟨h3,h4⟩:=h' h2.1 h2.2
   refine absurd ⟨h3,?_⟩ h1
   obtain ⟨off,xs,he,hr⟩:=h2.2
   exact ⟨off,xs,by rw [h4,he],hr⟩
  ·rw [one E S c h1,one E' S' c' h2,hc]
theorem stos_get {S S':Nat→Bool} {k o:Nat} {E':List (Option Eff)}:∀(l:List Nat) (c c':List SV),c[o]? =c'[o]? →(∀ i∈l,S i=true→Hits E k o i→S' i=true∧eff E' i=eff E i)→(∀ i∈l,S' i=true→Hits E' k o i→S i=true∧eff E i=eff E' i)→
  (stos E S k l c)[o]? =(stos E' S' k l c')[o]?
 | [],c,c',hc,_,_=>hc
 | i::l,c,c',hc,h,h'=>stos_get l (stoAt E S k c i) (stoAt E' S' k c' i) (stoAt_get hc (h i (by simp)) (h' i (by simp))) (fun j hj=>h j (by simp [hj])) (fun j hj=>h' j (by simp [hj]))
theorem stos_eq {S S':Nat→Bool} {k:Nat} {E':List (Option Eff)} {l:List Nat} {c:List SV} (h:∀i∈l,S i=true→∀o,Hits E k o i→S' i=true∧eff E' i=eff E i) (h':∀i∈l,S' i=true→∀o,Hits E' k o i→S i=true∧eff E i=eff E' i):stos E S k l c=stos E' S' k l c:=
 List.ext_getElem? fun o=>stos_get l c c rfl (fun i hi hs hh=>h i hi hs o hh) (fun i hi hs hh=>h' i hi hs o hh)
theorem stos_last {D:Nat→Bool} {n j k off:Nat} {xs:List SV} {c:List SV} (hj:j<n) (he:eff E j=some (.sto k off xs)) (hD:D j=false) (hl:∀i o,off≤o→o<off+xs.length→D i=true→Hits E k o i→i<j) :
  stos E (fun i=>D i||i==j) k (List.range n) c=updS (stos E D k (List.range n) c) off xs:=by
 apply List.ext_getElem?
 intro o
 obtain ⟨l1,l2,hl12⟩:=List.append_of_mem (List.mem_range.2 hj)
 have hgt:∀i∈l2,j<i:=fun i hi=>by
  have hp:=List.pairwise_lt_range (n:=n)
  rw [hl12,List.pairwise_append] at hp
  exact (List.pairwise_cons.1 hp.2.1).1 i hi
 by_cases ho:off≤o∧o<off+xs.length
 ·have e1:stos E (fun i=>D i||i==j) k (List.range n) c=stos E (fun i=>D i||i==j) k l2 (updS (stos E (fun i=>D i||i==j) k l1 c) off xs):=by
   rw [hl12]
   unfold stos
   rw [List.foldl_append,List.foldl_cons]
   congr 1
   unfold stoAt
   rw [he]
   simp
  rw [e1,stos_get (E':=E) (S':=fun _=>false) l2 _ (updS (stos E (fun i=>D i||i==j) k l1 c) off xs) rfl (fun i hi hs hh=>by
   simp only [Bool.or_eq_true,beq_iff_eq] at hs
   have h1:=hgt i hi
   rcases hs with hs|hs
   ·have:=hl i o ho.1 ho.2 hs hh;omega
   ·omega) (fun i hi hs=>by cases hs)]
  have e2:∀(l:List Nat) (c:List SV),stos E (fun _=>false) k l c=c:=fun l=>by
   induction l with
   | nil=>intro c;rfl
   | cons i l ih=>
    intro c
    show stos E (fun _=>false) k l (stoAt E (fun _=>false) k c i)=c
    rw [ih]
    unfold stoAt
    split<;>simp
  rw [e2,updS_get,updS_get]
  have hx:xs[o-off]? =some (xs[o-off]'(by omega)):=List.getElem?_eq_getElem _
  simp only [hx,Option.getD_some,if_pos ho]
  rcases Nat.lt_or_ge o c.length with hlt|hge
  ·rw [List.getElem?_eq_getElem (by rw [stos_len];exact hlt),List.getElem?_eq_getElem (by rw [stos_len];exact hlt)]
   rfl
  ·rw [List.getElem?_eq_none (by rw [stos_len];exact hge),List.getElem?_eq_none (by rw [stos_len];exact hge)]
 ·rw [updS_out ho]
  exact stos_get (E':=E) _ c c rfl (fun i hi hs hh=>by
   simp only [Bool.or_eq_true,beq_iff_eq] at hs
   rcases hs with hs|hs
   ·exact ⟨hs,rfl⟩
   ·subst hs
    obtain ⟨off',xs',he',hr⟩:=hh
    rw [he] at he'
    injection he' with he'
    injection he' with _ e1 e2
    subst e1 e2
    exact absurd hr ho) (fun i hi hs hh=>⟨by simp [hs],rfl⟩)
theorem base_mono {S S':Nat→Bool} {E':List (Option Eff)} (h:∀i,S i=true→S' i=true∧eff E' i=eff E i) {k:Nat} {b:SBlk} (hb:g.base E S k=some b):g.base E' S' k=some b:=by
 unfold Rg.base at hb ⊢
 cases hk:lk g.s0.hp k with
 | some b'=>rw [hk] at hb;exact hb
 | none=>
  rw [hk] at hb
  simp only at hb ⊢
  split at hb
  ·rename_i hc
   obtain ⟨h1,h2⟩:=h _ hc.2
   rw [if_pos ⟨hc.1,h1⟩,h2]
   exact hb
  ·cases hb
theorem hp_mono {S S':Nat→Bool} {E':List (Option Eff)} (h:∀i,S i=true→S' i=true∧eff E' i=eff E i) {k:Nat} {b:SBlk} (hb:g.hp E S k=some b) :
  ∃b0,g.base E S k=some b0∧g.base E' S' k=some b0∧b={b0 with cells:=stos E S k (List.range g.l.length) b0.cells}∧g.hp E' S' k=some {b0 with cells:=stos E' S' k (List.range g.l.length) b0.cells}:=by
 unfold Rg.hp at hb
 rw [Option.map_eq_some_iff] at hb
 obtain ⟨b0,h1,rfl⟩:=hb
 have h2:=base_mono h h1
 exact ⟨b0,h1,h2,rfl,by unfold Rg.hp;rw [h2];rfl⟩
theorem hp_same {S:Nat→Bool} {E':List (Option Eff)} (h:∀i,S i=true→eff E' i=eff E i) (k:Nat):g.hp E' S k=g.hp E S k:=by
 cases hb:g.hp E S k with
 | some b=>
  obtain ⟨b0,h1,h2,rfl,h4⟩:=hp_mono (E':=E') (S':=S) (fun i hi=>⟨hi,h i hi⟩) hb
  rw [h4,stos_eq (E:=E') (E':=E) (S':=S) (fun i _ hi _ _=>⟨hi,(h i hi).symm⟩) (fun i _ hi _ _=>⟨hi,h i hi⟩)]
 | none=>
  cases hb':g.hp E' S k with
  | none=>rfl
  | some b=>
   obtain ⟨b0,h1,h2,rfl,h4⟩:=hp_mono (E:=E') (E':=E) (S':=S) (fun i hi=>⟨hi,(h i hi).symm⟩) hb'
   rw [hb] at h4
   cases h4
def ins (D:Nat→Bool) (j:Nat):Nat→Bool:=fun i=>D i||i==j
theorem ins_self (D:Nat→Bool) (j:Nat):ins D j j=true:=by simp [ins]
theorem ins_old {D:Nat→Bool} {j i:Nat} (h:D i=true):ins D j i=true:=by simp [ins,h]
theorem ins_ne {D:Nat→Bool} {j i:Nat} (h:i≠j):ins D j i=D i:=by simp [ins,h]
theorem hp_ins_val {D:Nat→Bool} {j:Nat} {e:Eff} (he:eff E j=some e) (hn:∀b,e≠ .new b) (hs:∀k off xs,e≠ .sto k off xs) (k:Nat):g.hp E (ins D j) k=g.hp E D k:=by
 have hb:g.base E (ins D j) k=g.base E D k:=by
  unfold Rg.base
  cases hk:lk g.s0.hp k with
  | some b'=>rfl
  | none=>
   simp only
   by_cases h1:k-g.kb=j
   ·subst h1
    rw [he]
    cases e with
    | new b=>exact absurd rfl (hn b)
    | _=>simp
   ·rw [ins_ne h1]
 unfold Rg.hp
 rw [hb]
 cases g.base E D k with
 | none=>rfl
 | some b=>
  simp only [Option.map_some]
  rw [stos_eq (E:=E) (E':=E) (S':=D) (fun i _ hi o hh=>by
   by_cases h1:i=j
   ·subst h1
    obtain ⟨off,xs,he',_⟩:=hh
    rw [he] at he'
    injection he' with he'
    exact absurd he' (hs _ _ _)
   ·rw [ins_ne h1] at hi
    exact ⟨hi,rfl⟩) (fun i _ hi o hh=>⟨ins_old hi,rfl⟩)]
def lsz (P:Program) (t:TypeId):Nat:=((P.info? t).map fun i=>if ((P.underlying t).map TypeDesc.isRow).getD false then i.size else 1).getD 0
theorem ldS_congr {t:TypeId} {c c':List SV} {off:Nat} {y:SV} (h:ldS P t c off=some y) (hl:∀i,off≤i→i<off+lsz P t→c'[i]? =c[i]?):ldS P t c' off=some y:=by
 unfold ldS at h ⊢
 unfold lsz at hl
 split at h
 ·rename_i i d hi hd
  rw [hi,hd] at hl
  simp only [Option.map_some,Option.getD_some] at hl
  by_cases hr:d.isRow=true
  ·rw [if_pos hr] at h
   rw [if_pos hr]
   have:(c'.drop off).take i.size=(c.drop off).take i.size:=List.ext_getElem? fun o=>by
    rw [List.getElem?_take,List.getElem?_take]
    split
    ·rename_i ho
     rw [List.getElem?_drop,List.getElem?_drop,hl (off+o) (by omega) (by simp only [hr,if_true];omega)]
    ·rfl
   rw [this]
   exact h
  ·rw [if_neg hr] at h
   rw [if_neg hr,hl off (by omega) (by rw [if_neg hr];omega)]
   exact h
 ·cases h
theorem stepS_congr {ev:Operand→Option SV} {hp hp':Nat→Option SBlk} {o:Oper} {e:Eff} (h:stepS P ev hp o=some e) (hb:∀k b,hp k=some b→∃b',hp' k=some b'∧b'.ro=b.ro∧b'.cells.length=b.cells.length)
  (hl:∀t x k off b b',o.op = .load t x→ev x=some (.p k off)→hp k=some b→hp' k=some b'→∀i,off≤i→i<off+lsz P t→b'.cells[i]? =b.cells[i]?):stepS P ev hp' o=some e:=by
 obtain ⟨dst,op,type,pos,after,guard⟩:=o
 cases op
 case load t x=>
  simp only [stepS] at h ⊢
  split at h
  ·rename_i k off hx
   rw [Option.bind_eq_some_iff] at h
   obtain ⟨b,hk,h⟩:=h
   rw [Option.map_eq_some_iff] at h
   obtain ⟨y,hy,rfl⟩:=h
   obtain ⟨b',h1,h2,h3⟩:=hb k b hk
   simp only [hx,h1,Option.bind_some]
   rw [ldS_congr hy (hl t x k off b b' rfl hx hk h1)]
   rfl
  ·cases h
 case store t x y=>
  simp only [stepS] at h ⊢
  split at h
  ·rename_i k off ys hx hy
   rw [Option.bind_eq_some_iff] at h
   obtain ⟨b,hk,h⟩:=h
   obtain ⟨b',h1,h2,h3⟩:=hb k b hk
   simp only [hx,hy,h1,Option.bind_some,h2,h3]
   exact h
  ·cases h
 all_goals exact h
section
variable {c:Cx} {D:Nat→Bool} {R:Res} {ρ:Nat→Nat} {a:Act} {w:World} {j:Nat} {o:Oper}
theorem sv_val (hst:g.stat nt=true) (hR:Rel g E c D R ρ a w) (hj:D j=false) (hpre:∀i,bit g.ms j i=true→D i=true) (ho:g.l[j]? =some o) {t:Nat} (ht:t∈o.looksAt g.l.toArray) {s:SV} (h:g.sv E j t=some s):a.tmps[t]? =some (s.val ρ):=by
 have hf:=hR.fr t
 unfold FrAt at hf
 unfold Rg.sv at h
 cases hw:g.wr t with
 | none=>
  rw [hw] at h hf
  exact hf s h
 | some i=>
  rw [hw] at h hf
  simp only at h hf
  obtain ⟨h1,h2⟩:=(Rg.stat_op hst ho).2.2.1 t ht i hw
  by_cases hb:bit g.ms j i=true
  ·rw [if_pos hb,Option.map_eq_some_iff] at h
   obtain ⟨e,he,rfl⟩:=h
   obtain ⟨e',he',h3⟩:=hf.1 (hpre i hb)
   rw [he] at he'
   injection he' with he'
   rw [he']
   exact h3
  ·rw [if_neg hb] at h
   have h4:=h2.resolve_left hb
   refine hf.2 ?_ s h
   cases hD:D i with
   | false=>rfl
   | true=>
    have:=hR.clo i j hD h4
    rw [hj] at this
    cases this
theorem ev_val (hst:g.stat nt=true) (hR:Rel g E c D R ρ a w) (hj:D j=false) (hpre:∀i,bit g.ms j i=true→D i=true) (ho:g.l[j]? =some o) {x:Operand} (hx:x∈o.op.operands) {s:SV} (h:g.ev E j x=some s):a.eval x=s.val ρ:=by
 cases x with
 | tmp t=>
  have:=sv_val hst hR hj hpre ho (t:=t) (List.mem_append_left _ (List.mem_filterMap.2 ⟨.tmp t,by simpa using hx,rfl⟩)) h
  simp [Act.eval,this]
 | const v=>injection h with h;subst h;rfl
 | global b=>injection h with h;subst h;rfl
 | func f=>injection h with h;subst h;rfl
theorem gd_val (hst:g.stat nt=true) (hR:Rel g E c D R ρ a w) (hj:D j=false) (hpre:∀i,bit g.ms j i=true→D i=true) (ho:g.l[j]? =some o) {b:Bool} (h:g.gd E j o=some b):Region.wanted o (yielded g.l.toArray a.tmps)=b:=by
 unfold Rg.gd at h
 unfold Region.wanted
 cases hg:o.guard with
 | none=>
  rw [hg] at h
  injection h
 | some iw=>
  obtain ⟨i,want⟩:=iw
  rw [hg] at h
  simp only at h ⊢
  split at h
  ·rename_i b' hb'
   injection h with h
   rw [Option.bind_eq_some_iff] at hb'
   obtain ⟨t,ht,hs⟩:=hb'
   have h1:=sv_val hst hR hj hpre ho (t:=t) (List.mem_append_right _ (by
    rw [hg]
    simp only [List.getElem?_toArray,ht,Option.toList_some,List.mem_singleton])) hs
   have:yielded g.l.toArray a.tmps i=some b':=by
    unfold yielded
    simp only [List.getElem?_toArray,ht,Option.bind_some,h1,SV.val]
   rw [this,←h]
   cases b'<;>cases want<;>rfl
  ·cases h
end
end
theorem put_ne {a:Act} {dst:Option Tmp} {v:Value} {t:Nat} (h:dst≠some t):(a.put dst v).tmps[t]? =a.tmps[t]? :=by
 cases dst with
 | none=>rfl
 | some d=>
  have:d≠t:=fun e=>h (by rw [e])
  simp [Act.put,Array.getElem?_setIfInBounds_ne this]
theorem put_eq {a:Act} {v:Value} {t:Nat} (h:t<a.tmps.size):(a.put (some t) v).tmps[t]? =some v:=by
 simp [Act.put,h]
theorem put_size (a:Act) (dst:Option Tmp) (v:Value):(a.put dst v).tmps.size=a.tmps.size:=by cases dst<;>simp [Act.put]
theorem put_defers' (a:Act) (dst:Option Tmp) (v:Value):(a.put dst v).defers=a.defers:=by cases dst<;>rfl
theorem val_keys {ρ ρ':Nat→Nat} {x:SV} (h:∀k∈x.keys,ρ' k=ρ k):x.val ρ'=x.val ρ:=by
 cases x with
 | v x=>rfl
 | p k o=>simp only [SV.val,h k (by simp [SV.keys])]
 | fn f cap=>
  simp only [SV.val]
  congr 2
  apply List.map_congr_left
  rintro (x|⟨k,o⟩) hm
  ·rfl
  ·simp only [capVal,h k (by simp only [SV.keys,List.mem_filterMap];exact ⟨_,hm,rfl⟩)]
section
variable {g:Rg} {E:List (Option Eff)} {nt:Nat} {P:Program} {c:Cx} {D:Nat→Bool} {R:Res} {ρ:Nat→Nat} {a:Act} {w:World} {j:Nat} {o:Oper} {e:Eff}
theorem eff_lt (he:eff E j=some e):j<E.length:=by
 unfold eff at he
 rcases Nat.lt_or_ge j E.length with h|h
 ·exact h
 ·rw [List.getElem?_eq_none h] at he;cases he
theorem fine_keys (hf:g.fine E P=true) (hl:E.length=g.l.length) (he:eff E j=some e) {k:Nat} (hk:k∈e.keys):k<g.kb∨bit g.ms j (k-g.kb)=true:=by
 unfold Rg.fine at hf
 rw [List.all_eq_true] at hf
 have:=hf j (List.mem_range.2 (by rw [← hl];exact eff_lt he))
 rw [he] at this
 simp only [Bool.and_eq_true,List.all_eq_true,Bool.or_eq_true,decide_eq_true_eq] at this
 exact this.1 k hk
theorem fine_acc (hf:g.fine E P=true) (hl:E.length=g.l.length) {i k off:Nat} {xs:List SV} (he:eff E i=some (.sto k off xs)) (hj:j<g.l.length) (hne:j≠i) {off' n:Nat} (ha:g.acc E P j=some (k,off',n)) (h1:off'<off+xs.length) (h2:off<off'+n):bit g.ms j i=true∨bit g.ms i j=true:=by
 unfold Rg.fine at hf
 rw [List.all_eq_true] at hf
 have:=hf i (List.mem_range.2 (by rw [← hl];exact eff_lt he))
 rw [he] at this
 simp only [Bool.and_eq_true,List.all_eq_true] at this
 have:=this.2 j (List.mem_range.2 hj)
 rw [ha] at this
 simp only [Bool.or_eq_true,beq_iff_eq,Bool.not_eq_true',BEq.rfl,Bool.true_and,Bool.and_eq_false_iff,decide_eq_false_iff_not] at this
 rcases this with h|(h|h)|h
 ·exact absurd h hne
 ·rcases h with h|h
  ·exact absurd h1 h
  ·exact absurd h2 h
 ·exact .inl h
 ·exact .inr h
theorem fr_ins (hst:g.stat nt=true) (hf:∀t,FrAt g E D ρ a t) (hsz:a.tmps.size=nt) (ho:g.l[j]? =some o) (he:eff E j=some e) {ρ':Nat→Nat} (h0:∀t x,lk g.s0.fr t=some x→x.val ρ'=x.val ρ) (h1:∀i e',D i=true→eff E i=some e'→(resS g.kb i e').val ρ'=(resS g.kb i e').val ρ) :
  ∀t,FrAt g E (ins D j) ρ' (a.put o.dst ((resS g.kb j e).val ρ')) t:=by
 intro t
 have hft:=hf t
 unfold FrAt at hft ⊢
 cases hw:g.wr t with
 | none=>
  rw [hw] at hft
  intro x hx
  rw [put_ne (wr_none hw ho),hft x hx,h0 t x hx]
 | some i=>
  rw [hw] at hft
  simp only at hft ⊢
  by_cases hij:i=j
  ·subst hij
   obtain ⟨o',ho',hd⟩:=wr_some hw
   rw [ho] at ho'
   injection ho' with ho'
   subst ho'
   refine ⟨fun _=>⟨e,he,?_⟩,fun h=>?_⟩
   ·rw [hd]
    exact put_eq (by rw [hsz];exact ((Rg.stat_op hst ho).2.1 t hd).1)
   ·rw [ins_self] at h;cases h
  ·have hne:o.dst≠some t:=fun hd=>by
    have:=((Rg.stat_op hst ho).2.1 t hd).2
    rw [hw] at this
    injection this with this
    exact hij this
   rw [ins_ne hij]
   refine ⟨fun h=>?_,fun h x hx=>?_⟩
   ·obtain ⟨e',he',h2⟩:=hft.1 h
    exact ⟨e',he',by rw [put_ne hne,h2,h1 i e' h he']⟩
   ·rw [put_ne hne,hft.2 h x hx,h0 t x hx]
theorem dom_ins (hR:Rel g E c D R ρ a w) (he:eff E j=some e):∀i,ins D j i=true→(eff E i).isSome=true:=fun i hi=>by
 by_cases h:i=j
 ·subst h;rw [he];rfl
 ·rw [ins_ne h] at hi;exact hR.dom i hi
theorem clo_ins (hR:Rel g E c D R ρ a w) (hpre:∀i,bit g.ms j i=true→D i=true):∀i i',ins D j i=true→bit g.ms i i'=true→ins D j i'=true:=fun i i' hi hb=>by
 by_cases h:i=j
 ·subst h;exact ins_old (hpre i' hb)
 ·rw [ins_ne h] at hi;exact ins_old (hR.clo i i' hi hb)
theorem rel_val (hst:g.stat c.nt=true) (hR:Rel g E c D R ρ a w) (hpre:∀i,bit g.ms j i=true→D i=true) (ho:g.l[j]? =some o) (he:eff E j=some e) (hn:∀b,e≠ .new b) (hs:∀k off xs,e≠ .sto k off xs):Rel g E c (ins D j) R ρ (a.put o.dst ((resS g.kb j e).val ρ)) w:=by
 have hh:g.hp E (ins D j)=g.hp E D:=funext fun k=>hp_ins_val he hn hs k
 refine ⟨by rw [put_size];exact hR.size,by rw [put_defers'];exact hR.defers,fr_ins hst hR.fr hR.size ho he (fun _ _ _=>rfl) (fun _ _ _ _=>rfl),?_,?_,?_,dom_ins hR he,clo_ins hR hpre⟩
 ·rw [hh];exact hR.hp
 ·rw [hh];exact hR.inj
 ·rw [hh];exact hR.sep
theorem stepV_eff {ev:Operand→Option SV} (h:stepV P ev o=some e):(∃ r,e = .val (.v r))∨e = .nop:=by
 unfold stepV at h
 split at h
 ·split at h
  ·injection h with h;exact .inl ⟨_,h.symm⟩
  ·injection h with h;exact .inr h.symm
  ·cases h
 ·cases h
theorem stepS_sto {ev:Operand→Option SV} {hp:Nat→Option SBlk} {k off:Nat} {xs:List SV} (h:stepS P ev hp o=some (.sto k off xs)):∃b,hp k=some b∧b.ro=false∧off+xs.length≤b.cells.length:=by
 have hV:stepV P ev o=some (.sto k off xs)→∃b,hp k=some b∧b.ro=false∧off+xs.length≤b.cells.length:=fun h=>by
  rcases stepV_eff h with ⟨r,h⟩|h<;>cases h
 obtain ⟨dst,op,type,pos,after,guard⟩:=o
 cases op
 case store t x y=>
  simp only [stepS] at h
  split at h
  ·rw [Option.bind_eq_some_iff] at h
   obtain ⟨b,hk,h⟩:=h
   split at h
   ·rename_i hc
    injection h with h
    injection h with h1 h2 h3
    subst h1 h2 h3
    simp only [Bool.and_eq_true,Bool.not_eq_true',beq_iff_eq,decide_eq_true_eq] at hc
    exact ⟨b,hk,hc.1.1.1,hc.1.2⟩
   ·cases h
  ·cases h
 case move x=>simp [stepS] at h
 case assign x=>simp [stepS] at h
 case load t x=>
  simp only [stepS] at h
  split at h
  ·simp [Option.bind_eq_some_iff] at h
  ·cases h
 case alloc t=>
  simp only [stepS,Option.bind_eq_some_iff,Option.map_eq_some_iff] at h
  obtain ⟨_,_,_,_,h⟩:=h
  cases h
 case box t x=>simp [stepS] at h
 case fieldAddr s x f=>
  simp only [stepS] at h
  split at h
  ·simp at h
  ·exact hV h
 case nilCheck x=>
  simp only [stepS] at h
  split at h
  ·cases h
  ·exact hV h
 case binOp op t x y yt=>
  simp only [stepS] at h
  split at h
  ·split at h<;>cases h
  ·exact hV h
 case makeFunc f first cap=>
  simp only [stepS] at h
  split at h
  ·simp at h
  ·cases h
 all_goals exact hV h
theorem hp_ins_sto (hst:g.stat nt=true) (hf:g.fine E P=true) (hl:E.length=g.l.length) (hj:D j=false) (hclo:∀j i,D j=true→bit g.ms j i=true→D i=true) {k off:Nat} {xs:List SV} (he:eff E j=some (.sto k off xs)) (k':Nat) :
  g.hp E (ins D j) k'=if k'=k then (g.hp E D k).map (fun b=>{b with cells:=updS b.cells off xs}) else g.hp E D k':=by
 have hb:∀k',g.base E (ins D j) k'=g.base E D k':=fun k'=>by
  unfold Rg.base
  cases hk:lk g.s0.hp k' with
  | some b'=>rfl
  | none=>
   simp only
   by_cases h1:k'-g.kb=j
   ·subst h1
    rw [he]
    simp
   ·rw [ins_ne h1]
 unfold Rg.hp
 rw [hb]
 split
 ·rename_i e
  subst e
  cases g.base E D k' with
  | none=>rfl
  | some b=>
   simp only [Option.map_some,Option.some.injEq,SBlk.mk.injEq,true_and]
   have hjl:j<g.l.length:=by rw [← hl];exact eff_lt he
   exact stos_last hjl he hj fun i o h1 h2 hi hh=>by
    obtain ⟨off2,xs2,he2,h3,h4⟩:=hh
    have hij:j≠i:=fun e=>by subst e;rw [hj] at hi;cases hi
    have ha:g.acc E P j=some (k',off,xs.length):=by unfold Rg.acc;rw [he]
    rcases fine_acc hf hl he2 hjl hij ha (by omega) (by omega) with h5|h5
    ·exact Rg.bit_lt hst h5
    ·have:=hclo i j hi h5
     rw [hj] at this
     cases this
 ·rename_i hne
  cases g.base E D k' with
  | none=>rfl
  | some b=>
   simp only [Option.map_some]
   rw [stos_eq (E:=E) (E':=E) (S':=D) (fun i _ hi o hh=>by
    by_cases h1:i=j
    ·subst h1
     obtain ⟨off2,xs2,he2,_⟩:=hh
     rw [he] at he2
     injection he2 with he2
     injection he2 with h2
     exact absurd h2.symm hne
    ·rw [ins_ne h1] at hi
     exact ⟨hi,rfl⟩) (fun i _ hi o hh=>⟨ins_old hi,rfl⟩)]
theorem blk_upd {b:Nat} {t:TypeId} {cells xs:List SV} {off:Nat} (h:Blk w b t (cellsV ρ cells)) (hle:off+xs.length≤cells.length):Blk (w.setCells b off (xs.map (SV.val ρ))) b t (cellsV ρ (updS cells off xs)):=by
 obtain ⟨cur',h1,h2,h3⟩:=setCells_block (xs.map (SV.val ρ)) off w (cellsV ρ cells) h (by rw [List.length_map];unfold cellsV;simpa using hle)
 have:cur'=cellsV ρ (updS cells off xs):=by
  apply Array.ext_getElem?
  intro o
  rw [h3 o,cellsV_get,cellsV_get,updS_get,List.length_map,List.getElem?_map]
  by_cases ho:off≤o∧o<off+xs.length
  ·simp only [if_pos ho]
   have hx:xs[o-off]? =some (xs[o-off]'(by omega)):=List.getElem?_eq_getElem _
   have hc:cells[o]? =some (cells[o]'(by omega)):=List.getElem?_eq_getElem _
   rw [hx,hc]
   rfl
  ·simp only [if_neg ho,Option.map_id']
 rw [← this]
 exact h1
theorem rel_sto (hst:g.stat c.nt=true) (hok:g.Ok E P) (hR:Rel g E c D R ρ a w) (hj:D j=false) (hpre:∀i,bit g.ms j i=true→D i=true) (ho:g.l[j]? =some o) {k off:Nat} {xs:List SV} (he:eff E j=some (.sto k off xs)) {b:SBlk} (hb:g.hp E D k=some b) (hro:b.ro=false) (hle:off+xs.length≤b.cells.length) :
  Rel g E c (ins D j) R ρ (a.put o.dst undef) (w.setCells (ρ k) off (xs.map (SV.val ρ))):=by
 have hh:=hp_ins_sto (D:=D) hst hok.fine hok.len hj hR.clo he
 have hinv:∀k' b',g.hp E (ins D j) k'=some b'→∃b0,g.hp E D k'=some b0∧b0.ro=b'.ro∧b0.ty=b'.ty:=fun k' b' h=>by
  rw [hh] at h
  split at h
  ·rename_i e;subst e
   rw [Option.map_eq_some_iff] at h
   obtain ⟨b0,h1,rfl⟩:=h
   exact ⟨b0,h1,rfl,rfl⟩
  ·exact ⟨b',h,rfl,rfl⟩
 have hch:Chg [ρ k] w (w.setCells (ρ k) off (xs.map (SV.val ρ))):=(Chg.refl _ _).setCells (.inl (by simp)) _ _
 refine ⟨by rw [put_size];exact hR.size,by rw [put_defers'];exact hR.defers,fr_ins (e:= .sto k off xs) hst hR.fr hR.size ho he (fun _ _ _=>rfl) (fun _ _ _ _=>rfl),fun k' b' h=>?_,fun k1 k2 b1 b2 h1 h2 hr=>?_,?_,dom_ins hR he,clo_ins hR hpre⟩
 ·rw [hh] at h
  split at h
  ·rename_i e;subst e
   rw [hb] at h
   injection h with h
   subst h
   exact blk_upd (hR.hp _ _ hb) hle
  ·rename_i hne
   have:=hR.hp _ _ h
   exact (setCells_other (fun e=>hne (hR.inj _ _ _ _ h hb e)) _ _ _).trans this
 ·obtain ⟨b1',h1',_⟩:=hinv _ _ h1
  obtain ⟨b2',h2',_⟩:=hinv _ _ h2
  exact hR.inj _ _ _ _ h1' h2' hr
 ·obtain ⟨F,f1,f2,f3,f4⟩:=hR.sep
  refine ⟨F,R.chg f1 hch (fun x hx hm=>?_),fun k' b' h=>?_,f3,f4.trans hch (fun x hx=>?_)⟩
  ·simp only [List.mem_singleton] at hm
   subst hm
   exact (f2 _ _ hb).1 hx
  ·obtain ⟨b0,h1,h2,_⟩:=hinv _ _ h
   obtain ⟨f5,f6⟩:=f2 _ _ h1
   exact ⟨f5,fun h=>f6 (h2.trans h)⟩
  ·simp only [List.mem_singleton] at hx
   subst hx
   exact (f2 _ _ hb).2 hro
theorem rel_new (hst:g.stat c.nt=true) (hok:g.Ok E P) (hR:Rel g E c D R ρ a w) (hj:D j=false) (hpre:∀i,bit g.ms j i=true→D i=true) (ho:g.l[j]? =some o) {b:SBlk} (he:eff E j=some (.new b)) (hro:b.ro=false) :
  ∃ρ',Rel g E c (ins D j) R ρ' (a.put o.dst (.pointer (some ⟨w.heap.size,0,none⟩))) (w.alloc (.cells (cellsV ρ b.cells) b.ty)):=by
 obtain ⟨ρ',hρ⟩:∃ρ':Nat→Nat,ρ'=fun k=>if k=g.kb+j then w.heap.size else ρ k:=⟨_,rfl⟩
 have hρj:ρ' (g.kb+j)=w.heap.size:=by rw [hρ];simp
 have hρn:∀k,k≠g.kb+j→ρ' k=ρ k:=fun k hk=>by rw [hρ];simp [hk]
 have hjj:bit g.ms j j=false:=by
  cases h:bit g.ms j j with
  | false=>rfl
  | true=>have:=Rg.bit_lt hst h;omega
 have hD:∀i e',D i=true→eff E i=some e'→∀k∈e'.keys,k≠g.kb+j:=fun i e' hi he' k hk=>by
  rcases fine_keys hok.fine hok.len he' hk with h|h
  ·omega
  ·rintro rfl
   rw [Nat.add_sub_cancel_left] at h
   have:=hR.clo i j hi h
   rw [hj] at this
   cases this
 have hjk:∀k∈(Eff.new b).keys,k≠g.kb+j:=fun k hk=>by
  rcases fine_keys hok.fine hok.len he hk with h|h
  ·omega
  ·rintro rfl
   rw [Nat.add_sub_cancel_left,hjj] at h
   cases h
 have h0:∀t x,lk g.s0.fr t=some x→x.val ρ'=x.val ρ:=fun t x hx=>val_keys fun k hk=>hρn k (by have:=Rg.stat_fr hst hx k hk;omega)
 have h1:∀i e',D i=true→eff E i=some e'→(resS g.kb i e').val ρ'=(resS g.kb i e').val ρ:=fun i e' hi he'=>by
  cases e' with
  | val x=>exact val_keys fun k hk=>hρn k (hD i _ hi he' k hk)
  | new b'=>
   have hij:i≠j:=fun e=>by subst e;rw [hj] at hi;cases hi
   simp only [resS,SV.val]
   rw [hρn _ (by omega)]
  | sto k off xs=>rfl
  | nop=>rfl
 have hbase:∀k,k≠g.kb+j→g.base E (ins D j) k=g.base E D k:=fun k hk=>by
  unfold Rg.base
  cases hkk:lk g.s0.hp k with
  | some b'=>rfl
  | none=>
   simp only
   by_cases hle:g.kb≤k
   ·rw [ins_ne (by omega)]
   ·simp [hle]
 have hsto:∀k cells,stos E (ins D j) k (List.range g.l.length) cells=stos E D k (List.range g.l.length) cells:=fun k cells=>stos_eq (fun i _ hi o hh=>by
   by_cases h1:i=j
   ·subst h1
    obtain ⟨off2,xs2,he2,_⟩:=hh
    rw [he] at he2
    cases he2
   ·rw [ins_ne h1] at hi
    exact ⟨hi,rfl⟩) (fun i _ hi o hh=>⟨ins_old hi,rfl⟩)
 have hhp:∀k,k≠g.kb+j→g.hp E (ins D j) k=g.hp E D k:=fun k hk=>by
  unfold Rg.hp
  rw [hbase k hk]
  cases g.base E D k with
  | none=>rfl
  | some b'=>simp only [Option.map_some,hsto]
 have hlk:lk g.s0.hp (g.kb+j)=none:=by
  cases h:lk g.s0.hp (g.kb+j) with
  | none=>rfl
  | some b'=>have:=(Rg.stat_hp hst h).1;omega
 have hnew:g.hp E (ins D j) (g.kb+j)=some b:=by
  unfold Rg.hp Rg.base
  rw [hlk]
  simp only [Nat.le_add_right,Nat.add_sub_cancel_left,ins_self,and_self,if_true,he,Option.map_some,hsto]
  have:stos E D (g.kb+j) (List.range g.l.length) b.cells=stos E (fun _=>false) (g.kb+j) (List.range g.l.length) b.cells:=stos_eq (fun i _ hi o hh=>by
   obtain ⟨off2,xs2,he2,_⟩:=hh
   exact absurd rfl (hD i _ hi he2 (g.kb+j) (by simp [Eff.keys]))) (fun i _ hi=>by cases hi)
  rw [this]
  have e2:∀(l:List Nat) (cs:List SV),stos E (fun _=>false) (g.kb+j) l cs=cs:=fun l=>by
   induction l with
   | nil=>intro cs;rfl
   | cons i l ih=>
    intro cs
    show stos E (fun _=>false) (g.kb+j) l (stoAt E (fun _=>false) (g.kb+j) cs i)=cs
    rw [ih]
    unfold stoAt
    split<;>simp
  rw [e2]
 have hnone:g.hp E D (g.kb+j)=none:=by
  unfold Rg.hp Rg.base
  rw [hlk]
  simp [hj]
 have hcells:∀k b',g.hp E D k=some b'→cellsV ρ' b'.cells=cellsV ρ b'.cells:=fun k b' hb'=>by
  have hkeys:∀x∈b'.cells,∀k'∈x.keys,k'≠g.kb+j:=by
   unfold Rg.hp at hb'
   rw [Option.map_eq_some_iff] at hb'
   obtain ⟨b0,hb0,rfl⟩:=hb'
   have hk0:∀x∈b0.cells,∀k'∈x.keys,k'≠g.kb+j:=by
    unfold Rg.base at hb0
    cases hkk:lk g.s0.hp k with
    | some b1=>
     rw [hkk] at hb0
     injection hb0 with hb0
     subst hb0
     intro x hx k' hk'
     have:=(Rg.stat_hp hst hkk).2 x hx k' hk'
     omega
    | none=>
     rw [hkk] at hb0
     simp only at hb0
     split at hb0
     ·rename_i hc
      split at hb0
      ·rename_i b1 he1
       injection hb0 with hb0
       subst hb0
       intro x hx k' hk'
       exact hD _ _ hc.2 he1 k' (by simp only [Eff.keys,List.mem_flatMap];exact ⟨x,hx,hk'⟩)
      ·cases hb0
     ·cases hb0
   have key:∀(l:List Nat) (cs:List SV),(∀ x∈cs,∀k'∈x.keys,k'≠g.kb+j)→∀x∈stos E D k l cs,∀k'∈x.keys,k'≠g.kb+j:=fun l=>by
    induction l with
    | nil=>intro cs h;exact h
    | cons i l ih=>
     intro cs h
     refine ih (stoAt E D k cs i) ?_
     unfold stoAt
     split
     ·rename_i k2 off2 xs2 he2
      split
      ·rename_i hs
       rw [Bool.and_eq_true] at hs
       intro x hx k' hk'
       rw [List.mem_iff_getElem?] at hx
       obtain ⟨o2,hx⟩:=hx
       rw [updS_get,Option.map_eq_some_iff] at hx
       obtain ⟨y,hy,rfl⟩:=hx
       split at hk'
       ·cases hx2:xs2[o2-off2]? with
        | none=>rw [hx2] at hk';exact h y (List.mem_of_getElem? hy) k' hk'
        | some z=>
         rw [hx2] at hk'
         exact hD i _ hs.1 he2 k' (by simp only [Eff.keys,List.mem_cons,List.mem_flatMap];exact .inr ⟨z,List.mem_of_getElem? hx2,hk'⟩)
       ·exact h y (List.mem_of_getElem? hy) k' hk'
      ·exact h
     ·exact h
   exact key _ _ hk0
  unfold cellsV
  congr 1
  apply List.map_congr_left
  intro x hx
  exact val_keys fun k' hk'=>hρn k' (hkeys x hx k' hk')
 have hnc:cellsV ρ' b.cells=cellsV ρ b.cells:=by
  unfold cellsV
  congr 1
  apply List.map_congr_left
  intro x hx
  exact val_keys fun k' hk'=>hρn k' (hjk k' (by simp only [Eff.keys,List.mem_flatMap];exact ⟨x,hx,hk'⟩))
 have hch:Chg [] w (w.alloc (.cells (cellsV ρ b.cells) b.ty)):=(Chg.refl _ _).alloc _
 refine ⟨ρ',by rw [put_size];exact hR.size,by rw [put_defers'];exact hR.defers,?_,fun k b' h=>?_,fun k1 k2 b1 b2 h1 h2 hr=>?_,?_,dom_ins hR he,clo_ins hR hpre⟩
 ·have:=fr_ins (e:= .new b) hst hR.fr hR.size ho he h0 h1
  have hv:(resS g.kb j (.new b)).val ρ' = .pointer (some ⟨w.heap.size,0,none⟩):=by simp only [resS,SV.val,hρj]
  rw [hv] at this
  exact this
 ·by_cases hk:k=g.kb+j
  ·subst hk
   rw [hnew] at h
   injection h with h
   subst h
   rw [hρj,hnc]
   exact Blk.new _ _ _
  ·rw [hhp k hk] at h
   rw [hρn k hk,hcells k b' h]
   exact (hR.hp k b' h).alloc _
 ·by_cases hk1:k1=g.kb+j
  ·by_cases hk2:k2=g.kb+j
   ·rw [hk1,hk2]
   ·subst hk1
    rw [hhp k2 hk2] at h2
    rw [hρj,hρn k2 hk2] at hr
    have:=(hR.hp _ _ h2).lt
    omega
  ·by_cases hk2:k2=g.kb+j
   ·subst hk2
    rw [hhp k1 hk1] at h1
    rw [hρj,hρn k1 hk1] at hr
    have:=(hR.hp _ _ h1).lt
    omega
   ·rw [hhp k1 hk1] at h1
    rw [hhp k2 hk2] at h2
    rw [hρn k1 hk1,hρn k2 hk2] at hr
    exact hR.inj _ _ _ _ h1 h2 hr
 ·obtain ⟨F,f1,f2,f3,f4⟩:=hR.sep
  refine ⟨F,R.chg f1 hch (fun x hx hm=>by cases hm),fun k b' h=>?_,f3,f4.trans hch (fun x hx=>by cases hx)⟩
  by_cases hk:k=g.kb+j
  ·subst hk
   rw [hρj]
   exact ⟨fun hm=>by have:=R.lt f1 _ hm;omega,fun _=> .inr f4.size⟩
  ·rw [hhp k hk] at h
   rw [hρn k hk]
   exact f2 k b' h
end
def ActsR (P:Program) (o:Oper) (env:Operand→Value) (w:World) (R:Value→World→Prop):Prop:=
 match (execOp env o).run P w with
 | .ok (.value v) w'=>R v w'
 | .ok .skip w'=>R undef w'
 | .ok (.enter f args) w'=>Calls P f args w' fun
   | .returned v,w''=>R v w''
   | _,_=>False
 | _=>False
theorem wp_of_acts {P:Program} {o:Oper} {a:Act} {w:World} {K:Act→World→Prop} {Q:Exit→Act→World→Prop} {R:Value→World→Prop} (h:ActsR P o a.eval w R) (hk:∀v w',R v w'→K (a.put o.dst v) w'):o.wp P a w K Q:=by
 unfold ActsR at h
 unfold Oper.wp
 generalize (execOp a.eval o).run P w=r at h
 cases r with
 | ok n w'=>
  cases n<;>simp only at h<;>first |exact h.elim|skip
  ·exact hk _ _ h
  ·exact hk _ _ h
  ·refine Calls.mono h fun e w'' he=>?_
   cases e with
   | returned v=>exact hk _ _ he
   | panicked ch=>exact he.elim
   | outgrown=>exact he.elim
 | halt x w'=>exact h.elim
theorem acts_congr {P:Program} {o:Oper} {env env':Operand→Value} {w:World} {R:Value→World→Prop} (hs:noSel o.op=true) (h:∀x∈o.op.operands,env x=env' x) (ha:ActsR P o env' w R):ActsR P o env w R:=by
 unfold ActsR at ha ⊢
 rw [execOp_congr o (fun cs b e=>by rw [e] at hs;cases hs) h]
 exact ha
section
variable (P:Program) (g:Rg) (c:Cx) (K:Act→World→Prop)
def Rg.env (E:List (Option Eff)) (j:Nat) (ρ:Nat→Nat):Operand→Value:=fun x=>match g.ev E j x with |some s=>s.val ρ|none=>undef
def RdAt (E:List (Option Eff)) (R:Res) (b:Bool) (j:Nat) (o:Oper) (x:SV):Prop:=
 g.l[j]? =some o∧((g.gd E j o=some false∧x = .v undef)∨
  (g.gd E j o=some true∧(∀ y∈o.op.operands,(g.ev E j y).isSome=true)∧∀ρ w F,Chg c.F0 c.w0 w→(b=true∨R.at_ w F)→(execOp (g.env E j ρ) o).run P w = .ok (.value (x.val ρ)) w))
def RdOk (E:List (Option Eff)) (R:Res) (pd:List (Bool×Nat)):Prop:=∀p∈pd,∃o x,eff E p.2=some (.val x)∧RdAt P g c E R p.1 p.2 o x
def RV:Nat→List (Option Eff)→Res→List (Bool×Nat)→Prop
 | 0,E,R,pd=>g.Ok E P∧(∀ j,j<g.l.length→(eff E j).isSome=true)∧∀D ρ a w,(∀ j,j<g.l.length→D j=true)→Rel g E c D R ρ a w→K a w
 | m+1,E,R,pd=>g.Ok E P∧∃(j:Nat) (o:Oper) (pk:List Nat),g.l[j]? =some o∧eff E j=none∧
   ((∃ (b:Bool) (x:SV) (E':List (Option Eff)),(∀ i,(eff E i).isSome=true→eff E' i=eff E i)∧(∀ i,g.dy.contains i=true→(eff E' i).isSome=true→i=j∨(eff E i).isSome=true)∧eff E' j=some (.val x)∧RdAt P g c E R b j o x∧RV m E' R ((b,j)::pd))∨
   ((∀ i,i<g.l.length→eff E i=none→i=j∨bit g.ms i j=true)∧(∀ p∈pd,p.1=true∨bit g.ms j p.2=true)∧(∀ x∈o.op.operands,(g.ev E j x).isSome=true)∧g.gd E j o=some true∧
   (∀ k∈pk,∀i off xs,eff E i=some (.sto k off xs)→bit g.ms j i=true)∧
   ∀ρ w F,R.at_ w F→Chg c.F0 c.w0 w→(∀ x∈F,x∈c.F0∨c.w0.heap.size≤x)→(∀ k∈pk,∀b,g.hp E (bit g.ms j) k=some b→Blk w (ρ k) b.ty (cellsV ρ b.cells)∧¬ρ k∈F)→
    ActsR P o (g.env E j ρ) w fun v w'=>∃(x:SV) (R':Res) (F':List Nat) (E':List (Option Eff)),v=x.val ρ∧(∀ i,(eff E i).isSome=true→eff E' i=eff E i)∧(∀ i,g.dy.contains i=true→(eff E' i).isSome=true→i=j∨(eff E i).isSome=true)∧eff E' j=some (.val x)∧R'.at_ w' F'∧(∀ y∈F',y∈F∨w.heap.size≤y)∧Chg F w w'∧RV m E' R' (pd.filter (·.1))))
end
section
variable {g:Rg} {E:List (Option Eff)} {P:Program} {c:Cx} {D:Nat→Bool} {R:Res} {ρ:Nat→Nat} {a:Act} {w:World} {j:Nat} {o:Oper} {e:Eff} {K:Act→World→Prop} {Q:Exit→Act→World→Prop}
theorem wpOp_if {ops:Array Oper} (ho:ops[j]? =some o) (h:Region.wanted o (yielded ops a.tmps)=true→o.wp P a w K Q) (h':Region.wanted o (yielded ops a.tmps)=false→K (a.put o.dst undef) w):wpOp P ops Q j K a w:=by
 unfold wpOp
 simp only [ho]
 split
 ·rename_i hw;exact .inl (h hw)
 ·rename_i hw;exact h' (by simpa using hw)
theorem static_step (hst:g.stat c.nt=true) (hok:g.Ok E P) (hR:Rel g E c D R ρ a w) (hj:D j=false) (hpre:∀i,bit g.ms j i=true→D i=true) (ho:g.l[j]? =some o) (he:eff E j=some e) (hdy:g.dy.contains j=false)
  (hK:∀ρ' a' w',Rel g E c (ins D j) R ρ' a' w'→K a' w'):wpOp P g.l.toArray Q j K a w:=by
 have hstep:=hok.step j e he hdy
 unfold Rg.step at hstep
 split at hstep
 ·cases hstep
 rw [ho] at hstep
 simp only at hstep
 have hoa:g.l.toArray[j]? =some o:=by simpa using ho
 have hjl:j<g.l.length:=(List.getElem?_eq_some_iff.1 ho).1
 cases hg:g.gd E j o with
 | none=>rw [hg] at hstep;cases hstep
 | some b=>
  have hw:=gd_val hst hR hj hpre ho hg
  rw [hg] at hstep
  cases b with
  | false=>
   injection hstep with hstep
   subst hstep
   refine wpOp_if hoa (fun h=>by rw [hw] at h;cases h) fun _=>?_
   exact hK _ _ _ (rel_val (e:= .nop) hst hR hpre ho he (fun _ h=>by cases h) (fun _ _ _ h=>by cases h))
  | true=>
   refine wpOp_if hoa (fun _=>?_) (fun h=>by rw [hw] at h;cases h)
   simp only at hstep
   have hmono:∀i,bit g.ms j i=true→D i=true∧eff E i=eff E i:=fun i hi=>⟨hpre i hi,rfl⟩
   have hstep':stepS P (g.ev E j) (g.hp E D) o=some e:=by
    refine stepS_congr hstep (fun k b hb=>?_) (fun t x k off b b' hop hx hb hb' i h1 h2=>?_)
    ·obtain ⟨b0,_,_,rfl,h4⟩:=hp_mono hmono hb
     exact ⟨_,h4,rfl,by simp only [stos_len]⟩
    ·obtain ⟨b0,_,_,rfl,h4⟩:=hp_mono hmono hb
     rw [hb'] at h4
     injection h4 with h4
     subst h4
     simp only
     have hval:∀k off xs,e≠ .sto k off xs:=fun k' off' xs' heq=>by
      subst heq
      obtain ⟨dst,op,type,pos,after,guard⟩:=o
      simp only at hop
      subst hop
      simp only [stepS,hx,Option.bind_eq_some_iff,Option.map_eq_some_iff] at hstep
      obtain ⟨_,_,_,_,h⟩:=hstep
      cases h
     have hacc:g.acc E P j=some (k,off,lsz P t):=by
      unfold Rg.acc
      rw [he]
      obtain ⟨dst,op,type,pos,after,guard⟩:=o
      simp only at hop
      subst hop
      cases e with
      | sto k' off' xs'=>exact absurd rfl (hval _ _ _)
      | val x'=>simp only [ho,hx];rfl
      | new b'=>simp only [ho,hx];rfl
      | nop=>simp only [ho,hx];rfl
     refine stos_get (E:=E) (E':=E) _ _ _ rfl (fun i' _ hi' hh=>?_) (fun i' _ hi' hh=>⟨hpre i' hi',rfl⟩)
     obtain ⟨off2,xs2,he2,h3,h4⟩:=hh
     have hne:j≠i':=fun e=>by subst e;rw [hj] at hi';cases hi'
     rcases fine_acc hok.fine hok.len he2 hjl hne hacc (by omega) (by omega) with h5|h5
     ·exact ⟨h5,rfl⟩
     ·have:=hR.clo i' j hi' h5
      rw [hj] at this
      cases this
   have hrun:=stepS_sound (P:=P) (ρ:=ρ) (env:=a.eval) (ev:=g.ev E j) (hp:=g.hp E D) (o:=o) (w:=w) (fun x hx s hs=>ev_val hst hR hj hpre ho hx hs) hR.hp hstep'
   unfold Oper.wp
   cases e with
   | val x=>
    rw [show (execOp a.eval o).run P w=_ from hrun]
    exact hK _ _ _ (rel_val (e:= .val x) hst hR hpre ho he (fun _ h=>by cases h) (fun _ _ _ h=>by cases h))
   | nop=>
    rw [show (execOp a.eval o).run P w=_ from hrun]
    exact hK _ _ _ (rel_val (e:= .nop) hst hR hpre ho he (fun _ h=>by cases h) (fun _ _ _ h=>by cases h))
   | sto k off xs=>
    rw [show (execOp a.eval o).run P w=_ from hrun]
    obtain ⟨b,hb,hro,hle⟩:=stepS_sto hstep'
    exact hK _ _ _ (rel_sto hst hok hR hj hpre ho he hb hro hle)
   | new b=>
    rw [show (execOp a.eval o).run P w=_ from hrun]
    have hro:b.ro=false:=by
     have hV:stepV P (g.ev E j) o=some (.new b)→b.ro=false:=fun h=>by
      rcases stepV_eff h with ⟨r,h⟩|h<;>cases h
     clear hrun
     obtain ⟨dst,op,type,pos,after,guard⟩:=o
     cases op
     case alloc t=>
      simp only [stepS,Option.bind_eq_some_iff,Option.map_eq_some_iff] at hstep'
      obtain ⟨_,_,_,_,h⟩:=hstep'
      injection h with h
      rw [← h]
     case box t x=>
      simp only [stepS,Option.map_eq_some_iff] at hstep'
      obtain ⟨_,_,h⟩:=hstep'
      injection h with h
      rw [← h]
     case move x=>simp [stepS] at hstep'
     case assign x=>simp [stepS] at hstep'
     case load t x=>
      simp only [stepS] at hstep'
      split at hstep'
      ·simp [Option.bind_eq_some_iff] at hstep'
      ·cases hstep'
     case store t x y=>
      simp only [stepS] at hstep'
      split at hstep'
      ·rw [Option.bind_eq_some_iff] at hstep'
       obtain ⟨_,_,h⟩:=hstep'
       split at h<;>cases h
      ·cases hstep'
     case fieldAddr s x f=>
      simp only [stepS] at hstep'
      split at hstep'
      ·simp at hstep'
      ·exact hV hstep'
     case nilCheck x=>
      simp only [stepS] at hstep'
      split at hstep'
      ·cases hstep'
      ·exact hV hstep'
     case binOp op t x y yt=>
      simp only [stepS] at hstep'
      split at hstep'
      ·split at hstep'<;>cases hstep'
      ·exact hV hstep'
     case makeFunc f first cap=>
      simp only [stepS] at hstep'
      split at hstep'
      ·simp at hstep'
      ·cases hstep'
     all_goals exact hV hstep'
    obtain ⟨ρ',hR'⟩:=rel_new hst hok hR hj hpre ho he hro
    exact hK _ _ _ hR'
theorem sv_more {E':List (Option Eff)} (hext:∀i,(eff E i).isSome=true→eff E' i=eff E i) {t:Nat} {x:SV} (h:g.sv E j t=some x):g.sv E' j t=some x:=by
 unfold Rg.sv at h ⊢
 cases hw:g.wr t with
 | none=>rw [hw] at h;exact h
 | some i=>
  rw [hw] at h
  simp only at h ⊢
  split
  ·rename_i hb
   rw [if_pos hb] at h
   rw [hext i (by cases he:eff E i with |none=>rw [he] at h;cases h|some e=>rfl)]
   exact h
  ·rename_i hb
   rw [if_neg hb] at h
   exact h
theorem ev_more {E':List (Option Eff)} (hext:∀i,(eff E i).isSome=true→eff E' i=eff E i) {y:Operand} (h:(g.ev E j y).isSome=true):g.ev E' j y=g.ev E j y:=by
 cases hs:g.ev E j y with
 | none=>rw [hs] at h;cases h
 | some x=>
  cases y with
  | tmp t=>exact sv_more hext hs
  | const v=>exact hs
  | global b=>exact hs
  | func f=>exact hs
theorem gd_more {E':List (Option Eff)} (hext:∀i,(eff E i).isSome=true→eff E' i=eff E i) {b:Bool} (h:g.gd E j o=some b):g.gd E' j o=some b:=by
 unfold Rg.gd at h ⊢
 cases hg:o.guard with
 | none=>rw [hg] at h;exact h
 | some iw=>
  obtain ⟨i,want⟩:=iw
  rw [hg] at h
  simp only at h ⊢
  cases hd:(g.l[i]?).bind (·.dst) with
  | none=>rw [hd] at h;exact h
  | some t=>
   rw [hd] at h
   simp only [Option.bind_some] at h ⊢
   cases hs:g.sv E j t with
   | none=>rw [hs] at h;cases h
   | some x=>rw [hs] at h;rw [sv_more hext hs];exact h
theorem RdAt.more {E':List (Option Eff)} {b:Bool} {x:SV} (hst:g.stat c.nt=true) (hext:∀i,(eff E i).isSome=true→eff E' i=eff E i) (h:RdAt P g c E R b j o x):RdAt P g c E' R b j o x:=by
 obtain ⟨ho,h|⟨h1,h2,h3⟩⟩:=h
 ·exact ⟨ho,.inl ⟨gd_more hext h.1,h.2⟩⟩
 ·refine ⟨ho,.inr ⟨gd_more hext h1,fun y hy=>by rw [ev_more hext (h2 y hy)];exact h2 y hy,fun ρ w F hc hb=>?_⟩⟩
  rw [← h3 ρ w F hc hb]
  congr 1
  refine execOp_congr o (fun cs b e=>?_) fun y hy=>?_
  ·have:=(Rg.stat_op hst ho).1
   rw [e] at this
   cases this
  ·unfold Rg.env
   rw [ev_more hext (h2 y hy)]
theorem RdAt.free {R':Res} {x:SV} (h:RdAt P g c E R true j o x):RdAt P g c E R' true j o x:=by
 obtain ⟨ho,h|⟨h1,h2,h3⟩⟩:=h
 ·exact ⟨ho,.inl h⟩
 ·exact ⟨ho,.inr ⟨h1,h2,fun ρ w F hc _=>h3 ρ w F hc (.inl rfl)⟩⟩
theorem rd_step {pd:List (Bool×Nat)} (hst:g.stat c.nt=true) (hR:Rel g E c D R ρ a w) (hj:D j=false) (hpre:∀i,bit g.ms j i=true→D i=true) (ho:g.l[j]? =some o) (hrd:RdOk P g c E R pd) (hm:∃b,(b,j)∈pd)
  (hK:∀a',Rel g E c (ins D j) R ρ a' w→K a' w):wpOp P g.l.toArray Q j K a w:=by
 obtain ⟨b,hm⟩:=hm
 obtain ⟨o',x,he,ho',h⟩:=hrd _ hm
 rw [ho] at ho'
 injection ho' with ho'
 subst ho'
 have hr:=hK _ (rel_val (e:= .val x) hst hR hpre ho he (fun _ h=>by cases h) (fun _ _ _ h=>by cases h))
 rcases h with ⟨h,rfl⟩|⟨h1,h2,h3⟩
 ·have hw:=gd_val hst hR hj hpre ho h
  exact wpOp_if (by simpa using ho) (fun h=>by rw [hw] at h;cases h) fun _=>hr
 ·have hw:=gd_val hst hR hj hpre ho h1
  refine wpOp_if (by simpa using ho) (fun _=>?_) (fun h=>by rw [hw] at h;cases h)
  obtain ⟨F,f1,f2',f3',f4'⟩:=hR.sep
  have h4:=h3 ρ w F f4' (.inr f1)
  unfold Oper.wp
  rw [execOp_congr (ρ:=a.eval) (ρ':=g.env E j ρ) o (fun cs b e=>by
   have:=(Rg.stat_op hst ho).1
   rw [e] at this
   cases this) (fun y hy=>by
   unfold Rg.env
   cases hy':g.ev E j y with
   | none=>have:=h2 y hy;rw [hy'] at this;cases this
   | some s=>exact ev_val hst hR hj hpre ho hy hy'),h4]
  exact hr
def Way (P:Program) (g:Rg) (c:Cx) (K:Act→World→Prop) (D:Nat→Bool) (a:Act) (w:World):Prop:=
 ∃m E R ρ pd,RV P g c K m E R pd∧Rel g E c D R ρ a w∧RdOk P g c E R pd∧∀j,g.dy.contains j=true→(eff E j).isSome=true→D j=true∨∃b,(b,j)∈pd
theorem RV.ok:∀{m:Nat} {pd:List (Bool×Nat)},RV P g c K m E R pd→g.Ok E P
 | 0,_,h=>h.1
 | _+1,_,h=>h.1
theorem way_step (hst:g.stat c.nt=true) (h:Way P g c K D a w) (hj:D j=false) (hjl:j<g.l.length) (hpre:∀i,bit g.ms j i=true→D i=true):wpOp P g.l.toArray Q j (fun a' w'=>Way P g c K (ins D j) a' w') a w:=by
 obtain ⟨m,E,R,ρ,pd,hV,hR,hrd,hdn⟩:=h
 obtain ⟨o,ho⟩:∃o,g.l[j]? =some o:=⟨_,List.getElem?_eq_getElem hjl⟩
 induction m generalizing E R pd with
 | zero=>
  have hok:=hV.ok
  cases he:eff E j with
  | none=>
   have:=hV.2.1 j hjl
   rw [he] at this
   cases this
  | some e=>
   cases hd:g.dy.contains j with
   | false=>exact static_step hst hok hR hj hpre ho he hd fun ρ' a' w' hR'=>⟨0,E,R,ρ',pd,hV,hR',hrd,fun i hd hi=>(hdn i hd hi).imp ins_old id⟩
   | true=>exact rd_step hst hR hj hpre ho hrd ((hdn j hd (by rw [he];rfl)).resolve_left (by rw [hj];simp)) fun a' hR'=>⟨0,E,R,ρ,pd,hV,hR',hrd,fun i hd hi=>(hdn i hd hi).imp ins_old id⟩
 | succ m ih=>
 have hok:=hV.ok
 cases he:eff E j with
 | some e=>
  cases hd:g.dy.contains j with
  | false=>exact static_step hst hok hR hj hpre ho he hd fun ρ' a' w' hR'=>⟨m+1,E,R,ρ',pd,hV,hR',hrd,fun i hd hi=>(hdn i hd hi).imp ins_old id⟩
  | true=>exact rd_step hst hR hj hpre ho hrd ((hdn j hd (by rw [he];rfl)).resolve_left (by rw [hj];simp)) fun a' hR'=>⟨m+1,E,R,ρ,pd,hV,hR',hrd,fun i hd hi=>(hdn i hd hi).imp ins_old id⟩
 | none=>
   obtain ⟨_,j',o',pk,ho',hj',hV⟩:=hV
   have hmore:∀(E':List (Option Eff)) (R':Res) (w':World) (F F':List Nat),R.at_ w F→(∀ k b,g.hp E D k=some b→¬ρ k∈F∧(b.ro=false→ρ k∈c.F0∨c.w0.heap.size≤ρ k))→(∀ x∈F,x∈c.F0∨c.w0.heap.size≤x)→Chg c.F0 c.w0 w→(∀ i,(eff E i).isSome=true→eff E' i=eff E i)→R'.at_ w' F'→(∀ y∈F',y∈F∨w.heap.size≤y)→Chg F w w'→Rel g E' c D R' ρ a w':=fun E' R' w' F F' f1 f2 f3 f4 hext hat hF' hch=>by
    have hdom:∀i,D i=true→eff E' i=eff E i:=fun i hi=>hext i (hR.dom i hi)
    have hh:g.hp E' D=g.hp E D:=funext fun k=>hp_same hdom k
    refine ⟨hR.size,hR.defers,fun t=>?_,?_,?_,?_,fun i hi=>by rw [hdom i hi];exact hR.dom i hi,hR.clo⟩
    ·have:=hR.fr t
     unfold FrAt at this ⊢
     cases hwr:g.wr t with
     | none=>rw [hwr] at this;exact this
     | some i=>
      rw [hwr] at this
      exact ⟨fun h=>by rw [hdom i h];exact this.1 h,this.2⟩
    ·rw [hh]
     intro k b hb
     exact (hR.hp k b hb).chg hch (f2 k b hb).1
    ·rw [hh];exact hR.inj
    ·rw [hh]
     refine ⟨F',hat,fun k b hb=>⟨fun hm=>?_,(f2 k b hb).2⟩,fun y hy=>?_,f4.trans hch f3⟩
     ·rcases hF' _ hm with h|h
      ·exact (f2 k b hb).1 h
      ·have:=(hR.hp k b hb).lt;omega
     ·rcases hF' _ hy with h|h
      ·exact f3 y h
      ·right;have:=f4.size;omega
   have hrdm:∀(E':List (Option Eff)) (R':Res) (pd':List (Bool×Nat)),(∀ i,(eff E i).isSome=true→eff E' i=eff E i)→(∀ p∈pd',p∈pd∧(p.1=true∨R'=R))→RdOk P g c E' R' pd':=fun E' R' pd' hext hp p hm=>by
    obtain ⟨h1,h2⟩:=hp p hm
    obtain ⟨o2,x2,h3,h4⟩:=hrd p h1
    refine ⟨o2,x2,by rw [hext _ (by rw [h3];rfl)];exact h3,?_⟩
    rcases h2 with h2|h2
    ·rw [h2] at h4 ⊢
     exact (h4.more hst hext).free
    ·rw [h2]
     exact h4.more hst hext
   rcases hV with ⟨b,x,E',hext,hdyx,heff,hrat,hV'⟩|⟨hoth,hpd,hops,hgd,hpk,hact⟩
   ·
    obtain ⟨F,f1,f2,f3,f4⟩:=hR.sep
    refine ih E' R ((b,j')::pd) hV' (hmore E' R w F F f1 f2 f3 f4 hext f1 (fun y hy=> .inl hy) (Chg.refl _ _)) (fun p hp=>?_) fun i hd hi=>?_
    ·rcases List.mem_cons.1 hp with rfl|hp
     ·exact ⟨o',x,heff,hrat.more hst hext⟩
     ·exact hrdm E' R pd hext (fun p hp=>⟨hp,.inr rfl⟩) p hp
    ·rcases hdyx i hd hi with rfl|h
     ·exact .inr ⟨b,by simp⟩
     ·rcases hdn i hd h with h|⟨b',h⟩
      ·exact .inl h
      ·exact .inr ⟨b',by simp [h]⟩
   have hjj:j=j':=by
    rcases hoth j hjl he with h|h
    ·exact h
    ·have h1:=hpre j' h
     have h2:=hR.dom j' h1
     rw [hj'] at h2
     cases h2
   subst hjj
   rw [ho] at ho'
   injection ho' with ho'
   subst ho'
   have hw:=gd_val hst hR hj hpre ho hgd
   refine wpOp_if (by simpa using ho) (fun _=>?_) (fun h=>by rw [hw] at h;cases h)
   obtain ⟨F,f1,f2,f3,f4⟩:=hR.sep
   have hact:=hact ρ w F f1 f4 f3 (fun k hk b hb=>by
    obtain ⟨b0,_,_,rfl,h4⟩:=hp_mono (E':=E) (S':=D) (fun i hi=>⟨hpre i hi,rfl⟩) hb
    have heq:stos E D k (List.range g.l.length) b0.cells=stos E (bit g.ms j) k (List.range g.l.length) b0.cells:=stos_eq (fun i _ hi o hh=>by
     obtain ⟨off2,xs2,he2,_⟩:=hh
     exact ⟨hpk k hk i _ _ he2,rfl⟩) (fun i _ hi o hh=>⟨hpre i hi,rfl⟩)
    rw [heq] at h4
    exact ⟨hR.hp _ _ h4,(f2 _ _ h4).1⟩)
   refine wp_of_acts (acts_congr (Rg.stat_op hst ho).1 (fun x hx=>?_) hact) ?_
   ·unfold Rg.env
    cases hx':g.ev E j x with
    | none=>have:=hops x hx;rw [hx'] at this;cases this
    | some s=>exact ev_val hst hR hj hpre ho hx hx'
   ·rintro v w' ⟨x,R',F',E',rfl,hext,hdyx,heff,hat,hF',hch,hV'⟩
    refine ⟨m,E',R',ρ,_,hV',rel_val (e:= .val x) hst (hmore E' R' w' F F' f1 f2 f3 f4 hext hat hF' hch) hpre ho heff (fun _ h=>by cases h) (fun _ _ _ h=>by cases h),hrdm E' R' _ hext (fun p hp=>?_),fun i hd hi=>?_⟩
    ·obtain ⟨h1,h2⟩:=List.mem_filter.1 hp
     exact ⟨h1,.inl h2⟩
    ·by_cases hij:i=j
     ·subst hij;exact .inl (ins_self _ _)
     ·rcases hdn i hd ((hdyx i hd hi).resolve_left hij) with h|⟨b,h⟩
      ·exact .inl (ins_old h)
      ·rcases hpd _ h with h1|h1
       ·simp only at h1
        exact .inr ⟨b,List.mem_filter.2 ⟨h,h1⟩⟩
       ·exact .inl (ins_old (hpre i h1))
end
def mskOf (acc:List Nat) (o:Oper):Nat:=o.after.toList.foldl (fun s e=>if Region.binds .any e then s ||| 2^e.on ||| acc.getD e.on 0 else s) 0
def msks:List Oper→List Nat→List Nat
 | [],acc=>acc
 | o::r,acc=>msks r (acc++[mskOf acc o])
theorem msks_old:∀(l:List Oper) (acc:List Nat) (i:Nat),i<acc.length→(msks l acc)[i]? =acc[i]?
 | [],acc,i,h=>rfl
 | o::r,acc,i,h=>by rw [msks,msks_old r _ i (by rw [List.length_append];omega),List.getElem?_append_left h]
theorem msks_new:∀(l:List Oper) (acc:List Nat) (i:Nat) (o:Oper),l[i]? =some o→(msks l acc)[acc.length+i]? =some (mskOf ((msks l acc).take (acc.length+i)) o)
 | [],acc,i,o,h=>by cases h
 | o'::r,acc,0,o,h=>by
  injection h with h
  subst h
  rw [Nat.add_zero,msks,msks_old r _ _ (by simp),List.getElem?_append_right (Nat.le_refl _),Nat.sub_self]
  have:(msks r (acc++[mskOf acc o'])).take acc.length=acc:=List.ext_getElem? fun i=>by
   rw [List.getElem?_take]
   split
   ·rename_i hi
    rw [msks_old r _ _ (by simp;omega),List.getElem?_append_left hi]
   ·rename_i hi
    rw [List.getElem?_eq_none (by omega)]
  rw [this]
  rfl
 | o'::r,acc,i+1,o,h=>by
  have:=msks_new r (acc++[mskOf acc o']) i o h
  rw [List.length_append,List.length_cons,List.length_nil,Nat.zero_add,Nat.add_assoc,Nat.add_comm 1 i] at this
  rw [msks]
  exact this
theorem mskOf_fold (acc:List Nat) (i:Nat):∀(es:List Edge) (s:Nat),(es.foldl (fun s e=>if Region.binds .any e then s ||| 2^e.on ||| acc.getD e.on 0 else s) s).testBit i=true↔s.testBit i=true∨∃e∈es,Region.binds .any e=true∧(i=e.on∨(acc.getD e.on 0).testBit i=true)
 | [],s=>by simp
 | e::es,s=>by
  rw [List.foldl_cons,mskOf_fold acc i es]
  by_cases hb:Region.binds .any e=true
  ·rw [if_pos hb,Nat.testBit_or,Nat.testBit_or,Nat.testBit_two_pow]
   simp only [Bool.or_eq_true,decide_eq_true_eq,List.mem_cons,exists_eq_or_imp,hb,true_and]
   constructor
   ·rintro (((h|h)|h)|h)
    ·exact .inl h
    ·exact .inr (.inl (.inl h.symm))
    ·exact .inr (.inl (.inr h))
    ·exact .inr (.inr h)
   ·rintro (h|(h|h)|h)
    ·exact .inl (.inl (.inl h))
    ·exact .inl (.inl (.inr h.symm))
    ·exact .inl (.inr h)
    ·exact .inr h
  ·rw [if_neg hb]
   simp [hb]
theorem msks_bit {l:List Oper} {j i:Nat} {o:Oper} (ho:l[j]? =some o):bit (msks l []) j i=true↔∃e∈o.after,Region.binds .any e=true∧(i=e.on∨(e.on<j∧bit (msks l []) e.on i=true)):=by
 have hj:j<l.length:=(List.getElem?_eq_some_iff.1 ho).1
 have h1:=msks_new l [] j o ho
 simp only [List.length_nil,Nat.zero_add] at h1
 unfold bit
 rw [List.getD_eq_getElem?_getD,h1,Option.getD_some]
 unfold mskOf
 rw [mskOf_fold]
 simp only [Nat.zero_testBit,Bool.false_eq_true,false_or]
 have key:∀(e:Edge),((((msks l []).take j).getD e.on 0).testBit i=true)↔(e.on<j∧((msks l []).getD e.on 0).testBit i=true):=fun e=>by
  rw [List.getD_eq_getElem?_getD,List.getElem?_take,List.getD_eq_getElem?_getD]
  split
  ·rename_i h;simp [h]
  ·rename_i h;simp [h]
 constructor
 ·rintro ⟨e,he,hb,h⟩
  exact ⟨e,by simpa using he,hb,h.imp id (key e).1⟩
 ·rintro ⟨e,he,hb,h⟩
  exact ⟨e,by simpa using he,hb,h.imp id (key e).2⟩
section
variable {P:Program} {g:Rg} {c:Cx} {K:Act→World→Prop} {Q:Exit→Act→World→Prop} {s:SS} {R:Res} {ρ:Nat→Nat} {a:Act} {w:World}
theorem way_done {D:Nat→Bool} (h:Way P g c K D a w) (hall:∀j,j<g.l.length→D j=true):K a w:=by
 obtain ⟨m,E,R,ρ,pd,hV,hR,hrd,hdn⟩:=h
 cases m with
 | zero=>exact hV.2.2 D ρ a w hall hR
 | succ m=>
  obtain ⟨_,j,o,pk,ho,hj,_⟩:=hV
  have:=hR.dom j (hall j (List.getElem?_eq_some_iff.1 ho).1)
  rw [hj] at this
  cases this
theorem way_any (hst:g.stat c.nt=true) (hms:g.ms=msks g.l []) (hQ:∀a w,K a w→Q .normal a w):∀(fuel:Nat) (listed:Array Bool) (a:Act) (w:World),Way P g c K (fun i=>listed.getD i false) a w→listed.size=g.l.length→((List.range g.l.length).filter fun i=> !listed.getD i false).length≤fuel→
  wpAny P .any g.l.toArray Q fuel listed a w:=by
 have hdone:∀(listed:Array Bool),listed.size=g.l.length→Region.ready .any g.l.toArray listed=[]→∀j,j<g.l.length→listed.getD j false=true:=fun listed hsz hr j=>by
  induction j using Nat.strongRecOn with
  | _ j ih=>
   intro hj
   cases hd:listed.getD j false with
   | true=>rfl
   | false=>
    obtain ⟨o,ho⟩:∃o,g.l[j]? =some o:=⟨_,List.getElem?_eq_getElem hj⟩
    have:j∈Region.ready .any g.l.toArray listed:=by
     rw [mem_ready]
     refine ⟨?_,o,by simpa using ho,fun e he hb=>?_⟩
     ·have hjs:j<listed.size:=by omega
      simp only [Array.getD,hjs,dite_true] at hd ⊢
      exact hd
     ·have hb2:bit g.ms j e.on=true:=by
       rw [hms,msks_bit ho]
       exact ⟨e,he,hb,.inl rfl⟩
      have:=Rg.bit_lt hst hb2
      exact ih e.on this (by omega)
    rw [hr] at this
    cases this
 intro fuel
 induction fuel with
 | zero=>
  intro listed a w hW hsz hc
  have hall:∀j,j<g.l.length→listed.getD j false=true:=fun j hj=>by
   cases hd:listed.getD j false with
   | true=>rfl
   | false=>
    have:j∈(List.range g.l.length).filter fun i=> !listed.getD i false:=by simp [hj];simpa using hd
    have:=List.length_pos_of_mem this
    omega
  refine ⟨?_,hQ _ _ (way_done hW hall)⟩
  cases hr:Region.ready .any g.l.toArray listed with
  | nil=>rfl
  | cons x xs=>
   have hx:x∈Region.ready .any g.l.toArray listed:=by rw [hr];simp
   obtain ⟨h0,o,ho,_⟩:=mem_ready.1 hx
   have hxl:x<g.l.length:=by simpa using (Array.getElem?_eq_some_iff.1 ho).1
   have h1:=hall x hxl
   have hxs:x<listed.size:=by omega
   simp only [Array.getD,hxs,dite_true] at h0 h1
   rw [h0] at h1
   cases h1
 | succ fuel ih=>
  intro listed a w hW hsz hc
  refine ⟨fun hr=>hQ _ _ (way_done hW (hdone listed hsz hr)),fun j hj=>?_⟩
  obtain ⟨h0,o,ho,hes⟩:=mem_ready.1 hj
  have ho':g.l[j]? =some o:=by simpa using ho
  have hjl:j<g.l.length:=(List.getElem?_eq_some_iff.1 ho').1
  have hjs:j<listed.size:=by omega
  have hDj:listed.getD j false=false:=by
   simp only [Array.getD,hjs,dite_true] at h0 ⊢
   exact h0
  have hpre:∀i,bit g.ms j i=true→listed.getD i false=true:=fun i hi=>by
   rw [hms,msks_bit ho'] at hi
   obtain ⟨e,he,hb,h|⟨_,h⟩⟩:=hi
   ·rw [h];exact hes e he hb
   ·obtain ⟨m,E,R,ρ,pd,hV,hR,hrd,hdn⟩:=hW
    exact hR.clo e.on i (hes e he hb) (by rw [hms];exact h)
  refine wpOp_mono (fun a' w' h=>?_) (way_step (Q:=Q) hst hW hDj hjl hpre)
  have hfun:ins (fun i=>listed.getD i false) j=fun i=>(listed.setIfInBounds j true).getD i false:=by
   funext i
   by_cases hij:i=j
   ·subst hij
    rw [ins_self]
    simp [hjs]
   ·rw [ins_ne hij,getD_set_ne false (Ne.symm hij)]
  rw [hfun] at h
  refine ih _ _ _ h (by simpa using hsz) ?_
  have hlt:((List.range g.l.length).filter fun i=> !(listed.setIfInBounds j true).getD i false).length<((List.range g.l.length).filter fun i=> !listed.getD i false).length:=by
   rw [← List.countP_eq_length_filter,←List.countP_eq_length_filter]
   obtain ⟨l1,l2,hl⟩:=List.append_of_mem (List.mem_range.2 hjl)
   rw [hl,List.countP_append,List.countP_append,List.countP_cons,List.countP_cons]
   have e1:∀l:List Nat,(l.countP fun i=> !(listed.setIfInBounds j true).getD i false)≤l.countP fun i=> !listed.getD i false:=fun l=>List.countP_mono_left fun i _ hi=>by
    simp only [Bool.not_eq_true'] at hi ⊢
    by_cases hij:i=j
    ·subst hij;exact hDj
    ·rw [getD_set_ne false (Ne.symm hij)] at hi;exact hi
   have h2:=e1 l1
   have h3:=e1 l2
   rw [hDj]
   simp only [show (listed.setIfInBounds j true).getD j false=true by simp [hjs],Bool.not_true,Bool.false_eq_true,if_false,Bool.not_false,if_true]
   omega
  omega
theorem hp_empty (E:List (Option Eff)) (k:Nat):g.hp E (fun _=>false) k=lk g.s0.hp k:=by
 have e2:∀(k:Nat) (l:List Nat) (cs:List SV),stos E (fun _=>false) k l cs=cs:=fun k l=>by
  induction l with
  | nil=>intro cs;rfl
  | cons i l ih=>
   intro cs
   show stos E (fun _=>false) k l (stoAt E (fun _=>false) k cs i)=cs
   rw [ih]
   unfold stoAt
   split<;>simp
 unfold Rg.hp Rg.base
 cases h:lk g.s0.hp k with
 | some b=>simp [e2]
 | none=>simp
theorem way_start {m:Nat} {E:List (Option Eff)} (hV:RV P g c K m E R []) (hdn:∀j,g.dy.contains j=true→eff E j=none) (h:St c g.s0 R ρ a w):Way P g c K (fun _=>false) a w:=by
 refine ⟨m,E,R,ρ,[],hV,⟨h.size,h.defers,fun t=>?_,fun k b hb=>?_,fun k k' b b' h1 h2=>?_,?_,(fun j h=>by cases h),(fun j i h=>by cases h)⟩,(fun p hp=>by cases hp),fun j hj hi=>?_⟩
 ·unfold FrAt
  cases g.wr t with
  | none=>exact h.fr t
  | some i=>exact ⟨(fun h=>by cases h),fun _=>h.fr t⟩
 ·rw [hp_empty] at hb;exact h.hp k b hb
 ·rw [hp_empty] at h1 h2;exact h.inj k k' b b' h1 h2
 ·have:g.hp E (fun _=>false)=lk g.s0.hp:=funext fun k=>hp_empty E k
  rw [this]
  exact h.sep
 ·rw [hdn j hj] at hi;cases hi
theorem St.drawn (h:St c s R ρ a w) (n:Nat):St c s R ρ a {w with drawn:=n}:=by
 have hch:Chg [] w {w with drawn:=n}:=⟨rfl,rfl,rfl,Nat.le_refl _,fun _ _ _=>rfl⟩
 refine ⟨h.size,h.defers,h.fr,h.hp,h.inj,?_⟩
 obtain ⟨F,f1,f2,f3,f4⟩:=h.sep
 exact ⟨F,R.chg f1 hch (fun x hx hm=>by cases hm),f2,f3,f4.trans hch (fun x hx=>by cases hx)⟩
def TT (P:Program) (c:Cx) (x:Code) (s:SS) (R:Res) (Q:Exit→Act→World→Prop):Prop:=∀ρ a w,St c s R ρ a w→x.wp P Q a w
theorem TT.drawn {id:Nat} {m:Nat} {E:List (Option Eff)} (hm:P.follows .mixedOrders=true) (hst:g.stat c.nt=true) (hms:g.ms=msks g.l []) (hdn:∀j,g.dy.contains j=true→eff E j=none) (hV:RV P g c (fun a w=>Q .normal a w) m E R []) :
  TT P c (.region id g.l.toArray true) g.s0 R Q:=fun ρ a w h=>by
 refine wp_region_any hm ?_
 refine way_any hst hms (fun _ _ h=>h) _ _ _ _ ?_ (by simp) ?_
 ·have:=way_start hV hdn (h.drawn (w.drawn+1))
  have hf:(fun i=>(Array.replicate g.l.toArray.size false).getD i false)=fun _=>false:=by
   funext i
   simp only [Array.getD]
   split<;>simp
  rw [hf]
  exact this
 ·refine Nat.le_trans (List.length_filter_le _ _) ?_
  simp
theorem TT.plain {id:Nat} {m:Nat} {E:List (Option Eff)} (hst:g.stat c.nt=true) (hdn:∀j,g.dy.contains j=true→eff E j=none) (hV:RV P g c (fun a w=>Q .normal a w) m E R []) :
  TT P c (.region id g.l.toArray false) g.s0 R Q:=fun ρ a w h=>by
 refine wp_region ?_
 have key:∀(k:Nat) (j:Nat) (a:Act) (w:World),j+k=g.l.length→Way P g c (fun a w=>Q .normal a w) (fun i=>decide (i<j)) a w→wpOps P g.l.toArray Q (List.range' j k) a w:=fun k=>by
  induction k with
  | zero=>
   intro j a w hjk hW
   exact way_done hW fun i hi=>by simp;omega
  | succ k ih=>
   intro j a w hjk hW
   rw [List.range'_succ,wpOps_cons]
   refine wpOp_mono (fun a' w' h=>ih (j+1) a' w' (by omega) ?_) (way_step (Q:=Q) hst hW (by simp) (by omega) (fun i hi=>by have:=Rg.bit_lt hst hi;simpa using this))
   have:ins (fun i=>decide (i<j)) j=fun i=>decide (i<j+1):=by
    funext i
    unfold ins
    rw [Bool.eq_iff_iff]
    simp
    omega
   rw [← this]
   exact h
 rw [List.range_eq_range']
 refine key _ 0 a w (by simp) ?_
 have:(fun i=>decide (i<0))=fun _=>false:=by funext i;simp
 rw [this]
 exact way_start hV hdn h
end
end
end Go.Proofs.YtnlmlehcpngcgaaGreat
