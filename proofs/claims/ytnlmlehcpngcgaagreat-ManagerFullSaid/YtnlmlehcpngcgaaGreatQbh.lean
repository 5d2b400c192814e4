/- Symbolic values: tables are right; the rules for code. Symbolic values: cases, rewriting, joins, loops. Engines: a store, and what hangs on it, in one footprint; Make and View there, by tables. Contract: node.One of a form. -/
import Derived.Test.YtnlmlehcpngcgaaGreatQbg
import Derived.Test.YtnlmlehcpngcgaaGreatQaz
namespace Go.Proofs.YtnlmlehcpngcgaaGreat
set_option linter.unusedSimpArgs false
set_option linter.unusedVariables false
section
open Go.RowKit
section
variable {P:Program} {g:Rg} {c:Cx} {K:Act→World→Prop} {Q:Exit→Act→World→Prop} {s:SS} {R:Res} {ρ:Nat→Nat} {a:Act} {w:World} {nt:Nat} {E E':List (Option Eff)} {j:Nat}
theorem sv_agree (h:∀i,bit g.ms j i=true→eff E' i=eff E i) (t:Nat):g.sv E' j t=g.sv E j t:=by
 unfold Rg.sv
 cases g.wr t with
 | none=>rfl
 | some i=>
  simp only
  split
  ·rename_i hb;rw [h i hb]
  ·rfl
theorem ev_agree (h:∀i,bit g.ms j i=true→eff E' i=eff E i):g.ev E' j=g.ev E j:=by
 funext x
 cases x with
 | tmp t=>exact sv_agree h t
 | _=>rfl
theorem gd_agree (h:∀i,bit g.ms j i=true→eff E' i=eff E i) (o:Oper):g.gd E' j o=g.gd E j o:=by
 unfold Rg.gd
 have:g.sv E' j=g.sv E j:=funext (sv_agree h)
 rw [this]
theorem step_agree (hst:g.stat nt=true) (h:∀i,bit g.ms j i=true→eff E' i=eff E i):g.step E' P j=g.step E P j:=by
 have hk:g.known E' j=g.known E j:=by
  unfold Rg.known
  rw [Bool.eq_iff_iff]
  simp only [List.all_eq_true,List.mem_range,Bool.or_eq_true,Bool.not_eq_true']
  constructor<;>intro hh i hi<;>cases hb:bit g.ms j i with
  | false=>simp
  | true=>
   have h1:=(hh i hi).resolve_left (by rw [hb];simp)
   right
   first |(rw [← h i hb];exact h1)|(rw [h i hb];exact h1)
 have hh:g.hp E' (bit g.ms j)=g.hp E (bit g.ms j):=funext fun k=>hp_same (fun i hi=>h i hi) k
 unfold Rg.step
 rw [hk,ev_agree h,hh]
 cases g.l[j]? with
 | none=>rfl
 | some o=>simp only [gd_agree h o]
def Rg.ent (g:Rg) (P:Program) (cv:List (Nat×SV)) (E:List (Option Eff)) (j:Nat):Option Eff:=match lk cv j with |some x=>some (.val x)|none=>if g.dy.contains j then none else g.step E P j
def Rg.tb (g:Rg) (P:Program) (cv:List (Nat×SV)) (k:Nat):List (Option Eff):=(List.range k).foldl (fun E j=>E++[g.ent P cv E j]) []
theorem tb_succ (cv:List (Nat×SV)) (k:Nat):g.tb P cv (k+1)=g.tb P cv k++[g.ent P cv (g.tb P cv k) k]:=by
 unfold Rg.tb
 rw [List.range_succ,List.foldl_append]
 rfl
theorem tb_len (cv:List (Nat×SV)):∀k,(g.tb P cv k).length=k
 | 0=>rfl
 | k+1=>by rw [tb_succ,List.length_append,tb_len cv k];rfl
theorem tb_eff (cv:List (Nat×SV)):∀(k i:Nat),i<k→eff (g.tb P cv k) i=g.ent P cv (g.tb P cv i) i
 | 0,i,h=>by omega
 | k+1,i,h=>by
  rw [tb_succ]
  unfold eff
  rcases Nat.lt_or_ge i k with h1|h1
  ·rw [List.getElem?_append_left (by rw [tb_len];exact h1)]
   exact tb_eff cv k i h1
  ·obtain rfl:i=k:=by omega
   rw [List.getElem?_append_right (by rw [tb_len];omega),tb_len,Nat.sub_self]
   rfl
theorem tab_eff (hst:g.stat nt=true) (cv:List (Nat×SV)) (j:Nat) (hj:j<g.l.length):eff (g.tab P cv) j=g.ent P cv (g.tab P cv) j:=by
 have h1:eff (g.tab P cv) j=g.ent P cv (g.tb P cv j) j:=tb_eff cv g.l.length j hj
 rw [h1]
 unfold Rg.ent
 cases lk cv j with
 | some x=>rfl
 | none=>
  simp only
  split
  ·rfl
  ·refine step_agree hst fun i hi=>?_
   have hij:=Rg.bit_lt hst hi
   rw [tb_eff cv j i hij]
   exact (tb_eff cv g.l.length i (by omega)).symm
theorem tab_len (cv:List (Nat×SV)):(g.tab P cv).length=g.l.length:=tb_len cv g.l.length
theorem tab_ok (hst:g.stat nt=true) {cv:List (Nat×SV)} (hcv:(cv.all fun p=>g.dy.contains p.1)=true) (hf:g.fine (g.tab P cv) P=true):g.Ok (g.tab P cv) P:=by
 have hlt:∀j e,eff (g.tab P cv) j=some e→j<g.l.length:=fun j e he=>by rw [← tab_len (P:=P) cv];exact eff_lt he
 refine ⟨tab_len cv,fun j e he hd=>?_,fun j e he hd=>?_,hf⟩
 ·rw [tab_eff hst cv j (hlt j e he)] at he
  unfold Rg.ent at he
  cases hl:lk cv j with
  | some x=>
   rw [List.all_eq_true] at hcv
   have:=hcv _ (lk_mem hl)
   simp only at this
   rw [hd] at this
   cases this
  | none=>
   rw [hl] at he
   simp only [hd,Bool.false_eq_true,if_false] at he
   exact he
 ·rw [tab_eff hst cv j (hlt j e he)] at he
  unfold Rg.ent at he
  cases hl:lk cv j with
  | some x=>
   rw [hl] at he
   injection he with he
   exact ⟨x,he.symm⟩
  | none=>
   rw [hl] at he
   simp only [hd,if_true] at he
   cases he
theorem step_known {e:Eff} (h:g.step E P j=some e):∀i,i<j→bit g.ms j i=true→(eff E i).isSome=true:=fun i hi hb=>by
 unfold Rg.step at h
 split at h
 ·cases h
 ·rename_i hk
  have hk':g.known E j=true:=by simpa using hk
  unfold Rg.known at hk'
  rw [List.all_eq_true] at hk'
  have:=hk' i (List.mem_range.2 hi)
  rw [hb] at this
  simpa using this
theorem tab_ext (hst:g.stat nt=true) {cv:List (Nat×SV)} {x:SV} (hj:lk cv j=none) (hdj:g.dy.contains j=true):∀i,(eff (g.tab P cv) i).isSome=true→eff (g.tab P ((j,x)::cv)) i=eff (g.tab P cv) i:=by
 intro i
 induction i using Nat.strongRecOn with
 | _ i ih=>
  intro hi
  have hil:i<g.l.length:=by
   cases he:eff (g.tab P cv) i with
   | none=>rw [he] at hi;cases hi
   | some e=>rw [← tab_len (P:=P) cv];exact eff_lt he
  rw [tab_eff hst cv i hil] at hi ⊢
  rw [tab_eff hst _ i hil]
  unfold Rg.ent at hi ⊢
  cases hl:lk cv i with
  | some y=>
   have:lk ((j,x)::cv) i=some y:=by
    unfold lk
    rw [if_neg (fun e=>by
     have:j=i:=by simpa using e
     subst this
     rw [hj] at hl
     cases hl)]
    exact hl
   rw [this]
  | none=>
   rw [hl] at hi
   simp only at hi
   by_cases hd:g.dy.contains i=true
   ·rw [if_pos hd] at hi;cases hi
   ·rw [if_neg hd] at hi
    cases hs:g.step (g.tab P cv) P i with
    | none=>rw [hs] at hi;cases hi
    | some e=>
     have hij:j≠i∨j=i:=by omega
     have hag:g.step (g.tab P ((j,x)::cv)) P i=g.step (g.tab P cv) P i:=step_agree hst fun i' hb=>ih i' (Rg.bit_lt hst hb) (step_known hs i' (Rg.bit_lt hst hb) hb)
     by_cases hji:j=i
     ·subst hji
      exact absurd hdj hd
     ·have:lk ((j,x)::cv) i=none:=by
       unfold lk
       rw [if_neg (by simpa using hji)]
       exact hl
      rw [this]
      simp only [hd,Bool.false_eq_true,if_false,hag,hs]
theorem tab_dy (hst:g.stat nt=true) {cv:List (Nat×SV)} {x:SV} (hlk:lk cv j=none) (h2:g.dy.contains j=true):∀i,g.dy.contains i=true→(eff (g.tab P ((j,x)::cv)) i).isSome=true→i=j∨(eff (g.tab P cv) i).isSome=true:=fun i hd hi=>by
 by_cases hij:i=j
 ·exact .inl hij
 ·right
  have hil:i<g.l.length:=by
   cases he:eff (g.tab P ((j,x)::cv)) i with
   | none=>rw [he] at hi;cases hi
   | some e=>rw [← tab_len (P:=P) ((j,x)::cv)];exact eff_lt he
  rw [tab_eff hst _ i hil] at hi ⊢
  unfold Rg.ent at hi ⊢
  have:lk ((j,x)::cv) i=lk cv i:=by
   conv=>lhs;unfold lk
   rw [if_neg (by simpa using Ne.symm hij)]
  rw [this] at hi
  cases hl:lk cv i with
  | some y=>rfl
  | none=>
   rw [hl] at hi
   simp only [hd,if_true] at hi
   cases hi
theorem tab_at (hst:g.stat nt=true) {cv:List (Nat×SV)} {x:SV} (hlk:lk cv j=none) (h2:g.dy.contains j=true) (hjl:j<g.l.length):eff (g.tab P ((j,x)::cv)) j=some (.val x):=by
 rw [tab_eff hst _ j hjl]
 unfold Rg.ent lk
 simp
def Rg.fv (g:Rg) (E:List (Option Eff)) (t:Nat):Option SV:=
 match g.wr t with
 | some i=>(eff E i).map (resS g.kb i)
 | none=>lk g.s0.fr t
def Rg.fin (g:Rg) (P:Program) (cv:List (Nat×SV)) (ts ks:List Nat):Option (List (Option SV)×List (Option SBlk)):=
 if (cv.all (fun p=>g.dy.contains p.1)&&(g.tab P cv).all Option.isSome&&g.fine (g.tab P cv) P)=true then some (ts.map (g.fv (g.tab P cv)),ks.map (g.hp (g.tab P cv) fun _=>true)) else none
theorem hp_all {D:Nat→Bool} (hl:E.length=g.l.length) (hD:∀j,j<g.l.length→D j=true) (k:Nat):g.hp E D k=g.hp E (fun _=>true) k:=by
 have hn:∀i,D i=false→eff E i=none:=fun i hi=>by
  rcases Nat.lt_or_ge i g.l.length with h|h
  ·rw [hD i h] at hi;cases hi
  ·unfold eff
   rw [List.getElem?_eq_none (by omega)]
   rfl
 have hb:g.base E D k=g.base E (fun _=>true) k:=by
  unfold Rg.base
  cases lk g.s0.hp k with
  | some b=>rfl
  | none=>
   simp only
   cases hd:D (k-g.kb) with
   | true=>simp
   | false=>rw [hn _ hd];simp
 unfold Rg.hp
 rw [hb]
 cases g.base E (fun _=>true) k with
 | none=>rfl
 | some b=>
  simp only [Option.map_some]
  rw [stos_eq (E:=E) (E':=E) (S':=fun _=>true) (fun i _ hi o hh=>⟨rfl,rfl⟩) (fun i hm hi o hh=>⟨hD i (List.mem_range.1 hm),rfl⟩)]
theorem RV.fin {cv:List (Nat×SV)} {pd:List (Bool×Nat)} {s':SS} (hst:g.stat c.nt=true) (hck:g.fin P cv (s'.fr.map (·.1)) (s'.hp.map (·.1))=some (s'.fr.map fun p=>some p.2,s'.hp.map fun p=>some p.2)) (h:∀ρ a w,St c s' R ρ a w→K a w):RV P g c K 0 (g.tab P cv) R pd:=by
 unfold Rg.fin at hck
 split at hck
 ·rename_i hc
  simp only [Bool.and_eq_true] at hc
  obtain ⟨⟨h1,h2⟩,h3⟩:=hc
  injection hck with hck
  have hfr:=congrArg Prod.fst hck
  have hhp:=congrArg Prod.snd hck
  simp only [List.map_map] at hfr hhp
  have hok:=tab_ok hst h1 h3
  refine ⟨hok,fun j hj=>?_,fun D ρ a w hD hR=>h ρ a w ?_⟩
  ·rw [List.all_eq_true] at h2
   have hjl:j<(g.tab P cv).length:=by rw [hok.len];exact hj
   have:=h2 _ (List.getElem_mem hjl)
   unfold eff
   rw [List.getElem?_eq_getElem hjl]
   cases he:(g.tab P cv)[j] with
   | none=>rw [he] at this;cases this
   | some e=>rfl
  ·have hm:∀{α β:Type} {f h:α→β} {l:List α} {x:α},l.map f=l.map h→x∈l→f x=h x:=fun {α β f h l x} he hx=>List.map_inj_left.1 he x hx
   have hh:∀k b,lk s'.hp k=some b→g.hp (g.tab P cv) D k=some b:=fun k b hk=>by
    rw [hp_all hok.len hD]
    exact hm hhp (lk_mem hk)
   refine ⟨hR.size,hR.defers,fun t x ht=>?_,fun k b hk=>hR.hp k b (hh k b hk),fun k k' b b' h1 h2=>hR.inj k k' b b' (hh k b h1) (hh k' b' h2),?_⟩
   ·have h4:=hm hfr (lk_mem ht)
    simp only [Function.comp] at h4
    have h5:=hR.fr t
    unfold FrAt at h5
    unfold Rg.fv at h4
    cases hw:g.wr t with
    | none=>rw [hw] at h4 h5;exact h5 x h4
    | some i=>
     rw [hw] at h4 h5
     simp only at h4 h5
     obtain ⟨o,ho,_⟩:=wr_some hw
     obtain ⟨e,he,h6⟩:=h5.1 (hD i (List.getElem?_eq_some_iff.1 ho).1)
     rw [he] at h4
     injection h4 with h4
     rw [← h4]
     exact h6
   ·obtain ⟨F,f1,f2,f3,f4⟩:=hR.sep
    exact ⟨F,f1,fun k b hk=>f2 k b (hh k b hk),f3,f4⟩
 ·cases hck
def Rg.dyn (g:Rg) (P:Program) (cv:List (Nat×SV)) (j:Nat) (pk:List Nat) (pd:List (Bool×Nat)):Bool:=
 pd.all (fun p=>p.1||bit g.ms j p.2)&&(
 cv.all (fun p=>g.dy.contains p.1)&&g.dy.contains j&&(lk cv j).isNone&&g.fine (g.tab P cv) P&&
 (List.range g.l.length).all (fun i=>(eff (g.tab P cv) i).isSome||i==j||bit g.ms i j)&&
 (match g.l[j]? with
 | some o=>(o.op.operands.all fun x=>(g.ev (g.tab P cv) j x).isSome)&&(match g.gd (g.tab P cv) j o with |some b=>b|none=>false)
 | none=>false)&&
 pk.all (fun k=>(List.range g.l.length).all fun i=>match eff (g.tab P cv) i with |some (.sto k' _ _)=>k' != k||bit g.ms j i|_=>true))
theorem RV.dyn {m:Nat} {cv:List (Nat×SV)} {pd:List (Bool×Nat)} (j:Nat) (o:Oper) (pk:List Nat) (hst:g.stat c.nt=true) (ho:g.l[j]? =some o) (hck:g.dyn P cv j pk pd=true)
  (h:∀ρ w F,R.at_ w F→Chg c.F0 c.w0 w→(∀ x∈F,x∈c.F0∨c.w0.heap.size≤x)→(∀ k∈pk,∀b,g.hp (g.tab P cv) (bit g.ms j) k=some b→Blk w (ρ k) b.ty (cellsV ρ b.cells)∧¬ρ k∈F)→
   ActsR P o (g.env (g.tab P cv) j ρ) w fun v w'=>∃(x:SV) (R':Res) (F':List Nat),v=x.val ρ∧R'.at_ w' F'∧(∀ y∈F',y∈F∨w.heap.size≤y)∧Chg F w w'∧RV P g c K m (g.tab P ((j,x)::cv)) R' (pd.filter (·.1))):RV P g c K (m+1) (g.tab P cv) R pd:=by
 unfold Rg.dyn at hck
 simp only [Bool.and_eq_true] at hck
 obtain ⟨h0,⟨⟨⟨⟨⟨h1,h2⟩,h3⟩,h4⟩,h5⟩,h6⟩,h7⟩:=hck
 rw [ho] at h6
 simp only [Bool.and_eq_true] at h6
 have hok:=tab_ok hst h1 h4
 have hjl:j<g.l.length:=(List.getElem?_eq_some_iff.1 ho).1
 have hlk:lk cv j=none:=by simpa using h3
 have hej:eff (g.tab P cv) j=none:=by
  rw [tab_eff hst cv j hjl]
  unfold Rg.ent
  rw [hlk]
  simp only [h2,if_true]
 refine ⟨hok,j,o,pk,ho,hej,.inr ⟨fun i hi hn=>?_,fun p hp=>?_,fun x hx=>?_,?_,fun k hk i off xs he=>?_,fun ρ w F f1 f2 f3 f4=>?_⟩⟩
 ·rw [List.all_eq_true] at h5
  have:=h5 i (List.mem_range.2 hi)
  rw [hn] at this
  simpa using this
 ·rw [List.all_eq_true] at h0
  have:=h0 p hp
  simpa using this
 ·have:=h6.1
  rw [Array.all_eq_true_iff_forall_mem] at this
  exact this x hx
 ·have:=h6.2
  cases hg:g.gd (g.tab P cv) j o with
  | none=>rw [hg] at this;cases this
  | some b=>rw [hg] at this;simp only at this;rw [this]
 ·rw [List.all_eq_true] at h7
  have:=h7 k hk
  rw [List.all_eq_true] at this
  have:=this i (List.mem_range.2 (by rw [← tab_len (P:=P) cv];exact eff_lt he))
  rw [he] at this
  simpa using this
 ·have hact:=h ρ w F f1 f2 f3 f4
  unfold ActsR at hact ⊢
  have hpost:∀v w',(∃ (x:SV) (R':Res) (F':List Nat),v=x.val ρ∧R'.at_ w' F'∧(∀ y∈F',y∈F∨w.heap.size≤y)∧Chg F w w'∧RV P g c K m (g.tab P ((j,x)::cv)) R' (pd.filter (·.1)))→
    ∃(x:SV) (R':Res) (F':List Nat) (E':List (Option Eff)),v=x.val ρ∧(∀ i,(eff (g.tab P cv) i).isSome=true→eff E' i=eff (g.tab P cv) i)∧(∀ i,g.dy.contains i=true→(eff E' i).isSome=true→i=j∨(eff (g.tab P cv) i).isSome=true)∧eff E' j=some (.val x)∧R'.at_ w' F'∧(∀ y∈F',y∈F∨w.heap.size≤y)∧Chg F w w'∧RV P g c K m E' R' (pd.filter (·.1)):=by
   rintro v w' ⟨x,R',F',e1,e2,e3,e4,e5⟩
   exact ⟨x,R',F',g.tab P ((j,x)::cv),e1,tab_ext hst hlk h2,tab_dy hst hlk h2,tab_at hst hlk h2 hjl,e2,e3,e4,e5⟩
  cases hr:(execOp (g.env (g.tab P cv) j ρ) o).run P w with
  | ok n w'=>
   rw [hr] at hact
   cases n<;>simp only at hact ⊢ <;>first |exact hact|exact hpost _ _ hact|skip
   refine Calls.mono hact fun e w'' he=>?_
   cases e with
   | returned v=>exact hpost _ _ he
   | panicked ch=>exact he.elim
   | outgrown=>exact he.elim
  | halt x w'=>rw [hr] at hact;exact hact.elim
def Rg.rdy (g:Rg) (P:Program) (cv:List (Nat×SV)) (j:Nat):Bool:=
 cv.all (fun p=>g.dy.contains p.1)&&g.dy.contains j&&(lk cv j).isNone&&g.fine (g.tab P cv) P&&
 (match g.l[j]? with
 | some o=>(o.op.operands.all fun x=>(g.ev (g.tab P cv) j x).isSome)&&(match g.gd (g.tab P cv) j o with |some b=>b|none=>false)
 | none=>false)
theorem RV.readC {m:Nat} {cv:List (Nat×SV)} {pd:List (Bool×Nat)} (j:Nat) (o:Oper) (b:Bool) (x:SV) (hst:g.stat c.nt=true) (ho:g.l[j]? =some o) (hck:g.rdy P cv j=true)
  (hr:∀ρ w F,Chg c.F0 c.w0 w→(b=true∨R.at_ w F)→(execOp (g.env (g.tab P cv) j ρ) o).run P w = .ok (.value (x.val ρ)) w) (h:RV P g c K m (g.tab P ((j,x)::cv)) R ((b,j)::pd)):RV P g c K (m+1) (g.tab P cv) R pd:=by
 unfold Rg.rdy at hck
 simp only [Bool.and_eq_true] at hck
 obtain ⟨⟨⟨⟨h1,h2⟩,h3⟩,h4⟩,h6⟩:=hck
 rw [ho] at h6
 simp only [Bool.and_eq_true] at h6
 have hok:=tab_ok hst h1 h4
 have hjl:j<g.l.length:=(List.getElem?_eq_some_iff.1 ho).1
 have hlk:lk cv j=none:=by simpa using h3
 have hej:eff (g.tab P cv) j=none:=by
  rw [tab_eff hst cv j hjl]
  unfold Rg.ent
  rw [hlk]
  simp only [h2,if_true]
 refine ⟨hok,j,o,[],ho,hej,.inl ⟨b,x,g.tab P ((j,x)::cv),tab_ext hst hlk h2,tab_dy hst hlk h2,tab_at hst hlk h2 hjl,⟨ho,.inr ⟨?_,fun y hy=>?_,hr⟩⟩,h⟩⟩
 ·have:=h6.2
  cases hg:g.gd (g.tab P cv) j o with
  | none=>rw [hg] at this;cases this
  | some b=>rw [hg] at this;simp only at this;rw [this]
 ·have:=h6.1
  rw [Array.all_eq_true_iff_forall_mem] at this
  exact this y hy
theorem RV.read {m:Nat} {cv:List (Nat×SV)} {pd:List (Bool×Nat)} (j:Nat) (o:Oper) (b:Bool) (x:SV) (hst:g.stat c.nt=true) (ho:g.l[j]? =some o) (hck:g.rdy P cv j=true)
  (hr:∀ρ w F,(b=true∨R.at_ w F)→(execOp (g.env (g.tab P cv) j ρ) o).run P w = .ok (.value (x.val ρ)) w) (h:RV P g c K m (g.tab P ((j,x)::cv)) R ((b,j)::pd)):RV P g c K (m+1) (g.tab P cv) R pd:=RV.readC j o b x hst ho hck (fun ρ w F _ h=>hr ρ w F h) h
def Rg.off (g:Rg) (P:Program) (cv:List (Nat×SV)) (j:Nat):Bool:=
 cv.all (fun p=>g.dy.contains p.1)&&g.dy.contains j&&(lk cv j).isNone&&g.fine (g.tab P cv) P&&
 (match g.l[j]? with
 | some o=>(match g.gd (g.tab P cv) j o with |some b=> !b|none=>false)
 | none=>false)
theorem RV.skip {m:Nat} {cv:List (Nat×SV)} {pd:List (Bool×Nat)} (j:Nat) (hst:g.stat c.nt=true) (hck:g.off P cv j=true) (h:RV P g c K m (g.tab P ((j,.v undef)::cv)) R ((true,j)::pd)):RV P g c K (m+1) (g.tab P cv) R pd:=by
 unfold Rg.off at hck
 simp only [Bool.and_eq_true] at hck
 obtain ⟨⟨⟨⟨h1,h2⟩,h3⟩,h4⟩,h6⟩:=hck
 cases ho:g.l[j]? with
 | none=>rw [ho] at h6;cases h6
 | some o=>
  rw [ho] at h6
  simp only at h6
  have hok:=tab_ok hst h1 h4
  have hjl:j<g.l.length:=(List.getElem?_eq_some_iff.1 ho).1
  have hlk:lk cv j=none:=by simpa using h3
  have hej:eff (g.tab P cv) j=none:=by
   rw [tab_eff hst cv j hjl]
   unfold Rg.ent
   rw [hlk]
   simp only [h2,if_true]
  refine ⟨hok,j,o,[],ho,hej,.inl ⟨true,.v undef,g.tab P ((j,.v undef)::cv),tab_ext hst hlk h2,tab_dy hst hlk h2,tab_at hst hlk h2 hjl,⟨ho,.inl ⟨?_,rfl⟩⟩,h⟩⟩
  cases hg:g.gd (g.tab P cv) j o with
  | none=>rw [hg] at h6;cases h6
  | some b=>rw [hg] at h6;cases b<;>simp at h6 ⊢
abbrev drawnRg (l:List Oper) (dy:List Nat) (s:SS) (kb:Nat):Rg:=⟨l,msks l [],dy,s,kb⟩
abbrev plainRg (l:List Oper) (dy:List Nat) (s:SS) (kb:Nat):Rg:=⟨l,(List.range l.length).map fun j=>2^j-1,dy,s,kb⟩
theorem tab_none {j:Nat} (hst:g.stat nt=true) (h:g.dy.contains j=true):eff (g.tab P []) j=none:=by
 rcases Nat.lt_or_ge j g.l.length with hj|hj
 ·rw [tab_eff hst [] j hj]
  unfold Rg.ent
  simp [lk,h]
  intro hn
  exact absurd (by simpa using h) hn
 ·unfold eff
  rw [List.getElem?_eq_none (by rw [tab_len];exact hj)]
  rfl
theorem TT.seq {x y:Code} (h:TT P c x s R (Exit.then (y.wp P Q) Q)):TT P c (.seq x y) s R Q:=fun ρ a w hs=>wp_seq (h ρ a w hs)
theorem TT.rD {id:Nat} {l:List Oper} {m:Nat} (dy:List Nat) (kb:Nat) (hm:P.follows .mixedOrders=true) (hst:(drawnRg l dy s kb).stat c.nt=true) (h:RV P (drawnRg l dy s kb) c (fun a w=>Q .normal a w) m ((drawnRg l dy s kb).tab P []) R []):TT P c (.region id l.toArray true) s R Q:=
 TT.drawn (g:=drawnRg l dy s kb) hm hst rfl (fun j hj=>tab_none hst hj) h
theorem TT.rP {id:Nat} {l:List Oper} {m:Nat} (dy:List Nat) (kb:Nat) (hst:(plainRg l dy s kb).stat c.nt=true) (h:RV P (plainRg l dy s kb) c (fun a w=>Q .normal a w) m ((plainRg l dy s kb).tab P []) R []):TT P c (.region id l.toArray false) s R Q:=
 TT.plain (g:=plainRg l dy s kb) hst (fun j hj=>tab_none hst hj) h
def SS.at (s:SS):Operand→Option SV
 | .tmp t=>lk s.fr t
 | .const v=>some (.v v)
 | _=>none
theorem St.at (h:St c s R ρ a w) {x:Operand} {y:SV} (hx:s.at x=some y):a.eval x=y.val ρ:=by
 cases x with
 | tmp t=>simp [Act.eval,h.fr t y hx]
 | const v=>injection hx with hx;subst hx;rfl
 | global g=>cases hx
 | func f=>cases hx
theorem TT.cond {x:Operand} {y z:Code} {b:Bool} (hx:s.at x=some (.v (.bool b))) (ht:b=true→TT P c y s R Q) (hf:b=false→TT P c z s R Q):TT P c (.cond x y z) s R Q:=fun ρ a w hs=>
 wp_cond_split (hs.at hx) (fun h=>ht h ρ a w hs) (fun h=>hf h ρ a w hs)
theorem TT.yes {x:Operand} {y z:Code} (hx:s.at x=some (.v (.bool true))) (h:TT P c y s R Q):TT P c (.cond x y z) s R Q:=fun ρ a w hs=>wp_cond_true (hs.at hx) (h ρ a w hs)
theorem TT.no {x:Operand} {y z:Code} (hx:s.at x=some (.v (.bool false))) (h:TT P c z s R Q):TT P c (.cond x y z) s R Q:=fun ρ a w hs=>wp_cond_false (hs.at hx) (h ρ a w hs)
theorem TT.block {id:Nat} {x:Code} (h:TT P c x s R (Exit.inBlock id Q)):TT P c (.block id x) s R Q:=fun ρ a w hs=>wp_block (h ρ a w hs)
theorem TT.skip (h:∀ρ a w,St c s R ρ a w→Q .normal a w):TT P c .skip s R Q:=fun ρ a w hs=>wp_skip (h ρ a w hs)
def resOf (P:Program) (s:SS):ResultVar→Option SV
 | .tmp t=>lk s.fr t
 | .cell t ty=>match lk s.fr t with
  | some (.p k off)=>(lk s.hp k).bind fun b=>ldS P ty b.cells off
  | _=>none
theorem St.load (h:St c s R ρ a w) {ty:TypeId} {k off:Nat} {b:SBlk} (hb:lk s.hp k=some b) {y:SV} (hy:ldS P ty b.cells off=some y):(loadVar ty ⟨ρ k,off,none⟩).run P w = .ok (y.val ρ) w:=by
 have:=stepS_sound (P:=P) (ρ:=ρ) (env:=fun _=> .pointer (some ⟨ρ k,off,none⟩)) (ev:=fun _=>some (.p k off)) (hp:=lk s.hp) (o:={dst:=none,op:= .load ty (.tmp 0),type:=0,pos:= "",after:= #[],guard:=none}) (w:=w) (e:= .val y) (fun x _ s' hs=>by injection hs with hs;subst hs;rfl) h.hp (by simp only [stepS,hb,Option.bind_some,hy,Option.map_some])
 have h2:(execOp (fun _=> .pointer (some ⟨ρ k,off,none⟩)) {dst:=none,op:= .load ty (.tmp 0),type:=0,pos:= "",after:= #[],guard:=none}).run P w=((loadVar ty ⟨ρ k,off,none⟩).run P w).andThen fun v w'=> .ok (.value v) w':=by
  simp [execOp,Instr.loadAt,Instr.sureAddr,Sem.run_bind]
 rw [show (execOp (fun _=> .pointer (some ⟨ρ k,off,none⟩)) {dst:=none,op:= .load ty (.tmp 0),type:=0,pos:= "",after:= #[],guard:=none}).run P w=_ from this] at h2
 cases hr:(loadVar ty ⟨ρ k,off,none⟩).run P w with
 | ok v w'=>
  rw [hr] at h2
  simp only [Result.andThen] at h2
  injection h2 with e1 e2
  injection e1 with e1
  rw [e1,e2]
 | halt x w'=>rw [hr] at h2;cases h2
def rdR (t:Array Value):ResultVar→Sem Value
 | .tmp x=>pure (t.getD x undef)
 | .cell b ty=>do loadVar ty (← asAddr (t.getD b undef))
theorem results_eq (fn:Func) (t:Array Value):results fn t=(do let vs ←fn.results.mapM (rdR t);pure (if h:vs.size=1 then vs[0] else .tuple vs)):=by
 unfold results
 congr 1
theorem St.rd (h:St c s R ρ a w) {r:ResultVar} {y:SV} (hy:resOf P s r=some y):(rdR a.tmps r).run P w = .ok (y.val ρ) w:=by
 cases r with
 | tmp t=>simp [rdR,h.fr t y hy]
 | cell t ty=>
  unfold resOf at hy
  simp only at hy
  split at hy
  ·rename_i k off hk
   rw [Option.bind_eq_some_iff] at hy
   obtain ⟨b,hb,hy⟩:=hy
   have h1:=h.fr t _ hk
   simp [rdR,h1,SV.val,asAddr,Sem.run_bind,h.load hb hy]
  ·cases hy
theorem St.res1 (h:St c s R ρ a w) {fn:Func} {r1:ResultVar} {y1:SV} (hr:fn.results = #[r1]) (h1:resOf P s r1=some y1):(results fn a.tmps).run P w = .ok (y1.val ρ) w:=by
 rw [results_eq,hr]
 simp [h.rd h1,Sem.run_bind]
theorem St.res2 (h:St c s R ρ a w) {fn:Func} {r1 r2:ResultVar} {y1 y2:SV} (hr:fn.results = #[r1,r2]) (h1:resOf P s r1=some y1) (h2:resOf P s r2=some y2):(results fn a.tmps).run P w = .ok (.tuple #[y1.val ρ,y2.val ρ]) w:=by
 rw [results_eq,hr]
 simp [h.rd h1,h.rd h2,Sem.run_bind]
theorem St.res3 (h:St c s R ρ a w) {fn:Func} {r1 r2 r3:ResultVar} {y1 y2 y3:SV} (hr:fn.results = #[r1,r2,r3]) (h1:resOf P s r1=some y1) (h2:resOf P s r2=some y2) (h3:resOf P s r3=some y3):(results fn a.tmps).run P w = .ok (.tuple #[y1.val ρ,y2.val ρ,y3.val ρ]) w:=by
 rw [results_eq,hr]
 simp [h.rd h1,h.rd h2,h.rd h3,Sem.run_bind]
theorem St.res0 (h:St c s R ρ a w) {fn:Func} (hr:fn.results = #[]):(results fn a.tmps).run P w = .ok (.tuple #[]) w:=by
 rw [results_eq,hr]
 simp [Sem.run_bind]
def argFr:List SV→Nat→List (Nat×SV)
 | [],_=>[]
 | x::r,i=>(i,x)::argFr r (i+1)
theorem lk_argFr:∀(l:List SV) (i t:Nat) (x:SV),lk (argFr l i) t=some x→i≤t∧l[t-i]? =some x
 | [],i,t,x,h=>by cases h
 | y::r,i,t,x,h=>by
  unfold argFr lk at h
  split at h
  ·rename_i e
   have:i=t:=by simpa using e
   subst this
   rw [Nat.sub_self]
   exact ⟨Nat.le_refl _,h⟩
  ·obtain ⟨h1,h2⟩:=lk_argFr r (i+1) t x h
   refine ⟨by omega,?_⟩
   rw [show t-i=(t-(i+1))+1 by omega]
   exact h2
theorem TT.enter {f:FuncId} {fn:Func} {x:Code} {nt:Nat} {args:Array Value} {w:World} {F0 F:List Nat} (l:List SV) (hp:List (Nat×SBlk)) (ρ:Nat→Nat) (R:Res) {Post:Ending→World→Prop} (hf:P.funcs[f]? =some fn) (hb:fn.body=some x) (hn:fn.ntmps=nt) (ha:args=(l.map (SV.val ρ)).toArray) (hl:l.length≤nt)
  (hR:R.at_ w F) (hF:∀y∈F,y∈F0) (hh:∀k b,lk hp k=some b→Blk w (ρ k) b.ty (cellsV ρ b.cells)∧¬ρ k∈F∧(b.ro=false→ρ k∈F0)) (hi:∀k k' b b',lk hp k=some b→lk hp k'=some b'→ρ k=ρ k'→k=k')
  (h:TT P ⟨w,F0,nt,[]⟩ x ⟨argFr l 0,hp⟩ R (bodyPost P fn Post)):Calls P f args w Post:=by
 subst hn
 refine calls_of_wp hf hb (h ρ _ _ ⟨?_,rfl,fun t y ht=>?_,fun k b hk=>(hh k b hk).1,hi,F,hR,fun k b hk=>⟨(hh k b hk).2.1,fun e=> .inl ((hh k b hk).2.2 e)⟩,fun y hy=> .inl (hF y hy),Chg.refl _ _⟩)
 ·rw [ha];simp;omega
 ·obtain ⟨_,h2⟩:=lk_argFr l 0 t y ht
  rw [Nat.sub_zero] at h2
  have hlt:=(List.getElem?_eq_some_iff.1 h2).1
  rw [ha,Array.getElem?_append_left (by simpa using hlt)]
  simp [h2]
theorem TT.ret1 {fn:Func} {Post:Ending→World→Prop} {r1:ResultVar} {y1:SV} (hq:∀a w,bodyPost P fn Post .ret a w→Q .ret a w) (hr:fn.results = #[r1]) (h1:resOf P s r1=some y1) (h:∀ρ a w,St c s R ρ a w→Post (.returned (y1.val ρ)) w) (hd:c.df=[]:=by rfl):TT P c .ret s R Q:=fun ρ a w hs=>wp_ret (hq _ _ ⟨hs.defers.trans hd,_,hs.res1 hr h1,h ρ a w hs⟩)
theorem TT.ret2 {fn:Func} {Post:Ending→World→Prop} {r1 r2:ResultVar} {y1 y2:SV} (hq:∀a w,bodyPost P fn Post .ret a w→Q .ret a w) (hr:fn.results = #[r1,r2]) (h1:resOf P s r1=some y1) (h2:resOf P s r2=some y2) (h:∀ρ a w,St c s R ρ a w→Post (.returned (.tuple #[y1.val ρ,y2.val ρ])) w) (hd:c.df=[]:=by rfl):TT P c .ret s R Q:=fun ρ a w hs=>wp_ret (hq _ _ ⟨hs.defers.trans hd,_,hs.res2 hr h1 h2,h ρ a w hs⟩)
theorem TT.ret3 {fn:Func} {Post:Ending→World→Prop} {r1 r2 r3:ResultVar} {y1 y2 y3:SV} (hq:∀a w,bodyPost P fn Post .ret a w→Q .ret a w) (hr:fn.results = #[r1,r2,r3]) (h1:resOf P s r1=some y1) (h2:resOf P s r2=some y2) (h3:resOf P s r3=some y3) (h:∀ρ a w,St c s R ρ a w→Post (.returned (.tuple #[y1.val ρ,y2.val ρ,y3.val ρ])) w) (hd:c.df=[]:=by rfl):TT P c .ret s R Q:=fun ρ a w hs=>wp_ret (hq _ _ ⟨hs.defers.trans hd,_,hs.res3 hr h1 h2 h3,h ρ a w hs⟩)
theorem acts_call {o:Oper} {env:Operand→Value} {f:FuncId} {xs:Array Operand} {ts:Array TypeId} {fn:Func} {args:Array Value} {R:Value→World→Prop} (hop:o.op = .call {callee:= .value (.func f),args:=xs,argTypes:=ts}) (hv:env (.func f) = .func (.func f) #[] #[]) (hf:P.funcs[f]? =some fn) (hb:fn.body.isNone=false) (hn:(fn.name== "runtime.NumGoroutine")=false) (ha:xs.map env=args)
  (h:Calls P f args w fun e w'=>∃v,e = .returned v∧R v w'):ActsR P o env w R:=by
 have hrun:(execOp env o).run P w = .ok (.enter f args) w:=by
  simp only [execOp,hop,resolve,hv,ha,Deferred.ofValue,invoke,Sem.run_bind,Sem.run_pure,Result.andThen_ok,Array.append_empty,Array.empty_append,callFunc]
  have hn':¬fn.name = "runtime.NumGoroutine" :=by simpa using hn
  have hb':¬fn.body=none:=by rintro e;rw [e] at hb;cases hb
  simp [hf,hn',hb']
 unfold ActsR
 rw [hrun]
 simp only
 exact Calls.mono h fun e w' he=>by
  obtain ⟨v,rfl,he⟩:=he
  exact he
def nextP (P:Program) (nt:Nat) (l:List Oper) (s:SS) (kb:Nat) (ts ks:List Nat):Option (List (Option SV)×List (Option SBlk)):=if (plainRg l [] s kb).stat nt=true then (plainRg l [] s kb).fin P [] ts ks else none
def nextD (P:Program) (nt:Nat) (l:List Oper) (s:SS) (kb:Nat) (ts ks:List Nat):Option (List (Option SV)×List (Option SBlk)):=if (drawnRg l [] s kb).stat nt=true then (drawnRg l [] s kb).fin P [] ts ks else none
def keysOf (s:SS):List (Option SV)×List (Option SBlk):=(s.fr.map fun p=>some p.2,s.hp.map fun p=>some p.2)
theorem TT.p0 {id:Nat} {l:List Oper} {s':SS} (kb:Nat) (h:nextP P c.nt l s kb (s'.fr.map (·.1)) (s'.hp.map (·.1))=some (keysOf s')) (hk:∀ρ a w,St c s' R ρ a w→Q .normal a w):TT P c (.region id l.toArray false) s R Q:=by
 unfold nextP at h
 split at h
 ·rename_i hst
  exact TT.rP [] kb hst (RV.fin hst h hk)
 ·cases h
theorem TT.d0 {id:Nat} {l:List Oper} {s':SS} (kb:Nat) (hm:P.follows .mixedOrders=true) (h:nextD P c.nt l s kb (s'.fr.map (·.1)) (s'.hp.map (·.1))=some (keysOf s')) (hk:∀ρ a w,St c s' R ρ a w→Q .normal a w):TT P c (.region id l.toArray true) s R Q:=by
 unfold nextD at h
 split at h
 ·rename_i hst
  exact TT.rD [] kb hm hst (RV.fin hst h hk)
 ·cases h
theorem TT.sp0 {id:Nat} {l:List Oper} {y:Code} {s':SS} (kb:Nat) (h:nextP P c.nt l s kb (s'.fr.map (·.1)) (s'.hp.map (·.1))=some (keysOf s')) (hk:TT P c y s' R Q):TT P c (.seq (.region id l.toArray false) y) s R Q:=TT.seq (TT.p0 kb h hk)
theorem TT.sd0 {id:Nat} {l:List Oper} {y:Code} {s':SS} (kb:Nat) (hm:P.follows .mixedOrders=true) (h:nextD P c.nt l s kb (s'.fr.map (·.1)) (s'.hp.map (·.1))=some (keysOf s')) (hk:TT P c y s' R Q):TT P c (.seq (.region id l.toArray true) y) s R Q:=TT.seq (TT.d0 kb hm h hk)
def Moves (F F':List Nat) (w w':World):Prop:=(∀ y∈F',y∈F∨w.heap.size≤y)∧Chg F w w'
theorem Moves.of_below {F:List Nat} {w w':World} (h:Below w.heap.size w w'):Moves F F w w':=⟨fun _ h=> .inl h,chg_of_below h⟩
def callable (P:Program) (f:FuncId):Bool:=match P.funcs[f]? with |some fn=> !fn.body.isNone&& !(fn.name== "runtime.NumGoroutine")|none=>false
def callOf (l:List Oper) (j:Nat):Option (FuncId×Array Operand):=match l[j]? with |some {op:= .call {callee:= .value (.func f),args:=xs,..},..}=>some (f,xs)|_=>none
def Rg.dynC (g:Rg) (P:Program) (cv:List (Nat×SV)) (j:Nat) (f:FuncId) (pk:List Nat) (pd:List (Bool×Nat)):Bool:=g.dyn P cv j pk pd&&callable P f&&(match callOf g.l j with |some (f',_)=>f'==f|none=>false)
def Rg.argsOf (g:Rg) (P:Program) (cv:List (Nat×SV)) (j:Nat) (ρ:Nat→Nat):List Value:=match callOf g.l j with |some (_,xs)=>xs.toList.map (g.env (g.tab P cv) j ρ)|none=>[]
theorem RV.call {m:Nat} {cv:List (Nat×SV)} {pd:List (Bool×Nat)} (j:Nat) (f:FuncId) (args:(Nat→Nat)→List Value) (pk:List Nat) (hst:g.stat c.nt=true) (hck:g.dynC P cv j f pk pd=true) (hargs:∀ρ,g.argsOf P cv j ρ=args ρ)
  (h:∀ρ w F,R.at_ w F→(∀ k∈pk,∀b,g.hp (g.tab P cv) (bit g.ms j) k=some b→Blk w (ρ k) b.ty (cellsV ρ b.cells)∧¬ρ k∈F)→
   Calls P f (args ρ).toArray w fun e w'=>∃(x:SV) (R':Res) (F':List Nat),e = .returned (x.val ρ)∧R'.at_ w' F'∧Moves F F' w w'∧RV P g c K m (g.tab P ((j,x)::cv)) R' (pd.filter (·.1))):RV P g c K (m+1) (g.tab P cv) R pd:=by
 unfold Rg.dynC at hck
 simp only [Bool.and_eq_true] at hck
 obtain ⟨⟨h1,h2⟩,h3⟩:=hck
 unfold callOf at h3
 split at h3
 ·rename_i f' xs hc
  split at hc
  ·rename_i d f2 xs2 ts ty pos af gu ho
   injection hc with hc
   injection hc with e1 e2
   subst e1 e2
   have h3':f2=f:=by simpa using h3
   subst h3'
   refine RV.dyn j _ pk hst ho h1 fun ρ w F f1 f2' f3 f4=>?_
   unfold callable at h2
   split at h2
   ·rename_i fn hf
    simp only [Bool.and_eq_true,Bool.not_eq_true'] at h2
    have ha:(xs2.map (g.env (g.tab P cv) j ρ))=(args ρ).toArray:=by
     rw [← hargs ρ]
     unfold Rg.argsOf callOf
     simp only [ho]
     rw [← Array.toList_map,Array.toArray_toList]
    refine acts_call rfl rfl hf h2.1 h2.2 ha (Calls.mono (h ρ w F f1 f4) fun e w' he=>?_)
    obtain ⟨x,R',F',rfl,h5,h6,h7⟩:=he
    exact ⟨_,rfl,x,R',F',rfl,h5,h6.1,h6.2,h7⟩
   ·cases h2
  ·cases hc
 ·cases h3
abbrev rgOf (dr:Bool) (l:List Oper) (dy:List Nat) (s:SS) (kb:Nat):Rg:=if dr then drawnRg l dy s kb else plainRg l dy s kb
theorem TT.r {id:Nat} {l:List Oper} {m:Nat} (dr:Bool) (dy:List Nat) (kb:Nat) (hm:P.follows .mixedOrders=true) (hst:(rgOf dr l dy s kb).stat c.nt=true) (h:RV P (rgOf dr l dy s kb) c (fun a w=>Q .normal a w) m ((rgOf dr l dy s kb).tab P []) R []):TT P c (.region id l.toArray dr) s R Q:=by
 cases dr with
 | true=>exact TT.rD dy kb hm hst h
 | false=>exact TT.rP dy kb hst h
theorem TT.next {y:Code} (h:TT P c y s R Q):∀ρ a w,St c s R ρ a w→Exit.then (y.wp P Q) Q .normal a w:=h
theorem exit_in {id:Nat} {a:Act} {w:World} (h:Q .normal a w):Exit.inBlock id Q (.exit id) a w:=by
 show (if id=id then Q .normal a w else Q (.exit id) a w)
 rw [if_pos rfl]
 exact h
theorem TT.sr {id:Nat} {l:List Oper} {y:Code} {m:Nat} (dr:Bool) (dy:List Nat) (kb:Nat) (hm:P.follows .mixedOrders=true) (hst:(rgOf dr l dy s kb).stat c.nt=true) (h:RV P (rgOf dr l dy s kb) c (y.wp P Q) m ((rgOf dr l dy s kb).tab P []) R []):TT P c (.seq (.region id l.toArray dr) y) s R Q:=TT.seq (TT.r dr dy kb hm hst h)
theorem TT.of {y:Code} (h:TT P c y s R Q):∀ρ a w,St c s R ρ a w→y.wp P Q a w:=h
theorem TT.exitB {id:Nat} {Q':Exit→Act→World→Prop} (hq:∀a w,Q .normal a w→Q' (.exit id) a w) (h:∀ρ a w,St c s R ρ a w→Q .normal a w):TT P c (.exit id) s R Q':=fun ρ a w hs=>wp_exit (hq a w (h ρ a w hs))
end
section
variable {P:Program} {g:Rg} {c:Cx} {K:Act→World→Prop} {Q:Exit→Act→World→Prop} {s:SS} {R:Res} {ρ:Nat→Nat} {a:Act} {w:World} {m:Nat} {cv:List (Nat×SV)} {pd:List (Bool×Nat)}
def Rg.val1 (g:Rg) (P:Program) (cv:List (Nat×SV)) (j:Nat):Option Eff:=match g.l[j]? with |some o=>stepV P (g.ev (g.tab P cv) j) o|none=>none
theorem RV.pure (j:Nat) (x y:Value) (hst:g.stat c.nt=true) (hck:g.rdy P cv j=true) (hx:g.val1 P cv j=some (.val (.v x))) (e:x=y) (h:RV P g c K m (g.tab P ((j,.v y)::cv)) R ((true,j)::pd)):RV P g c K (m+1) (g.tab P cv) R pd:=by
 subst e
 unfold Rg.val1 at hx
 split at hx
 ·rename_i o ho
  refine RV.read j o true (.v x) hst ho hck (fun ρ w F _=>?_) h
  have hrun:EffRun P ρ (g.env (g.tab P cv) j ρ) o w (.val (.v x)):=stepV_sound (fun z hz s hs=>by unfold Rg.env;rw [hs]) hx
  exact hrun
 ·cases hx
theorem RV.case (j:Nat) (b:Bool) (hst:g.stat c.nt=true) (hck:g.rdy P cv j=true) (hx:g.val1 P cv j=some (.val (.v (.bool b)))) (ht:b=true→RV P g c K m (g.tab P ((j,.v (.bool true))::cv)) R ((true,j)::pd)) (hf:b=false→RV P g c K m (g.tab P ((j,.v (.bool false))::cv)) R ((true,j)::pd)):RV P g c K (m+1) (g.tab P cv) R pd:=by
 cases b with
 | true=>exact RV.pure j _ _ hst hck hx rfl (ht rfl)
 | false=>exact RV.pure j _ _ hst hck hx rfl (hf rfl)
theorem RV.run (j:Nat) (o:Oper) (x:SV) (hst:g.stat c.nt=true) (hck:g.rdy P cv j=true) (ho:g.l[j]? =some o) (hrun:∀ρ w,(execOp (g.env (g.tab P cv) j ρ) o).run P w = .ok (.value (x.val ρ)) w) (h:RV P g c K m (g.tab P ((j,x)::cv)) R ((true,j)::pd)):RV P g c K (m+1) (g.tab P cv) R pd:=by
 exact RV.read j o true x hst ho hck (fun ρ w F _=>hrun ρ w) h
def Rg.binOf (g:Rg) (P:Program) (cv:List (Nat×SV)) (j:Nat):Option (BinOp×TypeId×SV×SV):=match g.l[j]? with
 | some {op:= .binOp b t x y _,..}=>match g.ev (g.tab P cv) j x,g.ev (g.tab P cv) j y with
  | some u,some v=>some (b,t,u,v)
  | _,_=>none
 | _=>none
theorem RV.bin (j:Nat) (b:BinOp) (t:TypeId) (u v r:Value) (hst:g.stat c.nt=true) (hck:g.rdy P cv j=true) (hb:g.binOf P cv j=some (b,t,.v u,.v v)) (hg:∀x y w,(eqGuard b t x y u v).run P w = .ok () w) (hrun:∀w,(binOp b t u v).run P w = .ok r w) (h:RV P g c K m (g.tab P ((j,.v r)::cv)) R ((true,j)::pd)):RV P g c K (m+1) (g.tab P cv) R pd:=by
 unfold Rg.binOf at hb
 split at hb
 ·rename_i d b' t' x y yt ty pos af gu ho
  split at hb
  ·rename_i u' v' hu hv
   injection hb with hb
   injection hb with e1 hb
   injection hb with e2 hb
   injection hb with e3 e4
   subst e1 e2 e3 e4
   refine RV.run j _ (.v r) hst hck ho (fun ρ w=>?_) h
   have h1:g.env (g.tab P cv) j ρ x=u:=by unfold Rg.env;rw [hu];rfl
   have h2:g.env (g.tab P cv) j ρ y=v:=by unfold Rg.env;rw [hv];rfl
   simp only [execOp,h1,h2,Sem.run_bind,hg,hrun,Result.andThen_ok]
   rfl
  ·cases hb
 ·cases hb
theorem eqGuard_int (b:BinOp) (t:TypeId) (x y:Operand) (k k':IntKind) (p q:Int) (w:World):(eqGuard b t x y (.int k p) (.int k' q)).run P w = .ok () w:=by
 unfold eqGuard
 cases b<;>simp
theorem RV.join {E:List (Option Eff)} (s':SS) (h1:∀ρ a w,St c s' R ρ a w→K a w) (h2:(∀ ρ a w,St c s' R ρ a w→K a w)→RV P g c K m E R pd):RV P g c K m E R pd:=h2 h1
theorem TT.res {x:Code} {R':Res} (hi:∀W F,R.at_ W F→R'.at_ W F) (h:TT P c x s R' Q):TT P c x s R Q:=fun ρ a w hs=>by
 obtain ⟨F,f1,f2⟩:=hs.sep
 exact h ρ a w ⟨hs.size,hs.defers,hs.fr,hs.hp,hs.inj,F,hi _ _ f1,f2⟩
theorem TT.loop {ι:Type} {x:Code} (Inv:ι→Prop) (S:ι→SS) (T:ι→Res) (μ:ι→Nat) (i0:ι) (h0:Inv i0) (hs:s=S i0) (hR:R=T i0)
  (h:∀i,Inv i→TT P c x (S i) (T i) (Exit.then (fun a w=>∃ρ i',Inv i'∧μ i'<μ i∧St c (S i') (T i') ρ a w) Q)):TT P c (.loop x) s R Q:=fun ρ a w hst=>by
 classical
 subst hs hR
 let I:Nat→Act→World→Prop:=fun n a w=>∃i ρ,Inv i∧μ i=n∧St c (S i) (T i) ρ a w
 let M:Act→World→Nat:=fun a w=>if hh:∃n,I n a w then Classical.choose (show ∃n,I n a w∧∀k,k<n→¬I k a w from by
  obtain ⟨n,hn⟩:=hh
  induction n using Nat.strongRecOn with
  | _ n ih=>
   by_cases hk:∃k,k<n∧I k a w
   ·obtain ⟨k,h1,h2⟩:=hk
    exact ih k h1 h2
   ·exact ⟨n,hn,fun k h1 h2=>hk ⟨k,h1,h2⟩⟩) else 0
 have hM:∀a w,(∃ n,I n a w)→I (M a w) a w∧∀k,k<M a w→¬I k a w:=fun a w hh=>by
  have:M a w=Classical.choose _:=dif_pos hh
  rw [this]
  exact Classical.choose_spec (p:=fun n=>I n a w∧∀k,k<n→¬I k a w) _
 refine wp_loop (fun a w=>∃n,I n a w) M ⟨_,i0,ρ,h0,rfl,hst⟩ (fun a w hI=>?_)
 obtain ⟨⟨i,ρ',hi,hμ,hSt⟩,hmin⟩:=hM a w hI
 refine wp_mono (h i hi ρ' a w hSt) fun e a' w' hq=>?_
 cases e with
 | normal=>
  obtain ⟨ρ2,i',hi',hlt,hSt'⟩:=hq
  have hI':∃n,I n a' w':=⟨_,i',ρ2,hi',rfl,hSt'⟩
  refine ⟨hI',?_⟩
  rcases Nat.lt_or_ge (M a' w') (M a w) with h1|h1
  ·exact h1
  ·exact absurd ⟨i',ρ2,hi',rfl,hSt'⟩ ((hM a' w' hI').2 (μ i') (by omega))
 | _=>exact hq
end
end
section
open Go.RowKit Go.Sort
abbrev V8 (x:Int):SV:= .v (.int .u8 x)
abbrev V16 (x:Int):SV:= .v (.int .u16 x)
abbrev V32 (x:Int):SV:= .v (.int .u32 x)
abbrev V64 (x:Int):SV:= .v (.int .i64 x)
abbrev VU (x:Int):SV:= .v (.int .u64 x)
abbrev VB (b:Bool):SV:= .v (.bool b)
abbrev VP (g:Nat):SV:= .v (.pointer (some ⟨g,0,none⟩))
abbrev Ed (t q:Int):Value:= .agg #[.int .u8 t,.int .u32 q]
abbrev edB (t q:Int):SBlk:=⟨48,false,[V8 t,V32 q]⟩
theorem mixed:Tryz.prog.follows .mixedOrders=true:=by kernel_rfl
def Lands (A:Res) (F:List Nat) (w w':World):Prop:=∃F',A.at_ w' F'∧Moves F F' w w'
theorem Lands.of_below {A:Res} {F:List Nat} {w w':World} (h:A.at_ w F) (hb:Below w.heap.size w w'):Lands A F w w':=⟨F,A.chg h (chg_of_below (F:=[]) hb) (fun _ _ h=>by cases h),.of_below hb⟩
theorem Lands.imp {A B:Res} {F:List Nat} {w w':World} (h:Lands A F w w') (hi:∀F',A.at_ w' F'→B.at_ w' F'):Lands B F w w':=by
 obtain ⟨F',h1,h2⟩:=h
 exact ⟨F',hi F' h1,h2⟩
def Says (v:Value) (A:Res) (F:List Nat) (w:World) (e:Ending) (w':World):Prop:=e = .returned v∧Lands A F w w'
theorem RVcall {P:Program} {g:Rg} {c:Cx} {K:Act→World→Prop} {R:Res} {m:Nat} {cv:List (Nat×SV)} {pd:List (Bool×Nat)} (j:Nat) (f:FuncId) (args:(Nat→Nat)→List Value) (pk:List Nat) (hst:g.stat c.nt=true) (hck:g.dynC P cv j f pk pd=true) (hargs:∀ρ,g.argsOf P cv j ρ=args ρ)
  (h:∀ρ w F,R.at_ w F→(∀ k∈pk,∀b,g.hp (g.tab P cv) (bit g.ms j) k=some b→Blk w (ρ k) b.ty (cellsV ρ b.cells)∧¬ρ k∈F)→
   Calls P f (args ρ).toArray w fun e w'=>∃(x:SV) (R':Res),e = .returned (x.val ρ)∧Lands R' F w w'∧RV P g c K m (g.tab P ((j,x)::cv)) R' (pd.filter (·.1))):RV P g c K (m+1) (g.tab P cv) R pd:=
 RV.call j f args pk hst hck hargs fun ρ w F f1 f2=>(h ρ w F f1 f2).mono fun e w' ⟨x,R',e1,⟨F',e2,e3⟩,e4⟩=>⟨x,R',F',e1,e2,e3,e4⟩
theorem St.lands {F:List Nat} {nt:Nat} {df:List Deferred} {s:SS} {R:Res} {ρ:Nat→Nat} {a:Act} {w w':World} (h:St ⟨w,F,nt,df⟩ s R ρ a w'):Lands R F w w':=by
 obtain ⟨F',f1,_,f3,f4⟩:=h.sep
 exact ⟨F',f1,f3,f4⟩
theorem TT.enter0 {P:Program} {f:FuncId} {fn:Func} {x:Code} {nt:Nat} {args:Array Value} {w:World} {F:List Nat} (l:List SV) (R:Res) {Post:Ending→World→Prop} (hf:P.funcs[f]? =some fn) (hb:fn.body=some x) (hn:fn.ntmps=nt) (ha:args=(l.map (SV.val fun _=>0)).toArray) (hl:l.length≤nt) (hR:R.at_ w F)
  (h:TT P ⟨w,F,nt,[]⟩ x ⟨argFr l 0,[]⟩ R (bodyPost P fn Post)):Calls P f args w Post:=
 TT.enter l [] (fun _=>0) R hf hb hn ha hl hR (fun _ h=>h) (fun k b hk=>by cases hk) (fun k k' b b' hk=>by cases hk) h
theorem TT.enter1 {P:Program} {f:FuncId} {fn:Func} {x:Code} {nt:Nat} {args:Array Value} {w:World} {F:List Nat} (o:Nat) (b:SBlk) (l:List SV) (R:Res) {Post:Ending→World→Prop} (hf:P.funcs[f]? =some fn) (hb:fn.body=some x) (hn:fn.ntmps=nt) (hro:b.ro=true) (hB:Blk w o b.ty (cellsV (fun _=>o) b.cells)) (ho:¬o∈F) (ha:args=(l.map (SV.val fun _=>o)).toArray) (hl:l.length≤nt) (hR:R.at_ w F)
  (h:TT P ⟨w,F,nt,[]⟩ x ⟨argFr l 0,[(0,b)]⟩ R (bodyPost P fn Post)):Calls P f args w Post:=by
 have h0:∀k b',lk [(0,b)] k=some b'→k=0∧b'=b:=fun k b' hk=>by
  have:=lk_mem hk
  simp only [List.mem_singleton,Prod.mk.injEq] at this
  exact this
 refine TT.enter l [(0,b)] (fun _=>o) R hf hb hn ha hl hR (fun _ h=>h) (fun k b' hk=>?_) (fun k k' b1 b2 hk hk' _=>?_) h
 ·obtain ⟨rfl,rfl⟩:=h0 k b' hk
  exact ⟨hB,ho,fun e=>by rw [hro] at e;cases e⟩
 ·rw [(h0 k b1 hk).1,(h0 k' b2 hk').1]
def sepR (A B:Res):Res where
 at_ W F:=∃F1 F2,(∀ x,x∈F↔x∈F1∨x∈F2)∧A.at_ W F1∧B.at_ W F2∧∀x∈F1,¬x∈F2
 chg:=by
  rintro W W' F G ⟨F1,F2,h0,h1,h2,h3⟩ hc hd
  exact ⟨F1,F2,h0,A.chg h1 hc (fun k hk=>hd k ((h0 k).2 (.inl hk))),B.chg h2 hc (fun k hk=>hd k ((h0 k).2 (.inr hk))),h3⟩
 lt:=by
  rintro W F ⟨F1,F2,h0,h1,h2,h3⟩ k hk
  exact ((h0 k).1 hk).elim (A.lt h1 k) (B.lt h2 k)
theorem sepR_comm {A B:Res} {W:World} {F:List Nat} (h:(sepR A B).at_ W F):(sepR B A).at_ W F:=by
 obtain ⟨F1,F2,h0,h1,h2,h3⟩:=h
 exact ⟨F2,F1,fun x=>(h0 x).trans Or.comm,h2,h1,fun x hx hm=>h3 x hm hx⟩
theorem sepR_assoc {A B C:Res} {W:World} {F:List Nat} (h:(sepR (sepR A B) C).at_ W F):(sepR A (sepR B C)).at_ W F:=by
 obtain ⟨F1,F2,h0,⟨G1,G2,g0,g1,g2,g3⟩,h2,h3⟩:=h
 exact ⟨G1,G2++F2,fun x=>by rw [h0,g0,List.mem_append,or_assoc],g1,⟨G2,F2,fun x=>List.mem_append,g2,h2,fun x hx=>h3 x ((g0 x).2 (.inr hx))⟩,fun x hx hm=>(List.mem_append.1 hm).elim (g3 x hx) (h3 x ((g0 x).2 (.inl hx)))⟩
theorem sepR_unassoc {A B C:Res} {W:World} {F:List Nat} (h:(sepR A (sepR B C)).at_ W F):(sepR (sepR A B) C).at_ W F:=by
 obtain ⟨F1,F2,h0,h1,⟨G1,G2,g0,g1,g2,g3⟩,h3⟩:=h
 exact ⟨F1++G1,G2,fun x=>by rw [h0,g0,List.mem_append,or_assoc],⟨F1,G1,fun x=>List.mem_append,h1,g1,fun x hx hm=>h3 x hx ((g0 x).2 (.inl hm))⟩,g2,fun x hx hm=>(List.mem_append.1 hx).elim (fun h=>h3 x h ((g0 x).2 (.inr hm))) (fun h=>g3 x h hm)⟩
theorem sepR_imp {A B A' B':Res} {W:World} {F:List Nat} (h:(sepR A B).at_ W F) (ha:∀F,A.at_ W F→A'.at_ W F) (hb:∀F,B.at_ W F→B'.at_ W F):(sepR A' B').at_ W F:=by
 obtain ⟨F1,F2,h0,h1,h2,h3⟩:=h
 exact ⟨F1,F2,h0,ha _ h1,hb _ h2,h3⟩
theorem lands_sep {A' B:Res} {F F1 F2:List Nat} {w w':World} (h0:∀x,x∈F↔x∈F1∨x∈F2) (h2:B.at_ w F2) (h3:∀x∈F1,¬x∈F2) (hl:Lands A' F1 w w'):Lands (sepR A' B) F w w':=by
 obtain ⟨F1',h4,h5,h6⟩:=hl
 refine ⟨F1'++F2,⟨F1',F2,fun x=>List.mem_append,h4,B.chg h2 h6 (fun k hk hm=>h3 k hm hk),fun x hx hm=>?_⟩,fun y hy=>?_,h6.mono fun x hx=> .inl ((h0 x).2 (.inl hx))⟩
 ·rcases h5 x hx with h|h
  ·exact h3 x h hm
  ·have:=B.lt h2 x hm;omega
 ·rcases List.mem_append.1 hy with h|h
  ·exact (h5 y h).imp (fun h=>(h0 y).2 (.inl h)) id
  ·exact .inl ((h0 y).2 (.inr h))
structure Bk where
 at_:List (Option Rec)→Res
 mono:∀{cs cs':List (Option Rec)} {W:World} {F:List Nat},Ext cs cs'→(at_ cs).at_ W F→(at_ cs').at_ W F
def emptyR:Res:=⟨fun _ F=>F=[],(fun h _ _=>h),(fun h k hk=>by rw [h] at hk;cases hk)⟩
def Bk.sep (A B:Bk):Bk:=⟨fun cs=>sepR (A.at_ cs) (B.at_ cs),fun he h=>sepR_imp h (fun _=>A.mono he) (fun _=>B.mono he)⟩
def stR (g n room:Nat) (cs:List (Option Rec)) (free:List Int):Res:=
 ⟨fun W F=>StoreAt W F g n room cs free∧FreeOk cs free,(fun h hc hd=>⟨h.1.chg hc hd,h.2⟩),(fun h=>h.1.lt)⟩
def engR (g n room:Nat) (B:Bk) (cs:List (Option Rec)) (free:List Int):Res:=sepR (stR g n room cs free) (B.at_ cs)
def EOut (k g n room:Nat) (B:Bk) (F:List Nat) (w:World) (cs:List (Option Rec)) (P:List (Option Rec)→Edg→Prop) (e:Ending) (w':World):Prop:=
 ∃(t q code:Int) (cs':List (Option Rec)) (free':List Int),e = .returned (.tuple #[.agg #[.int .u8 t,.int .u32 q],.int .u8 code])∧Lands (engR g n room B cs' free') F w w'∧Grow k cs cs' free'∧((code=0∧P cs' ⟨t,q⟩)∨(code=6∧t=0∧q=0∧room≤cntC cs'))
def VOut (k g n room:Nat) (B:Bk) (F:List Nat) (w:World) (cs:List (Option Rec)) (P:List (Option Rec)→Edg→Edg→Prop) (e:Ending) (w':World):Prop:=
 ∃(t q t' q' code:Int) (cs':List (Option Rec)) (free':List Int),e = .returned (.tuple #[.agg #[.int .u8 t,.int .u32 q],.agg #[.int .u8 t',.int .u32 q'],.int .u8 code])∧Lands (engR g n room B cs' free') F w w'∧Grow k cs cs' free'∧((code=0∧P cs' ⟨t,q⟩ ⟨t',q'⟩)∨(code=6∧t=0∧q=0∧t'=0∧q'=0∧room≤cntC cs'))
section
variable {g n room:Nat} {B:Bk} {F:List Nat} {w:World} {cs:List (Option Rec)} {free:List Int}
theorem engR_ok (h:(engR g n room B cs free).at_ w F):StOk n room cs free∧FreeOk cs free∧Uniq cs:=by
 obtain ⟨F1,F2,h0,h1,h2,h3⟩:=h
 exact ⟨h1.1.ok,h1.2,h1.1.uniq⟩
theorem lands_eng {F1 F2:List Nat} {w':World} {cs':List (Option Rec)} {free':List Int} {k:Nat} (h0:∀x,x∈F↔x∈F1∨x∈F2) (h2:(B.at_ cs).at_ w F2) (h3:∀x∈F1,¬x∈F2) (hg:Grow k cs cs' free') (hT:Turns (fun W X=>StoreAt W X g n room cs' free') F1 w w'):Lands (engR g n room B cs' free') F w w':=by
 obtain ⟨⟨F',h4,h5⟩,h6⟩:=hT
 exact lands_sep h0 (B.mono hg.ext h2) h3 ⟨F',⟨h4,hg.free⟩,h5,h6⟩
theorem mkE (f l:Int) (lo hi:Edg) (a b:Dg) (h:(engR g n room B cs free).at_ w F) (ht:Two cs f n l lo hi a b) :
  Calls Tryz.prog 56 #[.pointer (some ⟨g,0,none⟩),.int .u8 f,.int .i64 l,.agg lo.cells.toArray,.agg hi.cells.toArray] w (EOut 1 g n room B F w cs (fun cs' ed=>Unf cs' f ed (mkT f l a b))):=by
 obtain ⟨F1,F2,h0,h1,h2,h3⟩:=h
 refine (cmk_any F1 g n room cs free f l lo hi a b w h1.1 h1.2 ht).mono ?_
 rintro e w' (⟨⟨t,q⟩,cs',free',rfl,hP,hg,hT⟩|⟨cs',free',rfl,hf,hg,hT⟩)
 ·exact ⟨t,q,0,cs',free',rfl,lands_eng h0 h2 h3 hg hT,hg,.inl ⟨rfl,hP⟩⟩
 ·exact ⟨0,0,6,cs',free',rfl,lands_eng h0 h2 h3 hg hT,hg,.inr ⟨rfl,rfl,rfl,hf⟩⟩
theorem vwE (f l:Int) (ed:Edg) (T:Dg) (h:(engR g n room B cs free).at_ w F) (hf:1≤f∧f≤5) (hun:Unf cs f ed T) (hT:Ft f l T∧Gd f n T) (hl:0≤l∧l<n) :
  Calls Tryz.prog 102 #[.pointer (some ⟨g,0,none⟩),.int .u8 f,.agg ed.cells.toArray,.int .i64 l] w (VOut 1 g n room B F w cs (fun cs' lo hi=>Unf cs' f lo (viewT f l T).1∧Unf cs' f hi (viewT f l T).2)):=by
 obtain ⟨F1,F2,h0,h1,h2,h3⟩:=h
 refine (cvw_any F1 g n room cs free f l ed T w h1.1 h1.2 hf hun hT hl).mono ?_
 rintro e w' (⟨⟨t,q⟩,⟨t',q'⟩,cs',free',rfl,hP,hg,hT⟩|⟨cs',free',rfl,hf,hg,hT⟩)
 ·exact ⟨t,q,t',q',0,cs',free',rfl,lands_eng h0 h2 h3 hg hT,hg,.inl ⟨rfl,hP⟩⟩
 ·exact ⟨0,0,0,0,6,cs',free',rfl,lands_eng h0 h2 h3 hg hT,hg,.inr ⟨rfl,rfl,rfl,rfl,rfl,hf⟩⟩
def IsE (cs:List (Option Rec)) (f n:Int) (e:Edg) (l:Int) (x:BT):Prop:=Unf cs f e (can f n l x)
theorem IsE.ext {cs cs':List (Option Rec)} {f n l:Int} {e:Edg} {x:BT} (h:IsE cs f n e l x) (k:Ext cs cs'):IsE cs' f n e l x:=Unf.ext k h
theorem IsE.wf {f:Int} {l:Int} {e:Edg} {x:BT} {m:Nat} (h:IsE cs f n e l x) (hok:StOk n room cs free) (hf:1≤f∧f≤5) (hx:x.Dep m) (hl:l+m=n) (h0:0≤l):e.Wf:=
 unf_wf (by have:=hok.n16;omega) (recAt_big hok) h (can_good hf x l m hx hl h0).2
theorem mkC {f l:Int} {lo hi:Edg} {x y:BT} {m:Nat} (h:(engR g n room B cs free).at_ w F) (hf:1≤f∧f≤5) (hl:l+(m+1:Nat)=n) (h0:0≤l) (hx:x.Dep m) (hy:y.Dep m) (h1:IsE cs f n lo (l+1) x) (h2:IsE cs f n hi (l+1) y) :
  Calls Tryz.prog 56 #[.pointer (some ⟨g,0,none⟩),.int .u8 f,.int .i64 l,.agg #[.int .u8 lo.tag,.int .u32 lo.pos],.agg #[.int .u8 hi.tag,.int .u32 hi.pos]] w (EOut 1 g n room B F w cs (fun cs' ed=>IsE cs' f n ed l (.br x y))):=
 mkE f l lo hi _ _ h ⟨hf,by have:=(engR_ok h).1.n16;omega,by omega,h1,h2,can_good hf x (l+1) m hx (by omega) (by omega),can_good hf y (l+1) m hy (by omega) (by omega)⟩
theorem vwC {f l:Int} {ed:Edg} {x y:BT} {m:Nat} (h:(engR g n room B cs free).at_ w F) (hf:1≤f∧f≤5) (hl:l+(m+1:Nat)=n) (h0:0≤l) (hx:x.Dep m) (hy:y.Dep m) (h1:IsE cs f n ed l (.br x y)) :
  Calls Tryz.prog 102 #[.pointer (some ⟨g,0,none⟩),.int .u8 f,.agg #[.int .u8 ed.tag,.int .u32 ed.pos],.int .i64 l] w (VOut 1 g n room B F w cs (fun cs' lo hi=>IsE cs' f n lo (l+1) x∧IsE cs' f n hi (l+1) y)):=by
 have hv:=view_can (f:=f) (n:=(n:Int)) (l:=l) hf hx hy hl h0
 have:=vwE f l ed _ h hf h1 (can_good hf (.br x y) l (m+1) (.mk hx hy) hl h0) (by omega)
 rw [hv] at this
 exact this
end
set_option maxRecDepth 100000 in
set_option maxHeartbeats 4000000 in
theorem oneC_any (f n:Int) (w:World) (hf:1≤f∧f≤5) (hn:0≤n∧n≤16):Calls Tryz.prog 55 #[.int .u8 f,.int .i64 n] w fun e w'=>e = .returned (.agg #[.int .u8 (if f=5 then n else 0),.int .u32 1])∧Below w.heap.size w w':=by
 have hIF:=isForm_any f (w.alloc (.cells #[.int .u8 0,.int .u32 0] 48))
 have hMA:=nodeMay_any n (w.alloc (.cells #[.int .u8 0,.int .u32 0] 48))
 rw [show isFormB f=true from decide_eq_true hf] at hIF
 rw [show mayB n=true from decide_eq_true hn] at hMA
 have HIF:=Lib.hid hIF
 have HMA:=Lib.hid hMA
 clear hIF hMA
 by_cases h5:f=5
 ·rw [if_pos h5]
  subst h5
  have hw8:IntKind.u8.wrap n=n:=by rw [IntKind.wrap_u8];omega
  go_enter Tryz.func55,Tryz.ntmps55
  go_wp2_with fail
  refine HIF.out.mono ?_
  rintro e w' ⟨rfl,rfl⟩
  go_wp2_with fail
  refine HMA.out.mono ?_
  rintro e w' ⟨rfl,rfl⟩
  go_wp2_with fail
  refine bodyPost_ret (v:= .agg #[.int .u8 n,.int .u32 1]) ?_ rfl ⟨rfl,?_⟩
  ·simp [results,Tryz.results55,go_sem, *]
  ·first |exact (Below.refl _ _).alloc (Nat.le_refl _) _|exact (((Below.refl _ _).alloc (Nat.le_refl _) _).setCell (Nat.le_refl _) _).setCell (Nat.le_refl _) _
 ·rw [if_neg h5]
  have e5:(f==5)=false:=by rw [beq_eq_false_iff_ne];exact h5
  clear h5
  go_enter Tryz.func55,Tryz.ntmps55
  go_wp2_with fail
  refine HIF.out.mono ?_
  rintro e w' ⟨rfl,rfl⟩
  go_wp2_with fail
  refine HMA.out.mono ?_
  rintro e w' ⟨rfl,rfl⟩
  go_wp2_with fail
  refine bodyPost_ret (v:= .agg #[.int .u8 0,.int .u32 1]) ?_ rfl ⟨rfl,?_⟩
  ·simp [results,Tryz.results55,go_sem, *]
  ·first |exact (Below.refl _ _).alloc (Nat.le_refl _) _|exact (((Below.refl _ _).alloc (Nat.le_refl _) _).setCell (Nat.le_refl _) _).setCell (Nat.le_refl _) _
end
end Go.Proofs.YtnlmlehcpngcgaaGreat
