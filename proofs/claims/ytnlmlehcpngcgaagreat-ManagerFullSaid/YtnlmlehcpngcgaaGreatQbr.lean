/- apply's cache in the shape of the others; calls of function values. Contracts: the engines forget. -/
import Derived.Test.YtnlmlehcpngcgaaGreatQbq
import Derived.Test.YtnlmlehcpngcgaaGreatQbj
namespace Go.Proofs.YtnlmlehcpngcgaaGreat
set_option linter.unusedSimpArgs false
set_option linter.unusedVariables false
section
open Go.RowKit Go.Sort
abbrev tCA:TypeId:=135
abbrev tEA:TypeId:=189
theorem entA_cells (es:List EntA):(es.map fun e=>(e.k,e.v,e.ep)).flatMap (entC Jb.cells)=es.flatMap EntA.cells:=by
 induction es with
 | nil=>rfl
 | cons e es ih=>
  rw [List.map_cons,List.flatMap_cons,List.flatMap_cons,ih]
  unfold entC EntA.cells Edg.cells
  simp
theorem ansB_caR {c n ek:Nat} {cs:List (Option Rec)} {W:World} {F:List Nat} (h:((ansB c n ek).at_ cs).at_ W F):(caR tCA tEA 9 Jb.cells c ek (AnsA n cs)).at_ W F:=by
 obtain ⟨es,ep,⟨b,n',h1,h2,hB,hO,hl,hq,hF,hne⟩,hA,e1,e2,e3⟩:=h
 refine ⟨ep,⟨e1,e2⟩,b,n',h1,h2,es.map fun e=>(e.k,e.v,e.ep),hF,hne,hB,?_,by rw [List.length_map];exact hl,hq,fun x hx=>?_⟩
 ·unfold OwnS at hO ⊢
  rw [List.length_map,entA_cells]
  exact hO
 ·obtain ⟨e,he,rfl⟩:=List.mem_map.1 hx
  exact ⟨e3 e he,fun h=>hA e he h⟩
theorem caR_ansB {c n ek:Nat} {cs:List (Option Rec)} {W:World} {F:List Nat} (h:(caR tCA tEA 9 Jb.cells c ek (AnsA n cs)).at_ W F):((ansB c n ek).at_ cs).at_ W F:=by
 obtain ⟨ep,⟨e1,e2⟩,b,n',h1,h2,es,hF,hne,hB,hO,hl,hq,hes⟩:=h
 have hes':es=(es.map fun x=>(⟨x.1,x.2.1,x.2.2⟩:EntA)).map fun e=>(e.k,e.v,e.ep):=by
  rw [List.map_map]
  exact (List.map_id _).symm
 refine ⟨es.map fun x=>⟨x.1,x.2.1,x.2.2⟩,ep,⟨b,n',h1,h2,hB,?_,by rw [List.length_map];exact hl,hq,hF,hne⟩,fun e he h=>?_,e1,e2,fun e he=>?_⟩
 ·unfold OwnS at hO ⊢
  rw [List.length_map,←entA_cells,←hes']
  exact hO
 ·obtain ⟨x,hx,rfl⟩:=List.mem_map.1 he
  exact (hes x hx).2 h
 ·obtain ⟨x,hx,rfl⟩:=List.mem_map.1 he
  exact (hes x hx).1
section
variable {P:Program} {g:Rg} {c:Cx} {K:Act→World→Prop} {R:Res} {m:Nat} {cv:List (Nat×SV)} {pd:List (Bool×Nat)}
def Rg.vcall (g:Rg) (P:Program) (cv:List (Nat×SV)) (j:Nat):Option (SV×List SV):=
 match g.l[j]? with
 | some {op:= .call {callee:= .value x,args:=xs,..},..}=>match g.ev (g.tab P cv) j x,xs.toList.mapM (g.ev (g.tab P cv) j) with
  | some v,some l=>some (v,l)
  | _,_=>none
 | _=>none
theorem acts_callV {o:Oper} {env:Operand→Value} {w:World} {f:FuncId} {cap:Array Value} {x:Operand} {xs:Array Operand} {ts:Array TypeId} {fn:Func} {args:Array Value} {T:Value→World→Prop} (hop:o.op = .call {callee:= .value x,args:=xs,argTypes:=ts}) (hv:env x = .func (.func f) #[] cap) (hf:P.funcs[f]? =some fn) (hb:fn.body.isNone=false) (hn:(fn.name== "runtime.NumGoroutine")=false) (ha:xs.map env=args)
  (h:Calls P f (args++cap) w fun e w'=>∃v,e = .returned v∧T v w'):ActsR P o env w T:=by
 have hrun:(execOp env o).run P w = .ok (.enter f (args++cap)) w:=by
  simp only [execOp,hop,resolve,hv,ha,Deferred.ofValue,invoke,Sem.run_bind,Sem.run_pure,Result.andThen_ok,Array.append_empty,Array.empty_append,callFunc]
  have hn':¬fn.name = "runtime.NumGoroutine" :=by simpa using hn
  have hb':¬fn.body=none:=by rintro e;rw [e] at hb;cases hb
  simp [hf,hn',hb']
 unfold ActsR
 rw [hrun]
 refine Calls.mono h fun e w' he=>?_
 obtain ⟨v,rfl,hT⟩:=he
 exact hT
theorem mapM_ev {E:List (Option Eff)} {j:Nat} {ρ:Nat→Nat}:∀{xs:List Operand} {l:List SV},xs.mapM (g.ev E j)=some l→xs.map (g.env E j ρ)=l.map (SV.val ρ)
 | [],l,h=>by simp at h;subst h;rfl
 | x::xs,l,h=>by
  simp only [List.mapM_cons,Option.bind_eq_bind,Option.bind_eq_some_iff,Option.pure_def,Option.some.injEq] at h
  obtain ⟨v,hv,l',hl',rfl⟩:=h
  rw [List.map_cons,List.map_cons,mapM_ev hl',env_ev hv]
theorem RVcallV (j:Nat) (f:FuncId) (cap:Array Value) (l:List SV) (pk:List Nat) (hst:g.stat c.nt=true) (hck:g.dyn P cv j pk pd=true) (hv:g.vcall P cv j=some (.v (.func (.func f) #[] cap),l)) (hcb:callable P f=true)
  (h:∀ρ w F,R.at_ w F→(∀ k∈pk,∀b,g.hp (g.tab P cv) (bit g.ms j) k=some b→Blk w (ρ k) b.ty (cellsV ρ b.cells)∧¬ρ k∈F)→
   Calls P f ((l.map (SV.val ρ)).toArray++cap) w fun e w'=>∃(x:SV) (R':Res),e = .returned (x.val ρ)∧Lands R' F w w'∧RV P g c K m (g.tab P ((j,x)::cv)) R' (pd.filter (·.1))):RV P g c K (m+1) (g.tab P cv) R pd:=by
 unfold Rg.vcall at hv
 split at hv
 ·rename_i d x xs ts ty pos af gu ho
  split at hv
  ·rename_i v' l' h1 h2
   injection hv with hv
   injection hv with e1 e2
   subst e1 e2
   refine RV.dyn j _ pk hst ho hck fun ρ w F f1 f2' f3 f4=>?_
   unfold callable at hcb
   split at hcb
   ·rename_i fn hf
    simp only [Bool.and_eq_true,Bool.not_eq_true'] at hcb
    refine acts_callV (args:=(l'.map (SV.val ρ)).toArray) rfl (env_ev h1) hf hcb.1 hcb.2 ?_ (Calls.mono (h ρ w F f1 f4) fun e w' he=>?_)
    ·rw [← mapM_ev (ρ:=ρ) h2]
     apply Array.ext'
     simp
    ·obtain ⟨y,R',rfl,⟨F',h5,h6⟩,h7⟩:=he
     exact ⟨_,rfl,y,R',F',rfl,h5,h6.1,h6.2,h7⟩
   ·cases hcb
  ·cases hv
 ·cases hv
end
theorem sepR_swap {A B C:Res} {W:World} {F:List Nat} (h:(sepR A (sepR B C)).at_ W F):(sepR B (sepR A C)).at_ W F:=sepR_assoc (sepR_imp (sepR_unassoc h) (fun _=>sepR_comm) (fun _ h=>h))
theorem sepR_back {A B C D:Res} {W:World} {F:List Nat} (h:(sepR A (sepR B (sepR C D))).at_ W F):(sepR C (sepR A (sepR B D))).at_ W F:=sepR_swap (sepR_imp h (fun _ h=>h) (fun _=>sepR_swap))
theorem sepR_fwd {A B C D:Res} {W:World} {F:List Nat} (h:(sepR C (sepR A (sepR B D))).at_ W F):(sepR A (sepR B (sepR C D))).at_ W F:=sepR_imp (sepR_swap h) (fun _ h=>h) (fun _=>sepR_swap)
theorem sx3 {A B C X:Res} {W:World} {F:List Nat} (h:(sepR A (sepR B (sepR C X))).at_ W F):∃Y,X.at_ W Y:=by
 obtain ⟨_,_,_,_,⟨_,_,_,_,⟨_,Y,_,_,h,_⟩,_⟩,_⟩:=h
 exact ⟨Y,h⟩
theorem forget_apply {o a c ek:Nat} {P:Jb→Edg→Prop} {R:Res} {F:List Nat} {w:World} (P':Jb→Edg→Prop) (hk:ek<2^62) (h:(sepR (caR tCA tEA 9 Jb.cells c ek P) R).at_ w F) (hO:∀{W:World} {X:List Nat},(sepR (caR tCA tEA 9 Jb.cells c ek P) R).at_ W X→Blk W o 95 #[vP a,vP c]) :
  Calls Tryz.prog 97 #[.pointer (some ⟨o,0,none⟩)] w (Says (.tuple #[]) (sepR (caR tCA tEA 9 Jb.cells c (ek+1) P') R) F w):=by
 refine TTg [VP o] Tryz.func97 Tryz.ntmps97 h ?_
 refine TTa 0 ⟨[(0,VP o),(3,VB true)],[]⟩ ?_
 refine TTy ?_
 refine TT.r (m:=2) false [3,4] 0 mixed (by kernel_rfl) ?_
 refine RVd 3 (.load 89 (.v (.pointer (some ⟨o,1,none⟩)))) (VP c) (fun ρ w F hF=>run_ld (by kernel_rfl) ((hO hF).cell 1)) ?_
 refine RVc 4 114 (fun ρ=>[.pointer (some ⟨c,0,none⟩)]) [] (fun ρ w1 F1 hF1 hpk1=>?_)
 refine (flush_apply P' hk hF1).mono ?_
 rintro e1 w'1 ⟨rfl,hl1⟩
 refine ⟨.v (.tuple #[]),_,rfl,hl1,?_⟩
 refine RV.fin (s':=⟨[],[]⟩) (by kernel_rfl) (by kernel_rfl) ?_
 refine TT.fall0 (fn:=Tryz.f97) Tryz.results97 (fun ρ a w2 hs2=>?_)
 exact ⟨rfl,hs2.lands⟩
theorem forget_quant {o a b c ek:Nat} {P:QJ→Edg→Prop} {R:Res} {F:List Nat} {w:World} (P':QJ→Edg→Prop) (hk:ek<2^62) (h:(sepR (caR tCQ tEQ 8 QJ.cells c ek P) R).at_ w F) (hO:∀{W:World} {X:List Nat},(sepR (caR tCQ tEQ 8 QJ.cells c ek P) R).at_ W X→Blk W o 104 #[vP a,vP b,vP c]) :
  Calls Tryz.prog 98 #[.pointer (some ⟨o,0,none⟩)] w (Says (.tuple #[]) (sepR (caR tCQ tEQ 8 QJ.cells c (ek+1) P') R) F w):=by
 refine TTg [VP o] Tryz.func98 Tryz.ntmps98 h ?_
 refine TTa 0 ⟨[(0,VP o),(3,VB true)],[]⟩ ?_
 refine TTy ?_
 refine TT.r (m:=2) false [3,4] 0 mixed (by kernel_rfl) ?_
 refine RVd 3 (.load 96 (.v (.pointer (some ⟨o,2,none⟩)))) (VP c) (fun ρ w F hF=>run_ld (by kernel_rfl) ((hO hF).cell 2)) ?_
 refine RVc 4 115 (fun ρ=>[.pointer (some ⟨c,0,none⟩)]) [] (fun ρ w1 F1 hF1 hpk1=>?_)
 refine (flush_quant P' hk hF1).mono ?_
 rintro e1 w'1 ⟨rfl,hl1⟩
 refine ⟨.v (.tuple #[]),_,rfl,hl1,?_⟩
 refine RV.fin (s':=⟨[],[]⟩) (by kernel_rfl) (by kernel_rfl) ?_
 refine TT.fall0 (fn:=Tryz.f98) Tryz.results98 (fun ρ a w2 hs2=>?_)
 exact ⟨rfl,hs2.lands⟩
theorem forget_family {o a b c ek:Nat} {x:Value} {P:FJ→Edg→Prop} {R:Res} {F:List Nat} {w:World} (P':FJ→Edg→Prop) (hk:ek<2^62) (h:(sepR (caR tCF tEF 8 FJ.cells c ek P) R).at_ w F) (hO:∀{W:World} {X:List Nat},(sepR (caR tCF tEF 8 FJ.cells c ek P) R).at_ W X→Blk W o 111 #[vP a,vP b,vP c,x]) :
  Calls Tryz.prog 99 #[.pointer (some ⟨o,0,none⟩)] w (Says (.tuple #[]) (sepR (caR tCF tEF 8 FJ.cells c (ek+1) P') R) F w):=by
 refine TTg [VP o] Tryz.func99 Tryz.ntmps99 h ?_
 refine TTa 0 ⟨[(0,VP o),(3,VB true)],[]⟩ ?_
 refine TTy ?_
 refine TT.r (m:=2) false [3,4] 0 mixed (by kernel_rfl) ?_
 refine RVd 3 (.load 105 (.v (.pointer (some ⟨o,2,none⟩)))) (VP c) (fun ρ w F hF=>run_ld (by kernel_rfl) ((hO hF).cell 2)) ?_
 refine RVc 4 116 (fun ρ=>[.pointer (some ⟨c,0,none⟩)]) [] (fun ρ w1 F1 hF1 hpk1=>?_)
 refine (flush_family P' hk hF1).mono ?_
 rintro e1 w'1 ⟨rfl,hl1⟩
 refine ⟨.v (.tuple #[]),_,rfl,hl1,?_⟩
 refine RV.fin (s':=⟨[],[]⟩) (by kernel_rfl) (by kernel_rfl) ?_
 refine TT.fall0 (fn:=Tryz.f99) Tryz.results99 (fun ρ a w2 hs2=>?_)
 exact ⟨rfl,hs2.lands⟩
def EngBlks (W:World) (m:Nat) (M:Mg) (ca cq cf:Nat) (x:Value):Prop:=Blk W M.ops 95 #[vP M.st,vP ca]∧Blk W M.qu 104 #[vP M.ops,vP M.st,vP cq]∧Blk W M.gu 111 #[vP M.ops,vP M.st,vP cf,x]∧Blk W m tMg (mgCells M)
set_option maxHeartbeats 1000000 in
theorem forgetE {m ca cq cf ek:Nat} {M:Mg} {x:Value} {PA:Jb→Edg→Prop} {PQ:QJ→Edg→Prop} {PF:FJ→Edg→Prop} {X:Res} {F:List Nat} {w:World} (PA':Jb→Edg→Prop) (PQ':QJ→Edg→Prop) (PF':FJ→Edg→Prop) (hk:ek<2^62) (h:(sepR (caR tCA tEA 9 Jb.cells ca ek PA) (sepR (caR tCQ tEQ 8 QJ.cells cq ek PQ) (sepR (caR tCF tEF 8 FJ.cells cf ek PF) X))).at_ w F) (hX:∀{W:World} {Y:List Nat},X.at_ W Y→EngBlks W m M ca cq cf x) :
  Calls Tryz.prog 74 #[.pointer (some ⟨m,0,none⟩)] w (Says (.tuple #[]) (sepR (caR tCA tEA 9 Jb.cells ca (ek+1) PA') (sepR (caR tCQ tEQ 8 QJ.cells cq (ek+1) PQ') (sepR (caR tCF tEF 8 FJ.cells cf (ek+1) PF') X))) F w):=by
 refine TTg [VP m] Tryz.func74 Tryz.ntmps74 h ?_
 refine TTe 2 [3,4] ?_
 refine RVd 3 (.load 39 (.v (.pointer (some ⟨m,0,none⟩)))) (VP M.ops) (fun ρ w F hF=>run_ld (by kernel_rfl) (by rw [(hX (Classical.choose_spec (sx3 hF))).2.2.2.cell,mgCells_get];rfl)) ?_
 refine RVc 4 97 (fun ρ=>[.pointer (some ⟨M.ops,0,none⟩)]) [] (fun ρ w1 F1 hF1 hpk1=>?_)
 refine (forget_apply PA' hk (hF1) (fun h=>(hX (Classical.choose_spec (sx3 h))).1)).mono ?_
 rintro e1 w'1 ⟨rfl,hl1⟩
 refine ⟨.v (.tuple #[]),_,rfl,hl1,?_⟩
 refine RVz ⟨[(0,VP m)],[]⟩ ?_
 refine TTe 2 [3,4] ?_
 refine RVd 3 (.load 40 (.v (.pointer (some ⟨m,1,none⟩)))) (VP M.qu) (fun ρ w F hF=>run_ld (by kernel_rfl) (by rw [(hX (Classical.choose_spec (sx3 hF))).2.2.2.cell,mgCells_get];rfl)) ?_
 refine RVc 4 98 (fun ρ=>[.pointer (some ⟨M.qu,0,none⟩)]) [] (fun ρ w2 F2 hF2 hpk2=>?_)
 refine (forget_quant PQ' hk (sepR_swap hF2) (fun h=>(hX (Classical.choose_spec (sx3 h))).2.1)).mono ?_
 rintro e2 w'2 ⟨rfl,hl2⟩
 refine ⟨.v (.tuple #[]),_,rfl,hl2.imp (fun _ h=>sepR_swap h),?_⟩
 refine RVz ⟨[(0,VP m)],[]⟩ ?_
 refine TT.r (m:=2) false [3,4] 0 mixed (by kernel_rfl) ?_
 refine RVd 3 (.load 41 (.v (.pointer (some ⟨m,2,none⟩)))) (VP M.gu) (fun ρ w F hF=>run_ld (by kernel_rfl) (by rw [(hX (Classical.choose_spec (sx3 hF))).2.2.2.cell,mgCells_get];rfl)) ?_
 refine RVc 4 99 (fun ρ=>[.pointer (some ⟨M.gu,0,none⟩)]) [] (fun ρ w3 F3 hF3 hpk3=>?_)
 refine (forget_family PF' hk (sepR_back hF3) (fun h=>(hX (Classical.choose_spec (sx3 h))).2.2.1)).mono ?_
 rintro e3 w'3 ⟨rfl,hl3⟩
 refine ⟨.v (.tuple #[]),_,rfl,hl3.imp (fun _ h=>sepR_fwd h),?_⟩
 refine RV.fin (s':=⟨[],[]⟩) (by kernel_rfl) (by kernel_rfl) ?_
 refine TT.fall0 (fn:=Tryz.f74) Tryz.results74 (fun ρ a w4 hs4=>?_)
 exact ⟨rfl,hs4.lands⟩
end
end Go.Proofs.YtnlmlehcpngcgaaGreat
