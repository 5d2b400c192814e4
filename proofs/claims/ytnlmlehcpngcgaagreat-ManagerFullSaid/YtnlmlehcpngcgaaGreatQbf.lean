/- Symbolic values: what one operation does, for any numbers of the blocks. Symbolic values: a region, in whatever order its operations come. Contract: store.Reach. -/
import Derived.Test.YtnlmlehcpngcgaaGreatQaa
import Derived.Orders
import Derived.Test.YtnlmlehcpngcgaaGreatQam
import Derived.Test.YtnlmlehcpngcgaaGreatQbe
import Derived.Test.YtnlmlehcpngcgaaGreatQbc
import Derived.Maps.RangeWalk
namespace Go.Proofs.YtnlmlehcpngcgaaGreat
set_option linter.unusedSimpArgs false
set_option linter.unusedVariables false
section
open Go.RowKit
inductive SV where
 | v (x:Value)
 | p (k off:Nat)
 | fn (f:Fn) (cap:List (Value ⊕ (Nat×Nat)))
def capVal (ρ:Nat→Nat):Value ⊕ (Nat×Nat)→Value
 | .inl x=>x
 | .inr (k,o)=> .pointer (some ⟨ρ k,o,none⟩)
def SV.val (ρ:Nat→Nat):SV→Value
 | .v x=>x
 | .p k o=> .pointer (some ⟨ρ k,o,none⟩)
 | .fn f cap=> .func f #[] (cap.map (capVal ρ)).toArray
def SV.cells:SV→List SV
 | .v x=>x.cells.toList.map .v
 | y=>[y]
def SV.one:SV→Bool
 | .v x=>x.oneCell'
 | _=>true
def SV.cap:SV→Option (Value ⊕ (Nat×Nat))
 | .v x=>some (.inl x)
 | .p k o=>some (.inr (k,o))
 | .fn _ _=>none
structure SBlk where
 ty:TypeId
 ro:Bool
 cells:List SV
inductive Eff where
 | val (x:SV)
 | new (b:SBlk)
 | sto (k off:Nat) (xs:List SV)
 | nop
def cellsV (ρ:Nat→Nat) (l:List SV):Array Value:=(l.map (SV.val ρ)).toArray
theorem SV.val_cells (ρ:Nat→Nat) (y:SV):(y.val ρ).cells=cellsV ρ y.cells:=by
 cases y with
 | v x=>
  simp only [SV.val,SV.cells,cellsV,List.map_map]
  rw [show (SV.val ρ∘SV.v)=id from rfl,List.map_id,Array.toArray_toList]
 | p k o=>rfl
 | fn f c=>rfl
theorem SV.one_val {ρ:Nat→Nat} {y:SV} (h:y.one=true):(y.val ρ).oneCell'=true:=by
 cases y with
 | v x=>exact h
 | p k o=>rfl
 | fn f c=>rfl
def pureRun {α:Type} (P:Program):Sem α→Option α
 | .pure a=>some a
 | .program k=>pureRun P (k P)
 | .mark _ k=>pureRun P k
 | _=>none
theorem pureRun_sound {α:Type} {P:Program} {a:α} (w:World):∀{s:Sem α},pureRun P s=some a→s.run P w = .ok a w
 | .pure b,h=>by
  injection h with h
  subst h
  rfl
 | .program k,h=>pureRun_sound w (s:=k P) h
 | .mark _ k,h=>pureRun_sound w (s:=k) h
 | .load ..,h | .store ..,h | .new ..,h | .shape ..,h | .freeze ..,h | .frozen ..,h | .getObj ..,h | .setObj ..,h | .choose ..,h | .sys ..,h | .halt ..,h=>by cases h
def allV:List SV→Option (List Value)
 | []=>some []
 | .v x::r=>(allV r).map (x:: ·)
 | _::_=>none
theorem allV_val (ρ:Nat→Nat):∀{l:List SV} {vs:List Value},allV l=some vs→l.map (SV.val ρ)=vs
 | [],vs,h=>by injection h
 | .v x::r,vs,h=>by
  simp only [allV,Option.map_eq_some_iff] at h
  obtain ⟨us,h1,rfl⟩:=h
  rw [List.map_cons,allV_val ρ h1]
  rfl
 | .p _ _::_,vs,h=>by simp [allV] at h
 | .fn _ _::_,vs,h=>by simp [allV] at h
def ldS (P:Program) (t:TypeId) (cells:List SV) (off:Nat):Option SV:=
 match P.info? t,P.underlying t with
 | some i,some d=>if d.isRow then (if ((cells.drop off).take i.size).length=i.size then (allV ((cells.drop off).take i.size)).map fun vs=> .v (.agg vs.toArray) else none) else cells[off]?
 | _,_=>none
def isV:SV→Bool
 | .v _=>true
 | _=>false
def unV:Option SV→Value
 | some (.v x)=>x
 | _=>undef
def noSel:Op→Bool
 | .select .. =>false
 | _=>true
def stepV (P:Program) (ev:Operand→Option SV) (o:Oper):Option Eff:=
 if ((o.op.operands.all fun x=>(ev x).any isV)&&noSel o.op)=true then
  match pureRun P (execOp (fun x=>unV (ev x)) o) with
  | some (.value r)=>some (.val (.v r))
  | some .skip=>some .nop
  | _=>none
 else none
def fieldOff (P:Program) (s:TypeId) (f:Nat):Option Nat:=
 match P.underlying s with
 | some (.struct fs)=>fs[f]?.bind fun f=>(P.info? f.type).bind fun i=>if i.size=0 then none else some f.offset
 | _=>none
def stepS (P:Program) (ev:Operand→Option SV) (hp:Nat→Option SBlk) (o:Oper):Option Eff:=
 match o.op with
 | .move x | .assign x=>(ev x).map .val
 | .load t x=>match ev x with
  | some (.p k off)=>(hp k).bind fun b=>(ldS P t b.cells off).map .val
  | _=>none
 | .store t x y=>match ev x,ev y with
  | some (.p k off),some y=>(hp k).bind fun b=>if (!b.ro&&(P.info? t).map (·.size)==some y.cells.length&&decide (off+y.cells.length≤b.cells.length)&&y.cells.all (·.one))=true then some (.sto k off y.cells) else none
  | _,_=>none
 | .alloc t=>(P.info? t).bind fun i=>i.zero.map fun z=> .new ⟨t,false,z.cells.toList.map .v⟩
 | .box t x=>(ev x).map fun y=> .new ⟨t,false,y.cells⟩
 | .fieldAddr s x f=>match ev x with
  | some (.p k off)=>(fieldOff P s f).map fun n=> .val (.p k (off+n))
  | _=>stepV P ev o
 | .nilCheck x=>match ev x with
  | some (.p k off)=>some (.val (.p k off))
  | _=>stepV P ev o
 | .binOp op t x y _=>match ev x,ev y with
  | some (.p _ _),some (.v (.pointer none))=>match P.underlying t,op with
   | some (.pointer _),.eql=>some (.val (.v (.bool false)))
   | some (.pointer _),.neq=>some (.val (.v (.bool true)))
   | _,_=>none
  | _,_=>stepV P ev o
 | .makeFunc f first cap=>if first.isEmpty then (cap.toList.mapM fun x=>(ev x).bind SV.cap).map fun l=> .val (.fn f l) else none
 | _=>stepV P ev o
def EffRun (P:Program) (ρ:Nat→Nat) (env:Operand→Value) (o:Oper) (w:World):Eff→Prop
 | .val x=>(execOp env o).run P w = .ok (.value (x.val ρ)) w
 | .new b=>(execOp env o).run P w = .ok (.value (.pointer (some ⟨w.heap.size,0,none⟩))) (w.alloc (.cells (cellsV ρ b.cells) b.ty))
 | .sto k off xs=>(execOp env o).run P w = .ok .skip (w.setCells (ρ k) off (xs.map (SV.val ρ)))
 | .nop=>(execOp env o).run P w = .ok .skip w
section
variable {P:Program} {ρ:Nat→Nat} {env:Operand→Value} {ev:Operand→Option SV} {hp:Nat→Option SBlk} {o:Oper} {w:World}
theorem stepV_sound (he:∀x∈o.op.operands,∀s,ev x=some s→env x=s.val ρ) {e:Eff} (h:stepV P ev o=some e):EffRun P ρ env o w e:=by
 unfold stepV at h
 split at h
 ·rename_i hc
  rw [Bool.and_eq_true,Array.all_eq_true_iff_forall_mem] at hc
  have hcg:execOp env o=execOp (fun x=>unV (ev x)) o:=execOp_congr o (fun cs b hsel=>by rw [hsel] at hc;exact absurd hc.2 (by simp [noSel])) fun x hx=>by
   have h1:=hc.1 x hx
   cases hv:ev x with
   | none=>rw [hv] at h1;cases h1
   | some s=>
    have h2:=he x hx s hv
    cases s with
    | v y=>exact h2
    | p k o=>rw [hv] at h1;cases h1
    | fn f c=>rw [hv] at h1;cases h1
  split at h
  ·rename_i r hr
   injection h with h
   subst h
   show (execOp env o).run P w=_
   rw [hcg,pureRun_sound w hr]
   rfl
  ·rename_i hr
   injection h with h
   subst h
   show (execOp env o).run P w=_
   rw [hcg,pureRun_sound w hr]
  ·cases h
 ·cases h
theorem blk_rangeAt {b:Nat} {t:TypeId} {cs:Array Value} (h:Blk w b t cs) (o:Nat) (vs:List Value) (hv:∀j v,vs[j]? =some v→cs[o+j]? =some v):w.rangeAt b o vs:=fun j v hj=>(h.cell (o+j)).trans (hv j v hj)
theorem cellsV_get (l:List SV) (i:Nat):(cellsV ρ l)[i]? =(l[i]?).map (SV.val ρ):=by simp [cellsV]
theorem stepS_sound (he:∀x∈o.op.operands,∀s,ev x=some s→env x=s.val ρ) (hh:∀k b,hp k=some b→Blk w (ρ k) b.ty (cellsV ρ b.cells)) {e:Eff} (h:stepS P ev hp o=some e):EffRun P ρ env o w e:=by
 obtain ⟨dst,op,type,pos,after,guard⟩:=o
 cases op
 case move x=>
  simp only [stepS,Option.map_eq_some_iff] at h
  obtain ⟨s,h1,rfl⟩:=h
  show (execOp env _).run P w=_
  simp only [execOp,he x (by simp [Op.operands]) s h1]
  rfl
 case assign x=>
  simp only [stepS,Option.map_eq_some_iff] at h
  obtain ⟨s,h1,rfl⟩:=h
  show (execOp env _).run P w=_
  simp only [execOp,he x (by simp [Op.operands]) s h1]
  rfl
 case load t x=>
  simp only [stepS] at h
  split at h
  ·rename_i k off hx
   rw [Option.bind_eq_some_iff] at h
   obtain ⟨b,hb,h⟩:=h
   rw [Option.map_eq_some_iff] at h
   obtain ⟨y,hy,rfl⟩:=h
   have hB:=hh k b hb
   have hex:=he x (by simp [Op.operands]) _ hx
   unfold ldS at hy
   split at hy
   ·rename_i i d hi hd
    split at hy
    ·rename_i hrow
     split at hy
     ·rename_i hlen
      rw [Option.map_eq_some_iff] at hy
      obtain ⟨vs,hvs,rfl⟩:=hy
      have hvl:=allV_val ρ hvs
      show (execOp env _).run P w=_
      have hl:vs.length=i.size:=by rw [← hvl,List.length_map,hlen]
      rw [show (SV.p k off).val ρ = .pointer (some ⟨ρ k,off,none⟩) from rfl] at hex
      simp only [execOp,hex,Sem.run_bind]
      rw [run_loadAt_mid w (ρ k) off t vs d (blk_rangeAt hB off vs fun j v hj=>by
       rw [cellsV_get]
       rw [← hvl,List.getElem?_map,Option.map_eq_some_iff] at hj
       obtain ⟨s,hs,rfl⟩:=hj
       rw [List.getElem?_take] at hs
       split at hs
       ·rw [List.getElem?_drop] at hs
        rw [hs];rfl
       ·cases hs) hd hrow (by rw [hi,Option.map_some,hl])]
      rfl
     ·cases hy
    ·rename_i hrow
     show (execOp env _).run P w=_
     rw [show (SV.p k off).val ρ = .pointer (some ⟨ρ k,off,none⟩) from rfl] at hex
     simp only [execOp,hex,Sem.run_bind,Instr.loadAt,Instr.sureAddr,loadVar,isAgg,run_underlying hd,Result.andThen_ok,Sem.run_pure]
     have hc:w.cell? ⟨ρ k,off,none⟩=some (y.val ρ):=by
      rw [hB.cell off,cellsV_get,hy];rfl
     cases d<;>first |exact absurd rfl hrow|simp [load,Sem.run,hc,Sem.run_bind]
   ·cases hy
  ·cases h
 case store t x y=>
  simp only [stepS] at h
  split at h
  ·rename_i k off ys hx hy
   rw [Option.bind_eq_some_iff] at h
   obtain ⟨b,hb,h⟩:=h
   split at h
   ·rename_i hc
    injection h with h
    subst h
    simp only [Bool.and_eq_true,Bool.not_eq_true',beq_iff_eq,decide_eq_true_eq,List.all_eq_true] at hc
    obtain ⟨⟨⟨h1,h2⟩,h3⟩,h4⟩:=hc
    have hB:=hh k b hb
    have hex:=he x (by simp [Op.operands]) _ hx
    have hey:=he y (by simp [Op.operands]) _ hy
    show (execOp env _).run P w=_
    rw [Option.map_eq_some_iff] at h2
    obtain ⟨i,hi,hs⟩:=h2
    have hcl:(ys.val ρ).cells.toList=ys.cells.map (SV.val ρ):=by rw [SV.val_cells];rfl
    have hsz:(ys.val ρ).cells.size=i.size:=by rw [← Array.length_toList,hcl,List.length_map,hs]
    have hst:=run_storeCells_cells (P:=P) (ρ k) off (ys.cells.map (SV.val ρ)) 0 w (fun j hj=>by
      rw [List.length_map] at hj
      rw [Nat.add_zero,hB.cell,cellsV_get]
      simp
      omega) (fun j hj=>hB.frozen _) (fun v hv=>by
      obtain ⟨s,hs,rfl⟩:=List.mem_map.1 hv
      exact SV.one_val (h4 s hs))
    rw [show (SV.p k off).val ρ = .pointer (some ⟨ρ k,off,none⟩) from rfl] at hex
    simp only [execOp,hex,hey,Sem.run_bind,Instr.storeAt,Instr.sureAddr,Sem.run_pure,Result.andThen_ok,storeVar,sizeOf,typeInfo,hcl]
    simp [hi,hsz,hst]
   ·cases h
  ·cases h
 case alloc t=>
  simp only [stepS,Option.bind_eq_some_iff,Option.map_eq_some_iff] at h
  obtain ⟨i,hi,z,hz,rfl⟩:=h
  show (execOp env _).run P w=_
  have:cellsV ρ (z.cells.toList.map .v)=z.cells:=by
   unfold cellsV
   rw [List.map_map,show (SV.val ρ∘SV.v)=id from rfl,List.map_id,Array.toArray_toList]
  rw [this]
  simp [execOp,Instr.alloc,zeroValue,typeInfo,hi,hz,newVar,newRow,newObj,Sem.run,Sem.run_bind]
 case box t x=>
  simp only [stepS,Option.map_eq_some_iff] at h
  obtain ⟨y,hy,rfl⟩:=h
  show (execOp env _).run P w=_
  rw [← SV.val_cells]
  simp [execOp,he x (by simp [Op.operands]) _ hy,Instr.box,newVar,newRow,newObj,Sem.run,Sem.run_bind]
 case fieldAddr s x f=>
  simp only [stepS] at h
  split at h
  ·rename_i k off hx
   rw [Option.map_eq_some_iff] at h
   obtain ⟨n,hn,rfl⟩:=h
   show (execOp env _).run P w=_
   unfold fieldOff at hn
   split at hn
   ·rename_i fs hfs
    rw [Option.bind_eq_some_iff] at hn
    obtain ⟨fd,hf,hn⟩:=hn
    rw [Option.bind_eq_some_iff] at hn
    obtain ⟨i,hi,hn⟩:=hn
    split at hn
    ·cases hn
    ·rename_i hz
     injection hn with hn
     subst hn
     simp only [execOp,he x (by simp [Op.operands]) _ hx,SV.val,Instr.fieldAt,Sem.run_bind,run_underlying hfs,Result.andThen_ok,hf,Instr.sureAddr,Sem.run_pure,fieldPlace,sizeOf,typeInfo]
     simp [hi,hz,Addr.add_mid]
   ·cases hn
  ·exact stepV_sound he h
 case nilCheck x=>
  simp only [stepS] at h
  split at h
  ·rename_i k off hx
   injection h with h
   subst h
   show (execOp env _).run P w=_
   simp only [execOp,he x (by simp [Op.operands]) _ hx,SV.val]
   rfl
  ·exact stepV_sound he h
 case binOp op t x y yt=>
  simp only [stepS] at h
  split at h
  ·rename_i k off hx hy
   have hex:=he x (by simp [Op.operands]) _ hx
   have hey:=he y (by simp [Op.operands]) _ hy
   have hpt:∀el,P.underlying t=some (.pointer el)→P.underlying t=some (.pointer (P.pointee t)):=fun el hu=>by simp [Program.pointee,hu]
   rw [show (SV.p k off).val ρ = .pointer (some ⟨ρ k,off,none⟩) from rfl] at hex
   rw [show (SV.v (.pointer none)).val ρ = .pointer none from rfl] at hey
   split at h
   ·rename_i el hu
    injection h with h
    subst h
    show (execOp env _).run P w=_
    simp only [execOp,hex,hey,eqGuard,Sem.run_bind,Sem.run_pure,Result.andThen_ok]
    simp [run_eql_pointer_nil w t _ (hpt el hu),SV.val]
   ·rename_i el hu
    injection h with h
    subst h
    show (execOp env _).run P w=_
    simp only [execOp,hex,hey,eqGuard,Sem.run_bind,Sem.run_pure,Result.andThen_ok]
    simp [run_neq_pointer_nil w t _ (hpt el hu),SV.val]
   ·cases h
  ·exact stepV_sound he h
 case makeFunc f first cap=>
  simp only [stepS] at h
  split at h
  ·rename_i hf
   rw [Option.map_eq_some_iff] at h
   obtain ⟨l,hl,rfl⟩:=h
   show (execOp env _).run P w=_
   have hf0:first = #[]:=by simpa using hf
   have hcap:∀(xs:List Operand) (l:List (Value ⊕ (Nat×Nat))),(∀ x∈xs,x∈cap.toList)→(xs.mapM fun x=>(ev x).bind SV.cap)=some l→xs.map env=l.map (capVal ρ):=by
    intro xs
    induction xs with
    | nil=>intro l _ h;simp at h;subst h;rfl
    | cons x xs ih=>
     intro l hm h
     simp only [List.mapM_cons,Option.bind_eq_bind,Option.bind_eq_some_iff,Option.pure_def,Option.some.injEq] at h
     obtain ⟨c,⟨s,hs,hc⟩,l',hl',rfl⟩:=h
     rw [List.map_cons,List.map_cons,ih l' (fun y hy=>hm y (by simp [hy])) hl']
     have:=he x (by simp [Op.operands,hm x (by simp)];exact .inr (by simpa using hm x (by simp))) s hs
     rw [this]
     cases s with
     | v y=>injection hc with hc;subst hc;rfl
     | p k o=>injection hc with hc;subst hc;rfl
     | fn f c'=>cases hc
   have:=hcap cap.toList l (fun _ h=>h) hl
   subst hf0
   have hm:cap.map env=(l.map (capVal ρ)).toArray:=by
    rw [← this,←Array.toList_map,Array.toArray_toList]
   simp only [execOp,Instr.makeFunc,hm,SV.val]
   simp [Sem.run_bind]
  ·cases h
 all_goals exact stepV_sound he h
end
structure Res where
 at_:World→List Nat→Prop
 chg:∀{W W':World} {F G:List Nat},at_ W F→Chg G W W'→(∀ k∈F,¬k∈G)→at_ W' F
 lt:∀{W:World} {F:List Nat},at_ W F→∀k∈F,k<W.heap.size
def lk {α:Type}:List (Nat×α)→Nat→Option α
 | [],_=>none
 | (t,x)::r,u=>if t==u then some x else lk r u
structure SS where
 fr:List (Nat×SV)
 hp:List (Nat×SBlk)
structure Cx where
 w0:World
 F0:List Nat
 nt:Nat
 df:List Deferred
def Sep (c:Cx) (R:Res) (kn:Nat→Option SBlk) (ρ:Nat→Nat) (w:World):Prop:=
 ∃F,R.at_ w F∧(∀ k b,kn k=some b→¬ρ k∈F∧(b.ro=false→ρ k∈c.F0∨c.w0.heap.size≤ρ k))∧(∀ x∈F,x∈c.F0∨c.w0.heap.size≤x)∧Chg c.F0 c.w0 w
structure St (c:Cx) (s:SS) (R:Res) (ρ:Nat→Nat) (a:Act) (w:World):Prop where
 size:a.tmps.size=c.nt
 defers:a.defers=c.df
 fr:∀t x,lk s.fr t=some x→a.tmps[t]? =some (x.val ρ)
 hp:∀k b,lk s.hp k=some b→Blk w (ρ k) b.ty (cellsV ρ b.cells)
 inj:∀k k' b b',lk s.hp k=some b→lk s.hp k'=some b'→ρ k=ρ k'→k=k'
 sep:Sep c R (lk s.hp) ρ w
def updS (cells:List SV) (off:Nat) (xs:List SV):List SV:=cells.mapIdx fun o c=>if off≤o∧o<off+xs.length then (xs[o-off]?).getD c else c
theorem updS_get (cells xs:List SV) (off o:Nat):(updS cells off xs)[o]? =(cells[o]?).map fun c=>if off≤o∧o<off+xs.length then (xs[o-off]?).getD c else c:=by
 unfold updS
 rw [List.getElem?_mapIdx]
theorem updS_out {cells xs:List SV} {off o:Nat} (h:¬(off≤o∧o<off+xs.length)):(updS cells off xs)[o]? =cells[o]? :=by
 rw [updS_get]
 simp only [if_neg h,Option.map_id']
theorem updS_len (cells xs:List SV) (off:Nat):(updS cells off xs).length=cells.length:=by
 unfold updS
 simp
def bit (ms:List Nat) (j i:Nat):Bool:=(ms.getD j 0).testBit i
def eff (E:List (Option Eff)) (i:Nat):Option Eff:=(E[i]?).join
def resS (kb i:Nat):Eff→SV
 | .val x=>x
 | .new _=> .p (kb+i) 0
 | .sto _ _ _=> .v undef
 | .nop=> .v undef
structure Rg where
 l:List Oper
 ms:List Nat
 dy:List Nat
 s0:SS
 kb:Nat
section
variable (g:Rg) (E:List (Option Eff))
def Rg.wr (t:Nat):Option Nat:=g.l.findIdx? fun o=>o.dst==some t
def Rg.sv (j t:Nat):Option SV:=
 match g.wr t with
 | some i=>if bit g.ms j i then (eff E i).map (resS g.kb i) else lk g.s0.fr t
 | none=>lk g.s0.fr t
def Rg.ev (j:Nat):Operand→Option SV
 | .tmp t=>g.sv E j t
 | .const v=>some (.v v)
 | .global b=>some (.v (.pointer (some ⟨b,0,none⟩)))
 | .func f=>some (.v (.func (.func f) #[] #[]))
def Rg.base (S:Nat→Bool) (k:Nat):Option SBlk:=
 match lk g.s0.hp k with
 | some b=>some b
 | none=>if g.kb≤k∧S (k-g.kb)=true then (match eff E (k-g.kb) with |some (.new b)=>some b|_=>none) else none
def stoAt (S:Nat→Bool) (k:Nat) (cells:List SV) (i:Nat):List SV:=
 match eff E i with
 | some (.sto k' off xs)=>if S i&&k'==k then updS cells off xs else cells
 | _=>cells
def stos (S:Nat→Bool) (k:Nat) (l:List Nat) (cells:List SV):List SV:=l.foldl (stoAt E S k) cells
def Rg.hp (S:Nat→Bool) (k:Nat):Option SBlk:=(g.base E S k).map fun b=>{b with cells:=stos E S k (List.range g.l.length) b.cells}
def Rg.gd (j:Nat) (o:Oper):Option Bool:=
 match o.guard with
 | none=>some true
 | some (i,want)=>match ((g.l[i]?).bind (·.dst)).bind (g.sv E j) with
  | some (.v (.bool b))=>some (b==want)
  | _=>none
def Rg.known (j:Nat):Bool:=(List.range j).all fun i=> !bit g.ms j i||(eff E i).isSome
def Rg.step (P:Program) (j:Nat):Option Eff:=
 if g.known E j=false then none else
 match g.l[j]? with
 | none=>none
 | some o=>match g.gd E j o with
  | some true=>stepS P (g.ev E j) (g.hp E (bit g.ms j)) o
  | some false=>some .nop
  | none=>none
def Rg.tab (P:Program) (cv:List (Nat×SV)):List (Option Eff):=
 (List.range g.l.length).foldl (fun E j=>E++[match lk cv j with |some x=>some (.val x)|none=>if g.dy.contains j then none else g.step E P j]) []
def Rg.acc (P:Program) (j:Nat):Option (Nat×Nat×Nat):=
 match eff E j with
 | some (.sto k off xs)=>some (k,off,xs.length)
 | some _=>match g.l[j]? with
  | some {op:= .load t x,..}=>match g.ev E j x with
   | some (.p k off)=>some (k,off,((P.info? t).map fun i=>if ((P.underlying t).map TypeDesc.isRow).getD false then i.size else 1).getD 0)
   | _=>none
  | _=>none
 | none=>none
def SV.keys:SV→List Nat
 | .v _=>[]
 | .p k _=>[k]
 | .fn _ cap=>cap.filterMap fun | .inl _=>none | .inr (k,_)=>some k
def Eff.keys:Eff→List Nat
 | .val x=>x.keys
 | .new b=>b.cells.flatMap SV.keys
 | .sto k _ xs=>k::xs.flatMap SV.keys
 | .nop=>[]
def Rg.stat (nt:Nat):Bool:=
 g.ms.length==g.l.length&&
 (List.range g.l.length).all (fun j=>decide (g.ms.getD j 0<2^j))&&
 (List.range g.l.length).all (fun j=>match g.l[j]? with
  | some o=>noSel o.op&&(match o.dst with |some d=>decide (d<nt)&&g.wr d==some j|none=>true)&&
   ((o.looksAt g.l.toArray).all fun t=>match g.wr t with |some i=>i != j&&(bit g.ms j i||bit g.ms i j)|none=>true)&&
   (match o.guard with |some (i,_)=>decide (i<g.l.length)|none=>true)
  | none=>true)&&
 g.s0.hp.all (fun p=>decide (p.1<g.kb)&&(p.2.cells.flatMap SV.keys).all fun k=>decide (k<g.kb))&&
 g.s0.fr.all (fun p=>p.2.keys.all fun k=>decide (k<g.kb))
def Rg.fine (P:Program):Bool:=
 (List.range g.l.length).all (fun i=>match eff E i with
  | some e=>e.keys.all (fun k=>decide (k<g.kb)||bit g.ms i (k-g.kb))&&
   (match e with
   | .sto k off xs=>(List.range g.l.length).all fun j=>j==i||(match g.acc E P j with
    | some (k',off',n)=> !(k'==k&&decide (off'<off+xs.length)&&decide (off<off'+n))||bit g.ms j i||bit g.ms i j
    | none=>true)
   | _=>true)
  | none=>true)
structure Rg.Ok (P:Program):Prop where
 len:E.length=g.l.length
 step:∀j e,eff E j=some e→g.dy.contains j=false→g.step E P j=some e
 dyn:∀j e,eff E j=some e→g.dy.contains j=true→∃x,e = .val x
 fine:g.fine E P=true
def FrAt (D:Nat→Bool) (ρ:Nat→Nat) (a:Act) (t:Nat):Prop:=
 match g.wr t with
 | some i=>(D i=true→∃e,eff E i=some e∧a.tmps[t]? =some ((resS g.kb i e).val ρ))∧(D i=false→∀x,lk g.s0.fr t=some x→a.tmps[t]? =some (x.val ρ))
 | none=>∀x,lk g.s0.fr t=some x→a.tmps[t]? =some (x.val ρ)
structure Rel (c:Cx) (D:Nat→Bool) (R:Res) (ρ:Nat→Nat) (a:Act) (w:World):Prop where
 size:a.tmps.size=c.nt
 defers:a.defers=c.df
 fr:∀t,FrAt g E D ρ a t
 hp:∀k b,g.hp E D k=some b→Blk w (ρ k) b.ty (cellsV ρ b.cells)
 inj:∀k k' b b',g.hp E D k=some b→g.hp E D k'=some b'→ρ k=ρ k'→k=k'
 sep:Sep c R (g.hp E D) ρ w
 dom:∀j,D j=true→(eff E j).isSome=true
 clo:∀j i,D j=true→bit g.ms j i=true→D i=true
end
end
section
open Go Go.RowKit Go.Maps
theorem perm_of_nodup:∀(l m:List Int),l.Nodup→m.Nodup→(∀ x,x∈l↔x∈m)→l.Perm m
 | [],m,_,_,h=>by
  cases m with
  | nil=>exact .refl _
  | cons y m=>exact absurd ((h y).2 (by simp)) (by simp)
 | x::l,m,h1,h2,h=>by
  have hx:x∈m:=(h x).1 (by simp)
  have hn:=List.nodup_cons.1 h1
  refine ((perm_of_nodup l (m.erase x) hn.2 (h2.erase x) fun y=>?_).cons x).trans (List.perm_cons_erase hx).symm
  rw [h2.mem_erase_iff]
  constructor
  ·intro hy
   exact ⟨fun e=>hn.1 (by rw [← e];exact hy),(h y).1 (by simp [hy])⟩
  ·rintro ⟨hne,hy⟩
   rcases List.mem_cons.1 ((h y).2 hy) with e|e
   ·exact absurd e hne
   ·exact e
theorem ids_u {cs:List (Option Rec)} {V:List Int} (h:Ids cs V) (hcs:cs.length≤1048576):∀id∈V,isU id:=fun id hid=>by
 have:=rec_lt (h.node id hid)
 simp [isU,Lit.wf,IntKind.min,IntKind.max,IntKind.signed,IntKind.bits]
 omega
def ReachOut (w:World) (cs:List (Option Rec)) (l:List Edg) (e:Ending) (w':World):Prop:=
 ∃(A:Option Addr) (n c:Nat) (V zs:List Int),e = .returned (.slice A n c)∧VisL cs [] l V∧zs.Perm V∧zs.length=n∧n≤1048576∧RowF (Value.int .u32) 0 w' w'.heap.size A zs∧Below w.heap.size w w'
structure Col (V ys:List Int) (left:Lit→Bool):Prop where
 nodup:ys.Nodup
 mem:∀x,x∈ys↔(x∈V∧left (.int .u32 x)=false)
 sub:∀x,isU x→left (.int .u32 x)=true→x∈V
theorem Col.len {cs:List (Option Rec)} {V ys:List Int} {left:Lit→Bool} (h:Col V ys left) (hV:Ids cs V):ys.length≤cs.length:=by
 have:Ids cs ys:=⟨h.nodup,fun id hid=>hV.node id ((h.mem id).1 hid).1⟩
 exact this.len
theorem Col.step {V ys:List Int} {left:Lit→Bool} (h:Col V ys left) {x:Int} (hu:isU x) (hx:left (.int .u32 x)=true):Col V (ys++[x]) (fun z=>left z&& !z.sameKey (.int .u32 x)):=by
 have hn:x∉ys:=fun e=>by have:=((h.mem x).1 e).2;rw [hx] at this;cases this
 have hk:∀y:Int,(Lit.int .u32 y).sameKey (.int .u32 x)=decide (y=x):=fun y=>by
  by_cases e:y=x
  ·subst e;simp [Lit.sameKey]
  ·rw [sameKey_ne (by intro h;injection h with _ h;exact e h)];simp [e]
 refine ⟨?_,fun y=>?_,fun y hyu hy=>?_⟩
 ·rw [List.nodup_append]
  exact ⟨h.nodup,by simp,fun a ha b hb e=>hn (by rw [List.mem_singleton] at hb;rw [← hb,←e];exact ha)⟩
 ·rw [List.mem_append,List.mem_singleton,h.mem,hk]
  by_cases e:y=x
  ·subst e;simp [h.sub y hu hx]
  ·simp [e]
 ·simp only [Bool.and_eq_true] at hy
  exact h.sub y hyu hy.1
set_option maxRecDepth 100000 in
set_option maxHeartbeats 16000000 in
theorem reach_any (F:List Nat) (gs nv room:Nat) (cs:List (Option Rec)) (free:List Int) (A:Option Addr) (n c:Nat) (l:List Edg) (w:World) (h:StoreAt w F gs nv room cs free) (hcs:cs.length≤1048576) (hl:l.length=n) (hn:n≤1000000) (hrow:RowS 2 Edg.cells w w.heap.size A l) (hwf:∀e∈l,e.Wf) :
  Calls Tryz.prog 104 #[.pointer (some ⟨gs,0,none⟩),.slice A n c] w (ReachOut w cs l):=by
 have HR:=Lib.hid (reached_any F gs nv room cs free A n c l w h hcs hl hn hrow hwf)
 obtain ⟨i0,hi,hz0,hz1,hz2⟩:=info_parts info_u32
 clear h hrow hwf hl
 go_enter Tryz.func104,Tryz.ntmps104
 go_wp2_with fail
 refine HR.out.mono ?_
 rintro e w1 ⟨⟨q,V,rfl,hq,hv,D,hown,hD,hat,hhas⟩,hb1⟩
 have hV:=(hv.ids Ids.nil).1
 have hVu:=ids_u hV hcs
 have hql:=hown.lt
 have HV:=Lib.hid (And.intro hv (And.intro hV hb1))
 have HH:=Lib.hid (And.intro hhas hVu)
 clear hv hV hb1 hhas hVu hat HR
 go_wp2_with (first
  | (at_range;refine wpList_range_own _ rfl _ 174 rfl 46 3 keyU Tryz.underlying174 _ q _ _ rfl hown ?_;intro w2 hrg2 hg2 hs2)
  | fail)
 go_frame
 go_loopw [5,6] (fun vo _ wr=>∃(left:Lit→Bool) (cnt:Nat) (ys:List Int),wr.ranges Tryz.prog 46 (plainElem Tryz.prog 3) q w1.heap.size V.length D left cnt∧Col V ys left∧OwnF (Value.int .u32) 46 wr (w1.heap.size+1) vo ys∧w1.heap.size+1≤wr.heap.size∧Below w1.heap.size w1 wr) (fun _ _ wr=>wr.rangeLeft q w1.heap.size)
 case atStart=>
  refine ⟨_,_,[],hrg2,⟨List.nodup_nil,fun x=>⟨fun h=>(by cases h),fun ⟨h1,h2⟩=>?_⟩,fun x hu hx=>?_⟩,OwnF.nil_,by omega,(Below.refl _ _).grown hg2 (Nat.le_refl _) (fun j hj=>by cases hj)⟩
  ·rw [HH.out.1 x (HH.out.2 x h1)] at h2
   simp [h1] at h2
  ·rw [HH.out.1 x hu] at hx
   simpa using hx
 case round=>
  obtain ⟨left,cnt,ys,hrg,hcol,hout,hsz,hnx⟩:=hrel
  have hyl:=hcol.len HV.out.2.1
  have HC:=Lib.hid (And.intro hcol (And.intro hout hnx))
  clear hcol hout hnx
  go_wp2_with (first
   | (at_next;refine wpList_next_ranges_ii _ rfl _ rfl 46 3 .u32 .i64 keyU Tryz.underlying46 Tryz.underlying3 q w1.heap.size V.length _ _ _ rfl hrg ?_ ?_)
   | fail)
  ·intro hc0 hl0
   obtain ⟨hcol,hout,hnx⟩:=HC.out
   have hperm:ys.Perm V:=perm_of_nodup ys V hcol.nodup HV.out.2.1.nodup (fun x=>by rw [hcol.mem,hl0];simp)
   have HFB:=Lib.hid (HV.out.2.2.trans (hnx.mono HV.out.2.2.size))
   clear hc0 hl0 hcol hnx
   have hout2:=hout
   rcases hout2 with ⟨_,⟨rfl,h0⟩|⟨g,cap,cur,rfl,hgb,hg2,hcc,hm,hrest⟩⟩
   ·have hys:ys=[]:=List.length_eq_zero_iff.1 h0
    subst hys
    have HP:=Lib.hid hperm
    clear hperm hout h0
    go_wp2_with fail
    refine (sort_nil _).mono ?_
    rintro e w5 ⟨rfl,rfl⟩
    go_wp2_with fail
    go_ret
    exact ⟨none,0,0,V,[],rfl,HV.out.1,HP.out,rfl,by omega,RowF.nil_,HFB.out⟩
   ·have hgl:g<wr.heap.size:=(OwnF.lt hout g rfl).2
    have HS:=Lib.hid (sort_any g ys.length cap ys wr (OwnF.mono hout (Nat.zero_le _)) (by omega) hgl)
    have HP:=Lib.hid (And.intro hperm (And.intro hgb hyl))
    clear hperm hout hgb hyl hg2 hcc hm hrest
    go_wp2_with fail
    refine HS.out.mono ?_
    rintro e w5 ⟨rfl,zs,hzp,hzu,hzc⟩
    have hfin:Below w.heap.size w w5:=HFB.out.trans (hzc.below HFB.out.size (fun x hx=>by simp at hx;have:=HP.out.2.1;have:=HV.out.2.2.size;omega))
    have HF:=Lib.hid (And.intro (hzp.trans HP.out.1) (And.intro hfin (And.intro (OwnF.rows (d:=0) hzu) hzu.len)))
    clear hzp hzu hzc hfin
    go_wp2_with fail
    go_ret
    exact ⟨_,_,_,V,zs,rfl,HV.out.1,HF.out.1,HF.out.2.2.2,by have:=HP.out.2.2;omega,HF.out.2.2.1,HF.out.2.1⟩
  ·intro x cx w3 cnt1 hwx hwc hlx hatx hrg1 hlt hg1 hs1 hen
   obtain ⟨hcol,hout,hnx⟩:=HC.out
   have hq:q≠w1.heap.size:=by omega
   have hout1:OwnF (Value.int .u32) 46 w3 (w1.heap.size+1) _ ys:=OwnF.kept hout hg1 (by
    rcases hh:Value.ownBlock _ with _|k
    ·exact .inl rfl
    ·right
     have:=(OwnF.lt hout k hh).1
     intro e
     injection e with e
     omega)
   have hb3:Below w1.heap.size w1 w3:=hnx.grown hg1 hnx.size (fun j hj=>by cases hj;exact Nat.le_refl _)
   have hlt1:=hout1.lt
   have HC2:=Lib.hid (And.intro (hcol.step hwx hlx) (And.intro hb3 (And.intro hrg (And.intro hrg1 (And.intro hlt1 hout1)))))
   have hs3:w1.heap.size+1≤w3.heap.size:=by omega
   have HOW:=Lib.hid hout1
   clear hcol hout hnx hout1 hb3 hrg1 hlt1 hg1 hatx hlx hwc HC hrg
   go_wp2_with (first
    | (at_builtin;refine wp_app1 (f:=Value.int .u32) Tryz.underlying123 hi hz0 hz1 hz2 rfl (by decide) w3 rfl _ _ rfl (w1.heap.size+1) _ ys x 1 rfl HOW.out hs3 (by omega) rfl rfl hs1 ?_;intro v4 w4 hown4 hb4 hs4 hg4 hv4)
    | fail)
   obtain ⟨hcol,hb3,hrg,hrg1,hlt1,hout1⟩:=HC2.out
   have hrg4:=hrg1.kept hg4 (fun e=>by have:=(hlt1 q e.symm).1;omega) (fun e=>by have:=(hlt1 w1.heap.size e.symm).1;omega)
   have HF:=Lib.hid (And.intro hcol (And.intro hown4 (And.intro (show Below w1.heap.size w1 w4 from hb3.trans ((hb4.mono (Nat.le_succ _)))) (And.intro hrg4 hrg))))
   clear hcol hb3 hrg hrg1 hlt1 hout1 hrg4 hown4 hb4 hg4 hv4
   go_wp2_with fail
   go_roundw
   case rel=>exact ⟨_,cnt1,ys++[x],HF.out.2.2.2.1,HF.out.1,HF.out.2.1,by omega,HF.out.2.2.1⟩
   case measure=>rw [HF.out.2.2.2.1.left_eq,HF.out.2.2.2.2.left_eq];exact hlt
end
end Go.Proofs.YtnlmlehcpngcgaaGreat
