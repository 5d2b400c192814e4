/- Symbolic states: ways out of loops; memory of a resource's own, read and written; slices. Shifts and bits of whole numbers. Symbolic regions: operations on memory that a resource holds. -/
import Derived.Test.YtnlmlehcpngcgaaGreatQbh
import Derived.Laws.BitsLemmas
namespace Go.Proofs.YtnlmlehcpngcgaaGreat
set_option linter.unusedSimpArgs false
set_option linter.unusedVariables false
section
open Go.RowKit Go.Sort
section
variable {Q:Exit→Act→World→Prop} {K:Act→World→Prop} {a:Act} {w:World} {id id':Nat}
theorem exit_then (h:Q (.exit id) a w):Exit.then K Q (.exit id) a w:=h
theorem exit_over (hne:id≠id') (h:Q (.exit id) a w):Exit.inBlock id' Q (.exit id) a w:=by
 show (if id=id' then Q .normal a w else Q (.exit id) a w)
 rw [if_neg hne]
 exact h
end
theorem TT.fall0 {P:Program} {c:Cx} {s:SS} {R:Res} {fn:Func} {Post:Ending→World→Prop} (hr:fn.results = #[]) (h:∀ρ a w,St c s R ρ a w→Post (.returned (.tuple #[])) w) (hd:c.df=[]:=by rfl):∀ρ a w,St c s R ρ a w→bodyPost P fn Post .normal a w:=fun ρ a w hs=>⟨hs.defers.trans hd,_,hs.res0 hr,h ρ a w hs⟩
structure Fits (k:IntKind) (p:Nat):Prop where
 le:p≤k.bits
 wrap:∀x:Nat,x<2^p→k.wrap (x:Int)=(x:Int)
theorem fits_u16:Fits .u16 16:=⟨by decide,fun x h=>IntWalk.u16_in _ (by omega)⟩
theorem fits_u32:Fits .u32 32:=⟨by decide,fun x h=>IntWalk.u32_in _ (by omega)⟩
section
variable {k:IntKind} {p a b j:Nat}
theorem Fits.toNat (h:Fits k p) (ha:a<2^p):(BitVec.ofInt k.bits (a:Int)).toNat=a:=by
 rw [BitVec.ofInt_natCast,BitVec.toNat_ofNat]
 exact Nat.mod_eq_of_lt (Nat.lt_of_lt_of_le ha (Nat.pow_le_pow_right (by decide) h.le))
theorem bits_andN (h:Fits k p) (ha:a<2^p) (hb:b<2^p):bits .and k (a:Int) (b:Int)=((a &&& b:Nat):Int):=by
 show k.wrap ((BitVec.ofInt k.bits (a:Int) &&& BitVec.ofInt k.bits (b:Int)).toNat:Int)=_
 rw [BitVec.toNat_and,h.toNat ha,h.toNat hb]
 exact h.wrap _ (Nat.and_lt_two_pow _ hb)
theorem bits_orN (h:Fits k p) (ha:a<2^p) (hb:b<2^p):bits .or k (a:Int) (b:Int)=((a ||| b:Nat):Int):=by
 show k.wrap ((BitVec.ofInt k.bits (a:Int) ||| BitVec.ofInt k.bits (b:Int)).toNat:Int)=_
 rw [BitVec.toNat_or,h.toNat ha,h.toNat hb]
 exact h.wrap _ (Nat.or_lt_two_pow ha hb)
theorem bits_bitN (h:Fits k p) (hp:0<p) (ha:a<2^p):bits .and k ((a/2^j:Nat):Int) 1=(((a.testBit j).toNat:Nat):Int):=by
 have:=bits_andN (k:=k) (p:=p) (a:=a/2^j) (b:=1) h (Nat.lt_of_le_of_lt (Nat.div_le_self _ _) ha) (Nat.one_lt_two_pow (by omega))
 rw [show ((1:Nat):Int)=(1:Int) from rfl] at this
 rw [this,Nat.and_one_is_mod,Nat.testBit_eq_decide_div_mod_eq]
 rcases Nat.mod_two_eq_zero_or_one (a/2^j) with h0|h0<;>rw [h0]<;>rfl
theorem bit_is1 (h:Fits k p) (hp:0<p) (ha:a<2^p):(bits .and k ((a/2^j:Nat):Int) 1==1)=a.testBit j:=by
 rw [bits_bitN h hp ha]
 cases a.testBit j<;>rfl
theorem shrN {P:Program} {t:TypeId} {yk:IntKind} (a j:Nat) (hj:j≤k.bits) (w:World):(binOp .shr t (.int k (a:Int)) (.int yk (j:Int))).run P w = .ok (.int k ((a/2^j:Nat):Int)) w:=by
 show (Op.shift .shr k (a:Int) yk (j:Int)).run P w=_
 rw [shift_shr k yk _ _ (by omega) (by omega)]
 have e:((a:Int)/2^(j:Int).toNat)=((a/2^j:Nat):Int):=by simp
 rw [e]
 rfl
theorem shlN {P:Program} {t:TypeId} {yk:IntKind} (h:Fits k p) (a j:Nat) (hj:j≤k.bits) (hb:a*2^j<2^p) (w:World):(binOp .shl t (.int k (a:Int)) (.int yk (j:Int))).run P w = .ok (.int k ((a*2^j:Nat):Int)) w:=by
 show (Op.shift .shl k (a:Int) yk (j:Int)).run P w=_
 rw [shift_shl k yk _ _ (by omega) (by omega)]
 have e:((a:Int)*2^(j:Int).toNat)=((a*2^j:Nat):Int):=by simp
 rw [e,h.wrap _ hb]
 rfl
theorem i64_up {i:Nat} (h:i<2^62):IntKind.i64.wrap ((i:Int)+1)=((i+1:Nat):Int):=by
 rw [IntWalk.i64_in _ (by omega)]
 omega
theorem i64_dn {i:Nat} (h:i<2^62):IntKind.i64.wrap ((i:Int)-1)=(i:Int)-1:=IntWalk.i64_in _ (by omega)
end
inductive OpV where
 | load (t:TypeId) (a:SV)
 | store (t:TypeId) (a y:SV)
 | idx (t:TypeId) (x i:SV)
 | index (t:TypeId) (x i:SV)
 | bslice (t:TypeId) (n:Nat) (ps:List (Nat×SV))
 | mk (t:TypeId) (l c:SV)
 | app (t t' ty:TypeId) (x y:SV)
 | mkmap (t:TypeId)
 | look (t:TypeId) (x k:SV) (ok:Bool)
 | upd (t:TypeId) (m k x:SV)
 | slc (t:TypeId) (x h:SV)
def OpV.sem (ρ:Nat→Nat):OpV→Sem Value
 | .load t a=>Instr.loadAt t (a.val ρ)
 | .store t a y=>do Instr.storeAt t (a.val ρ) (y.val ρ);pure undef
 | .idx t x i=>Instr.indexAt t (x.val ρ) (i.val ρ)
 | .index t x i=>Instr.index t (x.val ρ) (i.val ρ)
 | .bslice t n ps=>Instr.buildSlice t n (ps.map fun p=>(p.1,p.2.val ρ)).toArray
 | .mk t l c=>Instr.makeSlice t (l.val ρ) (c.val ρ)
 | .app t t' ty x y=>Builtin.append_ #[t,t'] ty #[x.val ρ,y.val ρ]
 | .mkmap t=>Instr.makeMap t none
 | .look t x k ok=>Instr.lookup t (x.val ρ) (k.val ρ) ok
 | .upd t m k x=>do Instr.mapUpdate t (m.val ρ) (k.val ρ) (x.val ρ);pure undef
 | .slc t x h=>Instr.sliceAt t (x.val ρ) none (some (h.val ρ)) none
def appOf (c:Call):Option (TypeId×TypeId×Operand×Operand):=
 match c.callee,c.args.toList,c.argTypes.toList with
 | .builtin .append,[x,y],[t,t']=>some (t,t',x,y)
 | _,_,_=>none
def Rg.shape (g:Rg) (P:Program) (cv:List (Nat×SV)) (j:Nat):Option OpV:=
 let ev:=g.ev (g.tab P cv) j
 match g.l[j]? with
 | none=>none
 | some o=>match o.op with
  | .load t a=>(ev a).map (.load t)
  | .store t a y=>match ev a,ev y with
   | some a,some y=>some (.store t a y)
   | _,_=>none
  | .indexAddr t x i=>match ev x,ev i with
   | some x,some i=>some (.idx t x i)
   | _,_=>none
  | .index t x i=>match ev x,ev i with
   | some x,some i=>some (.index t x i)
   | _,_=>none
  | .buildSlice t n ps=>(ps.toList.mapM fun p=>(ev p.2).map fun v=>(p.1,v)).map (.bslice t n)
  | .makeSlice t l c=>match ev l,ev c with
   | some l,some c=>some (.mk t l c)
   | _,_=>none
  | .call cl=>match appOf cl with
   | some (t,t',x,y)=>match ev x,ev y with
    | some x,some y=>some (.app t t' o.type x y)
    | _,_=>none
   | none=>none
  | .makeMap t none=>some (.mkmap t)
  | .lookup t x k ok=>match ev x,ev k with
   | some x,some k=>some (.look t x k ok)
   | _,_=>none
  | .mapUpdate t m k x=>match ev m,ev k,ev x with
   | some m,some k,some x=>some (.upd t m k x)
   | _,_,_=>none
  | .slice t x none (some h) none=>match ev x,ev h with
   | some x,some h=>some (.slc t x h)
   | _,_=>none
  | _=>none
section
variable {P:Program} {g:Rg} {c:Cx} {K:Act→World→Prop} {R:Res} {m:Nat} {cv:List (Nat×SV)} {pd:List (Bool×Nat)}
theorem env_ev {E:List (Option Eff)} {j:Nat} {ρ:Nat→Nat} {x:Operand} {s:SV} (h:g.ev E j x=some s):g.env E j ρ x=s.val ρ:=by
 unfold Rg.env
 rw [h]
theorem acts_val {o:Oper} {env:Operand→Value} {w w':World} {v:Value} {S:Sem Value} {T:Value→World→Prop} (he:execOp env o=(do pure (.value (← S)))) (hr:S.run P w = .ok v w') (h:T v w'):ActsR P o env w T:=by
 unfold ActsR
 rw [he]
 simp only [Sem.run_bind,hr,Result.andThen_ok,Sem.run_pure]
 exact h
theorem acts_unit {o:Oper} {env:Operand→Value} {w w':World} {v:Value} {S:Sem Unit} {T:Value→World→Prop} (he:execOp env o=(do S;pure .skip)) (hr:(do S;pure undef).run P w = .ok v w') (h:T v w'):ActsR P o env w T:=by
 unfold ActsR
 rw [he]
 simp only [Sem.run_bind] at hr ⊢
 cases hs:S.run P w with
 | ok u w1=>
  rw [hs] at hr
  simp only [Result.andThen_ok,Sem.run_pure] at hr ⊢
  injection hr with e1 e2
  subst e1 e2
  exact h
 | halt e w1=>rw [hs] at hr;cases hr
theorem shape_acts {s:OpV} {o:Oper} {ρ:Nat→Nat} {w w':World} {v:Value} {T:Value→World→Prop} {j:Nat} (ho:g.l[j]? =some o) (hs:g.shape P cv j=some s) (hr:(s.sem ρ).run P w = .ok v w') (h:T v w'):ActsR P o (g.env (g.tab P cv) j ρ) w T:=by
 unfold Rg.shape at hs
 simp only [ho] at hs
 obtain ⟨dst,op,type,pos,after,guard⟩:=o
 cases op with
 | load t a=>
  simp only [Option.map_eq_some_iff] at hs
  obtain ⟨x,hx,rfl⟩:=hs
  refine acts_val (S:=Instr.loadAt t (x.val ρ)) ?_ hr h
  simp only [execOp,env_ev hx]
 | store t a y=>
  simp only at hs
  split at hs
  ·rename_i x z hx hz
   injection hs with hs
   subst hs
   refine acts_unit (S:=Instr.storeAt t (x.val ρ) (z.val ρ)) ?_ hr h
   simp only [execOp,env_ev hx,env_ev hz]
  ·cases hs
 | indexAddr t a y=>
  simp only at hs
  split at hs
  ·rename_i x z hx hz
   injection hs with hs
   subst hs
   refine acts_val (S:=Instr.indexAt t (x.val ρ) (z.val ρ)) ?_ hr h
   simp only [execOp,env_ev hx,env_ev hz]
  ·cases hs
 | index t a y=>
  simp only at hs
  split at hs
  ·rename_i x z hx hz
   injection hs with hs
   subst hs
   refine acts_val (S:=Instr.index t (x.val ρ) (z.val ρ)) ?_ hr h
   simp only [execOp,env_ev hx,env_ev hz]
  ·cases hs
 | buildSlice t n ps=>
  simp only [Option.map_eq_some_iff] at hs
  obtain ⟨l,hl,rfl⟩:=hs
  simp only [OpV.sem] at hr
  have hm:∀(ps:List (Nat×Operand)) (l:List (Nat×SV)),(ps.mapM fun p=>(g.ev (g.tab P cv) j p.2).map fun v=>(p.1,v))=some l→ps.map (fun p=>(p.1,g.env (g.tab P cv) j ρ p.2))=l.map fun p=>(p.1,p.2.val ρ):=by
   intro ps
   induction ps with
   | nil=>intro l h;simp at h;subst h;rfl
   | cons p ps ih=>
    intro l h
    simp only [List.mapM_cons,Option.bind_eq_bind,Option.bind_eq_some_iff,Option.map_eq_some_iff,Option.pure_def,Option.some.injEq] at h
    obtain ⟨q,⟨v,hv,rfl⟩,l',hl',rfl⟩:=h
    rw [List.map_cons,List.map_cons,ih l' hl',env_ev hv]
  have:=hm ps.toList l hl
  have hA:(ps.map fun (i,x)=>(i,g.env (g.tab P cv) j ρ x))=(l.map fun p=>(p.1,p.2.val ρ)).toArray:=by
   rw [← this]
   apply Array.ext'
   simp
  rw [← hA] at hr
  have he:execOp (g.env (g.tab P cv) j ρ) ⟨dst,.buildSlice t n ps,type,pos,after,guard⟩=(do pure (.value (← Instr.buildSlice t n (ps.map fun (i,x)=>(i,g.env (g.tab P cv) j ρ x))))):=by simp only [execOp]
  generalize Instr.buildSlice t n (ps.map fun (i,x)=>(i,g.env (g.tab P cv) j ρ x))=S at he hr
  exact acts_val he hr h
 | makeSlice t a y=>
  simp only at hs
  split at hs
  ·rename_i x z hx hz
   injection hs with hs
   subst hs
   refine acts_val (S:=Instr.makeSlice t (x.val ρ) (z.val ρ)) ?_ hr h
   simp only [execOp,env_ev hx,env_ev hz]
  ·cases hs
 | call cl=>
  simp only at hs
  cases hc:appOf cl with
  | none=>rw [hc] at hs;cases hs
  | some q=>
   obtain ⟨t,t',x,y⟩:=q
   rw [hc] at hs
   simp only at hs
   split at hs
   ·rename_i u z hx hz
    injection hs with hs
    subst hs
    obtain ⟨callee,args,argTypes⟩:=cl
    unfold appOf at hc
    simp only at hc
    split at hc
    ·rename_i l1 l2 l3 x' y' t1 t2 h2 h3
     injection hc with hc
     injection hc with e1 hc
     injection hc with e2 hc
     injection hc with e3 e4
     subst e1 e2 e3 e4
     have ha:args = #[x',y']:=by apply Array.ext';exact h2
     have hb:argTypes = #[t1,t2]:=by apply Array.ext';exact h3
     subst ha hb
     have hr':(Builtin.append_ #[t1,t2] type #[u.val ρ,z.val ρ]).run P w = .ok v w':=hr
     unfold ActsR execOp
     simp only [resolve,invoke,builtin,Sem.run_bind,Sem.run_pure,Result.andThen_ok,List.map_toArray,List.map_cons,List.map_nil,env_ev hx,env_ev hz,hr']
     exact h
    ·cases hc
   ·cases hs
 | makeMap t r=>
  cases r with
  | none=>
   simp only at hs
   injection hs with hs
   subst hs
   refine acts_val (S:=Instr.makeMap t none) ?_ hr h
   rfl
  | some r=>cases hs
 | lookup t a y ok=>
  simp only at hs
  split at hs
  ·rename_i x z hx hz
   injection hs with hs
   subst hs
   refine acts_val (S:=Instr.lookup t (x.val ρ) (z.val ρ) ok) ?_ hr h
   simp only [execOp,env_ev hx,env_ev hz]
  ·cases hs
 | mapUpdate t a y b=>
  simp only at hs
  split at hs
  ·rename_i x z u hx hz hu
   injection hs with hs
   subst hs
   refine acts_unit (S:=Instr.mapUpdate t (x.val ρ) (z.val ρ) (u.val ρ)) ?_ hr h
   simp only [execOp,env_ev hx,env_ev hz,env_ev hu]
  ·cases hs
 | slice t a lo hi mx=>
  cases lo<;>cases hi<;>cases mx<;>simp only at hs<;>try (cases hs;done)
  split at hs
  ·rename_i x z hx hz
   injection hs with hs
   subst hs
   refine acts_val (S:=Instr.sliceAt t (x.val ρ) none (some (z.val ρ)) none) ?_ hr h
   simp only [execOp,env_ev hx,Option.map_none,Option.map_some,env_ev hz]
  ·cases hs
 | _=>cases hs
def OpV.rd:OpV→Bool
 | .load .. | .idx .. | .index .. | .look .. | .slc .. =>true
 | _=>false
theorem val_run {o:Oper} {env:Operand→Value} {w w':World} {v:Value} {S:Sem Value} (he:execOp env o=(do pure (.value (← S)))) (hr:S.run P w = .ok v w'):(execOp env o).run P w = .ok (.value v) w':=by
 rw [he]
 simp only [Sem.run_bind,hr,Result.andThen_ok,Sem.run_pure]
theorem shape_run {s:OpV} {o:Oper} {ρ:Nat→Nat} {w w':World} {v:Value} {j:Nat} (ho:g.l[j]? =some o) (hs:g.shape P cv j=some s) (hrd:s.rd=true) (hr:(s.sem ρ).run P w = .ok v w'):(execOp (g.env (g.tab P cv) j ρ) o).run P w = .ok (.value v) w':=by
 unfold Rg.shape at hs
 simp only [ho] at hs
 obtain ⟨dst,op,type,pos,after,guard⟩:=o
 cases op with
 | load t a=>
  simp only [Option.map_eq_some_iff] at hs
  obtain ⟨x,hx,rfl⟩:=hs
  refine val_run (S:=Instr.loadAt t (x.val ρ)) ?_ hr
  simp only [execOp,env_ev hx]
 | indexAddr t a y=>
  simp only at hs
  split at hs
  ·rename_i x z hx hz
   injection hs with hs
   subst hs
   refine val_run (S:=Instr.indexAt t (x.val ρ) (z.val ρ)) ?_ hr
   simp only [execOp,env_ev hx,env_ev hz]
  ·cases hs
 | index t a y=>
  simp only at hs
  split at hs
  ·rename_i x z hx hz
   injection hs with hs
   subst hs
   refine val_run (S:=Instr.index t (x.val ρ) (z.val ρ)) ?_ hr
   simp only [execOp,env_ev hx,env_ev hz]
  ·cases hs
 | lookup t a y ok=>
  simp only at hs
  split at hs
  ·rename_i x z hx hz
   injection hs with hs
   subst hs
   refine val_run (S:=Instr.lookup t (x.val ρ) (z.val ρ) ok) ?_ hr
   simp only [execOp,env_ev hx,env_ev hz]
  ·cases hs
 | store t a y=>
  simp only at hs
  split at hs
  ·injection hs with hs;subst hs;cases hrd
  ·cases hs
 | buildSlice t n ps=>
  simp only [Option.map_eq_some_iff] at hs
  obtain ⟨l,hl,rfl⟩:=hs
  cases hrd
 | makeSlice t a y=>
  simp only at hs
  split at hs
  ·injection hs with hs;subst hs;cases hrd
  ·cases hs
 | call cl=>
  simp only at hs
  split at hs
  ·split at hs
   ·injection hs with hs;subst hs;cases hrd
   ·cases hs
  ·cases hs
 | makeMap t r=>
  cases r with
  | none=>injection hs with hs;subst hs;cases hrd
  | some r=>cases hs
 | slice t a lo hi mx=>
  cases lo<;>cases hi<;>cases mx<;>simp only at hs<;>try (cases hs;done)
  split at hs
  ·rename_i x z hx hz
   injection hs with hs
   subst hs
   refine val_run (S:=Instr.sliceAt t (x.val ρ) none (some (z.val ρ)) none) ?_ hr
   simp only [execOp,env_ev hx,Option.map_none,Option.map_some,env_ev hz]
  ·cases hs
 | mapUpdate t a y b=>
  simp only at hs
  split at hs
  ·injection hs with hs;subst hs;cases hrd
  ·cases hs
 | _=>cases hs
theorem RV.sh (j:Nat) (s:OpV) (hst:g.stat c.nt=true) (hck:g.dyn P cv j [] pd=true) (hs:g.shape P cv j=some s)
  (h:∀ρ w F,R.at_ w F→∃(w':World) (x:SV) (R':Res),(s.sem ρ).run P w = .ok (x.val ρ) w'∧Lands R' F w w'∧RV P g c K m (g.tab P ((j,x)::cv)) R' (pd.filter (·.1))):RV P g c K (m+1) (g.tab P cv) R pd:=by
 cases ho:g.l[j]? with
 | none=>unfold Rg.shape at hs;simp only [ho] at hs;cases hs
 | some o=>
  refine RV.dyn j o [] hst ho hck fun ρ w F f1 f2 f3 f4=>?_
  obtain ⟨w',x,R',h1,⟨F',h2,h3,h4⟩,h5⟩:=h ρ w F f1
  exact shape_acts ho hs h1 ⟨x,R',F',rfl,h2,h3,h4,h5⟩
theorem RV.rd (j:Nat) (s:OpV) (x:SV) (hst:g.stat c.nt=true) (hck:g.rdy P cv j=true) (hs:g.shape P cv j=some s)
  (hr:∀ρ w F,R.at_ w F→(s.sem ρ).run P w = .ok (x.val ρ) w) (h:RV P g c K m (g.tab P ((j,x)::cv)) R ((false,j)::pd)) (hrd:s.rd=true:=by rfl):RV P g c K (m+1) (g.tab P cv) R pd:=by
 cases ho:g.l[j]? with
 | none=>unfold Rg.shape at hs;simp only [ho] at hs;cases hs
 | some o=>
  refine RV.read j o false x hst ho hck (fun ρ w F hb=>?_) h
  exact shape_run ho hs hrd (hr ρ w F (hb.resolve_left (by simp)))
theorem RV.rdC (j:Nat) (s:OpV) (x:SV) (hst:g.stat c.nt=true) (hck:g.rdy P cv j=true) (hs:g.shape P cv j=some s)
  (hr:∀ρ w,Chg c.F0 c.w0 w→(s.sem ρ).run P w = .ok (x.val ρ) w) (h:RV P g c K m (g.tab P ((j,x)::cv)) R ((true,j)::pd)) (hrd:s.rd=true:=by rfl):RV P g c K (m+1) (g.tab P cv) R pd:=by
 cases ho:g.l[j]? with
 | none=>unfold Rg.shape at hs;simp only [ho] at hs;cases hs
 | some o=>
  refine RV.readC j o true x hst ho hck (fun ρ w F hc hb=>?_) h
  exact shape_run ho hs hrd (hr ρ w hc)
end
theorem run_ld {P:Program} {w:World} {t:TypeId} {b off:Nat} {v:Value} (hk:(P.underlying t).map TypeDesc.isRow=some false) (hc:w.cell? ⟨b,off,none⟩=some v):(Instr.loadAt t (.pointer (some ⟨b,off,none⟩))).run P w = .ok v w:=by
 rw [Option.map_eq_some_iff] at hk
 obtain ⟨d,hd,hrow⟩:=hk
 have hrow':¬d.isRow=true:=by rw [hrow];decide
 simp only [Instr.loadAt,Instr.sureAddr,Sem.run_bind,loadVar,isAgg,run_underlying hd,Result.andThen_ok,Sem.run_pure]
 cases d<;>first |exact absurd rfl hrow'|simp [load,Sem.run,hc,Sem.run_bind]
theorem run_ldR {P:Program} {w:World} {t:TypeId} {b off:Nat} {vs:List Value} (hr:w.rangeAt b off vs) (hk:(P.underlying t).map TypeDesc.isRow=some true) (hi:(P.info? t).map (·.size)=some vs.length):(Instr.loadAt t (.pointer (some ⟨b,off,none⟩))).run P w = .ok (.agg vs.toArray) w:=by
 rw [Option.map_eq_some_iff] at hk
 obtain ⟨d,hd,hrow⟩:=hk
 exact run_loadAt_mid w b off t vs d hr hd hrow hi
theorem run_st {P:Program} {w:World} {t:TypeId} {b off:Nat} {v:Value} (hs:(P.info? t).map (·.size)=some v.cells.size) (hc:∀j,j<v.cells.size→(w.cell? ⟨b,off+j,none⟩).isSome=true) (hfz:∀j,j<v.cells.size→w.frozen? ⟨b,off+j,none⟩=false) (h1:∀u∈v.cells.toList,u.oneCell'=true) :
  (do Instr.storeAt t (.pointer (some ⟨b,off,none⟩)) v;pure undef:Sem Value).run P w = .ok undef (w.setCells b off v.cells.toList):=by
 rw [Option.map_eq_some_iff] at hs
 obtain ⟨i,hi,hs⟩:=hs
 have hst:=run_storeCells_cells (P:=P) b off v.cells.toList 0 w (fun j hj=>by
   rw [Nat.add_zero]
   exact hc j (by simpa using hj)) (fun j hj=>by
   rw [Nat.add_zero]
   exact hfz j (by simpa using hj)) h1
 simp only [Sem.run_bind,Instr.storeAt,Instr.sureAddr,Sem.run_pure,Result.andThen_ok,storeVar,sizeOf,typeInfo]
 simp [hi,hs,hst]
theorem run_ix {P:Program} {w:World} {t e:TypeId} {n s:Nat} {k:IntKind} {b off:Nat} (i:Nat) (ht:P.underlying t=some (.array n e)) (hs:(P.info? e).map (·.size)=some s) (hi:i<n) :
  (Instr.indexAt t (.pointer (some ⟨b,off,none⟩)) (.int k (i:Int))).run P w = .ok (.pointer (some ⟨b,off+i*s,none⟩)) w:=by
 rw [Option.map_eq_some_iff] at hs
 obtain ⟨f,hf,hs⟩:=hs
 simp [Instr.indexAt,run_underlying ht,Instr.sureAddr,asIntOf,hi,sizeOf,typeInfo,hf,hs,Addr.add_mid]
theorem run_ixS {P:Program} {w:World} {t e:TypeId} {n c s:Nat} {k:IntKind} {b off:Nat} (i:Nat) (ht:P.underlying t=some (.slice e)) (hs:(P.info? e).map (·.size)=some s) (hi:i<n) :
  (Instr.indexAt t (.slice (some ⟨b,off,none⟩) n c) (.int k (i:Int))).run P w = .ok (.pointer (some ⟨b,off+i*s,none⟩)) w:=by
 rw [Option.map_eq_some_iff] at hs
 obtain ⟨f,hf,hs⟩:=hs
 simp [Instr.indexAt,run_underlying ht,Instr.sureAddr,asIntOf,hi,sizeOf,typeInfo,hf,hs,Addr.add_mid]
end
end Go.Proofs.YtnlmlehcpngcgaaGreat
