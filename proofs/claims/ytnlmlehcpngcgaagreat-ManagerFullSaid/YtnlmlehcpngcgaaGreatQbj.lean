/- Contracts of the document's small functions over lists of integers (ramageref02): At, Same, Right, Self, All. Plain facts on permutations of the numbers from 0 on; no program in sight. Symbolic states: the rules in short forms, for texts that must be small (tools/shorter.py writes them). Resources: a block, a slice of the call's own; what operations do there. Caches as resources: Flush. -/
import Derived.Test.YtnlmlehcpngcgaaGreatQaa
import Derived.Test.YtnlmlehcpngcgaaGreatQbi
namespace Go.Proofs.YtnlmlehcpngcgaaGreat
set_option linter.unusedSimpArgs false
set_option linter.unusedVariables false
section
section
open Go.RowKit
def IsPerm (zs:List Int):Prop:=zs.length≤16∧zs.Nodup∧∀z∈zs,0≤z∧z<zs.length
instance (zs:List Int):Decidable (IsPerm zs):=by unfold IsPerm;exact inferInstance
end
section
open Go.RowKit
theorem take_succ_getD (zs:List Int) (k:Nat) (h:k<zs.length):zs.take (k+1)=zs.take k++[zs[k]?.getD 0]:=by
 rw [List.take_add_one,List.getElem?_eq_getElem h];rfl
theorem getD_mem (zs:List Int) (k:Nat) (h:k<zs.length):zs[k]?.getD 0∈zs:=by
 rw [List.getElem?_eq_getElem h];exact List.getElem_mem h
theorem IsPerm.get {zs:List Int} (h:IsPerm zs) {k:Nat} (hk:k<zs.length):0≤zs[k]?.getD 0∧zs[k]?.getD 0<zs.length:=h.2.2 _ (getD_mem zs k hk)
end
end
section
open Go.RowKit Go.Sort
section
variable {P:Program} {g:Rg} {c:Cx} {K:Act→World→Prop} {Q:Exit→Act→World→Prop} {s:SS} {R:Res} {m:Nat} {cv:List (Nat×SV)} {pd:List (Bool×Nat)} {y:Code}
theorem RVz {pd:List (Bool×Nat)} (s':SS) (h:TT P c y s' R Q) (hst:g.stat c.nt=true:=by kernel_rfl) (hck:g.fin P cv (s'.fr.map (·.1)) (s'.hp.map (·.1))=some (s'.fr.map fun p=>some p.2,s'.hp.map fun p=>some p.2):=by kernel_rfl):RV P g c (y.wp P Q) 0 (g.tab P cv) R pd:=RV.fin hst hck (TT.of h)
theorem TTa {id:Nat} {l:List Oper} (kb:Nat) (s':SS) (hk:TT P c y s' R Q) (h:nextP P c.nt l s kb (s'.fr.map (·.1)) (s'.hp.map (·.1))=some (keysOf s'):=by kernel_rfl):TT P c (.seq (.region id l.toArray false) y) s R Q:=TT.sp0 kb h hk
theorem TTe {id:Nat} {l:List Oper} (m:Nat) (dy:List Nat) (h:RV P (rgOf false l dy s 0) c (y.wp P Q) m ((rgOf false l dy s 0).tab P []) R []) (hm:P.follows .mixedOrders=true:=by exact mixed) (hst:(rgOf false l dy s 0).stat c.nt=true:=by kernel_rfl):TT P c (.seq (.region id l.toArray false) y) s R Q:=TT.sr false dy 0 hm hst h
theorem TTE {id:Nat} {l:List Oper} (m:Nat) (dr:Bool) (dy:List Nat) (kb:Nat) (h:RV P (rgOf dr l dy s kb) c (y.wp P Q) m ((rgOf dr l dy s kb).tab P []) R []) (hm:P.follows .mixedOrders=true:=by exact mixed) (hst:(rgOf dr l dy s kb).stat c.nt=true:=by kernel_rfl):TT P c (.seq (.region id l.toArray dr) y) s R Q:=TT.sr dr dy kb hm hst h
theorem TTn {x:Operand} {y z:Code} (h:TT P c z s R Q) (hx:s.at x=some (.v (.bool false)):=by kernel_rfl):TT P c (.cond x y z) s R Q:=TT.no hx h
theorem TTy {x:Operand} {y z:Code} (h:TT P c y s R Q) (hx:s.at x=some (.v (.bool true)):=by kernel_rfl):TT P c (.cond x y z) s R Q:=TT.yes hx h
theorem TTu {x:Operand} {y:Code} (h:∀ρ a w,St c s R ρ a w→Q .normal a w) (hx:s.at x=some (.v (.bool false)):=by kernel_rfl):TT P c (.cond x y .skip) s R Q:=TT.no hx (TT.skip h)
theorem TTs {fn:Func} {Post:Ending→World→Prop} {r1:ResultVar} (hr:fn.results = #[r1]) (y1:SV) (hq:∀a w,bodyPost P fn Post .ret a w→Q .ret a w) (h:∀ρ a w,St c s R ρ a w→Post (.returned (y1.val ρ)) w) (h1:resOf P s r1=some y1:=by kernel_rfl) (hd:c.df=[]:=by rfl):TT P c .ret s R Q:=TT.ret1 hq hr h1 h hd
theorem TTt {fn:Func} {Post:Ending→World→Prop} {r1 r2:ResultVar} (hr:fn.results = #[r1,r2]) (y1 y2:SV) (hq:∀a w,bodyPost P fn Post .ret a w→Q .ret a w) (h:∀ρ a w,St c s R ρ a w→Post (.returned (.tuple #[y1.val ρ,y2.val ρ])) w) (h1:resOf P s r1=some y1:=by kernel_rfl) (h2:resOf P s r2=some y2:=by kernel_rfl) (hd:c.df=[]:=by rfl):TT P c .ret s R Q:=TT.ret2 hq hr h1 h2 h hd
theorem TTg {f:FuncId} {fn:Func} {x:Code} {nt:Nat} {args:Array Value} {w:World} {F:List Nat} (l:List SV) {R:Res} {Post:Ending→World→Prop} (hf:P.funcs[f]? =some fn) (hn:fn.ntmps=nt) (hR:R.at_ w F) (h:TT P ⟨w,F,nt,[]⟩ x ⟨argFr l 0,[]⟩ R (bodyPost P fn Post)) (hb:fn.body=some x:=by exact rfl) (ha:args=(l.map (SV.val fun _=>0)).toArray:=by exact rfl) (hl:l.length≤nt:=by exact Nat.le_of_ble_eq_true rfl):Calls P f args w Post:=TT.enter0 l R hf hb hn ha hl hR h
theorem RVc {m:Nat} {cv:List (Nat×SV)} {pd:List (Bool×Nat)} (j:Nat) (f:FuncId) (args:(Nat→Nat)→List Value) (pk:List Nat)
  (h:∀ρ w F,R.at_ w F→(∀ k∈pk,∀b,g.hp (g.tab P cv) (bit g.ms j) k=some b→Blk w (ρ k) b.ty (cellsV ρ b.cells)∧¬ρ k∈F)→
   Calls P f (args ρ).toArray w fun e w'=>∃(x:SV) (R':Res),e = .returned (x.val ρ)∧Lands R' F w w'∧RV P g c K m (g.tab P ((j,x)::cv)) R' (pd.filter (·.1))) (hst:g.stat c.nt=true:=by kernel_rfl) (hck:g.dynC P cv j f pk pd=true:=by kernel_rfl) (hargs:∀ρ,g.argsOf P cv j ρ=args ρ:=by intro ρ;kernel_rfl):RV P g c K (m+1) (g.tab P cv) R pd:=
 RVcall j f args pk hst hck hargs h
theorem RVd (j:Nat) (s:OpV) (x:SV) (hr:∀ρ w F,R.at_ w F→(s.sem ρ).run P w = .ok (x.val ρ) w) (h:RV P g c K m (g.tab P ((j,x)::cv)) R ((false,j)::pd)) (hst:g.stat c.nt=true:=by kernel_rfl) (hck:g.rdy P cv j=true:=by kernel_rfl) (hs:g.shape P cv j=some s:=by kernel_rfl) (hrd:s.rd=true:=by rfl):RV P g c K (m+1) (g.tab P cv) R pd:=RV.rd j s x hst hck hs hr h hrd
theorem RVp (j:Nat) (x y:Value) (e:x=y) (h:RV P g c K m (g.tab P ((j,.v y)::cv)) R ((true,j)::pd)) (hst:g.stat c.nt=true:=by kernel_rfl) (hck:g.rdy P cv j=true:=by kernel_rfl) (hx:g.val1 P cv j=some (.val (.v x)):=by kernel_rfl):RV P g c K (m+1) (g.tab P cv) R pd:=RV.pure j x y hst hck hx e h
theorem RVw (j:Nat) (s:OpV) (h:∀ρ w F,R.at_ w F→∃(w':World) (x:SV) (R':Res),(s.sem ρ).run P w = .ok (x.val ρ) w'∧Lands R' F w w'∧RV P g c K m (g.tab P ((j,x)::cv)) R' (pd.filter (·.1))) (hst:g.stat c.nt=true:=by kernel_rfl) (hck:g.dyn P cv j [] pd=true:=by kernel_rfl) (hs:g.shape P cv j=some s:=by kernel_rfl):RV P g c K (m+1) (g.tab P cv) R pd:=RV.sh j s hst hck hs h
theorem TTx {id:Nat} (h:∀ρ a w,St c s R ρ a w→Q .normal a w) {Q':Exit→Act→World→Prop} (hq:∀a w,Q .normal a w→Q' (.exit id) a w:=by exact (fun _ _ h=>by repeat (first|exact exit_in h|refine exit_then ?_|refine exit_over (by decide) ?_))):TT P c (.exit id) s R Q':=TT.exitB hq h
end
def blkR (b:Nat) (ty:TypeId) (cells:Array Value):Res:=⟨fun W F=>F=[b]∧Blk W b ty cells,(fun h hc hd=>⟨h.1,h.2.chg hc (hd b (by rw [h.1];simp))⟩),(fun h k hk=>by rw [h.1,List.mem_singleton] at hk;subst hk;exact h.2.lt)⟩
def slR {α:Type} (s:Nat) (enc:α→List Value) (E:TypeId) (A:Option Addr) (n c:Nat) (xs:List α):Res:=
 ⟨fun W F=>F=blk (.slice A n c)∧OwnS s enc E W 0 (.slice A n c) xs,(fun h hc hd=>⟨h.1,h.2.chg hc (fun k hk=>hd k (by rw [h.1];exact hk))⟩),(fun h k hk=>by rw [h.1] at hk;exact h.2.blk_lt k hk)⟩
section
variable {α:Type} {s:Nat} {enc:α→List Value} {E:TypeId} {A:Option Addr} {n c:Nat} {xs:List α} {w:World} {F:List Nat} {R:Res}
theorem slR_len (h:(slR s enc E A n c xs).at_ w F):xs.length=n:=by
 obtain ⟨A',n',c',hv,h1,_⟩:=h.2.form
 injection hv with _ h2 _
 omega
theorem slR_max (h:(slR s enc E A n c xs).at_ w F):n≤9223372036854775807:=by
 rcases h.2 with ⟨hl,⟨hv,h0⟩|⟨g,cap,cur,hv,hg,hh,hc,hm,_⟩⟩
 ·injection hv;omega
 ·injection hv with _ h2 h3
  unfold maxLen at hm
  omega
theorem slR_nil:(slR s enc E none 0 0 []).at_ w []:=⟨rfl,OwnS.nil_⟩
def adr (A:Option Addr) (k:Nat):Addr:=⟨(A.map (·.block)).getD 0,k,none⟩
theorem slR_head (h:(slR s enc E A n c xs).at_ w F) (hn:0<n):∃g,A=some ⟨g,0,none⟩∧F=[g]:=by
 obtain ⟨g,c',hv,_⟩:=h.2.head (by rw [slR_len h];exact hn)
 injection hv with h1 _ _
 subst h1
 exact ⟨g,rfl,h.1⟩
theorem slR_ix {P:Program} {t:TypeId} {k:IntKind} (i:Nat) (h:(slR s enc E A n c xs).at_ w F) (ht:P.underlying t=some (.slice E)) (hs:(P.info? E).map (·.size)=some s) (hi:i<n) :
  (Instr.indexAt t (.slice A n c) (.int k (i:Int))).run P w = .ok (.pointer (some (adr A (i*s)))) w:=by
 obtain ⟨g,rfl,_⟩:=slR_head h (by omega)
 have:=run_ixS (P:=P) (w:=w) (t:=t) (e:=E) (n:=n) (c:=c) (s:=s) (k:=k) (b:=g) (off:=0) i ht hs hi
 rw [Nat.zero_add] at this
 exact this
theorem slR_get (hs:∀x,(enc x).length=s) (i:Nat) (x:α) (h:(slR s enc E A n c xs).at_ w F) (hx:xs[i]? =some x):w.rangeAt (adr A 0).block (i*s) (enc x):=by
 have hi:i<xs.length:=(List.getElem?_eq_some_iff.1 hx).1
 obtain ⟨g,rfl,_⟩:=slR_head h (by rw [← slR_len h];omega)
 exact (OwnS.at_ hs h.2 i x hx).1
theorem slR_ld1 {P:Program} {t:TypeId} {v:Value} (hd:(P.underlying t).map TypeDesc.isRow=some false) (i:Nat) (x:α) (h:(slR 1 enc E A n c xs).at_ w F) (hs:∀x,(enc x).length=1) (hx:xs[i]? =some x) (hv:enc x=[v]) :
  (Instr.loadAt t (.pointer (some (adr A (i*1))))).run P w = .ok v w:=by
 refine run_ld hd ?_
 have:=slR_get hs i x h hx 0 v (by rw [hv];rfl)
 exact this
end
def bsCells (P:Program) (t:TypeId) (n:Nat) (ps:List (Nat×Value)):Option (TypeId×Array Value):=
 match P.underlying t with
 | some (.slice e)=>match P.info? e with
  | some i=>match i.zero with
   | some z=>if n*i.size>2^24 then none else
    (Instr.fill (fun j=>some (j*i.size,i.size)) ((Array.range (n*i.size)).map ((if n*i.size=0 then #[] else z.cells)[· %(if n*i.size=0 then (#[]:Array Value) else z.cells).size]!)) ps).map (e,·)
   | none=>none
  | none=>none
 | _=>none
theorem run_bs {P:Program} {t e:TypeId} {n:Nat} {ps:List (Nat×Value)} {cs:Array Value} (h:bsCells P t n ps=some (e,cs)) (w:World):(Instr.buildSlice t n ps.toArray).run P w = .ok (.slice (some ⟨w.heap.size,0,none⟩) n n) (w.alloc (.cells cs e)):=by
 unfold bsCells at h
 split at h
 ·rename_i e' ht
  split at h
  ·rename_i i hi
   split at h
   ·rename_i z hz
    split at h
    ·cases h
    ·rename_i hle
     rw [Option.map_eq_some_iff] at h
     obtain ⟨cs',hf,h⟩:=h
     injection h with h1 h2
     subst h1 h2
     simp only [Instr.buildSlice,Sem.run_bind,run_underlying ht,Result.andThen_ok,sizeOf,typeInfo,zeroValue]
     by_cases h0:n*i.size=0
     ·simp [hi,h0] at hf ⊢
      simp [hf,newRow,newObj,Sem.run,Sem.run_bind]
     ·simp [hi,hz,h0] at hf ⊢
      rw [if_neg (by simpa using hle)]
      simp [hf,newRow,newObj,Sem.run,Sem.run_bind]
   ·cases h
  ·cases h
 ·cases h
section
variable {P:Program} {g:Rg} {c:Cx} {K:Act→World→Prop} {R:Res} {m:Nat} {cv:List (Nat×SV)} {pd:List (Bool×Nat)} {α:Type} {s:Nat} {enc:α→List Value} {E:TypeId}
theorem slR_new {cs:Array Value} {n:Nat} {xs:List α} (hs:∀x,(enc x).length=s) (hcs:cs.toList=xs.flatMap enc) (hn:xs.length=n) (hm:n≤maxLen) (w:World):(slR s enc E (some ⟨w.heap.size,0,none⟩) n n xs).at_ (w.alloc (.cells cs E)) [w.heap.size]:=by
 refine ⟨rfl,⟨by rw [flat_len hs,hn],.inr ⟨w.heap.size,n,cs,by rw [hn],Nat.zero_le _,heap_alloc_new w _,by omega,hm,?_,?_⟩⟩⟩
 ·rw [← Array.length_toList,hcs,flat_len hs,hn]
 ·rw [hcs,List.take_of_length_le (by rw [flat_len hs];exact Nat.le_refl _)]
theorem lands_new {A:Res} {w w':World} {F:List Nat} {b:Nat} (hF:R.at_ w F) (hb:w.heap.size≤b) (hA:A.at_ w' [b]) (hw:Below w.heap.size w w'):Lands (sepR A R) F w w':=by
 refine ⟨b::F,⟨[b],F,fun x=>by simp,hA,R.chg hF (chg_of_below (F:=[]) hw) (fun _ _ h=>by cases h),fun x hx hm=>?_⟩,fun y hy=>?_,(chg_of_below (F:=[]) hw).mono (fun _ h=>by cases h)⟩
 ·rw [List.mem_singleton] at hx
  subst hx
  have:=R.lt hF x hm
  omega
 ·rcases List.mem_cons.1 hy with rfl|h
  ·exact .inr hb
  ·exact .inl h
theorem RV.bs (j:Nat) (t:TypeId) (n:Nat) (ps:List (Nat×Value)) (cs:Array Value) (xs:List α) (hst:g.stat c.nt=true) (hck:g.dyn P cv j [] pd=true) (hsh:g.shape P cv j=some (.bslice t n (ps.map fun p=>(p.1,.v p.2))))
  (hc:bsCells P t n ps=some (E,cs)) (hcs:cs.toList=xs.flatMap enc) (hn:xs.length=n) (hm:n≤maxLen) (hs:∀x,(enc x).length=s)
  (h:∀A,RV P g c K m (g.tab P ((j,.v (.slice A n n))::cv)) (sepR (slR s enc E A n n xs) R) (pd.filter (·.1))):RV P g c K (m+1) (g.tab P cv) R pd:=
 RV.sh j _ hst hck hsh fun ρ w F hF=>by
  refine ⟨w.alloc (.cells cs E),.v (.slice (some ⟨w.heap.size,0,none⟩) n n),_,?_,lands_new hF (Nat.le_refl _) (slR_new hs hcs hn hm w) ((Below.refl _ _).alloc (Nat.le_refl _) _),h _⟩
  have:(ps.map fun p=>((p.1,SV.v p.2):Nat×SV)).map (fun p=>(p.1,p.2.val ρ))=ps:=by
   rw [List.map_map]
   exact (List.map_congr_left fun p _=>rfl).trans (List.map_id _)
  simp only [OpV.sem,this]
  exact run_bs hc w
theorem RV.app (j:Nat) (t ty:TypeId) (A B:Option Addr) (n c1 m1 c2:Nat) (xs ys:List α) {z:Value} {bytes:Nat} (hst:g.stat c.nt=true) (hck:g.dyn P cv j [] pd=true) (hsh:g.shape P cv j=some (.app t t ty (.v (.slice A n c1)) (.v (.slice B m1 c2))))
  (hT:P.underlying t=some (.slice E)) (hI:(P.info? E).map (fun i=>(i.zero,i.size,i.bytes))=some (some z,s,bytes)) (hzc:z.cells.size=s) (h0:0<s) (hbytes:bytes≤4096) (hs:∀x,(enc x).length=s) (hone:∀y∈ys,∀u∈enc y,u.oneCell'=true) (hlen:n+m1≤34359738367) (hm:0<m1)
  (h:∀A' c',RV P g c K m (g.tab P ((j,.v (.slice A' (n+m1) c'))::cv)) (sepR (slR s enc E A' (n+m1) c' (xs++ys)) R) (pd.filter (·.1))):RV P g c K (m+1) (g.tab P cv) (sepR (slR s enc E B m1 c2 ys) (sepR (slR s enc E A n c1 xs) R)) pd:=
 RV.sh j _ hst hck hsh fun ρ w F hF=>by
  obtain ⟨i,hi,hz0,hz1,hz2⟩:=info_parts hI
  obtain ⟨F1,F2,e0,hy,⟨F3,F4,e1,hx,hR,d1⟩,d0⟩:=hF
  have hn:=slR_len hx
  have hm1:=slR_len hy
  obtain ⟨gb,rfl,rfl⟩:=slR_head hy hm
  have hown:w.ownsRow 0 E s (.slice A n c1) n (xs.flatMap enc):=by have:=hx.2;unfold OwnS at this;rw [hn] at this;exact this
  obtain ⟨v',w',hrun,hown',hgr,_,hat⟩:=run_append_own_at (P:=P) w 0 t ty E i z s bytes hT hi hz0 hz1 hz2 hzc h0 (.slice A n c1) n (xs.flatMap enc) hown
   ⟨gb,0,none⟩ m1 c2 (ys.flatMap enc) (by rw [flat_len hs,hm1]) (fun k u hk=>by
    rw [Addr.add_lit]
    have hk':k<(ys.flatMap enc).length:=(List.getElem?_eq_some_iff.1 hk).1
    rw [flat_len hs] at hk'
    have hd:k/s<ys.length:=Nat.div_lt_of_lt_mul (by rw [Nat.mul_comm];exact hk')
    have hy1:=(OwnS.at_ hs hy.2 (k/s) ys[k/s] (List.getElem?_eq_getElem hd)).1 (k%s)
    have hlt:k%s<(enc ys[k/s]).length:=by rw [hs];exact Nat.mod_lt _ h0
    have h3:=flat_get hs ys (k/s) ys[k/s] (List.getElem?_eq_getElem hd) (k%s) _ (List.getElem?_eq_getElem hlt)
    rw [Nat.mul_comm,Nat.div_add_mod] at h3
    have h2:=hy1 _ (List.getElem?_eq_getElem hlt)
    rw [Nat.mul_comm,Nat.div_add_mod] at h2
    rw [h3] at hk
    injection hk with hk
    subst hk
    rw [Nat.zero_add]
    exact h2)
   (fun u hu=>by
    obtain ⟨y,hy',hu⟩:=List.mem_flatMap.1 hu
    exact hone y hy' u hu)
   (by unfold maxLen;omega) (by have:(n+m1)*bytes≤34359738367*4096:=Nat.mul_le_mul hlen hbytes;omega) (Nat.zero_le _)
  have hS:OwnS s enc E w' 0 v' (xs++ys):=by
   unfold OwnS
   rw [List.length_append,hn,hm1,List.flatMap_append]
   exact hown'
  obtain ⟨A',n',c',hv,hn',_⟩:=hS.form
  subst hv
  rw [List.length_append,hn,hm1] at hn'
  subst hn'
  refine ⟨w',.v (.slice A' (n+m1) c'),_,hrun,?_,h A' c'⟩
  have hchg:Chg F3 w w':=⟨hgr.os,hgr.tape,hgr.output,hgr.size,fun k hk hne=>hgr.block k hk (fun e=>hne (by rw [hx.1];exact mem_blk.2 e.symm))⟩
  have hF':∀k∈blk (.slice A' (n+m1) c'),k∈F3∨w.heap.size≤k:=fun k hk=>by
   rcases hat with h|h
   ·exact .inl (by rw [hx.1];exact mem_blk.2 (by rw [← h];exact mem_blk.1 hk))
   ·have:=mem_blk.1 hk
    rw [h] at this
    injection this with this
    omega
  refine ⟨blk (.slice A' (n+m1) c')++F4,⟨_,F4,fun x=>List.mem_append,⟨rfl,hS⟩,R.chg hR hchg (fun k hk hm=>d1 k hm hk),fun x hx' hm=>?_⟩,fun y hy=>?_,hchg.mono fun x hx=> .inl ((e0 x).2 (.inr ((e1 x).2 (.inl hx))))⟩
  ·rcases hF' x hx' with h|h
   ·exact d1 x h hm
   ·have:=R.lt hR x hm;omega
  ·rcases List.mem_append.1 hy with h|h
   ·exact (hF' y h).imp (fun h=>(e0 y).2 (.inr ((e1 y).2 (.inl h)))) id
   ·exact .inl ((e0 y).2 (.inr ((e1 y).2 (.inr h))))
theorem RV.mk (j:Nat) (t:TypeId) (n:Nat) (x:α) {z:Value} {bytes:Nat} (hst:g.stat c.nt=true) (hck:g.dyn P cv j [] pd=true) (hsh:g.shape P cv j=some (.mk t (.v (.int .i64 (n:Int))) (.v (.int .i64 (n:Int)))))
  (hT:P.underlying t=some (.slice E)) (hI:(P.info? E).map (fun i=>(i.zero,i.size,i.bytes))=some (some z,s,bytes)) (hzc:z.cells.toList=enc x) (h0:0<s) (hs:∀x,(enc x).length=s) (hn:bytes*n≤281474976710656) (h63:n≤maxLen)
  (h:∀A,RV P g c K m (g.tab P ((j,.v (.slice A n n))::cv)) (sepR (slR s enc E A n n (List.replicate n x)) R) (pd.filter (·.1))):RV P g c K (m+1) (g.tab P cv) R pd:=
 RV.sh j _ hst hck hsh fun ρ w F hF=>by
  obtain ⟨i,hi,hz0,hz1,hz2⟩:=info_parts hI
  subst hz1 hz2
  obtain ⟨w',hrun,hown,hgr⟩:=run_make_full (P:=P) w 0 t E i z _ hT hi hz0 rfl .i64 .i64 n hn h63 (Nat.zero_le _)
  refine ⟨w',.v (.slice (some ⟨w.heap.size,0,none⟩) n n),_,hrun,lands_new hF (Nat.le_refl _) (A:=slR i.size enc E (some ⟨w.heap.size,0,none⟩) n n (List.replicate n x)) ⟨rfl,?_⟩ ((Below.refl _ _).grown hgr (Nat.le_refl _) (by simp)),h _⟩
  unfold OwnS
  rw [List.length_replicate,←toList_madeCells hs h0 x z.cells hzc]
  exact hown
end
theorem St.lands_blk {F:List Nat} {nt:Nat} {df:List Deferred} {s:SS} {R:Res} {ρ:Nat→Nat} {a:Act} {w w':World} {k:Nat} {b:SBlk} (h:St ⟨w,F,nt,df⟩ s R ρ a w') (hk:lk s.hp k=some b) (hro:b.ro=false):Lands (sepR (blkR (ρ k) b.ty (cellsV ρ b.cells)) R) F w w':=by
 obtain ⟨F',f1,f2,f3,f4⟩:=h.sep
 obtain ⟨h1,h2⟩:=f2 k b hk
 refine ⟨ρ k::F',⟨[ρ k],F',fun x=>by simp,⟨rfl,h.hp k b hk⟩,f1,fun x hx hm=>?_⟩,fun y hy=>?_,f4⟩
 ·rw [List.mem_singleton] at hx
  subst hx
  exact h1 hm
 ·rcases List.mem_cons.1 hy with rfl|h
  ·exact h2 hro
  ·exact f3 y h
def SV.sub (k bn:Nat):SV→SV
 | .v x=> .v x
 | .p k' o=>if k'=k then .v (.pointer (some ⟨bn,o,none⟩)) else .p k' o
 | .fn f cap=> .fn f (cap.map fun | .inl x=> .inl x | .inr (k',o)=>if k'=k then .inl (.pointer (some ⟨bn,o,none⟩)) else .inr (k',o))
theorem SV.sub_val (k:Nat) (ρ:Nat→Nat) (x:SV):(x.sub k (ρ k)).val ρ=x.val ρ:=by
 cases x with
 | v x=>rfl
 | p k' o=>
  show SV.val ρ (if k'=k then .v (.pointer (some ⟨ρ k,o,none⟩)) else .p k' o)=_
  by_cases h:k'=k
  ·rw [if_pos h,h];rfl
  ·rw [if_neg h]
 | fn f cap=>
  simp only [SV.sub,SV.val,List.map_map]
  congr 2
  apply List.map_congr_left
  intro c hc
  cases c with
  | inl x=>rfl
  | inr q=>
   obtain ⟨k',o⟩:=q
   simp only [Function.comp]
   by_cases h:k'=k
   ·rw [if_pos h,h];rfl
   ·rw [if_neg h]
def SS.sub (s:SS) (k bn:Nat):SS:=⟨s.fr.map fun p=>(p.1,p.2.sub k bn),(s.hp.filter fun p=>p.1 != k).map fun p=>(p.1,⟨p.2.ty,p.2.ro,p.2.cells.map (SV.sub k bn)⟩)⟩
theorem lk_map {α β:Type} (f:α→β):∀(l:List (Nat×α)) (t:Nat),lk (l.map fun p=>(p.1,f p.2)) t=(lk l t).map f
 | [],t=>rfl
 | (u,x)::r,t=>by
  simp only [List.map_cons,lk]
  split
  ·rfl
  ·exact lk_map f r t
theorem lk_filter {α:Type} (k:Nat):∀(l:List (Nat×α)) (t:Nat) (x:α),lk (l.filter fun p=>p.1 != k) t=some x→t≠k∧lk l t=some x
 | [],t,x,h=>by cases h
 | (u,y)::r,t,x,h=>by
  simp only [List.filter_cons] at h
  split at h
  ·rename_i hu
   simp only [lk] at h ⊢
   split at h
   ·rename_i e
    have e':u=t:=by simpa using e
    subst e'
    exact ⟨by simpa using hu,by rw [if_pos e];exact h⟩
   ·rename_i e
    rw [if_neg e]
    exact lk_filter k r t x h
  ·rename_i hu
   obtain ⟨h1,h2⟩:=lk_filter k r t x h
   have e:u=k:=by simpa using hu
   simp only [lk]
   rw [if_neg (by simp;omega)]
   exact ⟨h1,h2⟩
theorem TT.give {P:Program} {c:Cx} {x:Code} {s:SS} {R:Res} {Q:Exit→Act→World→Prop} (k:Nat) {b:SBlk} {cs:Array Value} (s':Nat→SS) (hk:lk s.hp k=some b) (hro:b.ro=false) (hcs:∀ρ,cellsV ρ b.cells=cs) (hs':∀bn,s.sub k bn=s' bn) (h:∀bn,TT P c x (s' bn) (sepR (blkR bn b.ty cs) R) Q):TT P c x s R Q:=fun ρ a w hs=>by
 refine h (ρ k) ρ a w ?_
 rw [← hs']
 have hlk:∀k' b',lk (s.sub k (ρ k)).hp k'=some b'→∃b0,lk s.hp k'=some b0∧k'≠k∧b'=⟨b0.ty,b0.ro,b0.cells.map (SV.sub k (ρ k))⟩:=fun k' b' h=>by
  unfold SS.sub at h
  simp only at h
  rw [lk_map (fun (b:SBlk)=>(⟨b.ty,b.ro,b.cells.map (SV.sub k (ρ k))⟩:SBlk)),Option.map_eq_some_iff] at h
  obtain ⟨b0,h1,rfl⟩:=h
  obtain ⟨h2,h3⟩:=lk_filter k _ _ _ h1
  exact ⟨b0,h3,h2,rfl⟩
 have hcells:∀l:List SV,cellsV ρ (l.map (SV.sub k (ρ k)))=cellsV ρ l:=fun l=>by
  unfold cellsV
  rw [List.map_map]
  congr 1
  exact List.map_congr_left fun x _=>SV.sub_val k ρ x
 refine ⟨hs.size,hs.defers,fun t x ht=>?_,fun k' b' hk'=>?_,fun k1 k2 b1 b2 e1 e2 e3=>?_,?_⟩
 ·unfold SS.sub at ht
  simp only at ht
  rw [lk_map (SV.sub k (ρ k)),Option.map_eq_some_iff] at ht
  obtain ⟨y,hy,rfl⟩:=ht
  rw [SV.sub_val]
  exact hs.fr t y hy
 ·obtain ⟨b0,h1,h2,rfl⟩:=hlk k' b' hk'
  show Blk w (ρ k') b0.ty (cellsV ρ (b0.cells.map _))
  rw [hcells]
  exact hs.hp k' b0 h1
 ·obtain ⟨b3,h1,_⟩:=hlk k1 b1 e1
  obtain ⟨b4,h2,_⟩:=hlk k2 b2 e2
  exact hs.inj k1 k2 b3 b4 h1 h2 e3
 ·obtain ⟨F',f1,f2,f3,f4⟩:=hs.sep
  obtain ⟨h1,h2⟩:=f2 k b hk
  have hb:=hs.hp k b hk
  rw [hcs] at hb
  refine ⟨ρ k::F',⟨[ρ k],F',fun x=>by simp,⟨rfl,hb⟩,f1,fun x hx hm=>?_⟩,fun k' b' hk'=>?_,fun y hy=>?_,f4.mono fun x hx=>?_⟩
  ·rw [List.mem_singleton] at hx
   subst hx
   exact h1 hm
  ·obtain ⟨b0,e1,e2,rfl⟩:=hlk k' b' hk'
   obtain ⟨g1,g2⟩:=f2 k' b0 e1
   refine ⟨fun hm=>?_,g2⟩
   rcases List.mem_cons.1 hm with h|h
   ·exact e2 (hs.inj k' k b0 b e1 hk h)
   ·exact g1 h
  ·rcases List.mem_cons.1 hy with rfl|h
   ·exact h2 hro
   ·exact f3 y h
  ·exact .inl hx
theorem TT.resL {P:Program} {c:Cx} {x:Code} {s:SS} {R R':Res} {Q:Exit→Act→World→Prop} (hi:∀W F,R.at_ W F→∃F',(∀ y∈F',y∈F)∧R'.at_ W F') (h:TT P c x s R' Q):TT P c x s R Q:=fun ρ a w hs=>by
 obtain ⟨F,f1,f2,f3,f4⟩:=hs.sep
 obtain ⟨F',g1,g2⟩:=hi w F f1
 exact h ρ a w ⟨hs.size,hs.defers,hs.fr,hs.hp,hs.inj,F',g2,fun k b hk=>⟨fun hm=>(f2 k b hk).1 (g1 _ hm),(f2 k b hk).2⟩,fun y hy=>f3 y (g1 y hy),f4⟩
theorem TT.know {P:Program} {c:Cx} {x:Code} {s:SS} {R:Res} {Q:Exit→Act→World→Prop} (p:Prop) (hp:∀w F,R.at_ w F→p) (h:p→TT P c x s R Q):TT P c x s R Q:=fun ρ a w hs=>by
 obtain ⟨F,f1,_⟩:=hs.sep
 exact h (hp w F f1) ρ a w hs
def entC {J:Type} (enc:J→List Value) (e:J×Edg×Int):List Value:=enc e.1++[.int .u8 e.2.1.tag,.int .u32 e.2.1.pos,.int .i64 e.2.2]
def caR1 {J:Type} (tC tE:TypeId) (s:Nat) (enc:J→List Value) (c:Nat) (ep:Int) (P:J→Edg→Prop):Res:=
 ⟨fun W F=>∃(b n:Nat) (h1 h2:Int) (es:List (J×Edg×Int)),F=[c,b]∧c≠b∧Blk W c tC #[.slice (some ⟨b,0,none⟩) n n,.int .i64 ep,.int .i64 h1,.int .i64 h2]∧OwnS (s+3) (entC enc) tE W 0 (.slice (some ⟨b,0,none⟩) n n) es∧
   es.length=n∧(∃ q,q≤40∧n=2^q)∧∀e∈es,e.2.2≤ep∧(e.2.2=ep→P e.1 e.2.1),
  (fun {W W' F G} h hc hd=>by
   obtain ⟨b,n,h1,h2,es,rfl,hne,hB,hO,hr⟩:=h
   exact ⟨b,n,h1,h2,es,rfl,hne,hB.chg hc (hd c (by simp)),hO.chg hc (fun k hk=>hd k (by simp [mem_blk,Value.ownBlock] at hk;simp [hk])),hr⟩),
  (fun {W F} h k hk=>by
   obtain ⟨b,n,h1,h2,es,rfl,hne,hB,hO,hr⟩:=h
   simp at hk
   rcases hk with rfl|rfl
   ·exact hB.lt
   ·exact OwnS.blk_lt hO _ (by simp [mem_blk,Value.ownBlock]))⟩
def caR {J:Type} (tC tE:TypeId) (s:Nat) (enc:J→List Value) (c ek:Nat) (P:J→Edg→Prop):Res:=
 ⟨fun W F=>∃ep:Int,(0≤ep∧ep≤ek)∧(caR1 tC tE s enc c ep P).at_ W F,(fun ⟨ep,h0,h⟩ hc hd=>⟨ep,h0,Res.chg _ h hc hd⟩),(fun ⟨ep,h0,h⟩=>Res.lt _ h)⟩
section
variable {J:Type} {tC tE:TypeId} {s:Nat} {enc:J→List Value} {c ek:Nat} {P:J→Edg→Prop} {R:Res} {F:List Nat} {w:World} {ep:Int}
theorem caR_open (h:(sepR (caR tC tE s enc c ek P) R).at_ w F):∃ep:Int,0≤ep∧ep≤ek∧(sepR (caR1 tC tE s enc c ep P) R).at_ w F:=by
 obtain ⟨F1,F2,h0,⟨ep,e1,h1⟩,h2,h3⟩:=h
 exact ⟨ep,e1.1,e1.2,F1,F2,h0,h1,h2,h3⟩
theorem caR_close (h0:0≤ep) (h1:ep≤ek) (h:(sepR (caR1 tC tE s enc c ep P) R).at_ w F):(sepR (caR tC tE s enc c ek P) R).at_ w F:=sepR_imp h (fun _ h=>⟨ep,⟨h0,h1⟩,h⟩) (fun _ h=>h)
theorem caR_blk (h:(sepR (caR1 tC tE s enc c ep P) R).at_ w F):∃x y z,Blk w c tC #[x,.int .i64 ep,y,z]:=by
 obtain ⟨F1,F2,h0,⟨b,n,h1,h2,es,rfl,hne,hB,hr⟩,_⟩:=h
 exact ⟨_,_,_,hB⟩
theorem caR_ep (h:(sepR (caR1 tC tE s enc c ep P) R).at_ w F):(Instr.loadAt 3 (.pointer (some ⟨c,1,none⟩))).run Tryz.prog w = .ok (.int .i64 ep) w:=by
 obtain ⟨x,y,z,hB⟩:=caR_blk h
 exact run_ld (by kernel_rfl) (hB.cell 1)
theorem caR_flush (P':J→Edg→Prop) (h0:0≤ep) (h:(sepR (caR1 tC tE s enc c ep P) R).at_ w F):(do Instr.storeAt 3 (.pointer (some ⟨c,1,none⟩)) (.int .i64 (ep+1));pure undef:Sem Value).run Tryz.prog w = .ok undef (w.setCells c 1 [.int .i64 (ep+1)])∧Lands (sepR (caR1 tC tE s enc c (ep+1) P') R) F w (w.setCells c 1 [.int .i64 (ep+1)]):=by
 have hf:=h
 obtain ⟨x,y,z,hB⟩:=caR_blk h
 refine ⟨run_st (v:= .int .i64 (ep+1)) (by kernel_rfl) (fun j hj=>?_) (fun j hj=>hB.frozen _) (by simp [Value.cells,Value.oneCell']),?_⟩
 ·have:j=0:=by simp [Value.cells] at hj;exact hj
  subst this
  rw [hB.cell]
  rfl
 ·obtain ⟨F1,F2,e0,⟨b,n,h1,h2,es,rfl,hne,hB,hO,hl,hq,hes⟩,hR,hd⟩:=h
  have hch:Chg [c] w (w.setCells c 1 [.int .i64 (ep+1)]):=Chg.setCells (Chg.refl _ _) (.inl (by simp)) _ _
  refine ⟨F,⟨[c,b],F2,e0,⟨b,n,h1,h2,es,rfl,hne,hB.set_ 1 _,hO.chg hch (fun k hk=>?_),hl,hq,fun e he=>?_⟩,R.chg hR hch (fun k hk hm=>?_),hd⟩,fun y hy=> .inl hy,hch.mono fun x hx=>?_⟩
  ·simp [mem_blk,Value.ownBlock] at hk ⊢
   omega
  ·have:=(hes e he).1
   exact ⟨by omega,fun e1=>by omega⟩
  ·simp at hm
   subst hm
   exact hd k (by simp) hk
  ·simp at hx
   subst hx
   exact .inl ((e0 x).2 (.inl (by simp)))
end
theorem flush_apply {J:Type} {tE:TypeId} {s:Nat} {enc:J→List Value} {c ek:Nat} {P:J→Edg→Prop} {R:Res} {F:List Nat} {w:World} (P':J→Edg→Prop) (hk:ek<2^62) (h:(sepR (caR 135 tE s enc c ek P) R).at_ w F) :
  Calls Tryz.prog 114 #[.pointer (some ⟨c,0,none⟩)] w (Says (.tuple #[]) (sepR (caR 135 tE s enc c (ek+1) P') R) F w):=by
 obtain ⟨ep,h0,h1,h⟩:=caR_open h
 have hep1:IntKind.i64.wrap (ep+1)=ep+1:=IntWalk.i64_in _ (by omega)
 refine Calls.mono (R:=Says (.tuple #[]) (sepR (caR1 135 tE s enc c (ep+1) P') R) F w) ?_ fun e w' ⟨e1,e2⟩=>⟨e1,e2.imp fun _=>caR_close (by omega) (by omega)⟩
 have h1:0≤ep:=h0
 refine TTg [VP c] Tryz.func114 Tryz.ntmps114 h ?_
 refine TTa 0 ⟨[(0,VP c),(3,VB true)],[]⟩ ?_
 refine TTy ?_
 refine TT.r (m:=3) false [3,4,7] 0 mixed (by kernel_rfl) ?_
 refine RVd 3 (.load 3 (.v (.pointer (some ⟨c,1,none⟩)))) (V64 ep) (fun ρ w F hF=>caR_ep hF) ?_
 refine RVp 4 (.int .i64 (IntKind.i64.wrap (ep+1))) (.int .i64 (ep+1)) (by rw [hep1]) ?_
 refine RVw 7 (.store 3 (.v (.pointer (some ⟨c,1,none⟩))) (V64 (ep+1))) (fun ρ w F hF=>⟨_,.v undef,sepR (caR1 135 tE s enc c (ep+1) P') R,(caR_flush P' h1 hF).1,(caR_flush P' h1 hF).2,?_⟩)
 refine RV.fin (s':=⟨[],[]⟩) (by kernel_rfl) (by kernel_rfl) ?_
 refine TT.fall0 (fn:=Tryz.f114) Tryz.results114 (fun ρ a w1 hs1=>?_)
 exact ⟨rfl,hs1.lands⟩
theorem flush_quant {J:Type} {tE:TypeId} {s:Nat} {enc:J→List Value} {c ek:Nat} {P:J→Edg→Prop} {R:Res} {F:List Nat} {w:World} (P':J→Edg→Prop) (hk:ek<2^62) (h:(sepR (caR 138 tE s enc c ek P) R).at_ w F) :
  Calls Tryz.prog 115 #[.pointer (some ⟨c,0,none⟩)] w (Says (.tuple #[]) (sepR (caR 138 tE s enc c (ek+1) P') R) F w):=by
 obtain ⟨ep,h0,h1,h⟩:=caR_open h
 have hep1:IntKind.i64.wrap (ep+1)=ep+1:=IntWalk.i64_in _ (by omega)
 refine Calls.mono (R:=Says (.tuple #[]) (sepR (caR1 138 tE s enc c (ep+1) P') R) F w) ?_ fun e w' ⟨e1,e2⟩=>⟨e1,e2.imp fun _=>caR_close (by omega) (by omega)⟩
 have h1:0≤ep:=h0
 refine TTg [VP c] Tryz.func115 Tryz.ntmps115 h ?_
 refine TTa 0 ⟨[(0,VP c),(3,VB true)],[]⟩ ?_
 refine TTy ?_
 refine TT.r (m:=3) false [3,4,7] 0 mixed (by kernel_rfl) ?_
 refine RVd 3 (.load 3 (.v (.pointer (some ⟨c,1,none⟩)))) (V64 ep) (fun ρ w F hF=>caR_ep hF) ?_
 refine RVp 4 (.int .i64 (IntKind.i64.wrap (ep+1))) (.int .i64 (ep+1)) (by rw [hep1]) ?_
 refine RVw 7 (.store 3 (.v (.pointer (some ⟨c,1,none⟩))) (V64 (ep+1))) (fun ρ w F hF=>⟨_,.v undef,sepR (caR1 138 tE s enc c (ep+1) P') R,(caR_flush P' h1 hF).1,(caR_flush P' h1 hF).2,?_⟩)
 refine RV.fin (s':=⟨[],[]⟩) (by kernel_rfl) (by kernel_rfl) ?_
 refine TT.fall0 (fn:=Tryz.f115) Tryz.results115 (fun ρ a w1 hs1=>?_)
 exact ⟨rfl,hs1.lands⟩
theorem flush_family {J:Type} {tE:TypeId} {s:Nat} {enc:J→List Value} {c ek:Nat} {P:J→Edg→Prop} {R:Res} {F:List Nat} {w:World} (P':J→Edg→Prop) (hk:ek<2^62) (h:(sepR (caR 141 tE s enc c ek P) R).at_ w F) :
  Calls Tryz.prog 116 #[.pointer (some ⟨c,0,none⟩)] w (Says (.tuple #[]) (sepR (caR 141 tE s enc c (ek+1) P') R) F w):=by
 obtain ⟨ep,h0,h1,h⟩:=caR_open h
 have hep1:IntKind.i64.wrap (ep+1)=ep+1:=IntWalk.i64_in _ (by omega)
 refine Calls.mono (R:=Says (.tuple #[]) (sepR (caR1 141 tE s enc c (ep+1) P') R) F w) ?_ fun e w' ⟨e1,e2⟩=>⟨e1,e2.imp fun _=>caR_close (by omega) (by omega)⟩
 have h1:0≤ep:=h0
 refine TTg [VP c] Tryz.func116 Tryz.ntmps116 h ?_
 refine TTa 0 ⟨[(0,VP c),(3,VB true)],[]⟩ ?_
 refine TTy ?_
 refine TT.r (m:=3) false [3,4,7] 0 mixed (by kernel_rfl) ?_
 refine RVd 3 (.load 3 (.v (.pointer (some ⟨c,1,none⟩)))) (V64 ep) (fun ρ w F hF=>caR_ep hF) ?_
 refine RVp 4 (.int .i64 (IntKind.i64.wrap (ep+1))) (.int .i64 (ep+1)) (by rw [hep1]) ?_
 refine RVw 7 (.store 3 (.v (.pointer (some ⟨c,1,none⟩))) (V64 (ep+1))) (fun ρ w F hF=>⟨_,.v undef,sepR (caR1 141 tE s enc c (ep+1) P') R,(caR_flush P' h1 hF).1,(caR_flush P' h1 hF).2,?_⟩)
 refine RV.fin (s':=⟨[],[]⟩) (by kernel_rfl) (by kernel_rfl) ?_
 refine TT.fall0 (fn:=Tryz.f116) Tryz.results116 (fun ρ a w1 hs1=>?_)
 exact ⟨rfl,hs1.lands⟩
end
end Go.Proofs.YtnlmlehcpngcgaaGreat
