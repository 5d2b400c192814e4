/- Contract: apply's do. Contract: apply's wide. Contract: apply's At, Apply. -/
import Derived.Test.YtnlmlehcpngcgaaGreatQbj
import Derived.Test.YtnlmlehcpngcgaaGreatQbk
import Derived.Test.YtnlmlehcpngcgaaGreatQbh
import Derived.Test.YtnlmlehcpngcgaaGreatQbi
namespace Go.Proofs.YtnlmlehcpngcgaaGreat
set_option linter.unusedSimpArgs false
set_option linter.unusedVariables false
section
open Go.RowKit Go.Sort
theorem engVars {g n room:Nat} {B:Bk} {F:List Nat} {w:World} {cs:List (Option Rec)} {free:List Int} (h:(engR g n room B cs free).at_ w F):Calls Tryz.prog 45 #[.pointer (some ⟨g,0,none⟩)] w fun e w'=>e = .returned (.int .i64 (n:Int))∧w=w':=by
 obtain ⟨F1,F2,h0,h1,h2,h3⟩:=h
 exact storeVars_any F1 g n room cs free w h1.1
theorem isE_leaf {cs:List (Option Rec)} {f n l:Int} {e:Edg} {b:Bool} (h:IsE cs f n e l (.leaf b)):e=if b then ⟨if f=5 then n else 0,1⟩ else ⟨0,0⟩:=by
 cases b with
 | false=>exact h
 | true=>exact h
theorem leaf_pos {f n t q:Int} {b:Bool} (h:(⟨t,q⟩:Edg)=if b then ⟨if f=5 then n else 0,1⟩ else ⟨0,0⟩):decide (q>0)=b:=by
 cases b with
 | false=>injection h with _ h;subst h;rfl
 | true=>injection h with _ h;subst h;rfl
theorem and1_u8':∀k:Fin 256,bits .and .u8 ((k.val:Nat):Int) 1=((k.val:Nat):Int)%2:=by decide +kernel
theorem and1_u8 {op:Int} (h:0≤op∧op≤255):bits .and .u8 op 1=op%2:=by
 obtain ⟨k,rfl⟩:=Int.eq_ofNat_of_zero_le h.1
 exact and1_u8' ⟨k,by omega⟩
theorem bit_opB {op:Int} {sh:Nat} {xa ya za:Bool} (h:0≤op∧op≤255) (hs:sh=4*xa.toNat+2*ya.toNat+za.toNat):(bits .and .u8 (op/2^sh) 1==1)=opB op.toNat xa ya za:=by
 obtain ⟨k,rfl⟩:=Int.eq_ofNat_of_zero_le h.1
 have e:((k:Int)/2^sh)=((k/2^sh:Nat):Int):=by simp
 have hle:k/2^sh≤k:=Nat.div_le_self _ _
 unfold opB
 rw [Int.toNat_natCast,←hs,Nat.testBit_eq_decide_div_mod_eq,e]
 generalize k/2^sh=y at *
 rw [and1_u8 (by omega),Bool.eq_iff_iff]
 simp only [beq_iff_eq,decide_eq_true_eq]
 omega
theorem shr_truth {t:TypeId} (op:Int) (xa ya za:Bool) {sh:Nat} (hs:sh=4*xa.toNat+2*ya.toNat+za.toNat) (w:World):(binOp .shr t (.int .u8 op) (.int .u8 (IntKind.u8.wrap (IntKind.u8.wrap (IntKind.u8.wrap (4*(xa.toNat:Int))+IntKind.u8.wrap (2*(ya.toNat:Int)))+(za.toNat:Int))))).run Tryz.prog w = .ok (.int .u8 (op/2^sh)) w:=by
 subst hs
 have e:∀k:Nat,op.fdiv (2^k)=op/2^k:=fun k=>Int.fdiv_eq_ediv_of_nonneg _ (by exact_mod_cast Nat.zero_le (2^k))
 cases xa<;>cases ya<;>cases za<;>first |(rw [← e];rfl)|(simp only [← e];rfl)
theorem do_nilP {n:Nat} {cs cs':List (Option Rec)} {f op l at_ ap bt bp ct cp:Int} {m:Nat} {x y z:BT} (hj:JobOk n cs ⟨f,op,l,⟨at_,ap⟩,⟨bt,bp⟩,⟨ct,cp⟩⟩ m x y z) (h0:(bits .and .u8 op 1==0)=true) (ha:(ap==0)=true) (hb:(bp==0)=true) (hc:(cp==0)=true):IsE cs' f n ⟨0,0⟩ l (ap3 op.toNat x y z):=by
 have hf:=hj.f15
 have hl0:0≤l:=hj.wf.2.2.1.1
 have hop:0≤op∧op≤255:=hj.wf.2.1
 rw [and1_u8 hop] at h0
 simp only [beq_iff_eq] at h0 ha hb hc
 have e1:=(can_nil (n:=(n:Int)) hf hj.dx hj.lv hl0).1 ((unf_nil hj.a).1 ha)
 have e2:=(can_nil (n:=(n:Int)) hf hj.dy hj.lv hl0).1 ((unf_nil hj.b).1 hb)
 have e3:=(can_nil (n:=(n:Int)) hf hj.dz hj.lv hl0).1 ((unf_nil hj.c).1 hc)
 rw [e1,e2,e3,ap3_zeros _ (by
  rw [Nat.testBit_zero]
  simp
  omega)]
 unfold IsE
 rw [can_zeros]
 rfl
theorem truth_leaf {R:Res} {F:List Nat} {w:World} (t q:Int) (b:Bool) (hq:decide (q>0)=b) (h:R.at_ w F):Calls Tryz.prog 77 #[Ed t q] w (Says (.int .u8 (b.toNat:Int)) R F w):=by
 refine TTg [.v (Ed t q)] Tryz.func77 Tryz.ntmps77 h ?_
 refine TTa 0 ⟨[(1,.p 0 0)],[(0,edB t q)]⟩ ?_
 refine TT.seq (TTa 10 ⟨[(5,VB (decide (q>0)))],[]⟩ ?_)
 rw [hq]
 refine TT.cond (b:=b) (by kernel_rfl) (fun hc1=>?_) (fun hc1=>?_)
 ·subst hc1
  refine TTa 0 ⟨[(2,V8 1)],[]⟩ ?_
  refine TTs Tryz.results77 (V8 1) (fun _ _ h=>h) (fun ρ a w2 hs2=>?_)
  exact ⟨rfl,hs2.lands⟩
 ·subst hc1
  refine TT.skip ?_
  refine TT.next ?_
  refine TTa 0 ⟨[(2,V8 0)],[]⟩ ?_
  refine TTs Tryz.results77 (V8 0) (fun _ _ h=>h) (fun ρ a w3 hs3=>?_)
  exact ⟨rfl,hs3.lands⟩
theorem one_leaf {R:Res} {F:List Nat} {w:World} (f n:Int) (h:R.at_ w F) (hf:1≤f∧f≤5) (hn:0≤n∧n≤16):Calls Tryz.prog 55 #[.int .u8 f,.int .i64 n] w (Says (Ed (if f=5 then n else 0) 1) R F w):=
 (oneC_any f n w hf hn).mono fun e w' ⟨h1,h2⟩=>⟨h1,.of_below h h2⟩
set_option maxRecDepth 100000 in
set_option maxHeartbeats 4000000 in
theorem do_succ {g c n ek room m o:Nat} {B:Bk} {cs:List (Option Rec)} {free:List Int} {F:List Nat} {w:World} {j:Jb} {x y z:BT} (h:(engR g n room ((ansB c n ek).sep B) cs free).at_ w F) (hO:Blk w o 95 #[.pointer (some ⟨g,0,none⟩),.pointer (some ⟨c,0,none⟩)]) (ho:¬o∈F) (hj:JobOk n cs j (m+1) x y z) (HD:DoAny g c n ek room B m j.f j.op) :
  Calls Tryz.prog 60 #[.pointer (some ⟨o,0,none⟩),.agg j.cells.toArray] w (EOut (jobK (m+1)) g n room ((ansB c n ek).sep B) F w cs (fun cs' ed=>IsE cs' j.f n ed j.l (ap3 j.op.toNat x y z))):=by
 have hf:=hj.f15
 have hlv:=hj.lv
 have hn16:=(engR_ok h).1.n16
 have hl0:=hj.wf.2.2.1.1
 obtain ⟨f,op,l,⟨at_,ap⟩,⟨bt,bp⟩,⟨ct,cp⟩⟩:=j
 simp only at hf hlv hl0 HD
 have hln:(IntKind.i64.wrap l==(n:Int))=false:=by rw [IntWalk.i64_in _ (by omega),beq_eq_false_iff_ne];omega
 refine TT.enter1 o (opsB g c) [.p 0 0,.v (.agg #[.int .u8 f,.int .u8 op,.int .u8 l,.int .u8 at_,.int .u32 ap,.int .u8 bt,.int .u32 bp,.int .u8 ct,.int .u32 cp])] _ Tryz.func60 rfl Tryz.ntmps60 rfl hO ho rfl (Nat.le_of_ble_eq_true rfl) h ?_
 refine TTa 10 ⟨[(0,.p 0 0),(3,.p 10 0),(4,.p 11 0)],[(0,opsB g c),(10,jobB f op l at_ ap bt bp ct cp),(11,edB 0 0)]⟩ ?_
 refine TT.seq (TTE 3 false [3,8,14] 20 ?_)
 refine RV.join ⟨[(0,.p 0 0),(3,.p 10 0),(4,.p 11 0),(31,VB false)],[(0,opsB g c),(10,jobB f op l at_ ap bt bp ct cp),(11,edB 0 0)]⟩ ?_ (fun hj1=>?_)
 ·refine TT.of ?_
  refine TTu (TT.next ?_)
  refine TT.seq (TTE 1 true [7] 20 ?_)
  refine RVc 7 45 (fun ρ=>[.pointer (some ⟨g,0,none⟩)]) [] (fun ρ w2 F2 hF2 hpk2=>?_)
  refine (engVars hF2).mono ?_
  rintro e2 w'2 ⟨rfl,hb2⟩
  refine ⟨V64 (n:Int),_,rfl,.of_below hF2 (by rw [← hb2];exact Below.refl _ _),?_⟩
  refine RVz ⟨[(0,.p 0 0),(3,.p 10 0),(4,.p 11 0),(41,VB ((IntKind.i64.wrap l)==(n:Int)))],[(0,opsB g c),(10,jobB f op l at_ ap bt bp ct cp),(11,edB 0 0)]⟩ ?_
  rw [hln]
  refine TTu (TT.next ?_)
  refine TT.seq (TTE 1 true [5] 20 ?_)
  refine RVc 5 78 (fun ρ=>[.pointer (some ⟨c,0,none⟩),.agg #[.int .u8 f,.int .u8 op,.int .u8 l,.int .u8 at_,.int .u32 ap,.int .u8 bt,.int .u32 bp,.int .u8 ct,.int .u32 cp]]) [] (fun ρ w3 F3 hF3 hpk3=>?_)
  refine (apGet hF3 (hj)).mono ?_
  rintro e3 w'3 ⟨ok3,t3,q3,rfl,hok3,hl3⟩
  cases ok3
  ·refine ⟨.v (.tuple #[Ed t3 q3,.bool false]),_,rfl,hl3,?_⟩
   refine RVz ⟨[(0,.p 0 0),(3,.p 10 0),(4,.p 11 0),(6,.p 29 0),(7,VB false)],[(0,opsB g c),(10,jobB f op l at_ ap bt bp ct cp),(11,edB 0 0),(29,edB t3 q3)]⟩ ?_
   refine TTa 30 ⟨[(0,.p 0 0),(3,.p 10 0),(4,.p 11 0),(6,.p 29 0),(76,VB false)],[(0,opsB g c),(10,jobB f op l at_ ap bt bp ct cp),(11,edB 0 0),(29,edB t3 q3)]⟩ ?_
   refine TTu (TT.next ?_)
   refine TTE 1 false [2] 30 ?_
   refine RVc 2 79 (fun ρ=>[.pointer (some ⟨ρ 0,0,none⟩),.agg #[.int .u8 f,.int .u8 op,.int .u8 l,.int .u8 at_,.int .u32 ap,.int .u8 bt,.int .u32 bp,.int .u8 ct,.int .u32 cp]]) [0] (fun ρ w4 F4 hF4 hpk4=>?_)
   refine (split_any hF4 (hpk4 0 (by simp) (opsB g c) (by kernel_rfl)).1 (hpk4 0 (by simp) (opsB g c) (by kernel_rfl)).2 hj HD).mono ?_
   rintro e4 w'4 ⟨t4,q4,code4,cs4,free4,rfl,hl4,hg4,(⟨rfl,hP4⟩|⟨rfl,rfl,rfl,hfl4⟩)⟩
   ·refine ⟨.v (.tuple #[Ed t4 q4,.int .u8 0]),_,rfl,hl4,?_⟩
    refine RVz ⟨[(0,.p 0 0),(3,.p 10 0),(4,.p 11 0),(8,.p 36 0),(9,V8 0)],[(0,opsB g c),(10,jobB f op l at_ ap bt bp ct cp),(11,edB 0 0),(36,edB t4 q4)]⟩ ?_
    refine TT.seq (TTa 40 ⟨[(0,.p 0 0),(3,.p 10 0),(4,.p 11 0),(8,.p 36 0),(9,V8 0),(85,VB true)],[(0,opsB g c),(10,jobB f op l at_ ap bt bp ct cp),(11,edB 0 0),(36,edB t4 q4)]⟩ ?_)
    refine TTy ?_
    refine TT.r (m:=1) true [6] 40 mixed (by kernel_rfl) ?_
    refine RVc 6 80 (fun ρ=>[.pointer (some ⟨c,0,none⟩),.agg #[.int .u8 f,.int .u8 op,.int .u8 l,.int .u8 at_,.int .u32 ap,.int .u8 bt,.int .u32 bp,.int .u8 ct,.int .u32 cp],Ed t4 q4]) [] (fun ρ w5 F5 hF5 hpk5=>?_)
    refine (apPut t4 q4 hF5 (hj.ext hg4.ext) hP4).mono ?_
    rintro e5 w'5 ⟨rfl,hl5⟩
    refine ⟨.v (.tuple #[]),_,rfl,hl5,?_⟩
    refine RV.fin (s':=⟨[(4,.p 11 0),(8,.p 36 0),(9,V8 0)],[(11,edB 0 0),(36,edB t4 q4)]⟩) (by kernel_rfl) (by kernel_rfl) ?_
    refine TT.next ?_
    refine TTa 40 ⟨[(4,.p 11 0),(5,V8 0)],[(11,edB t4 q4)]⟩ ?_
    refine TTt Tryz.results60 (.v (Ed t4 q4)) (V8 0) (fun _ _ h=>h) (fun ρ a w6 hs6=>?_)
    exact ⟨t4,q4,0,_,_,rfl,hs6.lands,hg4,.inl ⟨rfl,hP4⟩⟩
   ·refine ⟨.v (.tuple #[Ed 0 0,.int .u8 6]),_,rfl,hl4,?_⟩
    refine RVz ⟨[(0,.p 0 0),(3,.p 10 0),(4,.p 11 0),(8,.p 36 0),(9,V8 6)],[(0,opsB g c),(10,jobB f op l at_ ap bt bp ct cp),(11,edB 0 0),(36,edB 0 0)]⟩ ?_
    refine TT.seq (TTa 40 ⟨[(0,.p 0 0),(3,.p 10 0),(4,.p 11 0),(8,.p 36 0),(9,V8 6),(85,VB false)],[(0,opsB g c),(10,jobB f op l at_ ap bt bp ct cp),(11,edB 0 0),(36,edB 0 0)]⟩ ?_)
    refine TTu (TT.next ?_)
    refine TTa 40 ⟨[(4,.p 11 0),(5,V8 6)],[(11,edB 0 0)]⟩ ?_
    refine TTt Tryz.results60 (.v (Ed 0 0)) (V8 6) (fun _ _ h=>h) (fun ρ a w7 hs7=>?_)
    exact ⟨0,0,6,_,_,rfl,hs7.lands,hg4,.inr ⟨rfl,rfl,rfl,hfl4⟩⟩
  ·refine ⟨.v (.tuple #[Ed t3 q3,.bool true]),_,rfl,hl3,?_⟩
   refine RVz ⟨[(0,.p 0 0),(3,.p 10 0),(4,.p 11 0),(6,.p 29 0),(7,VB true)],[(0,opsB g c),(10,jobB f op l at_ ap bt bp ct cp),(11,edB 0 0),(29,edB t3 q3)]⟩ ?_
   refine TTa 30 ⟨[(0,.p 0 0),(3,.p 10 0),(4,.p 11 0),(6,.p 29 0),(76,VB true)],[(0,opsB g c),(10,jobB f op l at_ ap bt bp ct cp),(11,edB 0 0),(29,edB t3 q3)]⟩ ?_
   refine TTy ?_
   refine TTa 30 ⟨[(4,.p 11 0),(5,V8 0)],[(11,edB t3 q3)]⟩ ?_
   refine TTt Tryz.results60 (.v (Ed t3 q3)) (V8 0) (fun _ _ h=>h) (fun ρ a w8 hs8=>?_)
   exact ⟨t3,q3,0,_,_,rfl,hs8.lands,(Grow.refl (engR_ok h).2.1 _),.inl ⟨rfl,hok3 rfl⟩⟩
 refine RV.case 3 ((bits .and .u8 op 1)==0) (by kernel_rfl) (by kernel_rfl) (by kernel_rfl) (fun hc9=>?_) (fun hc9=>?_)
 ·refine RV.case 8 (ap==0) (by kernel_rfl) (by kernel_rfl) (by kernel_rfl) (fun hc10=>?_) (fun hc10=>?_)
  ·refine RV.case 14 (bp==0) (by kernel_rfl) (by kernel_rfl) (by kernel_rfl) (fun hc11=>?_) (fun hc11=>?_)
   ·refine RVz ⟨[(0,.p 0 0),(3,.p 10 0),(4,.p 11 0),(31,VB (cp==0))],[(0,opsB g c),(10,jobB f op l at_ ap bt bp ct cp),(11,edB 0 0)]⟩ ?_
    refine TT.cond (b:=cp==0) (by kernel_rfl) (fun hc12=>?_) (fun hc12=>?_)
    ·refine TTa 20 ⟨[(4,.p 11 0),(5,V8 0)],[(11,edB 0 0)]⟩ ?_
     refine TTt Tryz.results60 (.v (Ed 0 0)) (V8 0) (fun _ _ h=>h) (fun ρ a w13 hs13=>?_)
     exact ⟨0,0,0,_,_,rfl,hs13.lands,(Grow.refl (engR_ok h).2.1 _),.inl ⟨rfl,(do_nilP hj hc9 hc10 hc11 hc12)⟩⟩
    ·refine TT.skip ?_
     refine TT.next ?_
     refine TT.seq (TTE 1 true [7] 20 ?_)
     refine RVc 7 45 (fun ρ=>[.pointer (some ⟨g,0,none⟩)]) [] (fun ρ w14 F14 hF14 hpk14=>?_)
     refine (engVars hF14).mono ?_
     rintro e14 w'14 ⟨rfl,hb14⟩
     refine ⟨V64 (n:Int),_,rfl,.of_below hF14 (by rw [← hb14];exact Below.refl _ _),?_⟩
     refine RVz ⟨[(0,.p 0 0),(3,.p 10 0),(4,.p 11 0),(41,VB ((IntKind.i64.wrap l)==(n:Int)))],[(0,opsB g c),(10,jobB f op l at_ ap bt bp ct cp),(11,edB 0 0)]⟩ ?_
     rw [hln]
     refine TTu (TT.next ?_)
     refine TT.seq (TTE 1 true [5] 20 ?_)
     refine RVc 5 78 (fun ρ=>[.pointer (some ⟨c,0,none⟩),.agg #[.int .u8 f,.int .u8 op,.int .u8 l,.int .u8 at_,.int .u32 ap,.int .u8 bt,.int .u32 bp,.int .u8 ct,.int .u32 cp]]) [] (fun ρ w15 F15 hF15 hpk15=>?_)
     refine (apGet hF15 (hj)).mono ?_
     rintro e15 w'15 ⟨ok15,t15,q15,rfl,hok15,hl15⟩
     cases ok15
     ·refine ⟨.v (.tuple #[Ed t15 q15,.bool false]),_,rfl,hl15,?_⟩
      refine RVz ⟨[(0,.p 0 0),(3,.p 10 0),(4,.p 11 0),(6,.p 29 0),(7,VB false)],[(0,opsB g c),(10,jobB f op l at_ ap bt bp ct cp),(11,edB 0 0),(29,edB t15 q15)]⟩ ?_
      refine TTa 30 ⟨[(0,.p 0 0),(3,.p 10 0),(4,.p 11 0),(6,.p 29 0),(76,VB false)],[(0,opsB g c),(10,jobB f op l at_ ap bt bp ct cp),(11,edB 0 0),(29,edB t15 q15)]⟩ ?_
      refine TTu (TT.next ?_)
      refine TTE 1 false [2] 30 ?_
      refine RVc 2 79 (fun ρ=>[.pointer (some ⟨ρ 0,0,none⟩),.agg #[.int .u8 f,.int .u8 op,.int .u8 l,.int .u8 at_,.int .u32 ap,.int .u8 bt,.int .u32 bp,.int .u8 ct,.int .u32 cp]]) [0] (fun ρ w16 F16 hF16 hpk16=>?_)
      refine (split_any hF16 (hpk16 0 (by simp) (opsB g c) (by kernel_rfl)).1 (hpk16 0 (by simp) (opsB g c) (by kernel_rfl)).2 hj HD).mono ?_
      rintro e16 w'16 ⟨t16,q16,code16,cs16,free16,rfl,hl16,hg16,(⟨rfl,hP16⟩|⟨rfl,rfl,rfl,hfl16⟩)⟩
      ·refine ⟨.v (.tuple #[Ed t16 q16,.int .u8 0]),_,rfl,hl16,?_⟩
       refine RVz ⟨[(0,.p 0 0),(3,.p 10 0),(4,.p 11 0),(8,.p 36 0),(9,V8 0)],[(0,opsB g c),(10,jobB f op l at_ ap bt bp ct cp),(11,edB 0 0),(36,edB t16 q16)]⟩ ?_
       refine TT.seq (TTa 40 ⟨[(0,.p 0 0),(3,.p 10 0),(4,.p 11 0),(8,.p 36 0),(9,V8 0),(85,VB true)],[(0,opsB g c),(10,jobB f op l at_ ap bt bp ct cp),(11,edB 0 0),(36,edB t16 q16)]⟩ ?_)
       refine TTy ?_
       refine TT.r (m:=1) true [6] 40 mixed (by kernel_rfl) ?_
       refine RVc 6 80 (fun ρ=>[.pointer (some ⟨c,0,none⟩),.agg #[.int .u8 f,.int .u8 op,.int .u8 l,.int .u8 at_,.int .u32 ap,.int .u8 bt,.int .u32 bp,.int .u8 ct,.int .u32 cp],Ed t16 q16]) [] (fun ρ w17 F17 hF17 hpk17=>?_)
       refine (apPut t16 q16 hF17 (hj.ext hg16.ext) hP16).mono ?_
       rintro e17 w'17 ⟨rfl,hl17⟩
       refine ⟨.v (.tuple #[]),_,rfl,hl17,?_⟩
       refine RV.fin (s':=⟨[(4,.p 11 0),(8,.p 36 0),(9,V8 0)],[(11,edB 0 0),(36,edB t16 q16)]⟩) (by kernel_rfl) (by kernel_rfl) ?_
       refine TT.next ?_
       refine TTa 40 ⟨[(4,.p 11 0),(5,V8 0)],[(11,edB t16 q16)]⟩ ?_
       refine TTt Tryz.results60 (.v (Ed t16 q16)) (V8 0) (fun _ _ h=>h) (fun ρ a w18 hs18=>?_)
       exact ⟨t16,q16,0,_,_,rfl,hs18.lands,hg16,.inl ⟨rfl,hP16⟩⟩
      ·refine ⟨.v (.tuple #[Ed 0 0,.int .u8 6]),_,rfl,hl16,?_⟩
       refine RVz ⟨[(0,.p 0 0),(3,.p 10 0),(4,.p 11 0),(8,.p 36 0),(9,V8 6)],[(0,opsB g c),(10,jobB f op l at_ ap bt bp ct cp),(11,edB 0 0),(36,edB 0 0)]⟩ ?_
       refine TT.seq (TTa 40 ⟨[(0,.p 0 0),(3,.p 10 0),(4,.p 11 0),(8,.p 36 0),(9,V8 6),(85,VB false)],[(0,opsB g c),(10,jobB f op l at_ ap bt bp ct cp),(11,edB 0 0),(36,edB 0 0)]⟩ ?_)
       refine TTu (TT.next ?_)
       refine TTa 40 ⟨[(4,.p 11 0),(5,V8 6)],[(11,edB 0 0)]⟩ ?_
       refine TTt Tryz.results60 (.v (Ed 0 0)) (V8 6) (fun _ _ h=>h) (fun ρ a w19 hs19=>?_)
       exact ⟨0,0,6,_,_,rfl,hs19.lands,hg16,.inr ⟨rfl,rfl,rfl,hfl16⟩⟩
     ·refine ⟨.v (.tuple #[Ed t15 q15,.bool true]),_,rfl,hl15,?_⟩
      refine RVz ⟨[(0,.p 0 0),(3,.p 10 0),(4,.p 11 0),(6,.p 29 0),(7,VB true)],[(0,opsB g c),(10,jobB f op l at_ ap bt bp ct cp),(11,edB 0 0),(29,edB t15 q15)]⟩ ?_
      refine TTa 30 ⟨[(0,.p 0 0),(3,.p 10 0),(4,.p 11 0),(6,.p 29 0),(76,VB true)],[(0,opsB g c),(10,jobB f op l at_ ap bt bp ct cp),(11,edB 0 0),(29,edB t15 q15)]⟩ ?_
      refine TTy ?_
      refine TTa 30 ⟨[(4,.p 11 0),(5,V8 0)],[(11,edB t15 q15)]⟩ ?_
      refine TTt Tryz.results60 (.v (Ed t15 q15)) (V8 0) (fun _ _ h=>h) (fun ρ a w20 hs20=>?_)
      exact ⟨t15,q15,0,_,_,rfl,hs20.lands,(Grow.refl (engR_ok h).2.1 _),.inl ⟨rfl,hok15 rfl⟩⟩
   ·exact RV.fin (s':=⟨[(0,.p 0 0),(3,.p 10 0),(4,.p 11 0),(31,VB false)],[(0,opsB g c),(10,jobB f op l at_ ap bt bp ct cp),(11,edB 0 0)]⟩) (by kernel_rfl) (by kernel_rfl) hj1
  ·refine RV.skip 14 (by kernel_rfl) (by kernel_rfl) ?_
   exact RV.fin (s':=⟨[(0,.p 0 0),(3,.p 10 0),(4,.p 11 0),(31,VB false)],[(0,opsB g c),(10,jobB f op l at_ ap bt bp ct cp),(11,edB 0 0)]⟩) (by kernel_rfl) (by kernel_rfl) hj1
 ·refine RV.skip 8 (by kernel_rfl) (by kernel_rfl) ?_
  refine RV.skip 14 (by kernel_rfl) (by kernel_rfl) ?_
  exact RV.fin (s':=⟨[(0,.p 0 0),(3,.p 10 0),(4,.p 11 0),(31,VB false)],[(0,opsB g c),(10,jobB f op l at_ ap bt bp ct cp),(11,edB 0 0)]⟩) (by kernel_rfl) (by kernel_rfl) hj1
set_option maxRecDepth 100000 in
set_option maxHeartbeats 4000000 in
theorem do_zero {g c n ek room o:Nat} {B:Bk} {cs:List (Option Rec)} {free:List Int} {F:List Nat} {w:World} {j:Jb} {x y z:BT} (h:(engR g n room ((ansB c n ek).sep B) cs free).at_ w F) (hO:Blk w o 95 #[.pointer (some ⟨g,0,none⟩),.pointer (some ⟨c,0,none⟩)]) (ho:¬o∈F) (hj:JobOk n cs j 0 x y z) :
  Calls Tryz.prog 60 #[.pointer (some ⟨o,0,none⟩),.agg j.cells.toArray] w (EOut (jobK 0) g n room ((ansB c n ek).sep B) F w cs (fun cs' ed=>IsE cs' j.f n ed j.l (ap3 j.op.toNat x y z))):=by
 have hf:=hj.f15
 have hlv:=hj.lv
 have hn16:=(engR_ok h).1.n16
 have hl0:=hj.wf.2.2.1.1
 obtain ⟨xa,rfl⟩:=hj.dx.zero
 obtain ⟨ya,rfl⟩:=hj.dy.zero
 obtain ⟨za,rfl⟩:=hj.dz.zero
 have e1:=isE_leaf hj.a
 have e2:=isE_leaf hj.b
 have e3:=isE_leaf hj.c
 have hop:=hj.wf.2.1
 obtain ⟨f,op,l,⟨at_,ap⟩,⟨bt,bp⟩,⟨ct,cp⟩⟩:=j
 simp only at hf hlv hl0 e1 e2 e3 hop
 have hlw:IntKind.i64.wrap l=(n:Int):=by rw [IntWalk.i64_in _ (by omega)];omega
 have hln:(IntKind.i64.wrap l==(n:Int))=true:=by rw [hlw];simp
 have hxa:decide (ap>0)=xa:=leaf_pos e1
 have hya:decide (bp>0)=ya:=leaf_pos e2
 have hza:decide (cp>0)=za:=leaf_pos e3
 obtain ⟨sh,hsh⟩:∃sh:Nat,sh=4*xa.toNat+2*ya.toNat+za.toNat:=⟨_,rfl⟩
 have hbit:(bits .and .u8 (op/2^sh) 1==1)=opB op.toNat xa ya za:=bit_opB hop hsh
 have leaf_yes:opB op.toNat xa ya za=true→∀{cs':List (Option Rec)},IsE cs' f n ⟨if f=5 then (n:Int) else 0,1⟩ l (.leaf (opB op.toNat xa ya za)):=fun e cs'=>by rw [e];exact rfl
 have leaf_no:opB op.toNat xa ya za=false→∀{cs':List (Option Rec)},IsE cs' f n ⟨0,0⟩ l (.leaf (opB op.toNat xa ya za)):=fun e cs'=>by rw [e];exact rfl
 refine TT.enter1 o (opsB g c) [.p 0 0,.v (.agg #[.int .u8 f,.int .u8 op,.int .u8 l,.int .u8 at_,.int .u32 ap,.int .u8 bt,.int .u32 bp,.int .u8 ct,.int .u32 cp])] _ Tryz.func60 rfl Tryz.ntmps60 rfl hO ho rfl (Nat.le_of_ble_eq_true rfl) h ?_
 refine TTa 10 ⟨[(0,.p 0 0),(3,.p 10 0),(4,.p 11 0)],[(0,opsB g c),(10,jobB f op l at_ ap bt bp ct cp),(11,edB 0 0)]⟩ ?_
 refine TT.seq (TTE 3 false [3,8,14] 20 ?_)
 refine RV.join ⟨[(0,.p 0 0),(3,.p 10 0),(4,.p 11 0),(31,VB false)],[(0,opsB g c),(10,jobB f op l at_ ap bt bp ct cp),(11,edB 0 0)]⟩ ?_ (fun hj1=>?_)
 ·refine TT.of ?_
  refine TTu (TT.next ?_)
  refine TT.seq (TTE 1 true [7] 20 ?_)
  refine RVc 7 45 (fun ρ=>[.pointer (some ⟨g,0,none⟩)]) [] (fun ρ w2 F2 hF2 hpk2=>?_)
  refine (engVars hF2).mono ?_
  rintro e2 w'2 ⟨rfl,hb2⟩
  refine ⟨V64 (n:Int),_,rfl,.of_below hF2 (by rw [← hb2];exact Below.refl _ _),?_⟩
  refine RVz ⟨[(0,.p 0 0),(3,.p 10 0),(4,.p 11 0),(41,VB ((IntKind.i64.wrap l)==(n:Int)))],[(0,opsB g c),(10,jobB f op l at_ ap bt bp ct cp),(11,edB 0 0)]⟩ ?_
  rw [hln]
  refine TTy ?_
  refine TT.seq (TTE 4 true [4,8,13,15] 20 ?_)
  refine RVc 4 77 (fun ρ=>[Ed at_ ap]) [] (fun ρ w3 F3 hF3 hpk3=>?_)
  refine (truth_leaf _ _ xa hxa hF3).mono ?_
  rintro e3 w'3 ⟨rfl,hl3⟩
  refine ⟨V8 (xa.toNat:Int),_,rfl,hl3,?_⟩
  refine RVc 8 77 (fun ρ=>[Ed bt bp]) [] (fun ρ w4 F4 hF4 hpk4=>?_)
  refine (truth_leaf _ _ ya hya hF4).mono ?_
  rintro e4 w'4 ⟨rfl,hl4⟩
  refine ⟨V8 (ya.toNat:Int),_,rfl,hl4,?_⟩
  refine RVc 13 77 (fun ρ=>[Ed ct cp]) [] (fun ρ w5 F5 hF5 hpk5=>?_)
  refine (truth_leaf _ _ za hza hF5).mono ?_
  rintro e5 w'5 ⟨rfl,hl5⟩
  refine ⟨V8 (za.toNat:Int),_,rfl,hl5,?_⟩
  refine RV.bin 15 .shr 5 (.int .u8 op) (.int .u8 (IntKind.u8.wrap ((IntKind.u8.wrap ((IntKind.u8.wrap (4*(xa.toNat:Int)))+(IntKind.u8.wrap (2*(ya.toNat:Int)))))+(za.toNat:Int)))) (.int .u8 (op/2^sh)) (by kernel_rfl) (by kernel_rfl) (by kernel_rfl) (fun x y w=>eqGuard_int _ _ _ _ _ _ _ _ w) (fun w=>shr_truth op xa ya za hsh w) ?_
  refine RVz ⟨[(3,.p 10 0),(4,.p 11 0),(59,VB ((bits .and .u8 (op/2^sh) 1)==1))],[(10,jobB f op l at_ ap bt bp ct cp),(11,edB 0 0)]⟩ ?_
  rw [hbit]
  refine TT.cond (b:=opB op.toNat xa ya za) (by kernel_rfl) (fun hc6=>?_) (fun hc6=>?_)
  ·refine TTE 2 false [4,5] 20 ?_
   refine RVp 4 (.int .i64 (IntKind.i64.wrap l)) (.int .i64 (n:Int)) (by rw [hlw]) ?_
   refine RVc 5 55 (fun ρ=>[.int .u8 f,.int .i64 (n:Int)]) [] (fun ρ w7 F7 hF7 hpk7=>?_)
   refine (one_leaf f n hF7 hf (by omega)).mono ?_
   rintro e7 w'7 ⟨rfl,hl7⟩
   refine ⟨.v (Ed (if f=5 then (n:Int) else 0) 1),_,rfl,hl7,?_⟩
   refine RVz ⟨[(4,.p 11 0),(5,V8 0)],[(11,edB (if f=5 then (n:Int) else 0) 1)]⟩ ?_
   refine TTt Tryz.results60 (.v (Ed (if f=5 then (n:Int) else 0) 1)) (V8 0) (fun _ _ h=>h) (fun ρ a w8 hs8=>?_)
   exact ⟨(if f=5 then (n:Int) else 0),1,0,_,_,rfl,hs8.lands,(Grow.refl (engR_ok h).2.1 _),.inl ⟨rfl,(leaf_yes hc6)⟩⟩
  ·refine TT.skip ?_
   refine TT.next ?_
   refine TTa 20 ⟨[(4,.p 11 0),(5,V8 0)],[(11,edB 0 0)]⟩ ?_
   refine TTt Tryz.results60 (.v (Ed 0 0)) (V8 0) (fun _ _ h=>h) (fun ρ a w9 hs9=>?_)
   exact ⟨0,0,0,_,_,rfl,hs9.lands,(Grow.refl (engR_ok h).2.1 _),.inl ⟨rfl,(leaf_no hc6)⟩⟩
 refine RV.case 3 ((bits .and .u8 op 1)==0) (by kernel_rfl) (by kernel_rfl) (by kernel_rfl) (fun hc10=>?_) (fun hc10=>?_)
 ·refine RV.case 8 (ap==0) (by kernel_rfl) (by kernel_rfl) (by kernel_rfl) (fun hc11=>?_) (fun hc11=>?_)
  ·refine RV.case 14 (bp==0) (by kernel_rfl) (by kernel_rfl) (by kernel_rfl) (fun hc12=>?_) (fun hc12=>?_)
   ·refine RVz ⟨[(0,.p 0 0),(3,.p 10 0),(4,.p 11 0),(31,VB (cp==0))],[(0,opsB g c),(10,jobB f op l at_ ap bt bp ct cp),(11,edB 0 0)]⟩ ?_
    refine TT.cond (b:=cp==0) (by kernel_rfl) (fun hc13=>?_) (fun hc13=>?_)
    ·refine TTa 20 ⟨[(4,.p 11 0),(5,V8 0)],[(11,edB 0 0)]⟩ ?_
     refine TTt Tryz.results60 (.v (Ed 0 0)) (V8 0) (fun _ _ h=>h) (fun ρ a w14 hs14=>?_)
     exact ⟨0,0,0,_,_,rfl,hs14.lands,(Grow.refl (engR_ok h).2.1 _),.inl ⟨rfl,(do_nilP hj hc10 hc11 hc12 hc13)⟩⟩
    ·refine TT.skip ?_
     refine TT.next ?_
     refine TT.seq (TTE 1 true [7] 20 ?_)
     refine RVc 7 45 (fun ρ=>[.pointer (some ⟨g,0,none⟩)]) [] (fun ρ w15 F15 hF15 hpk15=>?_)
     refine (engVars hF15).mono ?_
     rintro e15 w'15 ⟨rfl,hb15⟩
     refine ⟨V64 (n:Int),_,rfl,.of_below hF15 (by rw [← hb15];exact Below.refl _ _),?_⟩
     refine RVz ⟨[(0,.p 0 0),(3,.p 10 0),(4,.p 11 0),(41,VB ((IntKind.i64.wrap l)==(n:Int)))],[(0,opsB g c),(10,jobB f op l at_ ap bt bp ct cp),(11,edB 0 0)]⟩ ?_
     rw [hln]
     refine TTy ?_
     refine TT.seq (TTE 4 true [4,8,13,15] 20 ?_)
     refine RVc 4 77 (fun ρ=>[Ed at_ ap]) [] (fun ρ w16 F16 hF16 hpk16=>?_)
     refine (truth_leaf _ _ xa hxa hF16).mono ?_
     rintro e16 w'16 ⟨rfl,hl16⟩
     refine ⟨V8 (xa.toNat:Int),_,rfl,hl16,?_⟩
     refine RVc 8 77 (fun ρ=>[Ed bt bp]) [] (fun ρ w17 F17 hF17 hpk17=>?_)
     refine (truth_leaf _ _ ya hya hF17).mono ?_
     rintro e17 w'17 ⟨rfl,hl17⟩
     refine ⟨V8 (ya.toNat:Int),_,rfl,hl17,?_⟩
     refine RVc 13 77 (fun ρ=>[Ed ct cp]) [] (fun ρ w18 F18 hF18 hpk18=>?_)
     refine (truth_leaf _ _ za hza hF18).mono ?_
     rintro e18 w'18 ⟨rfl,hl18⟩
     refine ⟨V8 (za.toNat:Int),_,rfl,hl18,?_⟩
     refine RV.bin 15 .shr 5 (.int .u8 op) (.int .u8 (IntKind.u8.wrap ((IntKind.u8.wrap ((IntKind.u8.wrap (4*(xa.toNat:Int)))+(IntKind.u8.wrap (2*(ya.toNat:Int)))))+(za.toNat:Int)))) (.int .u8 (op/2^sh)) (by kernel_rfl) (by kernel_rfl) (by kernel_rfl) (fun x y w=>eqGuard_int _ _ _ _ _ _ _ _ w) (fun w=>shr_truth op xa ya za hsh w) ?_
     refine RVz ⟨[(3,.p 10 0),(4,.p 11 0),(59,VB ((bits .and .u8 (op/2^sh) 1)==1))],[(10,jobB f op l at_ ap bt bp ct cp),(11,edB 0 0)]⟩ ?_
     rw [hbit]
     refine TT.cond (b:=opB op.toNat xa ya za) (by kernel_rfl) (fun hc19=>?_) (fun hc19=>?_)
     ·refine TTE 2 false [4,5] 20 ?_
      refine RVp 4 (.int .i64 (IntKind.i64.wrap l)) (.int .i64 (n:Int)) (by rw [hlw]) ?_
      refine RVc 5 55 (fun ρ=>[.int .u8 f,.int .i64 (n:Int)]) [] (fun ρ w20 F20 hF20 hpk20=>?_)
      refine (one_leaf f n hF20 hf (by omega)).mono ?_
      rintro e20 w'20 ⟨rfl,hl20⟩
      refine ⟨.v (Ed (if f=5 then (n:Int) else 0) 1),_,rfl,hl20,?_⟩
      refine RVz ⟨[(4,.p 11 0),(5,V8 0)],[(11,edB (if f=5 then (n:Int) else 0) 1)]⟩ ?_
      refine TTt Tryz.results60 (.v (Ed (if f=5 then (n:Int) else 0) 1)) (V8 0) (fun _ _ h=>h) (fun ρ a w21 hs21=>?_)
      exact ⟨(if f=5 then (n:Int) else 0),1,0,_,_,rfl,hs21.lands,(Grow.refl (engR_ok h).2.1 _),.inl ⟨rfl,(leaf_yes hc19)⟩⟩
     ·refine TT.skip ?_
      refine TT.next ?_
      refine TTa 20 ⟨[(4,.p 11 0),(5,V8 0)],[(11,edB 0 0)]⟩ ?_
      refine TTt Tryz.results60 (.v (Ed 0 0)) (V8 0) (fun _ _ h=>h) (fun ρ a w22 hs22=>?_)
      exact ⟨0,0,0,_,_,rfl,hs22.lands,(Grow.refl (engR_ok h).2.1 _),.inl ⟨rfl,(leaf_no hc19)⟩⟩
   ·exact RV.fin (s':=⟨[(0,.p 0 0),(3,.p 10 0),(4,.p 11 0),(31,VB false)],[(0,opsB g c),(10,jobB f op l at_ ap bt bp ct cp),(11,edB 0 0)]⟩) (by kernel_rfl) (by kernel_rfl) hj1
  ·refine RV.skip 14 (by kernel_rfl) (by kernel_rfl) ?_
   exact RV.fin (s':=⟨[(0,.p 0 0),(3,.p 10 0),(4,.p 11 0),(31,VB false)],[(0,opsB g c),(10,jobB f op l at_ ap bt bp ct cp),(11,edB 0 0)]⟩) (by kernel_rfl) (by kernel_rfl) hj1
 ·refine RV.skip 8 (by kernel_rfl) (by kernel_rfl) ?_
  refine RV.skip 14 (by kernel_rfl) (by kernel_rfl) ?_
  exact RV.fin (s':=⟨[(0,.p 0 0),(3,.p 10 0),(4,.p 11 0),(31,VB false)],[(0,opsB g c),(10,jobB f op l at_ ap bt bp ct cp),(11,edB 0 0)]⟩) (by kernel_rfl) (by kernel_rfl) hj1
theorem doAny {g c n ek room:Nat} {B:Bk} (m:Nat) (f op:Int):DoAny g c n ek room B m f op:=by
 induction m with
 | zero=>exact fun cs free j x y z o F w h hO ho hj _ _=>do_zero h hO ho hj
 | succ m ih=>
  intro cs free j x y z o F w h hO ho hj e1 e2
  subst e1 e2
  exact do_succ h hO ho hj ih
def half (i:Nat):Int:=((i/2:Nat):Int)
def wdS (op:Int) (i:Nat):Int:=op.fdiv (2^(i/2))
def wdB (op:Int) (i:Nat):Int:=IntKind.i64.wrap (bits .and .i64 (wdS op i) 1*2^i)
def wd (op:Int):Nat→Int
 | 0=>0
 | i+1=>bits .or .i64 (wd op i) (wdB op i)
theorem wd_succ (op:Int) (i:Nat):wd op (i+1)=bits .or .i64 (wd op i) (wdB op i):=rfl
theorem lt8 {p:Nat→Prop} {i:Nat} (h:i<8) (h0:p 0) (h1:p 1) (h2:p 2) (h3:p 3) (h4:p 4) (h5:p 5) (h6:p 6) (h7:p 7):p i:=by
 match i,h with
 | 0,_=>exact h0
 | 1,_=>exact h1
 | 2,_=>exact h2
 | 3,_=>exact h3
 | 4,_=>exact h4
 | 5,_=>exact h5
 | 6,_=>exact h6
 | 7,_=>exact h7
theorem wd_quo {i:Nat} (h:i<8) (w:World):(binOp .quo 3 (.int .i64 (i:Int)) (.int .i64 2)).run Tryz.prog w = .ok (.int .i64 (half i)) w:=by
 refine lt8 (p:=fun i=>(binOp .quo 3 (.int .i64 (i:Int)) (.int .i64 2)).run Tryz.prog w = .ok (.int .i64 (half i)) w) h ?_ ?_ ?_ ?_ ?_ ?_ ?_ ?_<;>rfl
theorem wd_shr (op:Int) {i:Nat} (h:i<8) (w:World):(binOp .shr 3 (.int .i64 op) (.int .i64 (half i))).run Tryz.prog w = .ok (.int .i64 (wdS op i)) w:=by
 refine lt8 (p:=fun i=>(binOp .shr 3 (.int .i64 op) (.int .i64 (half i))).run Tryz.prog w = .ok (.int .i64 (wdS op i)) w) h ?_ ?_ ?_ ?_ ?_ ?_ ?_ ?_<;>rfl
theorem wd_shl (op:Int) {i:Nat} (h:i<8) (w:World):(binOp .shl 3 (.int .i64 (bits .and .i64 (wdS op i) 1)) (.int .i64 (i:Int))).run Tryz.prog w = .ok (.int .i64 (wdB op i)) w:=by
 refine lt8 (p:=fun i=>(binOp .shl 3 (.int .i64 (bits .and .i64 (wdS op i) 1)) (.int .i64 (i:Int))).run Tryz.prog w = .ok (.int .i64 (wdB op i)) w) h ?_ ?_ ?_ ?_ ?_ ?_ ?_ ?_<;>rfl
theorem wideW {R:Res} {F:List Nat} {w:World} (op:Int) (h:R.at_ w F):Calls Tryz.prog 49 #[.int .i64 op] w (Says (.int .i64 (wd op 8)) R F w):=by
 refine TTg [V64 op] Tryz.func49 Tryz.ntmps49 h ?_
 refine TTa 0 ⟨[(0,V64 op)],[]⟩ ?_
 refine TTa 0 ⟨[(0,V64 op),(3,V64 0)],[]⟩ ?_
 refine TT.seq (TTa 0 ⟨[(0,V64 op),(3,V64 0),(5,V64 0)],[]⟩ ?_)
 refine TT.block ?_
 refine TT.loop (ι:=Nat) (fun i=>i≤8) (fun i=>⟨[(0,V64 op),(3,V64 (wd op i)),(5,V64 (i:Int))],[]⟩) (fun i=>R) (fun i=>8-i) 0 (by omega) rfl rfl (fun i hi1=>?_)
 have hstep:i<8→IntKind.i64.wrap ((i:Int)+1)=((i+1:Nat):Int):=fun h=>by rw [IntWalk.i64_in _ (by omega)];omega
 refine TTa 0 ⟨[(0,V64 op),(3,V64 (wd op i)),(5,V64 (i:Int)),(6,VB (decide ((i:Int)<8)))],[]⟩ ?_
 refine TT.seq ?_
 refine TT.cond (b:=decide ((i:Int)<8)) (by kernel_rfl) (fun hc2=>?_) (fun hc2=>?_)
 ·have hi8:i<8:=by simp only [decide_eq_true_eq] at hc2;omega
  refine TT.skip ?_
  refine TT.next ?_
  refine TT.seq ?_
  refine TT.block ?_
  refine TTa 0 ⟨[(0,V64 op),(3,V64 (wd op i)),(4,V64 (i:Int)),(5,V64 (i:Int))],[]⟩ ?_
  refine TT.r (m:=3) false [3,4,7] 0 mixed (by kernel_rfl) ?_
  refine RV.bin 3 .quo 3 (.int .i64 (i:Int)) (.int .i64 2) (.int .i64 (half i)) (by kernel_rfl) (by kernel_rfl) (by kernel_rfl) (fun x y w=>eqGuard_int _ _ _ _ _ _ _ _ w) (fun w=>wd_quo hi8 w) ?_
  refine RV.bin 4 .shr 3 (.int .i64 op) (.int .i64 (half i)) (.int .i64 (wdS op i)) (by kernel_rfl) (by kernel_rfl) (by kernel_rfl) (fun x y w=>eqGuard_int _ _ _ _ _ _ _ _ w) (fun w=>wd_shr op hi8 w) ?_
  refine RV.bin 7 .shl 3 (.int .i64 (bits .and .i64 (wdS op i) 1)) (.int .i64 (i:Int)) (.int .i64 (wdB op i)) (by kernel_rfl) (by kernel_rfl) (by kernel_rfl) (fun x y w=>eqGuard_int _ _ _ _ _ _ _ _ w) (fun w=>wd_shl op hi8 w) ?_
  refine RV.fin (s':=⟨[(0,V64 op),(3,V64 (bits .or .i64 (wd op i) (wdB op i))),(5,V64 (i:Int))],[]⟩) (by kernel_rfl) (by kernel_rfl) ?_
  rw [← wd_succ op i]
  refine TT.next ?_
  refine TT.p0 (s':=⟨[(0,V64 op),(3,V64 (wd op (i+1))),(5,V64 (IntKind.i64.wrap ((i:Int)+1)))],[]⟩) 0 (by kernel_rfl) ?_
  rw [hstep hi8]
  exact fun ρ a w hs=>⟨ρ,i+1,by omega,by omega,hs⟩
 ·have hi8:i=8:=by simp only [decide_eq_false_iff_not] at hc2;omega
  refine TTx ?_
  refine TT.next ?_
  refine TTa 0 ⟨[(2,V64 (wd op i))],[]⟩ ?_
  refine TTs Tryz.results49 (V64 (wd op i)) (fun _ _ h=>h) (fun ρ a w3 hs3=>?_)
  exact ⟨by rw [hi8];rfl,hs3.lands⟩
theorem isForm_yes {f:Int} (h:1≤f∧f≤5) (w:World):Calls Tryz.prog 39 #[.int .u8 f] w fun e w'=>e = .returned (.bool true)∧w=w':=
 (isForm_any f w).mono fun e w' ⟨h1,h2⟩=>⟨by rw [h1];unfold isFormB;rw [decide_eq_true h],h2⟩
theorem engLeads {g n room:Nat} {B:Bk} {F:List Nat} {w:World} {cs:List (Option Rec)} {free:List Int} {f l t q:Int} (h:(engR g n room B cs free).at_ w F) (hf:1≤f∧f≤5) (he:Edg.Wf ⟨t,q⟩) :
  Calls Tryz.prog 59 #[.pointer (some ⟨g,0,none⟩),.int .u8 f,Ed t q,.int .i64 l] w (Says (.bool (leads cs n f ⟨t,q⟩ l)) (engR g n room B cs free) F w):=by
 have hk:=h
 obtain ⟨F1,F2,h0,h1,h2,h3⟩:=h
 refine (leads_any F1 g n room cs free f ⟨t,q⟩ l w h1.1 (by omega) he).mono ?_
 rintro e w' ⟨rfl,hb⟩
 exact ⟨rfl,.of_below hk hb⟩
theorem isE_leads {n room:Nat} {cs:List (Option Rec)} {free:List Int} {f l:Int} {e:Edg} {m:Nat} {x:BT} (hok:StOk n room cs free) (hf:1≤f∧f≤5) (hx:x.Dep m) (hl:l+m=n) (h0:0≤l) (h:IsE cs f n e l x):leads cs n f e l=true:=by
 have hg:=can_good (n:=(n:Int)) hf x l m hx hl h0
 exact leads_of (by have:=hok.n16;omega) hf ⟨h0,by omega⟩ h hg.1 hg.2
def opB2 (op:Nat) (a b:Bool):Bool:=op.testBit (2*a.toNat+b.toNat)
def ap2 (op:Nat):BT→BT→BT
 | .leaf a,.leaf b=> .leaf (opB2 op a b)
 | .br a a',.br b b'=> .br (ap2 op a b) (ap2 op a' b')
 | _,_=> .leaf false
theorem ap2_dep (op:Nat):∀(m:Nat) (x y:BT),x.Dep m→y.Dep m→(ap2 op x y).Dep m
 | 0,x,y,hx,hy=>by
  obtain ⟨a,rfl⟩:=hx.zero
  obtain ⟨b,rfl⟩:=hy.zero
  rfl
 | m+1,x,y,hx,hy=>by
  obtain ⟨x0,x1,rfl,d1,d2⟩:=hx.split
  obtain ⟨y0,y1,rfl,d3,d4⟩:=hy.split
  exact .mk (ap2_dep op m _ _ d1 d3) (ap2_dep op m _ _ d2 d4)
theorem wd_all:∀k:Fin 16,(0≤wd ((k.val:Nat):Int) 8∧wd ((k.val:Nat):Int) 8≤255)∧∀a b c:Bool,opB (wd ((k.val:Nat):Int) 8).toNat a b c=opB2 k.val a b:=by decide +kernel
theorem wd_op {op:Int} (h:0≤op∧op≤15):(0≤wd op 8∧wd op 8≤255)∧∀a b c:Bool,opB (wd op 8).toNat a b c=opB2 op.toNat a b:=by
 obtain ⟨k,rfl⟩:=Int.eq_ofNat_of_zero_le h.1
 exact wd_all ⟨k,by omega⟩
theorem ap2_wide' {op:Int} (h:0≤op∧op≤15):∀(m:Nat) (x y:BT),x.Dep m→y.Dep m→ap3 (wd op 8).toNat x y (.zeros m)=ap2 op.toNat x y
 | 0,x,y,hx,hy=>by
  obtain ⟨a,rfl⟩:=hx.zero
  obtain ⟨b,rfl⟩:=hy.zero
  exact congrArg BT.leaf ((wd_op h).2 a b false)
 | m+1,x,y,hx,hy=>by
  obtain ⟨x0,x1,rfl,d1,d2⟩:=hx.split
  obtain ⟨y0,y1,rfl,d3,d4⟩:=hy.split
  show BT.br _ _=BT.br _ _
  rw [ap2_wide' h m _ _ d1 d3,ap2_wide' h m _ _ d2 d4]
theorem ap2_wide {op:Int} {m:Nat} {x y:BT} (h:0≤op∧op≤15) (hx:x.Dep m) (hy:y.Dep m):ap3 (wd op 8).toNat x y (.zeros m)=ap2 op.toNat x y:=ap2_wide' h m x y hx hy
theorem isE_zeros {cs:List (Option Rec)} {f n l:Int} {m:Nat}:IsE cs f n ⟨0,0⟩ l (.zeros m):=by
 unfold IsE
 rw [can_zeros]
 rfl
theorem jobOk2 {n:Nat} {cs:List (Option Rec)} {f op at_ ap bt bp:Int} {x y:BT} (hf:1≤f∧f≤5) (hn:n≤16) (hop:0≤op∧op≤15) (hx:x.Dep n) (hy:y.Dep n) (ha:IsE cs f n ⟨at_,ap⟩ 0 x) (hb:IsE cs f n ⟨bt,bp⟩ 0 y) (hwa:Edg.Wf ⟨at_,ap⟩) (hwb:Edg.Wf ⟨bt,bp⟩):JobOk n cs ⟨f,wd op 8,0,⟨at_,ap⟩,⟨bt,bp⟩,⟨0,0⟩⟩ n x y (.zeros n):=
 ⟨⟨by simp only;omega,(wd_op hop).1,⟨Int.le_refl 0,by simp only;omega⟩,hwa,hwb,Edg.nil_wf⟩,hf,by simp,hx,hy,BT.zeros_dep n,ha,hb,isE_zeros⟩
set_option maxRecDepth 100000 in
set_option maxHeartbeats 4000000 in
theorem atA {g c n ek room m o:Nat} {B:Bk} {cs:List (Option Rec)} {free:List Int} {F:List Nat} {w:World} {f op l at_ ap bt bp ct cp:Int} {x y z:BT} (h:(engR g n room ((ansB c n ek).sep B) cs free).at_ w F) (hO:Blk w o 95 #[.pointer (some ⟨g,0,none⟩),.pointer (some ⟨c,0,none⟩)]) (ho:¬o∈F) (hj:JobOk n cs ⟨f,op,l,⟨at_,ap⟩,⟨bt,bp⟩,⟨ct,cp⟩⟩ m x y z) :
  Calls Tryz.prog 48 #[.pointer (some ⟨o,0,none⟩),.int .u8 f,.int .i64 op,.int .i64 l,Ed at_ ap,Ed bt bp,Ed ct cp] w (EOut (jobK m) g n room ((ansB c n ek).sep B) F w cs (fun cs' ed=>IsE cs' f n ed l (ap3 op.toNat x y z))):=by
 have hf:=hj.f15
 have hlv:=hj.lv
 have hn16:=(engR_ok h).1.n16
 have hl0:=hj.wf.2.2.1.1
 have hop:=hj.wf.2.1
 simp only at hf hlv hl0 hop
 have hl1:decide (l<0)=false:=by simp;omega
 have hl2:decide (l>(n:Int))=false:=by simp;omega
 have ho1:decide (op<0)=false:=by simp;omega
 have ho2:decide (op≥256)=false:=by simp;omega
 have ho8:IntKind.u8.wrap op=op:=IntWalk.u8_in _ (by omega)
 have hl8:IntKind.u8.wrap l=l:=IntWalk.u8_in _ (by omega)
 refine TT.enter1 o (opsB g c) [.p 0 0,V8 f,V64 op,V64 l,.v (Ed at_ ap),.v (Ed bt bp),.v (Ed ct cp)] _ Tryz.func48 rfl Tryz.ntmps48 rfl hO ho rfl (Nat.le_of_ble_eq_true rfl) h ?_
 refine TTa 10 ⟨[(0,.p 0 0),(1,V8 f),(2,V64 op),(3,V64 l),(11,.p 10 0),(12,.p 11 0),(13,.p 12 0),(14,.p 13 0)],[(0,opsB g c),(10,edB at_ ap),(11,edB bt bp),(12,edB ct cp),(13,edB 0 0)]⟩ ?_
 refine TT.seq ?_
 refine TT.block ?_
 refine TTa 20 ⟨[(0,.p 0 0),(1,V8 f),(2,V64 op),(3,V64 l),(11,.p 10 0),(12,.p 11 0),(13,.p 12 0),(14,.p 13 0),(16,VB false)],[(0,opsB g c),(10,edB at_ ap),(11,edB bt bp),(12,edB ct cp),(13,edB 0 0)]⟩ ?_
 refine TTn ?_
 refine TTE 1 false [1] 20 ?_
 refine RVc 1 39 (fun ρ=>[.int .u8 f]) [] (fun ρ w1 F1 hF1 hpk1=>?_)
 refine (isForm_yes hf _).mono ?_
 rintro e1 w'1 ⟨rfl,hb1⟩
 refine ⟨VB true,_,rfl,.of_below hF1 (by rw [← hb1];exact Below.refl _ _),?_⟩
 refine RVz ⟨[(0,.p 0 0),(1,V8 f),(2,V64 op),(3,V64 l),(11,.p 10 0),(12,.p 11 0),(13,.p 12 0),(14,.p 13 0),(20,VB false)],[(0,opsB g c),(10,edB at_ ap),(11,edB bt bp),(12,edB ct cp),(13,edB 0 0)]⟩ ?_
 refine TTn ?_
 refine TTE 3 false [1,8,9] 20 ?_
 refine RVp 1 (.bool (decide (l<0))) (.bool false) (by rw [hl1]) ?_
 refine RVc 8 45 (fun ρ=>[.pointer (some ⟨g,0,none⟩)]) [] (fun ρ w2 F2 hF2 hpk2=>?_)
 refine (engVars hF2).mono ?_
 rintro e2 w'2 ⟨rfl,hb2⟩
 refine ⟨V64 (n:Int),_,rfl,.of_below hF2 (by rw [← hb2];exact Below.refl _ _),?_⟩
 refine RVp 9 (.bool (decide (l>(n:Int)))) (.bool false) (by rw [hl2]) ?_
 refine RVz ⟨[(0,.p 0 0),(1,V8 f),(2,V64 op),(3,V64 l),(11,.p 10 0),(12,.p 11 0),(13,.p 12 0),(14,.p 13 0),(25,VB false)],[(0,opsB g c),(10,edB at_ ap),(11,edB bt bp),(12,edB ct cp),(13,edB 0 0)]⟩ ?_
 refine TTn ?_
 refine TTE 2 false [1,4] 20 ?_
 refine RVp 1 (.bool (decide (op<0))) (.bool false) (by rw [ho1]) ?_
 refine RVp 4 (.bool (decide (op≥256))) (.bool false) (by rw [ho2]) ?_
 refine RVz ⟨[(0,.p 0 0),(1,V8 f),(2,V64 op),(3,V64 l),(11,.p 10 0),(12,.p 11 0),(13,.p 12 0),(14,.p 13 0),(38,VB false)],[(0,opsB g c),(10,edB at_ ap),(11,edB bt bp),(12,edB ct cp),(13,edB 0 0)]⟩ ?_
 refine TTn ?_
 refine TTE 3 true [7,17,28] 20 ?_
 refine RVc 7 59 (fun ρ=>[.pointer (some ⟨g,0,none⟩),.int .u8 f,Ed at_ ap,.int .i64 l]) [] (fun ρ w3 F3 hF3 hpk3=>?_)
 refine (engLeads hF3 hf (l:=l) hj.wf.2.2.2.1).mono ?_
 rintro e3 w'3 ⟨rfl,hl3⟩
 have hL3:=isE_leads (engR_ok hF3).1 hf hj.dx hj.lv hl0 hj.a
 refine ⟨VB true,_,by rw [← hL3];rfl,hl3,?_⟩
 refine RVc 17 59 (fun ρ=>[.pointer (some ⟨g,0,none⟩),.int .u8 f,Ed bt bp,.int .i64 l]) [] (fun ρ w4 F4 hF4 hpk4=>?_)
 refine (engLeads hF4 hf (l:=l) hj.wf.2.2.2.2.1).mono ?_
 rintro e4 w'4 ⟨rfl,hl4⟩
 have hL4:=isE_leads (engR_ok hF4).1 hf hj.dy hj.lv hl0 hj.b
 refine ⟨VB true,_,by rw [← hL4];rfl,hl4,?_⟩
 refine RVc 28 59 (fun ρ=>[.pointer (some ⟨g,0,none⟩),.int .u8 f,Ed ct cp,.int .i64 l]) [] (fun ρ w5 F5 hF5 hpk5=>?_)
 refine (engLeads hF5 hf (l:=l) hj.wf.2.2.2.2.2).mono ?_
 rintro e5 w'5 ⟨rfl,hl5⟩
 have hL5:=isE_leads (engR_ok hF5).1 hf hj.dz hj.lv hl0 hj.c
 refine ⟨VB true,_,by rw [← hL5];rfl,hl5,?_⟩
 refine RVz ⟨[(0,.p 0 0),(1,V8 f),(2,V64 op),(3,V64 l),(11,.p 10 0),(12,.p 11 0),(13,.p 12 0),(14,.p 13 0),(46,VB false)],[(0,opsB g c),(10,edB at_ ap),(11,edB bt bp),(12,edB ct cp),(13,edB 0 0)]⟩ ?_
 refine TTu (TT.next ?_)
 refine TTE 3 false [3,5,10] 20 ?_
 refine RVp 3 (.int .u8 (IntKind.u8.wrap op)) (.int .u8 op) (by rw [ho8]) ?_
 refine RVp 5 (.int .u8 (IntKind.u8.wrap l)) (.int .u8 l) (by rw [hl8]) ?_
 refine RVc 10 60 (fun ρ=>[.pointer (some ⟨ρ 0,0,none⟩),.agg #[.int .u8 f,.int .u8 op,.int .u8 l,.int .u8 at_,.int .u32 ap,.int .u8 bt,.int .u32 bp,.int .u8 ct,.int .u32 cp]]) [0] (fun ρ w6 F6 hF6 hpk6=>?_)
 refine (doAny m f op cs free ⟨f,op,l,⟨at_,ap⟩,⟨bt,bp⟩,⟨ct,cp⟩⟩ x y z _ _ _ hF6 (hpk6 0 (by simp) (opsB g c) (by kernel_rfl)).1 (hpk6 0 (by simp) (opsB g c) (by kernel_rfl)).2 hj rfl rfl).mono ?_
 rintro e6 w'6 ⟨t6,q6,code6,cs6,free6,rfl,hl6,hg6,(⟨rfl,hP6⟩|⟨rfl,rfl,rfl,hfl6⟩)⟩
 ·refine ⟨.v (.tuple #[Ed t6 q6,.int .u8 0]),_,rfl,hl6,?_⟩
  refine RVz ⟨[(14,.p 13 0),(15,V8 0)],[(13,edB t6 q6)]⟩ ?_
  refine TTt Tryz.results48 (.v (Ed t6 q6)) (V8 0) (fun _ _ h=>h) (fun ρ a w7 hs7=>?_)
  exact ⟨t6,q6,0,_,_,rfl,hs7.lands,hg6,.inl ⟨rfl,hP6⟩⟩
 ·refine ⟨.v (.tuple #[Ed 0 0,.int .u8 6]),_,rfl,hl6,?_⟩
  refine RVz ⟨[(14,.p 13 0),(15,V8 6)],[(13,edB 0 0)]⟩ ?_
  refine TTt Tryz.results48 (.v (Ed 0 0)) (V8 6) (fun _ _ h=>h) (fun ρ a w8 hs8=>?_)
  exact ⟨0,0,6,_,_,rfl,hs8.lands,hg6,.inr ⟨rfl,rfl,rfl,hfl6⟩⟩
set_option maxRecDepth 100000 in
theorem applyA {g c n ek room o:Nat} {B:Bk} {cs:List (Option Rec)} {free:List Int} {F:List Nat} {w:World} {f op at_ ap bt bp:Int} {x y:BT} (h:(engR g n room ((ansB c n ek).sep B) cs free).at_ w F) (hO:Blk w o 95 #[.pointer (some ⟨g,0,none⟩),.pointer (some ⟨c,0,none⟩)]) (ho:¬o∈F) (hf:1≤f∧f≤5) (hop:0≤op∧op≤15) (hx:x.Dep n) (hy:y.Dep n) (ha:IsE cs f n ⟨at_,ap⟩ 0 x) (hb:IsE cs f n ⟨bt,bp⟩ 0 y) :
  Calls Tryz.prog 29 #[.pointer (some ⟨o,0,none⟩),.int .u8 f,.int .i64 op,Ed at_ ap,Ed bt bp] w (EOut (jobK n) g n room ((ansB c n ek).sep B) F w cs (fun cs' ed=>IsE cs' f n ed 0 (ap2 op.toNat x y))):=by
 have hok:=(engR_ok h).1
 have hn16:=hok.n16
 have hwa:=ha.wf hok hf hx (by omega) (Int.le_refl 0)
 have hwb:=hb.wf hok hf hy (by omega) (Int.le_refl 0)
 have ho1:decide (op<0)=false:=by simp;omega
 have ho2:decide (op≥16)=false:=by simp;omega
 refine TT.enter1 o (opsB g c) [.p 0 0,V8 f,V64 op,.v (Ed at_ ap),.v (Ed bt bp)] _ Tryz.func29 rfl Tryz.ntmps29 rfl hO ho rfl (Nat.le_of_ble_eq_true rfl) h ?_
 refine TTa 10 ⟨[(0,.p 0 0),(1,V8 f),(2,V64 op),(8,.p 10 0),(9,.p 11 0),(10,.p 12 0)],[(0,opsB g c),(10,edB at_ ap),(11,edB bt bp),(12,edB 0 0)]⟩ ?_
 refine TT.seq (TTE 2 false [1,4] 20 ?_)
 refine RVp 1 (.bool (decide (op<0))) (.bool false) (by rw [ho1]) ?_
 refine RVp 4 (.bool (decide (op≥16))) (.bool false) (by rw [ho2]) ?_
 refine RVz ⟨[(0,.p 0 0),(1,V8 f),(2,V64 op),(8,.p 10 0),(9,.p 11 0),(10,.p 12 0),(17,VB false)],[(0,opsB g c),(10,edB at_ ap),(11,edB bt bp),(12,edB 0 0)]⟩ ?_
 refine TTu (TT.next ?_)
 refine TTE 2 true [3,7] 20 ?_
 refine RVc 3 49 (fun ρ=>[.int .i64 op]) [] (fun ρ w1 F1 hF1 hpk1=>?_)
 refine (wideW op hF1).mono ?_
 rintro e1 w'1 ⟨rfl,hl1⟩
 refine ⟨V64 (wd op 8),_,rfl,hl1,?_⟩
 refine RVc 7 48 (fun ρ=>[.pointer (some ⟨ρ 0,0,none⟩),.int .u8 f,.int .i64 (wd op 8),.int .i64 0,Ed at_ ap,Ed bt bp,Ed 0 0]) [0] (fun ρ w2 F2 hF2 hpk2=>?_)
 refine (atA hF2 (hpk2 0 (by simp) (opsB g c) (by kernel_rfl)).1 (hpk2 0 (by simp) (opsB g c) (by kernel_rfl)).2 (jobOk2 hf hn16 hop hx hy ha hb hwa hwb)).mono ?_
 rintro e2 w'2 ⟨t2,q2,code2,cs2,free2,rfl,hl2,hg2,(⟨rfl,hP2⟩|⟨rfl,rfl,rfl,hfl2⟩)⟩
 ·refine ⟨.v (.tuple #[Ed t2 q2,.int .u8 0]),_,rfl,hl2,?_⟩
  refine RVz ⟨[(10,.p 12 0),(11,V8 0)],[(12,edB t2 q2)]⟩ ?_
  refine TTt Tryz.results29 (.v (Ed t2 q2)) (V8 0) (fun _ _ h=>h) (fun ρ a w3 hs3=>?_)
  exact ⟨t2,q2,0,_,_,rfl,hs3.lands,hg2,.inl ⟨rfl,ap2_wide hop hx hy▸hP2⟩⟩
 ·refine ⟨.v (.tuple #[Ed 0 0,.int .u8 6]),_,rfl,hl2,?_⟩
  refine RVz ⟨[(10,.p 12 0),(11,V8 6)],[(12,edB 0 0)]⟩ ?_
  refine TTt Tryz.results29 (.v (Ed 0 0)) (V8 6) (fun _ _ h=>h) (fun ρ a w4 hs4=>?_)
  exact ⟨0,0,6,_,_,rfl,hs4.lands,hg2,.inr ⟨rfl,rfl,rfl,hfl2⟩⟩
end
end Go.Proofs.YtnlmlehcpngcgaaGreat
