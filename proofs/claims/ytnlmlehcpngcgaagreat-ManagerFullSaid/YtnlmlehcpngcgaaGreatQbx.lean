/- The manager's whole state: its store and what hangs on it, its block and its engines', its handles. Contract: manager's Collect. Contracts: manager's twice, put. Contracts: manager's fresh; the works. -/
import Derived.Test.YtnlmlehcpngcgaaGreatQbs
import Derived.Test.YtnlmlehcpngcgaaGreatQbr
import Derived.Test.YtnlmlehcpngcgaaGreatQbu
import Derived.Test.YtnlmlehcpngcgaaGreatQbp
import Derived.Test.YtnlmlehcpngcgaaGreatQbj
import Derived.Test.YtnlmlehcpngcgaaGreatQbw
namespace Go.Proofs.YtnlmlehcpngcgaaGreat
set_option linter.unusedSimpArgs false
set_option linter.unusedVariables false
section
open Go.RowKit Go.Sort
structure Cfg where
 m:Nat
 n:Nat
 room:Nat
 ps:List Int
 ls:List Int
structure MgD where
 ca:Nat
 cq:Nat
 cf:Nat
 x:Value
def mgB (c:Cfg) (d:MgD) (ek:Nat) (od:Nat):Bk:=(ansB d.ca c.n ek).sep ((quB d.cq c.n ek).sep ((faB d.cf c.n ek).sep (ordB od c.ps c.ls)))
def mgK (c:Cfg) (d:MgD) (M:Mg):Res:=sepR (mgR c.m M) (sepR (blkR M.ops 95 #[vP M.st,vP d.ca]) (sepR (blkR M.qu 104 #[vP M.ops,vP M.st,vP d.cq]) (blkR M.gu 111 #[vP M.ops,vP M.st,vP d.cf,d.x])))
def mgT (c:Cfg) (d:MgD) (ek:Nat) (M:Mg) (cs:List (Option Rec)) (free:List Int):Res:=sepR (engR M.st c.n c.room (mgB c d ek M.od) cs free) (mgK c d M)
section
variable {c:Cfg} {d:MgD} {ek:Nat} {M:Mg} {cs:List (Option Rec)} {free:List Int} {W:World} {F:List Nat} {X:Res}
theorem mgK_blks (h:(mgK c d M).at_ W F):EngBlks W c.m M d.ca d.cq d.cf d.x:=by
 obtain ⟨_,_,_,h1,⟨_,_,_,h2,⟨_,_,_,h3,h4,_⟩,_⟩,_⟩:=h
 exact ⟨h2.2,h3.2,h4.2,h1.2⟩
theorem mgT_blks (h:(mgT c d ek M cs free).at_ W F):EngBlks W c.m M d.ca d.cq d.cf d.x:=by
 obtain ⟨_,_,_,_,h,_⟩:=h
 exact mgK_blks h
theorem mgX_blk (h:(sepR X (mgT c d ek M cs free)).at_ W F):Blk W c.m tMg (mgCells M):=by
 obtain ⟨Y,h⟩:=sepR_snd h
 exact (mgT_blks h).2.2.2
theorem mgX_ok (h:(sepR X (mgT c d ek M cs free)).at_ W F):StOk c.n c.room cs free∧FreeOk cs free∧Uniq cs:=by
 obtain ⟨Y,h⟩:=sepR_snd h
 obtain ⟨Z,h⟩:=sepR_fst h
 exact engR_ok h
theorem caR_ek {J:Type} {tC tE:TypeId} {s:Nat} {enc:J→List Value} {c ek ek':Nat} {P:J→Edg→Prop} (hk:ek≤ek') (h:(caR tC tE s enc c ek P).at_ W F):(caR tC tE s enc c ek' P).at_ W F:=by
 obtain ⟨ep,h0,h⟩:=h
 exact ⟨ep,⟨h0.1,by omega⟩,h⟩
theorem mgB_ek {ek':Nat} {od:Nat} (hk:ek≤ek') (h:((mgB c d ek od).at_ cs).at_ W F):((mgB c d ek' od).at_ cs).at_ W F:=
 sepR_imp h (fun _ h=>caR_ansB (caR_ek hk (ansB_caR h))) (fun _ h=>sepR_imp h (fun _ h=>caR_ek hk h) (fun _ h=>sepR_imp h (fun _ h=>caR_ek hk h) (fun _ h=>h)))
theorem mgT_ek {ek':Nat} (hk:ek≤ek') (h:(mgT c d ek M cs free).at_ W F):(mgT c d ek' M cs free).at_ W F:=
 sepR_imp h (fun _ h=>sepR_imp h (fun _ h=>h) (fun _ h=>mgB_ek hk h)) (fun _ h=>h)
theorem mgT_open (h:(mgT c d ek M cs free).at_ W F):(sepR (stR M.st c.n c.room cs free) (sepR ((mgB c d ek M.od).at_ cs) (mgK c d M))).at_ W F:=sepR_assoc h
end
abbrev Hs:=Nat→Option (Int×BT)
structure HdOk (n:Nat) (M:Mg) (H:Hs) (cs:List (Option Rec)):Prop where
 live:∀h,h≤256→M.live h=(H h).isSome
 zero:H 0=none
 ed:∀h f t,h≤256→H h=some (f,t)→(M.root h).1=f∧(1≤f∧f≤5)∧t.Dep n∧IsE cs f n (M.root h).2 0 t
theorem HdOk.ext {n:Nat} {M:Mg} {H:Hs} {cs cs':List (Option Rec)} (h:HdOk n M H cs) (k:Ext cs cs'):HdOk n M H cs':=⟨h.live,h.zero,fun a f t h1 h2=>by
 obtain ⟨e1,e2,e3,e4⟩:=h.ed a f t h1 h2
 exact ⟨e1,e2,e3,e4.ext k⟩⟩
def rootL (M:Mg) (i:Nat):List Edg:=((List.range i).filter M.live).map fun h=>(M.root h).2
theorem HdOk.swept {n:Nat} {M:Mg} {H:Hs} {cs:List (Option Rec)} {V:List Int} (h:HdOk n M H cs) (hv:VisL cs [] (rootL M 257) V):HdOk n M H (swC cs V):=⟨h.live,h.zero,fun a f t h1 h2=>by
 obtain ⟨e1,e2,e3,e4⟩:=h.ed a f t h1 h2
 refine ⟨e1,e2,e3,Unf.swept hv.shut (hv.seen.2.1 _ ?_) e4⟩
 unfold rootL
 rw [List.mem_map]
 exact ⟨a,by rw [List.mem_filter,List.mem_range,h.live a h1,h2];exact ⟨by omega,rfl⟩,rfl⟩⟩
theorem HdOk.roots_wf {n room:Nat} {M:Mg} {H:Hs} {cs:List (Option Rec)} {free:List Int} (h:HdOk n M H cs) (hok:StOk n room cs free):∀e∈rootL M 257,e.Wf:=fun e he=>by
 unfold rootL at he
 obtain ⟨a,ha,rfl⟩:=List.mem_map.1 he
 rw [List.mem_filter,List.mem_range] at ha
 have hl:=h.live a (by omega)
 rw [ha.2] at hl
 obtain ⟨⟨f,t⟩,hH⟩:=Option.isSome_iff_exists.1 hl.symm
 obtain ⟨e1,e2,e3,e4⟩:=h.ed a f t (by omega) hH
 exact e4.wf hok e2 e3 (by omega) (Int.le_refl 0)
abbrev slE (A:Option Addr) (n c:Nat) (xs:List Edg):Res:=slR 2 Edg.cells 48 A n c xs
section
variable {P:Program} {f:FuncId} {args:Array Value} {w:World} {F:List Nat} {A B C:Res} {ι:Type} {Φ:ι→Ending→Prop} {B':ι→Res}
theorem frame1x (h:(sepR B C).at_ w F) (hc:∀X,B.at_ w X→Calls P f args w (fun e w'=>∃i,Φ i e∧Lands (B' i) X w w')):Calls P f args w (fun e w'=>∃i,Φ i e∧Lands (sepR (B' i) C) F w w'):=by
 obtain ⟨F1,F2,h0,h1,h2,h3⟩:=h
 exact (hc F1 h1).mono fun e w' ⟨i,e1,e2⟩=>⟨i,e1,lands_sep h0 h2 h3 e2⟩
theorem frame2x (h:(sepR A B).at_ w F) (hc:∀X,B.at_ w X→Calls P f args w (fun e w'=>∃i,Φ i e∧Lands (B' i) X w w')):Calls P f args w (fun e w'=>∃i,Φ i e∧Lands (sepR A (B' i)) F w w'):=by
 obtain ⟨F1,F2,h0,h1,h2,h3⟩:=h
 exact (hc F2 h2).mono fun e w' ⟨i,e1,e2⟩=>⟨i,e1,lands_sep' h0 h1 h3 e2⟩
end
theorem edg_one {e:Edg}:∀y∈[e],∀u∈y.cells,u.oneCell'=true:=fun y hy u hu=>by
 rw [List.mem_singleton] at hy
 subst hy
 simp [Edg.cells] at hu
 rcases hu with rfl|rfl<;>rfl
theorem slE_none {R:Res} {W:World} {F:List Nat} (h:R.at_ W F):(sepR (slE none 0 0 []) R).at_ W F:=⟨[],F,fun x=>by simp,slR_nil,h,fun x hx=>by cases hx⟩
theorem slE_row {A:Option Addr} {n c:Nat} {xs:List Edg} {w:World} {F:List Nat} (h:(slE A n c xs).at_ w F):RowS 2 Edg.cells w w.heap.size A xs:=OwnS.rows (s:=2) (enc:=Edg.cells) (fun _=>rfl) h.2
def rootK (M:Mg) (i:Nat):List Edg:=(((List.range 257).filter M.live).take i).map fun h=>(M.root h).2
theorem rootK_all {M:Mg} {n:Nat} (h:((List.range 257).filter M.live).length=n):rootK M n=rootL M 257:=by
 unfold rootK rootL
 rw [List.take_of_length_le (by omega)]
theorem live_at {M:Mg} {i:Nat} (h:i<((List.range 257).filter M.live).length):∃k:Nat,k<257∧(liveL M 257)[i]? =some (k:Int)∧rootK M (i+1)=rootK M i++[(M.root k).2]:=by
 obtain ⟨k,hk⟩:∃k,((List.range 257).filter M.live)[i]? =some k:=⟨_,List.getElem?_eq_getElem h⟩
 refine ⟨k,?_,?_,?_⟩
 ·have:=(List.mem_filter.1 (List.mem_of_getElem? hk)).1
  exact List.mem_range.1 this
 ·unfold liveL
  rw [List.getElem?_map,hk]
  rfl
 ·unfold rootK
  rw [List.take_add_one,hk,List.map_append]
  rfl
theorem live_len {M:Mg} {A:Option Addr} {n c:Nat} {w:World} {F:List Nat} (h:(slI A n c (liveL M 257)).at_ w F):n≤257∧((List.range 257).filter M.live).length=n:=by
 have h1:=slR_len h
 have h2:((List.range 257).filter M.live).length≤257:=Nat.le_trans (List.length_filter_le _ _) (by simp)
 unfold liveL at h1
 rw [List.length_map] at h1
 omega
theorem gone_nil {V:List Int} {is:List Nat} (h:decide (((goneL V is).length:Int)>0)=false):goneL V is=[]:=by
 rw [decide_eq_false_iff_not] at h
 exact List.length_eq_zero_iff.1 (by omega)
def mgSw (c:Cfg) (d:MgD) (ek:Nat) (M:Mg) (cs:List (Option Rec)) (free:List Int) (V:List Int):Res:=
 sepR (stR M.st c.n c.room (swC cs V) (free++uN (goneL V (idsL cs)))) (sepR ((mgB c d ek M.od).at_ cs) (mgK c d M))
def SwE (cs:List (Option Rec)) (l:List Edg) (V:List Int) (e:Ending):Prop:=VisL cs [] l V∧e = .returned (.int .i64 ((goneL V (idsL cs)).length:Int))
section
variable {c:Cfg} {d:MgD} {ek:Nat} {M:Mg} {cs:List (Option Rec)} {free:List Int} {w:World} {F:List Nat} {X:Res}
theorem sweepT {A:Option Addr} {n0 c0:Nat} {l:List Edg} (h:(mgT c d ek M cs free).at_ w F) (hl:l.length=n0) (hn:n0≤1000000) (hrow:RowS 2 Edg.cells w w.heap.size A l) (hwf:∀e∈l,e.Wf) :
  Calls Tryz.prog 73 #[.pointer (some ⟨M.st,0,none⟩),.slice A n0 c0] w (fun e w'=>∃V,SwE cs l V e∧Lands (mgSw c d ek M cs free V) F w w'):=by
 refine Calls.mono (frame1x (B':=fun V=>stR M.st c.n c.room (swC cs V) (free++uN (goneL V (idsL cs)))) (Φ:=SwE cs l) (mgT_open h) fun Y hY=>(sweepR hY hl hn hrow hwf).mono fun e w' ⟨V,h1,h2,h3⟩=>⟨V,⟨h1,h2⟩,h3⟩) fun e w' h=>h
theorem mgSw_same {V:List Int} (h0:goneL V (idsL cs)=[]) (h:(mgSw c d ek M cs free V).at_ w F):(mgT c d (ek+1) M (swC cs V) (free++uN (goneL V (idsL cs)))).at_ w F:=by
 have hs:swC cs V=cs:=by rw [← dropL_all,h0];rfl
 unfold mgSw at h
 rw [hs] at h ⊢
 exact mgT_ek (Nat.le_succ _) (sepR_unassoc h)
theorem forgetT {V:List Int} (hek:ek<2^62) (h:(mgSw c d ek M cs free V).at_ w F):Calls Tryz.prog 74 #[.pointer (some ⟨c.m,0,none⟩)] w (Says (.tuple #[]) (mgT c d (ek+1) M (swC cs V) (free++uN (goneL V (idsL cs)))) F w):=by
 refine (frame2 (B':=sepR ((mgB c d (ek+1) M.od).at_ (swC cs V)) (mgK c d M)) (v:= .tuple #[]) h fun Y hY=>?_).mono ?_
 ·refine (forgetE (x:=d.x) (X:=sepR (ordR M.od c.ps c.ls) (mgK c d M)) (AnsA c.n (swC cs V)) (AnsQ c.n (swC cs V)) (AnsF c.n (swC cs V)) hek (?_:(sepR (caR tCA tEA 9 Jb.cells d.ca ek (AnsA c.n cs)) (sepR (caR tCQ tEQ 8 QJ.cells d.cq ek (AnsQ c.n cs)) (sepR (caR tCF tEF 8 FJ.cells d.cf ek (AnsF c.n cs)) (sepR (ordR M.od c.ps c.ls) (mgK c d M))))).at_ w Y) (fun h=>mgK_blks (sepR_snd h).choose_spec)).mono ?_
  ·exact sepR_imp (sepR_assoc hY) (fun _ h=>ansB_caR h) (fun _ h=>sepR_imp (sepR_assoc h) (fun _ h=>h) (fun _ h=>sepR_assoc h))
  ·rintro e w' ⟨rfl,hl⟩
   refine ⟨rfl,hl.imp fun Z h=>?_⟩
   exact sepR_unassoc (sepR_imp h (fun _ h=>caR_ansB h) (fun _ h=>sepR_unassoc (sepR_imp h (fun _ h=>h) (fun _ h=>sepR_unassoc h))))
 ·rintro e w' ⟨rfl,hl⟩
  exact ⟨rfl,hl.imp fun Z h=>sepR_unassoc h⟩
set_option maxRecDepth 100000 in
set_option maxHeartbeats 4000000 in
theorem collectM {H:Hs} (h:(sepR X (mgT c d ek M cs free)).at_ w F) (hH:HdOk c.n M H cs) (hek:ek<2^62) :
  Calls Tryz.prog 57 #[.pointer (some ⟨c.m,0,none⟩)] w (fun e w'=>∃V,SwE cs (rootL M 257) V e∧Lands (sepR X (mgT c d (ek+1) M (swC cs V) (free++uN (goneL V (idsL cs))))) F w w'):=by
 have hwf:=hH.roots_wf (mgX_ok h).1
 refine TTg [VP c.m] Tryz.func57 Tryz.ntmps57 h ?_
 refine TTa 0 ⟨[(0,VP c.m)],[]⟩ ?_
 refine TT.seq (TTa 0 ⟨[(0,VP c.m),(8,VB false)],[]⟩ ?_)
 refine TTu (TT.next ?_)
 refine TTa 0 ⟨[(0,VP c.m),(3,.v (.slice none 0 0))],[]⟩ ?_
 refine TT.seq (TTe 1 [1] ?_)
 refine RVc 1 72 (fun ρ=>[.pointer (some ⟨c.m,0,none⟩)]) [] (fun ρ w1 F1 hF1 hpk1=>?_)
 refine (mgLive hF1 (fun h=>mgX_blk h)).mono ?_
 rintro e1 w'1 ⟨A,n,cc,rfl,hl1⟩
 refine ⟨.v (.slice A n cc),_,rfl,hl1,?_⟩
 refine RVz ⟨[(0,VP c.m),(3,.v (.slice none 0 0)),(10,.v (.slice A n cc)),(11,V64 (n:Int)),(12,V64 0)],[]⟩ ?_
 refine TT.block ?_
 refine TT.know (n≤257∧((List.range 257).filter M.live).length=n) (fun w F h=>live_len (sepR_fst h).choose_spec) (fun hn7=>?_)
 obtain ⟨hn7,hlen⟩:=hn7
 refine TT.res (R':=sepR (slE none 0 0 (rootK M 0)) (sepR (slI A n cc (liveL M 257)) (sepR X (mgT c d ek M cs free)))) (fun W F h=>slE_none h) ?_
 refine TT.loop (ι:=Nat×Option Addr×Nat) (fun ⟨i,B,c1⟩=>i≤n) (fun ⟨i,B,c1⟩=>⟨[(0,VP c.m),(3,.v (.slice B i c1)),(10,.v (.slice A n cc)),(11,V64 (n:Int)),(12,V64 (i:Int))],[]⟩) (fun ⟨i,B,c1⟩=>sepR (slE B i c1 (rootK M i)) (sepR (slI A n cc (liveL M 257)) (sepR X (mgT c d ek M cs free)))) (fun ⟨i,B,c1⟩=>n-i) ⟨0,none,0⟩ (by simp) rfl rfl (fun ⟨i,B,c1⟩ hi2=>?_)
 show TT _ _ _ ⟨[(0,VP c.m),(3,.v (.slice B i c1)),(10,.v (.slice A n cc)),(11,V64 (n:Int)),(12,V64 (i:Int))],[]⟩ (sepR (slE B i c1 (rootK M i)) (sepR (slI A n cc (liveL M 257)) (sepR X (mgT c d ek M cs free)))) _
 have hi0:i≤n:=hi2
 have hup:IntKind.i64.wrap ((i:Int)+1)=((i+1:Nat):Int):=i64_up (by omega)
 refine TTa 0 ⟨[(0,VP c.m),(3,.v (.slice B i c1)),(10,.v (.slice A n cc)),(11,V64 (n:Int)),(12,V64 (i:Int)),(13,VB (decide ((i:Int)<(n:Int))))],[]⟩ ?_
 refine TT.seq ?_
 refine TT.cond (b:=decide ((i:Int)<(n:Int))) (by kernel_rfl) (fun hc3=>?_) (fun hc3=>?_)
 ·have hin:i<n:=by simp only [decide_eq_true_eq] at hc3;omega
  obtain ⟨k,hk7,hki,hrk⟩:=live_at (M:=M) (i:=i) (by rw [hlen];exact hin)
  refine TT.skip ?_
  refine TT.next ?_
  refine TT.seq ?_
  refine TT.block ?_
  refine TTe 2 [0,1] ?_
  refine RVd 0 (.idx 85 (.v (.slice A n cc)) (V64 (i:Int))) (.v (.pointer (some (adr A (i*1))))) (fun ρ w F hF=>slR_ix i (sepR_fst2 hF).choose_spec (by kernel_rfl) (by kernel_rfl) hin) ?_
  refine RVd 1 (.load 3 (.v (.pointer (some (adr A (i*1)))))) (V64 (k:Int)) (fun ρ w F hF=>slR_ld1 (by kernel_rfl) i _ (sepR_fst2 hF).choose_spec (fun _=>rfl) hki rfl) ?_
  refine RVz ⟨[(0,VP c.m),(3,.v (.slice B i c1)),(5,V64 (k:Int)),(10,.v (.slice A n cc)),(11,V64 (n:Int)),(12,V64 (i:Int))],[]⟩ ?_
  refine TT.r (m:=4) false [5,7,8,9] 0 mixed (by kernel_rfl) ?_
  refine RVd 5 (.idx 51 (.v (.pointer (some ⟨c.m,262,none⟩))) (V64 (k:Int))) (.v (.pointer (some ⟨c.m,262+k*3,none⟩))) (fun ρ w F hF=>mg_ixR hk7) ?_
  refine RVd 7 (.load 48 (.v (.pointer (some ⟨c.m,262+k*3+1,none⟩)))) (.v (Ed ((M.root k).2.tag) ((M.root k).2.pos))) (fun ρ w F hF=>mg_ldE hk7 (mgX_blk (sepR_snd (sepR_snd hF).choose_spec).choose_spec)) ?_
  refine RV.bs (α:=Edg) (s:=2) (enc:=Edg.cells) (E:=48) 8 157 1 [(0,Ed (M.root k).2.tag (M.root k).2.pos)] #[.int .u8 (M.root k).2.tag,.int .u32 (M.root k).2.pos] [(M.root k).2] (by kernel_rfl) (by kernel_rfl) (by kernel_rfl) (by kernel_rfl) rfl rfl (by decide) (fun _=>rfl) (fun A1=>?_)
  refine RV.app (α:=Edg) (s:=2) (enc:=Edg.cells) (E:=48) 9 157 157 B A1 i c1 1 1 (rootK M i) [(M.root k).2] (z:= .agg #[.int .u8 0,.int .u32 0]) (bytes:=8) (by kernel_rfl) (by kernel_rfl) (by kernel_rfl) (by kernel_rfl) (by kernel_rfl) rfl (by decide) (by decide) (fun _=>rfl) edg_one (by omega) (by decide) (fun A2 c2=>?_)
  rw [← hrk]
  refine RV.fin (s':=⟨[(0,VP c.m),(3,.v (.slice A2 (i+1) c2)),(10,.v (.slice A n cc)),(11,V64 (n:Int)),(12,V64 (i:Int))],[]⟩) (by kernel_rfl) (by kernel_rfl) ?_
  refine TT.next ?_
  refine TT.p0 (s':=⟨[(0,VP c.m),(3,.v (.slice A2 (i+1) c2)),(10,.v (.slice A n cc)),(11,V64 (n:Int)),(12,V64 (IntKind.i64.wrap ((i:Int)+1)))],[]⟩) 0 (by kernel_rfl) ?_
  rw [hup]
  exact fun ρ a w hs=>⟨ρ,⟨i+1,A2,c2⟩,(show i+1≤n by omega),(show n-(i+1)<n-i by omega),hs⟩
 ·have hin:n=i:=by simp only [decide_eq_false_iff_not] at hc3;omega
  subst hin
  have hrn:rootK M n=rootL M 257:=rootK_all hlen
  refine TT.res (R':=sepR (slE B n c1 (rootL M 257)) (sepR (slI A n cc (liveL M 257)) (sepR X (mgT c d ek M cs free)))) (fun W F h=>by rw [← hrn];exact h) ?_
  refine TTx ?_
  refine TT.next ?_
  refine TTe 2 [3,5] ?_
  refine RVd 3 (.load 36 (.v (.pointer (some ⟨c.m,3,none⟩)))) (VP M.st) (fun ρ w F hF=>mg_ldP 3 (by omega) _ rfl (by kernel_rfl) (mgX_blk (sepR_snd (sepR_snd hF).choose_spec).choose_spec)) ?_
  refine RVc 5 73 (fun ρ=>[.pointer (some ⟨M.st,0,none⟩),.slice B n c1]) [] (fun ρ w4 F4 hF4 hpk4=>?_)
  refine (frame2x hF4 (fun X1 h1=>frame2x h1 (fun X2 h2=>frame2x h2 (fun X3 h3=>sweepT h3 (slR_len (sepR_fst hF4).choose_spec) (by omega) (slE_row (sepR_fst hF4).choose_spec) hwf)))).mono ?_
  rintro e4 w'4 ⟨V,⟨hV,rfl⟩,hl4⟩
  refine ⟨V64 ((goneL V (idsL cs)).length:Int),_,rfl,hl4,?_⟩
  refine RVz ⟨[(0,VP c.m),(6,V64 ((goneL V (idsL cs)).length:Int))],[]⟩ ?_
  refine TT.seq (TTa 0 ⟨[(0,VP c.m),(6,V64 ((goneL V (idsL cs)).length:Int)),(34,VB (decide (((goneL V (idsL cs)).length:Int)>0)))],[]⟩ ?_)
  refine TT.cond (b:=decide (((goneL V (idsL cs)).length:Int)>0)) (by kernel_rfl) (fun hc5=>?_) (fun hc5=>?_)
  ·refine TT.r (m:=1) false [3] 0 mixed (by kernel_rfl) ?_
   refine RVc 3 74 (fun ρ=>[.pointer (some ⟨c.m,0,none⟩)]) [] (fun ρ w6 F6 hF6 hpk6=>?_)
   refine (frame2 hF6 (fun X1 h1=>frame2 h1 (fun X2 h2=>frame2 h2 (fun X3 h3=>forgetT hek h3)))).mono ?_
   rintro e6 w'6 ⟨rfl,hl6⟩
   refine ⟨.v (.tuple #[]),_,rfl,hl6,?_⟩
   refine RV.fin (s':=⟨[(6,V64 ((goneL V (idsL cs)).length:Int))],[]⟩) (by kernel_rfl) (by kernel_rfl) ?_
   refine TT.next ?_
   refine TTa 0 ⟨[(2,V64 ((goneL V (idsL cs)).length:Int))],[]⟩ ?_
   refine TTs Tryz.results57 (V64 ((goneL V (idsL cs)).length:Int)) (fun _ _ h=>h) (fun ρ a w7 hs7=>?_)
   exact ⟨V,⟨hV,rfl⟩,hs7.lands.drop.drop⟩
  ·have h0:goneL V (idsL cs)=[]:=gone_nil hc5
   refine TT.res (R':=sepR (slE B n c1 (rootL M 257)) (sepR (slI A n cc (liveL M 257)) (sepR X (mgT c d (ek+1) M (swC cs V) (free++uN (goneL V (idsL cs))))))) (fun W F h=>sepR_imp h (fun _ h=>h) (fun _ h=>sepR_imp h (fun _ h=>h) (fun _ h=>sepR_imp h (fun _ h=>h) (fun _ h=>mgSw_same h0 h)))) ?_
   refine TT.skip ?_
   refine TT.next ?_
   refine TTa 0 ⟨[(2,V64 ((goneL V (idsL cs)).length:Int))],[]⟩ ?_
   refine TTs Tryz.results57 (V64 ((goneL V (idsL cs)).length:Int)) (fun _ _ h=>h) (fun ρ a w8 hs8=>?_)
   exact ⟨V,⟨hV,rfl⟩,hs8.lands.drop.drop⟩
end
def mgF (c:Cfg) (ek b:Nat) (H:Hs):Res:=⟨fun W F=>∃(d:MgD) (M:Mg) (cs:List (Option Rec)) (free:List Int),HdOk c.n M H cs∧cntC cs≤b∧(mgT c d ek M cs free).at_ W F,(fun ⟨d,M,cs,free,h1,h0,h2⟩ hc hd=>⟨d,M,cs,free,h1,h0,Res.chg _ h2 hc hd⟩),(fun ⟨d,M,cs,free,h1,h0,h2⟩=>Res.lt _ h2)⟩
theorem mgF_of {c:Cfg} {d:MgD} {ek b:Nat} {M:Mg} {H:Hs} {cs:List (Option Rec)} {free:List Int} {W:World} {F:List Nat} (h:(mgT c d ek M cs free).at_ W F) (hH:HdOk c.n M H cs) (hb:cntC cs≤b):(mgF c ek b H).at_ W F:=⟨d,M,cs,free,hH,hb,h⟩
def Tight (c:Cfg) (H:Hs) (k b:Nat):Prop:=(∃ M cs V,VisL cs [] (rootL M 257) V∧HdOk c.n M H cs∧c.room≤V.length+k)∧c.room≤b+k
def WOut (X:Res) (c:Cfg) (d:MgD) (ek:Nat) (M:Mg) (k:Nat) (fu:Prop) (cs:List (Option Rec)) (Pd:List (Option Rec)→Edg→Int→Prop) (F:List Nat) (w:World) (e:Ending) (w':World):Prop:=
 ∃(t q code:Int) (cs':List (Option Rec)) (free':List Int),e = .returned (.tuple #[.agg #[.int .u8 t,.int .u32 q],.int .u8 code])∧Lands (sepR X (mgT c d ek M cs' free')) F w w'∧Grow k cs cs' free'∧((code≠6∧Pd cs' ⟨t,q⟩ code)∨(code=6∧t=0∧q=0∧fu∧c.room≤cntC cs'))
def WorkOk (c:Cfg) (d:MgD) (M:Mg) (H:Hs) (X:Res) (k:Nat) (fu:Prop) (fn:FuncId) (cap:Array Value) (Pd:List (Option Rec)→Edg→Int→Prop):Prop:=
 callable Tryz.prog fn=true∧∀(ek:Nat) (cs:List (Option Rec)) (free:List Int) (w:World) (F:List Nat),(sepR X (mgT c d ek M cs free)).at_ w F→HdOk c.n M H cs→Calls Tryz.prog fn cap w (WOut X c d ek M k fu cs Pd F w)
def wantE (n:Nat) (f:Int) (t:BT) (cs:List (Option Rec)) (e:Edg) (code:Int):Prop:=code=0∧IsE cs f n e 0 t
def TwOut (X:Res) (c:Cfg) (d:MgD) (ek:Nat) (M:Mg) (H:Hs) (k:Nat) (fu:Prop) (cs:List (Option Rec)) (Pd:List (Option Rec)→Edg→Int→Prop) (F:List Nat) (w:World) (e:Ending) (w':World):Prop:=
 ∃(t q code:Int) (cs':List (Option Rec)) (free':List Int),e = .returned (.tuple #[.agg #[.int .u8 t,.int .u32 q],.int .u8 code])∧Lands (sepR X (mgT c d (ek+2) M cs' free')) F w w'∧HdOk c.n M H cs'∧cntC cs'≤cntC cs+k∧((code≠6∧Pd cs' ⟨t,q⟩ code)∨(code=6∧t=0∧q=0∧fu∧Tight c H k (cntC cs)))
theorem len_sub:∀(l m:List Int),l.Nodup→(∀ x∈l,x∈m)→l.length≤m.length
 | [],m,_,_=>by simp
 | x::l,m,h1,h2=>by
  have hx:x∈m:=h2 x (by simp)
  have hn:=List.nodup_cons.1 h1
  have:=len_sub l (m.erase x) hn.2 (fun y hy=>(List.mem_erase_of_ne (fun e=>hn.1 (by rw [← e];exact hy))).2 (h2 y (by simp [hy])))
  rw [List.length_erase_of_mem hx] at this
  have:=List.length_pos_of_mem hx
  simp only [List.length_cons]
  omega
theorem cntC_ids (cs:List (Option Rec)):cntC cs=(idsL cs).length:=by
 have h:cs=(List.range cs.length).map fun i=>cs[i]?.getD none:=by
  apply List.ext_getElem?
  intro i
  rw [List.getElem?_map]
  rcases Nat.lt_or_ge i cs.length with hi|hi
  ·rw [List.getElem?_range hi,Option.map_some,List.getElem?_eq_getElem hi]
   rfl
  ·rw [List.getElem?_eq_none hi,List.getElem?_eq_none (by simpa using hi)]
   rfl
 unfold cntC idsL
 conv=>lhs;rw [h]
 rw [List.countP_map,List.countP_eq_length_filter]
 rfl
theorem cnt_swC {cs:List (Option Rec)} {l:List Edg} {V:List Int} (h:VisL cs [] l V):cntC (swC cs V)≤V.length:=by
 have h1:=(h.ids Ids.nil).1
 have h2:((idsL (swC cs V)).map fun i=>((i+2:Nat):Int)).length≤V.length:=by
  refine len_sub _ _ ?_ ?_
  ·rw [List.nodup_iff_pairwise_ne,List.pairwise_map]
   exact ((List.nodup_iff_pairwise_ne.1 (List.nodup_range.filter _))).imp fun h e=>h (by omega)
  ·intro x hx
   obtain ⟨i,hi,rfl⟩:=List.mem_map.1 hx
   obtain ⟨r,hr⟩:=mem_idsL.1 hi
   have:recAt (swC cs V) ((i+2:Nat):Int)=some r:=by
    unfold recAt
    rw [if_pos (by omega),show (((i+2:Nat):Int)-2).toNat=i by omega,hr]
    rfl
   rw [recAt_swC] at this
   split at this
   ·assumption
   ·cases this
 have h3:cntC (swC cs V)=(idsL (swC cs V)).length:=cntC_ids _
 rw [List.length_map] at h2
 omega
theorem ids_cnt {cs:List (Option Rec)} {V:List Int} (h:Ids cs V):V.length≤cntC cs:=by
 have h2:=len_sub V ((idsL cs).map fun i=>((i+2:Nat):Int)) h.nodup (fun x hx=>by
  have hn:=h.node x hx
  obtain ⟨r,hr⟩:=Option.ne_none_iff_exists'.1 hn
  obtain ⟨h1,h2,h3⟩:=recAt_some hr
  exact List.mem_map.2 ⟨(x-2).toNat,mem_idsL.2 ⟨r,h3⟩,by omega⟩)
 rw [cntC_ids]
 rwa [List.length_map] at h2
theorem vis_old {cs cs1:List (Option Rec)} {V V':List Int} {e:Edg} (h:Vis cs1 V e V') (hx:Ext cs cs1):∀f T,Unf cs f e T→(∀ id∈V,recAt cs id≠none)→∀id∈V',recAt cs id≠none:=by
 induction h with
 | none h=>exact fun f T _ h2=>h2
 | old h=>exact fun f T _ h2=>h2
 | @new V e r V2 V3 hr hn _ _ ih1 ih2=>
  intro f T hu h2
  have hp:=(recAt_some hr).1
  cases T with
  | nil=>rw [show e=⟨0,0⟩ from hu] at hp;simp only at hp;omega
  | one t=>rw [show e=⟨t,1⟩ from hu] at hp;simp only at hp;omega
  | node tag top bot lo hi=>
   obtain ⟨_,r',h4,_,_,_,h5,h6⟩:=hu
   have:=hx _ _ h4
   rw [hr] at this
   injection this with this
   subst this
   refine ih2 f hi h6 (ih1 f lo h5 fun id hid=>?_)
   rcases List.mem_append.1 hid with hid|hid
   ·exact h2 id hid
   ·rw [List.mem_singleton.1 hid,h4]
    simp
theorem visL_old {cs cs1:List (Option Rec)} {V V':List Int} {l:List Edg} (h:VisL cs1 V l V') (hx:Ext cs cs1):(∀ e∈l,∃f T,Unf cs f e T)→(∀ id∈V,recAt cs id≠none)→∀id∈V',recAt cs id≠none:=by
 induction h with
 | nil=>exact fun _ h=>h
 | @snoc l V1 e V2 _ h2 ih=>
  intro hl h0
  obtain ⟨f,T,hu⟩:=hl e (by simp)
  exact vis_old h2 hx f T hu (ih (fun e he=>hl e (by simp [he])) h0)
theorem cnt_old {n:Nat} {M:Mg} {H:Hs} {cs cs1:List (Option Rec)} {V:List Int} (h:HdOk n M H cs) (hx:Ext cs cs1) (hv:VisL cs1 [] (rootL M 257) V):V.length≤cntC cs:=by
 refine ids_cnt ⟨(hv.ids Ids.nil).1.nodup,visL_old hv hx (fun e he=>?_) (by simp)⟩
 unfold rootL at he
 obtain ⟨a,ha,rfl⟩:=List.mem_map.1 he
 rw [List.mem_filter,List.mem_range] at ha
 have hl:=h.live a (by omega)
 rw [ha.2] at hl
 obtain ⟨⟨f,t⟩,hH⟩:=Option.isSome_iff_exists.1 hl.symm
 exact ⟨f,_,(h.ed a f t (by omega) hH).2.2.2⟩
theorem cnt_sw_le (cs:List (Option Rec)) (V:List Int):cntC (swC cs V)≤cntC cs:=by
 have h:Ids cs ((idsL (swC cs V)).map fun i=>((i+2:Nat):Int)):=by
  refine ⟨?_,fun x hx=>?_⟩
  ·rw [List.nodup_iff_pairwise_ne,List.pairwise_map]
   exact ((List.nodup_iff_pairwise_ne.1 (List.nodup_range.filter _))).imp fun h e=>h (by omega)
  ·obtain ⟨i,hi,rfl⟩:=List.mem_map.1 hx
   obtain ⟨r,hr⟩:=mem_idsL.1 hi
   have:recAt (swC cs V) ((i+2:Nat):Int)=some r:=by
    unfold recAt
    rw [if_pos (by omega),show (((i+2:Nat):Int)-2).toNat=i by omega,hr]
    rfl
   rw [recAt_swC] at this
   split at this
   ·rw [this];simp
   ·cases this
 have:=ids_cnt h
 rw [List.length_map,←cntC_ids] at this
 exact this
structure Least (H:Hs) (a:Nat):Prop where
 one:1≤a
 most:a≤256
 free:H a=none
 live:∀k,1≤k→k<a→H k≠none
def Hs.put (H:Hs) (a:Nat) (v:Option (Int×BT)):Hs:=fun i=>if i=a then v else H i
theorem isFree_some {n:Nat} {M:Mg} {H:Hs} {cs:List (Option Rec)} {a:Nat} (h:HdOk n M H cs) (hfr:∃a,1≤a∧a≤256∧H a=none) (hf:IsFree M.live a):1≤a∧a≤256∧H a=none∧∀k,1≤k→k<a→H k≠none:=by
 rcases hf with ⟨rfl,hf⟩|⟨h1,h2,h3,h4⟩
 ·obtain ⟨b,b1,b2,b3⟩:=hfr
  have:=hf b b1 b2
  rw [h.live b b2,b3] at this
  cases this
 ·refine ⟨h1,h2,?_,fun k k1 k2 e=>?_⟩
  ·rw [h.live a h2] at h3
   simpa using h3
  ·have:=h4 k k1 k2
   rw [h.live k (by omega),e] at this
   cases this
theorem HdOk.put {n:Nat} {M:Mg} {H:Hs} {cs:List (Option Rec)} {a:Nat} {f:Int} {t:BT} {e:Edg} (h:HdOk n M H cs) (h1:1≤a) (h2:a≤256) (hf:1≤f∧f≤5) (ht:t.Dep n) (hE:IsE cs f n e 0 t):HdOk n ((M.setLive a true).setRoot a (f,e)) (H.put a (some (f,t))) cs:=by
 refine ⟨fun k hk=>?_,?_,fun k f' t' hk hH=>?_⟩
 ·show (if k=a then true else M.live k)=_
  unfold Hs.put
  split
  ·rfl
  ·exact h.live k hk
 ·unfold Hs.put
  rw [if_neg (by omega)]
  exact h.zero
 ·unfold Hs.put at hH
  show (if k=a then (f,e) else M.root k).1=f'∧_∧_∧IsE cs f' n (if k=a then (f,e) else M.root k).2 0 t'
  by_cases ek:k=a
  ·rw [if_pos ek] at hH ⊢
   injection hH with hH
   injection hH with e1 e2
   subst e1 e2
   exact ⟨rfl,hf,ht,hE⟩
  ·rw [if_neg ek] at hH ⊢
   exact h.ed k f' t' hk hH
def PutOut (X:Res) (c:Cfg) (ek b:Nat) (H:Hs) (k:Nat) (fu:Prop) (v:Int×BT) (F:List Nat) (w:World) (e:Ending) (w':World):Prop:=
 (∃ a:Nat,Least H a∧e = .returned (.tuple #[.int .i64 (a:Int),.int .u8 0])∧Lands (sepR X (mgF c (ek+2) (b+k) (H.put a (some v)))) F w w')∨(e = .returned (.tuple #[.int .i64 0,.int .u8 6])∧fu∧Tight c H k b∧Lands (sepR X (mgF c (ek+2) (b+k) H)) F w w')
theorem Tight.mono {c:Cfg} {H:Hs} {k b b':Nat} (h:Tight c H k b) (hb:b≤b'):Tight c H k b':=⟨h.1,by have:=h.2;omega⟩
section
variable {c:Cfg} {d:MgD} {ek k b:Nat} {M:Mg} {H:Hs} {cs:List (Option Rec)} {free:List Int} {w:World} {F:List Nat} {X:Res} {fn:FuncId} {cap:Array Value} {Pd:List (Option Rec)→Edg→Int→Prop} {fu:Prop} {a:Nat}
theorem mgX_stL (ha:a<257) (b:Bool) (h:(sepR X (mgT c d ek M cs free)).at_ w F):(do Instr.storeAt 4 (.pointer (some ⟨c.m,5+a,none⟩)) (.bool b);pure undef:Sem Value).run Tryz.prog w = .ok undef (w.setCells c.m (5+a) [.bool b])∧Lands (sepR X (mgT c d ek (M.setLive a b) cs free)) F w (w.setCells c.m (5+a) [.bool b]):=by
 obtain ⟨h1,h2⟩:=mg_stL ha b (sepR_back h)
 exact ⟨h1,h2.imp fun _ h=>sepR_fwd h⟩
theorem mgX_stR (ha:a<257) (r:Int×Edg) (h:(sepR X (mgT c d ek M cs free)).at_ w F):(do Instr.storeAt 50 (.pointer (some ⟨c.m,262+a*3,none⟩)) (.agg #[.int .u8 r.1,.int .u8 r.2.tag,.int .u32 r.2.pos]);pure undef:Sem Value).run Tryz.prog w = .ok undef (w.setCells c.m (262+a*3) [.int .u8 r.1,.int .u8 r.2.tag,.int .u32 r.2.pos])∧Lands (sepR X (mgT c d ek (M.setRoot a r) cs free)) F w (w.setCells c.m (262+a*3) [.int .u8 r.1,.int .u8 r.2.tag,.int .u32 r.2.pos]):=by
 obtain ⟨h1,h2⟩:=mg_stR ha r (sepR_back h)
 exact ⟨h1,h2.imp fun _ h=>sepR_fwd h⟩
set_option maxRecDepth 100000 in
set_option maxHeartbeats 4000000 in
theorem twiceM (h:(sepR X (mgT c d ek M cs free)).at_ w F) (hH:HdOk c.n M H cs) (hw:WorkOk c d M H X k fu fn cap Pd) (hek:ek<2^61) :
  Calls Tryz.prog 43 #[.pointer (some ⟨c.m,0,none⟩),.func (.func fn) #[] cap] w (TwOut X c d ek M H k fu cs Pd F w):=by
 refine TTg [VP c.m,.v (.func (.func fn) #[] cap)] Tryz.func43 Tryz.ntmps43 h ?_
 refine TTa 0 ⟨[(0,VP c.m),(1,.v (.func (.func fn) #[] cap)),(4,.p 0 0)],[(0,⟨48,false,[V8 0,V32 0]⟩)]⟩ ?_
 refine TTE 1 false [1] 10 ?_
 refine RVcallV 1 fn cap [] [] (by kernel_rfl) (by kernel_rfl) (by kernel_rfl) hw.1 (fun ρ w1 F1 hF1 hpk1=>?_)
 rw [show ((([]:List SV).map (SV.val ρ)).toArray++cap)=cap from Array.empty_append]
 refine (hw.2 _ _ _ _ _ hF1 hH).mono ?_
 rintro e1 w'1 ⟨t1,q1,code1,cs1,free1,rfl,hl1,hg1,(⟨hn1,hP1⟩|⟨rfl,rfl,rfl,hfu1,hfl1⟩)⟩
 ·have hne1:(code1==6)=false:=by simpa using hn1
  have hH1:=hH.ext hg1.ext
  refine ⟨.v (.tuple #[Ed t1 q1,.int .u8 code1]),_,rfl,hl1,?_⟩
  refine RVz ⟨[(0,VP c.m),(1,.v (.func (.func fn) #[] cap)),(4,.p 0 0),(6,.p 15 0),(7,V8 code1)],[(0,⟨48,false,[V8 0,V32 0]⟩),(15,⟨48,false,[V8 t1,V32 q1]⟩)]⟩ ?_
  refine TT.seq (TTa 20 ⟨[(0,VP c.m),(1,.v (.func (.func fn) #[] cap)),(4,.p 0 0),(6,.p 15 0),(7,V8 code1),(14,VB (code1==6))],[(0,⟨48,false,[V8 0,V32 0]⟩),(15,⟨48,false,[V8 t1,V32 q1]⟩)]⟩ ?_)
  rw [hne1]
  refine TTu (TT.next ?_)
  refine TT.seq (TTa 20 ⟨[(0,VP c.m),(4,.p 0 0),(6,.p 15 0),(7,V8 code1),(23,VB (code1==6))],[(0,⟨48,false,[V8 0,V32 0]⟩),(15,⟨48,false,[V8 t1,V32 q1]⟩)]⟩ ?_)
  rw [hne1]
  refine TTu (TT.next ?_)
  refine TTa 20 ⟨[(4,.p 0 0),(5,V8 code1)],[(0,⟨48,false,[V8 t1,V32 q1]⟩)]⟩ ?_
  refine TTt Tryz.results43 (.v (Ed t1 q1)) (V8 code1) (fun _ _ h=>h) (fun ρ a w2 hs2=>?_)
  exact ⟨_,_,_,_,_,rfl,hs2.lands.imp (fun _ h=>sepR_imp h (fun _ h=>h) (fun _ h=>mgT_ek (by omega) h)),hH1,hg1.cnt,.inl ⟨hn1,hP1⟩⟩
 ·have hH1:=hH.ext hg1.ext
  refine ⟨.v (.tuple #[Ed 0 0,.int .u8 6]),_,rfl,hl1,?_⟩
  refine RVz ⟨[(0,VP c.m),(1,.v (.func (.func fn) #[] cap)),(4,.p 0 0),(6,.p 15 0),(7,V8 6)],[(0,⟨48,false,[V8 0,V32 0]⟩),(15,⟨48,false,[V8 0,V32 0]⟩)]⟩ ?_
  refine TT.seq (TTa 20 ⟨[(0,VP c.m),(1,.v (.func (.func fn) #[] cap)),(4,.p 0 0),(6,.p 15 0),(7,V8 6),(14,VB true)],[(0,⟨48,false,[V8 0,V32 0]⟩),(15,⟨48,false,[V8 0,V32 0]⟩)]⟩ ?_)
  refine TTy ?_
  refine TTE 1 false [1] 20 ?_
  refine RVc 1 57 (fun ρ=>[.pointer (some ⟨c.m,0,none⟩)]) [] (fun ρ w3 F3 hF3 hpk3=>?_)
  refine (collectM hF3 hH1 (by omega)).mono ?_
  rintro e3 w'3 ⟨V3,⟨hV3,rfl⟩,hl3⟩
  have hH3:=hH1.swept hV3
  refine ⟨V64 ((goneL V3 (idsL cs1)).length:Int),_,rfl,hl3,?_⟩
  refine RVz ⟨[(0,VP c.m),(1,.v (.func (.func fn) #[] cap)),(4,.p 0 0),(6,.p 15 0)],[(0,⟨48,false,[V8 0,V32 0]⟩),(15,⟨48,false,[V8 0,V32 0]⟩)]⟩ ?_
  refine TT.r (m:=1) false [1] 20 mixed (by kernel_rfl) ?_
  refine RVcallV 1 fn cap [] [] (by kernel_rfl) (by kernel_rfl) (by kernel_rfl) hw.1 (fun ρ w4 F4 hF4 hpk4=>?_)
  rw [show ((([]:List SV).map (SV.val ρ)).toArray++cap)=cap from Array.empty_append]
  refine (hw.2 _ _ _ _ _ hF4 hH3).mono ?_
  rintro e4 w'4 ⟨t4,q4,code4,cs4,free4,rfl,hl4,hg4,(⟨hn4,hP4⟩|⟨rfl,rfl,rfl,hfu4,hfl4⟩)⟩
  ·have hne4:(code4==6)=false:=by simpa using hn4
   have hH4:=hH3.ext hg4.ext
   refine ⟨.v (.tuple #[Ed t4 q4,.int .u8 code4]),_,rfl,hl4,?_⟩
   refine RV.fin (s':=⟨[(0,VP c.m),(4,.p 0 0),(6,.p 15 0),(7,V8 code4)],[(0,⟨48,false,[V8 0,V32 0]⟩),(15,⟨48,false,[V8 t4,V32 q4]⟩)]⟩) (by kernel_rfl) (by kernel_rfl) ?_
   refine TT.next ?_
   refine TT.seq (TTa 20 ⟨[(0,VP c.m),(4,.p 0 0),(6,.p 15 0),(7,V8 code4),(23,VB (code4==6))],[(0,⟨48,false,[V8 0,V32 0]⟩),(15,⟨48,false,[V8 t4,V32 q4]⟩)]⟩ ?_)
   rw [hne4]
   refine TTu (TT.next ?_)
   refine TTa 20 ⟨[(4,.p 0 0),(5,V8 code4)],[(0,⟨48,false,[V8 t4,V32 q4]⟩)]⟩ ?_
   refine TTt Tryz.results43 (.v (Ed t4 q4)) (V8 code4) (fun _ _ h=>h) (fun ρ a w5 hs5=>?_)
   exact ⟨_,_,_,_,_,rfl,hs5.lands.imp (fun _ h=>sepR_imp h (fun _ h=>h) (fun _ h=>mgT_ek (by omega) h)),hH4,(by have h1:=cnt_swC hV3;have h2:=hg4.cnt;have h3:=cnt_old hH hg1.ext hV3;omega),.inl ⟨hn4,hP4⟩⟩
  ·have hH4:=hH3.ext hg4.ext
   refine ⟨.v (.tuple #[Ed 0 0,.int .u8 6]),_,rfl,hl4,?_⟩
   refine RV.fin (s':=⟨[(0,VP c.m),(4,.p 0 0),(6,.p 15 0),(7,V8 6)],[(0,⟨48,false,[V8 0,V32 0]⟩),(15,⟨48,false,[V8 0,V32 0]⟩)]⟩) (by kernel_rfl) (by kernel_rfl) ?_
   refine TT.next ?_
   refine TT.seq (TTa 20 ⟨[(0,VP c.m),(4,.p 0 0),(6,.p 15 0),(7,V8 6),(23,VB true)],[(0,⟨48,false,[V8 0,V32 0]⟩),(15,⟨48,false,[V8 0,V32 0]⟩)]⟩ ?_)
   refine TTy ?_
   refine TT.r (m:=1) false [1] 20 mixed (by kernel_rfl) ?_
   refine RVc 1 57 (fun ρ=>[.pointer (some ⟨c.m,0,none⟩)]) [] (fun ρ w6 F6 hF6 hpk6=>?_)
   refine (collectM hF6 hH4 (by omega)).mono ?_
   rintro e6 w'6 ⟨V6,⟨hV6,rfl⟩,hl6⟩
   have hH6:=hH4.swept hV6
   refine ⟨V64 ((goneL V6 (idsL cs4)).length:Int),_,rfl,hl6,?_⟩
   refine RV.fin (s':=⟨[(4,.p 0 0),(6,.p 15 0),(7,V8 6)],[(0,⟨48,false,[V8 0,V32 0]⟩),(15,⟨48,false,[V8 0,V32 0]⟩)]⟩) (by kernel_rfl) (by kernel_rfl) ?_
   refine TT.next ?_
   refine TTa 20 ⟨[(4,.p 0 0),(5,V8 6)],[(0,⟨48,false,[V8 0,V32 0]⟩)]⟩ ?_
   refine TTt Tryz.results43 (.v (Ed 0 0)) (V8 6) (fun _ _ h=>h) (fun ρ a w7 hs7=>?_)
   have h1:=cnt_swC hV3
   have h2:=hg4.cnt
   have h3:=cnt_old hH hg1.ext hV3
   have h4:=cnt_sw_le cs4 V6
   exact ⟨_,_,_,_,_,rfl,hs7.lands,hH6,by omega,.inr ⟨rfl,rfl,rfl,hfu4,⟨M,cs1,V3,hV3,hH1,by omega⟩,by omega⟩⟩
set_option maxRecDepth 100000 in
set_option maxHeartbeats 4000000 in
theorem putM_ok {f:Int} {t:BT} (h:(sepR X (mgT c d ek M cs free)).at_ w F) (hH:HdOk c.n M H cs) (hw:WorkOk c d M H X k fu fn cap (wantE c.n f t)) (hb:cntC cs≤b) (hek:ek<2^61) (hf:1≤f∧f≤5) (ht:t.Dep c.n) (hfr:∃a,1≤a∧a≤256∧H a=none) :
  Calls Tryz.prog 22 #[.pointer (some ⟨c.m,0,none⟩),.int .u8 f,.func (.func fn) #[] cap] w (PutOut X c ek b H k fu (f,t) F w):=by
 refine TTg [VP c.m,V8 f,.v (.func (.func fn) #[] cap)] Tryz.func22 Tryz.ntmps22 h ?_
 refine TTa 0 ⟨[(0,VP c.m),(1,V8 f),(2,.v (.func (.func fn) #[] cap))],[]⟩ ?_
 refine TTe 1 [2] ?_
 refine RVc 2 43 (fun ρ=>[.pointer (some ⟨c.m,0,none⟩),.func (.func fn) #[] cap]) [] (fun ρ w1 F1 hF1 hpk1=>?_)
 refine (twiceM hF1 hH hw hek).mono ?_
 rintro e1 w'1 ⟨t1,q1,code1,cs1,free1,rfl,hl1,hH1,hct1,(⟨hn1,rfl,hE1⟩|⟨rfl,rfl,rfl,hfu1,hti1⟩)⟩
 ·refine ⟨.v (.tuple #[Ed t1 q1,.int .u8 0]),_,rfl,hl1,?_⟩
  refine RVz ⟨[(0,VP c.m),(1,V8 f),(8,.p 6 0),(9,V8 0)],[(6,⟨48,false,[V8 t1,V32 q1]⟩)]⟩ ?_
  refine TT.seq (TTa 10 ⟨[(0,VP c.m),(1,V8 f),(8,.p 6 0),(9,V8 0),(18,VB false)],[(6,⟨48,false,[V8 t1,V32 q1]⟩)]⟩ ?_)
  refine TTu (TT.next ?_)
  refine TTE 1 false [1] 10 ?_
  refine RVc 1 42 (fun ρ=>[.pointer (some ⟨c.m,0,none⟩)]) [] (fun ρ w2 F2 hF2 hpk2=>?_)
  refine (mgFree hF2 (fun h=>mgX_blk h)).mono ?_
  rintro e2 w'2 ⟨j0,hfa,rfl,hl2⟩
  obtain ⟨ha1,ha6,hal,hab⟩:=isFree_some hH1 hfr hfa
  refine ⟨V64 (j0:Int),_,rfl,hl2,?_⟩
  refine RVz ⟨[(0,VP c.m),(1,V8 f),(8,.p 6 0),(10,V64 (j0:Int))],[(6,⟨48,false,[V8 t1,V32 q1]⟩)]⟩ ?_
  refine TTE 4 true [9,10,13,14] 10 ?_
  refine RVd 9 (.idx 45 (.v (.pointer (some ⟨c.m,5,none⟩))) (V64 (j0:Int))) (.v (.pointer (some ⟨c.m,5+j0,none⟩))) (fun ρ w F hF=>mg_ixL (by omega)) ?_
  refine RVw 10 (.store 4 (.v (.pointer (some ⟨c.m,5+j0,none⟩))) (VB true)) (fun ρ w F hF=>⟨_,.v undef,sepR X (mgT c d (ek+2) (M.setLive j0 true) cs1 free1),(mgX_stL (by omega) true hF).1,(mgX_stL (by omega) true hF).2,?_⟩)
  refine RVd 13 (.idx 51 (.v (.pointer (some ⟨c.m,262,none⟩))) (V64 (j0:Int))) (.v (.pointer (some ⟨c.m,262+j0*3,none⟩))) (fun ρ w F hF=>mg_ixR (by omega)) ?_
  refine RVw 14 (.store 50 (.v (.pointer (some ⟨c.m,262+j0*3,none⟩))) (.v (.agg #[.int .u8 f,.int .u8 t1,.int .u32 q1]))) (fun ρ w F hF=>⟨_,.v undef,sepR X (mgT c d (ek+2) ((M.setLive j0 true).setRoot j0 (f,⟨t1,q1⟩)) cs1 free1),(mgX_stR (by omega) (f,⟨t1,q1⟩) hF).1,(mgX_stR (by omega) (f,⟨t1,q1⟩) hF).2,?_⟩)
  refine RVz ⟨[(10,V64 (j0:Int))],[]⟩ ?_
  refine TTa 0 ⟨[(6,V64 (j0:Int)),(7,V8 0)],[]⟩ ?_
  refine TTt Tryz.results22 (V64 (j0:Int)) (V8 0) (fun _ _ h=>h) (fun ρ a w3 hs3=>?_)
  exact .inl ⟨j0,⟨ha1,ha6,hal,hab⟩,rfl,hs3.lands.imp (fun _ h=>sepR_imp h (fun _ h=>h) (fun _ h=>mgF_of h (hH1.put ha1 ha6 hf ht hE1) (by omega)))⟩
 ·refine ⟨.v (.tuple #[Ed 0 0,.int .u8 6]),_,rfl,hl1,?_⟩
  refine RVz ⟨[(0,VP c.m),(1,V8 f),(8,.p 6 0),(9,V8 6)],[(6,⟨48,false,[V8 0,V32 0]⟩)]⟩ ?_
  refine TT.seq (TTa 10 ⟨[(0,VP c.m),(1,V8 f),(8,.p 6 0),(9,V8 6),(18,VB true)],[(6,⟨48,false,[V8 0,V32 0]⟩)]⟩ ?_)
  refine TTy ?_
  refine TTa 10 ⟨[(6,V64 0),(7,V8 6)],[]⟩ ?_
  refine TTt Tryz.results22 (V64 0) (V8 6) (fun _ _ h=>h) (fun ρ a w4 hs4=>?_)
  exact .inr ⟨rfl,hfu1,hti1.mono hb,hs4.lands.imp (fun _ h=>sepR_imp h (fun _ h=>h) (fun _ h=>mgF_of h hH1 (by omega)))⟩
end
section
variable {c:Cfg} {d:MgD} {ek k b:Nat} {fu:Prop} {M:Mg} {H:Hs} {cs:List (Option Rec)} {free:List Int} {w:World} {F:List Nat} {X:Res} {fn:FuncId} {cap:Array Value} {f c0:Int} {t:BT}
theorem isFormB_yes (h:1≤f∧f≤5):isFormB f=true:=by
 unfold isFormB
 simp
 omega
theorem room0_full (h:(sepR X (mgT c d ek M cs free)).at_ w F) (hH:HdOk c.n M H cs) (hfull:∀k,1≤k→k≤256→H k≠none):Calls Tryz.prog 21 #[.pointer (some ⟨c.m,0,none⟩),.slice none 0 0] w (Says (.tuple #[.int .u8 0,.int .u8 9]) (sepR X (mgT c d ek M cs free)) F w):=
 (mgRoom_full (fun k h1 h2=>by
  rw [hH.live k h2,Option.isSome_iff_ne_none]
  exact hfull k h1 h2) (slI_none h) (fun h=>mgX_blk h)).mono fun e w' ⟨e1,e2⟩=>⟨e1,e2.drop⟩
theorem room0_some (h:(sepR X (mgT c d ek M cs free)).at_ w F) (hH:HdOk c.n M H cs) (hfr:∃a,1≤a∧a≤256∧H a=none):Calls Tryz.prog 21 #[.pointer (some ⟨c.m,0,none⟩),.slice none 0 0] w (Says (.tuple #[.int .u8 0,.int .u8 0]) (sepR X (mgT c d ek M cs free)) F w):=by
 have hs:sameM M []=(0,0):=by simp [sameM,foM]
 refine (mgRoom_some (fun hall=>?_) (slI_none h) (fun h=>mgX_blk h)).mono fun e w' ⟨e1,e2⟩=>⟨by rw [e1,hs],e2.drop⟩
 obtain ⟨a,a1,a2,a3⟩:=hfr
 have:=hall a a1 a2
 rw [hH.live a a2,a3] at this
 cases this
theorem mgB_ord {od:Nat}:HasOrd (mgB c d ek od) od c.ps c.ls:=HasOrd.right (HasOrd.right (HasOrd.right (hasOrd_ordB od c.ps c.ls)))
theorem mgK_foot (h:(mgK c d M).at_ w F):M.ops∈F∧M.qu∈F∧M.gu∈F:=by
 obtain ⟨_,_,h0,_,⟨_,_,h1,⟨rfl,_⟩,⟨_,_,h2,⟨rfl,_⟩,⟨rfl,_⟩,_⟩,_⟩,_⟩:=h
 exact ⟨(h0 _).2 (.inr ((h1 _).2 (.inl (by simp)))),(h0 _).2 (.inr ((h1 _).2 (.inr ((h2 _).2 (.inl (by simp)))))),(h0 _).2 (.inr ((h1 _).2 (.inr ((h2 _).2 (.inr (by simp))))))⟩
theorem engX {P:Program} {g:FuncId} {args:Array Value} {Pd:List (Option Rec)→Edg→Prop} (h:(sepR X (mgT c d ek M cs free)).at_ w F) (hc:∀Y,(engR M.st c.n c.room (mgB c d ek M.od) cs free).at_ w Y→EngBlks w c.m M d.ca d.cq d.cf d.x→¬M.ops∈Y→¬M.qu∈Y→¬M.gu∈Y→Calls P g args w (EOut k M.st c.n c.room (mgB c d ek M.od) Y w cs Pd)) :
  Calls P g args w (WOut X c d ek M k True cs (fun cs e code=>code=0∧Pd cs e) F w):=by
 obtain ⟨F1,F2,h0,h1,⟨F3,F4,h2,h3,h4,h5⟩,h6⟩:=h
 obtain ⟨k1,k2,k3⟩:=mgK_foot h4
 refine (hc F3 h3 (mgK_blks h4) (fun hm=>h5 _ hm k1) (fun hm=>h5 _ hm k2) (fun hm=>h5 _ hm k3)).mono ?_
 rintro e w' ⟨t,q,code,cs',free',rfl,hl,hg,ho⟩
 refine ⟨t,q,code,cs',free',rfl,lands_sep' h0 h1 h6 (lands_sep h2 h4 h5 hl),hg,?_⟩
 rcases ho with ⟨rfl,hP⟩|⟨h1,h2,h3,h4⟩
 ·exact .inl ⟨by decide,rfl,hP⟩
 ·exact .inr ⟨h1,h2,h3,trivial,h4⟩
theorem engSays {P:Program} {g:FuncId} {args:Array Value} {v:Value} (h:(sepR X (mgT c d ek M cs free)).at_ w F) (hc:∀Y,(engR M.st c.n c.room (mgB c d ek M.od) cs free).at_ w Y→EngBlks w c.m M d.ca d.cq d.cf d.x→¬M.ops∈Y→¬M.qu∈Y→¬M.gu∈Y→Calls P g args w (Says v (engR M.st c.n c.room (mgB c d ek M.od) cs free) Y w)) :
  Calls P g args w (Says v (sepR X (mgT c d ek M cs free)) F w):=by
 obtain ⟨F1,F2,h0,h1,⟨F3,F4,h2,h3,h4,h5⟩,h6⟩:=h
 obtain ⟨k1,k2,k3⟩:=mgK_foot h4
 refine (hc F3 h3 (mgK_blks h4) (fun hm=>h5 _ hm k1) (fun hm=>h5 _ hm k2) (fun hm=>h5 _ hm k3)).mono ?_
 rintro e w' ⟨rfl,hl⟩
 exact ⟨rfl,lands_sep' h0 h1 h6 (lands_sep h2 h4 h5 hl)⟩
set_option maxRecDepth 100000 in
set_option maxHeartbeats 4000000 in
theorem freshM_full (h:(sepR X (mgT c d ek M cs free)).at_ w F) (hH:HdOk c.n M H cs) (hfull:∀k,1≤k→k≤256→H k≠none) :
  Calls Tryz.prog 18 #[.pointer (some ⟨c.m,0,none⟩),.int .u8 f,.func (.func fn) #[] cap] w (Says (.tuple #[.int .i64 0,.int .u8 9]) (sepR X (mgT c d ek M cs free)) F w):=by
 refine TTg [VP c.m,V8 f,.v (.func (.func fn) #[] cap)] Tryz.func18 Tryz.ntmps18 h ?_
 refine TTa 0 ⟨[(0,VP c.m),(1,V8 f),(2,.v (.func (.func fn) #[] cap))],[]⟩ ?_
 refine TT.seq (TTe 1 [1] ?_)
 refine RVc 1 21 (fun ρ=>[.pointer (some ⟨c.m,0,none⟩),.slice none 0 0]) [] (fun ρ w1 F1 hF1 hpk1=>?_)
 refine (room0_full hF1 hH hfull).mono ?_
 rintro e1 w'1 ⟨rfl,hl1⟩
 refine ⟨.v (.tuple #[.int .u8 0,.int .u8 9]),_,rfl,hl1,?_⟩
 refine RVz ⟨[(0,VP c.m),(1,V8 f),(2,.v (.func (.func fn) #[] cap)),(9,V8 9)],[]⟩ ?_
 refine TTa 0 ⟨[(0,VP c.m),(1,V8 f),(2,.v (.func (.func fn) #[] cap)),(9,V8 9),(16,VB true)],[]⟩ ?_
 refine TTy ?_
 refine TTa 0 ⟨[(6,V64 0),(7,V8 9)],[]⟩ ?_
 refine TTt Tryz.results18 (V64 0) (V8 9) (fun _ _ h=>h) (fun ρ a w2 hs2=>?_)
 exact ⟨rfl,hs2.lands⟩
set_option maxRecDepth 100000 in
set_option maxHeartbeats 4000000 in
theorem freshM_ok (h:(sepR X (mgT c d ek M cs free)).at_ w F) (hH:HdOk c.n M H cs) (hw:WorkOk c d M H X k fu fn cap (wantE c.n f t)) (hb:cntC cs≤b) (hek:ek<2^61) (hf:1≤f∧f≤5) (ht:t.Dep c.n) (hfr:∃a,1≤a∧a≤256∧H a=none) :
  Calls Tryz.prog 18 #[.pointer (some ⟨c.m,0,none⟩),.int .u8 f,.func (.func fn) #[] cap] w (PutOut X c ek b H k fu (f,t) F w):=by
 have hfo:=isFormB_yes hf
 refine TTg [VP c.m,V8 f,.v (.func (.func fn) #[] cap)] Tryz.func18 Tryz.ntmps18 h ?_
 refine TTa 0 ⟨[(0,VP c.m),(1,V8 f),(2,.v (.func (.func fn) #[] cap))],[]⟩ ?_
 refine TT.seq (TTe 1 [1] ?_)
 refine RVc 1 21 (fun ρ=>[.pointer (some ⟨c.m,0,none⟩),.slice none 0 0]) [] (fun ρ w1 F1 hF1 hpk1=>?_)
 refine (room0_some hF1 hH hfr).mono ?_
 rintro e1 w'1 ⟨rfl,hl1⟩
 refine ⟨.v (.tuple #[.int .u8 0,.int .u8 0]),_,rfl,hl1,?_⟩
 refine RVz ⟨[(0,VP c.m),(1,V8 f),(2,.v (.func (.func fn) #[] cap)),(9,V8 0)],[]⟩ ?_
 refine TTa 0 ⟨[(0,VP c.m),(1,V8 f),(2,.v (.func (.func fn) #[] cap)),(9,V8 0),(16,VB false)],[]⟩ ?_
 refine TTu (TT.next ?_)
 refine TT.seq (TTe 1 [1] ?_)
 refine RVc 1 39 (fun ρ=>[.int .u8 f]) [] (fun ρ w2 F2 hF2 hpk2=>?_)
 refine (isForm_any f w2).mono ?_
 rintro e2 w'2 ⟨rfl,rfl⟩
 rw [hfo]
 refine ⟨VB true,_,rfl,.of_below hF2 (Below.refl _ _),?_⟩
 refine RVz ⟨[(0,VP c.m),(1,V8 f),(2,.v (.func (.func fn) #[] cap)),(20,VB false)],[]⟩ ?_
 refine TTu (TT.next ?_)
 refine TTe 1 [3] ?_
 refine RVc 3 22 (fun ρ=>[.pointer (some ⟨c.m,0,none⟩),.int .u8 f,.func (.func fn) #[] cap]) [] (fun ρ w3 F3 hF3 hpk3=>?_)
 refine (putM_ok hF3 hH hw hb hek hf ht hfr).mono ?_
 rintro e3 w'3 (⟨j0,hle,rfl,hl3⟩|⟨rfl,hfu,hti,hl3⟩)
 ·refine ⟨.v (.tuple #[.int .i64 (j0:Int),.int .u8 0]),_,rfl,hl3,?_⟩
  refine RVz ⟨[(6,V64 (j0:Int)),(7,V8 0)],[]⟩ ?_
  refine TTt Tryz.results18 (V64 (j0:Int)) (V8 0) (fun _ _ h=>h) (fun ρ a w4 hs4=>?_)
  exact .inl ⟨j0,hle,rfl,hs4.lands⟩
 ·refine ⟨.v (.tuple #[.int .i64 0,.int .u8 6]),_,rfl,hl3,?_⟩
  refine RVz ⟨[(6,V64 0),(7,V8 6)],[]⟩ ?_
  refine TTt Tryz.results18 (V64 0) (V8 6) (fun _ _ h=>h) (fun ρ a w5 hs5=>?_)
  exact .inr ⟨rfl,hfu,hti,hs5.lands⟩
set_option maxRecDepth 100000 in
set_option maxHeartbeats 4000000 in
theorem workConst_true {f:Int} {b0:Nat} {b1:Nat} {b2:Nat} (hO:OrdOk c.n c.ps c.ls) (hf:1≤f∧f≤5) :
  WorkOk c d M H (sepR (blkR b2 4 #[.bool true]) (sepR (blkR b1 23 #[.int .u8 f]) (blkR b0 24 #[vP c.m]))) (c.n) True 19 #[vP b0,vP b1,vP b2] (wantE c.n f (cubeT 0 0 0 c.n)):=by
 refine ⟨by kernel_rfl,fun ek cs free w F h hH=>?_⟩
 refine TTg [VP b0,VP b1,VP b2] Tryz.func19 Tryz.ntmps19 h ?_
 refine TTa 0 ⟨[(0,VP b0),(1,VP b1),(2,VP b2),(3,.p 0 0)],[(0,⟨48,false,[V8 0,V32 0]⟩)]⟩ ?_
 refine TTE 7 true [0,3,4,7,8,9,10] 10 ?_
 refine RVd 0 (.load 24 (.v (.pointer (some ⟨b0,0,none⟩)))) (VP c.m) (fun ρ w F hF=>run_ld (by kernel_rfl) (((sepR_snd (sepR_snd (sepR_fst hF).choose_spec).choose_spec).choose_spec).2.cell 0)) ?_
 refine RVd 3 (.load 36 (.v (.pointer (some ⟨c.m,3,none⟩)))) (VP M.st) (fun ρ w F hF=>mg_ldP 3 (by omega) _ rfl (by kernel_rfl) (mgX_blk hF)) ?_
 refine RVd 4 (.load 24 (.v (.pointer (some ⟨b0,0,none⟩)))) (VP c.m) (fun ρ w F hF=>run_ld (by kernel_rfl) (((sepR_snd (sepR_snd (sepR_fst hF).choose_spec).choose_spec).choose_spec).2.cell 0)) ?_
 refine RVd 7 (.load 44 (.v (.pointer (some ⟨c.m,4,none⟩)))) (VP M.od) (fun ρ w F hF=>mg_ldP 4 (by omega) _ rfl (by kernel_rfl) (mgX_blk hF)) ?_
 refine RVd 8 (.load 23 (.v (.pointer (some ⟨b1,0,none⟩)))) (V8 f) (fun ρ w F hF=>run_ld (by kernel_rfl) (((sepR_fst (sepR_snd (sepR_fst hF).choose_spec).choose_spec).choose_spec).2.cell 0)) ?_
 refine RVd 9 (.load 4 (.v (.pointer (some ⟨b2,0,none⟩)))) (VB true) (fun ρ w F hF=>run_ld (by kernel_rfl) (((sepR_fst (sepR_fst hF).choose_spec).choose_spec).2.cell 0)) ?_
 refine RVc 10 20 (fun ρ=>[.pointer (some ⟨M.st,0,none⟩),.pointer (some ⟨M.od,0,none⟩),.int .u8 f,.bool true]) [] (fun ρ w1 F1 hF1 hpk1=>?_)
 refine (engX hF1 (fun Y hY hbl ho hq hg=>constE_yes hY mgB_ord hO hf)).mono ?_
 rintro e1 w'1 ⟨t1,q1,code1,cs1,free1,rfl,hl1,hg1,ho1⟩
 refine ⟨.v (.tuple #[Ed t1 q1,.int .u8 code1]),_,rfl,hl1,?_⟩
 refine RVz ⟨[(3,.p 0 0),(4,V8 code1)],[(0,⟨48,false,[V8 t1,V32 q1]⟩)]⟩ ?_
 refine TTt Tryz.results19 (.v (Ed t1 q1)) (V8 code1) (fun _ _ h=>h) (fun ρ a w2 hs2=>?_)
 exact ⟨_,_,_,_,_,rfl,hs2.lands,hg1,ho1⟩
set_option maxRecDepth 100000 in
set_option maxHeartbeats 4000000 in
theorem workConst_false {f:Int} {b0:Nat} {b1:Nat} {b2:Nat} (hO:OrdOk c.n c.ps c.ls) (hf:1≤f∧f≤5) :
  WorkOk c d M H (sepR (blkR b2 4 #[.bool false]) (sepR (blkR b1 23 #[.int .u8 f]) (blkR b0 24 #[vP c.m]))) (0) False 19 #[vP b0,vP b1,vP b2] (wantE c.n f (.zeros c.n)):=by
 refine ⟨by kernel_rfl,fun ek cs free w F h hH=>?_⟩
 refine TTg [VP b0,VP b1,VP b2] Tryz.func19 Tryz.ntmps19 h ?_
 refine TTa 0 ⟨[(0,VP b0),(1,VP b1),(2,VP b2),(3,.p 0 0)],[(0,⟨48,false,[V8 0,V32 0]⟩)]⟩ ?_
 refine TTE 7 true [0,3,4,7,8,9,10] 10 ?_
 refine RVd 0 (.load 24 (.v (.pointer (some ⟨b0,0,none⟩)))) (VP c.m) (fun ρ w F hF=>run_ld (by kernel_rfl) (((sepR_snd (sepR_snd (sepR_fst hF).choose_spec).choose_spec).choose_spec).2.cell 0)) ?_
 refine RVd 3 (.load 36 (.v (.pointer (some ⟨c.m,3,none⟩)))) (VP M.st) (fun ρ w F hF=>mg_ldP 3 (by omega) _ rfl (by kernel_rfl) (mgX_blk hF)) ?_
 refine RVd 4 (.load 24 (.v (.pointer (some ⟨b0,0,none⟩)))) (VP c.m) (fun ρ w F hF=>run_ld (by kernel_rfl) (((sepR_snd (sepR_snd (sepR_fst hF).choose_spec).choose_spec).choose_spec).2.cell 0)) ?_
 refine RVd 7 (.load 44 (.v (.pointer (some ⟨c.m,4,none⟩)))) (VP M.od) (fun ρ w F hF=>mg_ldP 4 (by omega) _ rfl (by kernel_rfl) (mgX_blk hF)) ?_
 refine RVd 8 (.load 23 (.v (.pointer (some ⟨b1,0,none⟩)))) (V8 f) (fun ρ w F hF=>run_ld (by kernel_rfl) (((sepR_fst (sepR_snd (sepR_fst hF).choose_spec).choose_spec).choose_spec).2.cell 0)) ?_
 refine RVd 9 (.load 4 (.v (.pointer (some ⟨b2,0,none⟩)))) (VB false) (fun ρ w F hF=>run_ld (by kernel_rfl) (((sepR_fst (sepR_fst hF).choose_spec).choose_spec).2.cell 0)) ?_
 refine RVc 10 20 (fun ρ=>[.pointer (some ⟨M.st,0,none⟩),.pointer (some ⟨M.od,0,none⟩),.int .u8 f,.bool false]) [] (fun ρ w1 F1 hF1 hpk1=>?_)
 refine (engSays hF1 (fun Y hY hbl ho hq hg=>constE_no hY mgB_ord hO hf)).mono ?_
 rintro e1 w'1 ⟨rfl,hl1⟩
 refine ⟨.v (.tuple #[Ed 0 0,.int .u8 0]),_,rfl,hl1,?_⟩
 refine RVz ⟨[(3,.p 0 0),(4,V8 0)],[(0,⟨48,false,[V8 0,V32 0]⟩)]⟩ ?_
 refine TTt Tryz.results19 (.v (Ed 0 0)) (V8 0) (fun _ _ h=>h) (fun ρ a w2 hs2=>?_)
 exact ⟨_,_,_,_,_,rfl,hs2.lands,Grow.refl (mgX_ok h).2.1 _,.inl ⟨by decide,rfl,isE_zeros⟩⟩
set_option maxRecDepth 100000 in
set_option maxHeartbeats 4000000 in
theorem workVar {f:Int} {b0:Nat} {b1:Nat} {b2:Nat} {x:Int} (hO:OrdOk c.n c.ps c.ls) (hf:1≤f∧f≤5) (hx:0≤x∧x<c.n) :
  WorkOk c d M H (sepR (blkR b2 3 #[.int .i64 x]) (sepR (blkR b1 23 #[.int .u8 f]) (blkR b0 24 #[vP c.m]))) (c.n) True 25 #[vP b0,vP b1,vP b2] (wantE c.n f (cubeT (1*2^lvN c.ls x) 0 0 c.n)):=by
 refine ⟨by kernel_rfl,fun ek cs free w F h hH=>?_⟩
 refine TTg [VP b0,VP b1,VP b2] Tryz.func25 Tryz.ntmps25 h ?_
 refine TTa 0 ⟨[(0,VP b0),(1,VP b1),(2,VP b2),(3,.p 0 0)],[(0,⟨48,false,[V8 0,V32 0]⟩)]⟩ ?_
 refine TTE 7 true [0,3,4,7,8,9,10] 10 ?_
 refine RVd 0 (.load 24 (.v (.pointer (some ⟨b0,0,none⟩)))) (VP c.m) (fun ρ w F hF=>run_ld (by kernel_rfl) (((sepR_snd (sepR_snd (sepR_fst hF).choose_spec).choose_spec).choose_spec).2.cell 0)) ?_
 refine RVd 3 (.load 36 (.v (.pointer (some ⟨c.m,3,none⟩)))) (VP M.st) (fun ρ w F hF=>mg_ldP 3 (by omega) _ rfl (by kernel_rfl) (mgX_blk hF)) ?_
 refine RVd 4 (.load 24 (.v (.pointer (some ⟨b0,0,none⟩)))) (VP c.m) (fun ρ w F hF=>run_ld (by kernel_rfl) (((sepR_snd (sepR_snd (sepR_fst hF).choose_spec).choose_spec).choose_spec).2.cell 0)) ?_
 refine RVd 7 (.load 44 (.v (.pointer (some ⟨c.m,4,none⟩)))) (VP M.od) (fun ρ w F hF=>mg_ldP 4 (by omega) _ rfl (by kernel_rfl) (mgX_blk hF)) ?_
 refine RVd 8 (.load 23 (.v (.pointer (some ⟨b1,0,none⟩)))) (V8 f) (fun ρ w F hF=>run_ld (by kernel_rfl) (((sepR_fst (sepR_snd (sepR_fst hF).choose_spec).choose_spec).choose_spec).2.cell 0)) ?_
 refine RVd 9 (.load 3 (.v (.pointer (some ⟨b2,0,none⟩)))) (V64 x) (fun ρ w F hF=>run_ld (by kernel_rfl) (((sepR_fst (sepR_fst hF).choose_spec).choose_spec).2.cell 0)) ?_
 refine RVc 10 26 (fun ρ=>[.pointer (some ⟨M.st,0,none⟩),.pointer (some ⟨M.od,0,none⟩),.int .u8 f,.int .i64 x]) [] (fun ρ w1 F1 hF1 hpk1=>?_)
 refine (engX hF1 (fun Y hY hbl ho hq hg=>varE hY mgB_ord hO hf hx)).mono ?_
 rintro e1 w'1 ⟨t1,q1,code1,cs1,free1,rfl,hl1,hg1,ho1⟩
 refine ⟨.v (.tuple #[Ed t1 q1,.int .u8 code1]),_,rfl,hl1,?_⟩
 refine RVz ⟨[(3,.p 0 0),(4,V8 code1)],[(0,⟨48,false,[V8 t1,V32 q1]⟩)]⟩ ?_
 refine TTt Tryz.results25 (.v (Ed t1 q1)) (V8 code1) (fun _ _ h=>h) (fun ρ a w2 hs2=>?_)
 exact ⟨_,_,_,_,_,rfl,hs2.lands,hg1,ho1⟩
set_option maxRecDepth 100000 in
set_option maxHeartbeats 4000000 in
theorem workCopy {f:Int} {b0:Nat} {b1:Nat} {a0:Nat} {t:BT} (ha:a0≤256) (hHa:H a0=some (f,t)) :
  WorkOk c d M H (sepR (blkR b1 3 #[.int .i64 (a0:Int)]) (blkR b0 24 #[vP c.m])) (k) False 23 #[vP b0,vP b1] (wantE c.n f (t)):=by
 refine ⟨by kernel_rfl,fun ek cs free w F h hH=>?_⟩
 refine TTg [VP b0,VP b1] Tryz.func23 Tryz.ntmps23 h ?_
 refine TTa 0 ⟨[(0,VP b0),(1,VP b1),(2,.p 0 0)],[(0,⟨48,false,[V8 0,V32 0]⟩)]⟩ ?_
 refine TTE 4 true [0,1,4,6] 10 ?_
 refine RVd 0 (.load 24 (.v (.pointer (some ⟨b0,0,none⟩)))) (VP c.m) (fun ρ w F hF=>run_ld (by kernel_rfl) (((sepR_snd (sepR_fst hF).choose_spec).choose_spec).2.cell 0)) ?_
 refine RVd 1 (.load 3 (.v (.pointer (some ⟨b1,0,none⟩)))) (V64 (a0:Int)) (fun ρ w F hF=>run_ld (by kernel_rfl) (((sepR_fst (sepR_fst hF).choose_spec).choose_spec).2.cell 0)) ?_
 refine RVd 4 (.idx 51 (.v (.pointer (some ⟨c.m,262,none⟩))) (V64 (a0:Int))) (.v (.pointer (some ⟨c.m,262+a0*3,none⟩))) (fun ρ w F hF=>mg_ixR (by omega)) ?_
 refine RVd 6 (.load 48 (.v (.pointer (some ⟨c.m,262+a0*3+1,none⟩)))) (.v (Ed ((M.root a0).2.tag) ((M.root a0).2.pos))) (fun ρ w F hF=>mg_ldE (by omega) (mgX_blk hF)) ?_
 refine RVz ⟨[(2,.p 0 0),(3,V8 0)],[(0,⟨48,false,[V8 ((M.root a0).2.tag),V32 ((M.root a0).2.pos)]⟩)]⟩ ?_
 refine TTt Tryz.results23 (.v (Ed ((M.root a0).2.tag) ((M.root a0).2.pos))) (V8 0) (fun _ _ h=>h) (fun ρ a w1 hs1=>?_)
 exact ⟨_,_,_,_,_,rfl,hs1.lands,Grow.refl (mgX_ok h).2.1 _,.inl ⟨by decide,rfl,(hH.ed a0 f t ha hHa).2.2.2⟩⟩
set_option maxRecDepth 100000 in
set_option maxHeartbeats 4000000 in
theorem workApply {f:Int} {b0:Nat} {b1:Nat} {b2:Nat} {b3:Nat} {b4:Nat} {op:Int} {a b:Nat} {x y:BT} (hop:0≤op∧op≤15) (ha:a≤256) (hb:b≤256) (hHa:H a=some (f,x)) (hHb:H b=some (f,y)) :
  WorkOk c d M H (sepR (blkR b4 3 #[.int .i64 (b:Int)]) (sepR (blkR b3 3 #[.int .i64 (a:Int)]) (sepR (blkR b2 3 #[.int .i64 op]) (sepR (blkR b1 23 #[.int .u8 f]) (blkR b0 24 #[vP c.m]))))) (jobK c.n) True 28 #[vP b0,vP b1,vP b2,vP b3,vP b4] (wantE c.n f (ap2 op.toNat x y)):=by
 refine ⟨by kernel_rfl,fun ek cs free w F h hH=>?_⟩
 refine TTg [VP b0,VP b1,VP b2,VP b3,VP b4] Tryz.func28 Tryz.ntmps28 h ?_
 refine TTa 0 ⟨[(0,VP b0),(1,VP b1),(2,VP b2),(3,VP b3),(4,VP b4),(5,.p 0 0)],[(0,⟨48,false,[V8 0,V32 0]⟩)]⟩ ?_
 refine TTE 13 true [0,4,5,6,7,8,11,13,14,15,18,20,21] 10 ?_
 refine RVd 0 (.load 24 (.v (.pointer (some ⟨b0,0,none⟩)))) (VP c.m) (fun ρ w F hF=>run_ld (by kernel_rfl) (((sepR_snd (sepR_snd (sepR_snd (sepR_snd (sepR_fst hF).choose_spec).choose_spec).choose_spec).choose_spec).choose_spec).2.cell 0)) ?_
 refine RVd 4 (.load 39 (.v (.pointer (some ⟨c.m,0,none⟩)))) (VP M.ops) (fun ρ w F hF=>mg_ldP 0 (by omega) _ rfl (by kernel_rfl) (mgX_blk hF)) ?_
 refine RVd 5 (.load 23 (.v (.pointer (some ⟨b1,0,none⟩)))) (V8 f) (fun ρ w F hF=>run_ld (by kernel_rfl) (((sepR_fst (sepR_snd (sepR_snd (sepR_snd (sepR_fst hF).choose_spec).choose_spec).choose_spec).choose_spec).choose_spec).2.cell 0)) ?_
 refine RVd 6 (.load 3 (.v (.pointer (some ⟨b2,0,none⟩)))) (V64 op) (fun ρ w F hF=>run_ld (by kernel_rfl) (((sepR_fst (sepR_snd (sepR_snd (sepR_fst hF).choose_spec).choose_spec).choose_spec).choose_spec).2.cell 0)) ?_
 refine RVd 7 (.load 24 (.v (.pointer (some ⟨b0,0,none⟩)))) (VP c.m) (fun ρ w F hF=>run_ld (by kernel_rfl) (((sepR_snd (sepR_snd (sepR_snd (sepR_snd (sepR_fst hF).choose_spec).choose_spec).choose_spec).choose_spec).choose_spec).2.cell 0)) ?_
 refine RVd 8 (.load 3 (.v (.pointer (some ⟨b3,0,none⟩)))) (V64 (a:Int)) (fun ρ w F hF=>run_ld (by kernel_rfl) (((sepR_fst (sepR_snd (sepR_fst hF).choose_spec).choose_spec).choose_spec).2.cell 0)) ?_
 refine RVd 11 (.idx 51 (.v (.pointer (some ⟨c.m,262,none⟩))) (V64 (a:Int))) (.v (.pointer (some ⟨c.m,262+a*3,none⟩))) (fun ρ w F hF=>mg_ixR (by omega)) ?_
 refine RVd 13 (.load 48 (.v (.pointer (some ⟨c.m,262+a*3+1,none⟩)))) (.v (Ed ((M.root a).2.tag) ((M.root a).2.pos))) (fun ρ w F hF=>mg_ldE (by omega) (mgX_blk hF)) ?_
 refine RVd 14 (.load 24 (.v (.pointer (some ⟨b0,0,none⟩)))) (VP c.m) (fun ρ w F hF=>run_ld (by kernel_rfl) (((sepR_snd (sepR_snd (sepR_snd (sepR_snd (sepR_fst hF).choose_spec).choose_spec).choose_spec).choose_spec).choose_spec).2.cell 0)) ?_
 refine RVd 15 (.load 3 (.v (.pointer (some ⟨b4,0,none⟩)))) (V64 (b:Int)) (fun ρ w F hF=>run_ld (by kernel_rfl) (((sepR_fst (sepR_fst hF).choose_spec).choose_spec).2.cell 0)) ?_
 refine RVd 18 (.idx 51 (.v (.pointer (some ⟨c.m,262,none⟩))) (V64 (b:Int))) (.v (.pointer (some ⟨c.m,262+b*3,none⟩))) (fun ρ w F hF=>mg_ixR (by omega)) ?_
 refine RVd 20 (.load 48 (.v (.pointer (some ⟨c.m,262+b*3+1,none⟩)))) (.v (Ed ((M.root b).2.tag) ((M.root b).2.pos))) (fun ρ w F hF=>mg_ldE (by omega) (mgX_blk hF)) ?_
 refine RVc 21 29 (fun ρ=>[.pointer (some ⟨M.ops,0,none⟩),.int .u8 f,.int .i64 op,Ed ((M.root a).2.tag) ((M.root a).2.pos),Ed ((M.root b).2.tag) ((M.root b).2.pos)]) [] (fun ρ w1 F1 hF1 hpk1=>?_)
 refine (engX hF1 (fun Y hY hbl ho hq hg=>applyA hY hbl.1 ho (hH.ed a f x ha hHa).2.1 hop (hH.ed a f x ha hHa).2.2.1 (hH.ed b f y hb hHb).2.2.1 (hH.ed a f x ha hHa).2.2.2 (hH.ed b f y hb hHb).2.2.2)).mono ?_
 rintro e1 w'1 ⟨t1,q1,code1,cs1,free1,rfl,hl1,hg1,ho1⟩
 refine ⟨.v (.tuple #[Ed t1 q1,.int .u8 code1]),_,rfl,hl1,?_⟩
 refine RVz ⟨[(5,.p 0 0),(6,V8 code1)],[(0,⟨48,false,[V8 t1,V32 q1]⟩)]⟩ ?_
 refine TTt Tryz.results28 (.v (Ed t1 q1)) (V8 code1) (fun _ _ h=>h) (fun ρ a w2 hs2=>?_)
 exact ⟨_,_,_,_,_,rfl,hs2.lands,hg1,ho1⟩
end
end
end Go.Proofs.YtnlmlehcpngcgaaGreat
