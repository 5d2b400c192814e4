/- Contract: what arena.Ids hands back: it hands on the ids, rising. -/
import Derived.Test.YtnlmlehcpngcgaaGreatQaf
import Derived.Test.YtnlmlehcpngcgaaGreatQbp
import Derived.Test.YtnlmlehcpngcgaaGreatQbu
namespace Go.Proofs.YtnlmlehcpngcgaaGreat
set_option linter.unusedSimpArgs false
set_option linter.unusedVariables false
section
open Go Go.RowKit Go.Shelf
attribute [local go_sem] Oper.semAt_some
set_option maxRecDepth 100000 in
theorem arenaIdsA (ga:Nat) (w:World):Calls Tryz.prog 94 #[.pointer (some ⟨ga,0,none⟩)] w fun e w'=>e = .returned (.func (.func 110) #[] #[.pointer (some ⟨w.heap.size,0,none⟩)])∧w'=w.alloc (.cells #[.pointer (some ⟨ga,0,none⟩)] 74):=by
 go_enter Tryz.func94,Tryz.ntmps94
 go_wp2_with fail
 go_ret
 exact ⟨rfl,rfl⟩
def idsK (cs:List (Option Rec)) (k:Nat):List Nat:=(List.range k).filter fun i=>(cs[i]?.getD none).isSome
theorem idsK_yes {cs:List (Option Rec)} {k:Nat} {r:Rec} (h:cs[k]? =some (some r)):idsK cs (k+1)=idsK cs k++[k]:=by
 unfold idsK
 rw [List.range_succ,List.filter_append]
 simp [h]
theorem idsK_no {cs:List (Option Rec)} {k:Nat} (h:cs[k]? =some none):idsK cs (k+1)=idsK cs k:=by
 unfold idsK
 rw [List.range_succ,List.filter_append]
 simp [h]
theorem idsK_pre {cs:List (Option Rec)} {k m:Nat} (h:k≤m):idsK cs k <+: idsK cs m:=by
 obtain ⟨d,rfl⟩:=Nat.exists_eq_add_of_le h
 unfold idsK
 rw [List.range_add,List.filter_append]
 exact List.prefix_append _ _
theorem u32_id {k:Nat} (h:k≤1048576):IntKind.u32.wrap (IntKind.u32.wrap (k:Int)+2)=((k+2:Nat):Int):=by
 rw [show IntKind.u32.wrap (k:Int)=(k:Int) from IntWalk.u32_in _ (by omega),IntWalk.u32_in _ (by omega)]
 omega
set_option maxRecDepth 100000 in
set_option maxHeartbeats 8000000 in
theorem ids_runs (b ga:Nat) (F:List Nat) (room:Nat) (cs:List (Option Rec)) (free:List Int) (w:World) (hb:Blk w b 74 #[.pointer (some ⟨ga,0,none⟩)]) (hA:ArenaAt w F ga cs free room) (hcs:cs.length≤1048576) :
  SeqRuns Tryz.prog 110 #[.pointer (some ⟨b,0,none⟩)] (fun i:Nat=> #[Value.int .u32 ((i+2:Nat):Int)]) (fun k=>k=b∨k∈F) (idsL cs) w:=by
 intro l I Ix Fp0 W hW hR hI hIx bI bIx hY h0
 have hbW:=hb.onB hW
 have hAW:=hA.on hW
 have k0:=hbW.cell 0
 have HB:=Lib.hid hbW
 have HA:=Lib.hid hAW
 have HI:=Lib.hid hI
 have HY:=Lib.hid hY
 have HR:=Lib.hid hR
 have H0:Hid (Sofar I Fp0 W Fp0 [] W):=Lib.hid ⟨h0,fun k hk=> .inl hk,Chg.refl _ _⟩
 obtain ⟨n,hn⟩:∃n,n=cs.length:=⟨_,rfl⟩
 have HX:Hid (idsL cs=idsK cs n):=Lib.hid (by rw [hn];rfl)
 have HN:=Lib.hid hn
 have hn20:n≤1048576:=by omega
 have HC:Hid (∀ W',Chg Fp0 W W'→W'.cell? ⟨b,0,none⟩=some (.pointer (some ⟨ga,0,none⟩))∧∃A c,W'.cell? ⟨ga,0,none⟩=some (.slice A n c)∧(∀ k y,cs[k]? =some y→∃q,A=some ⟨q,0,none⟩∧q<W'.heap.size∧W'.cell? ⟨q,k*9+7,none⟩=some (.bool y.isSome))):=Lib.hid (fun W' hc=>by
  refine ⟨(hbW.chg hc (fun hm=>hR b hm (.inl rfl))).cell 0,?_⟩
  obtain ⟨A,n1,c,A',n',c',hB,hS,_,e1,_,_,_⟩:=hAW.chg hc (fun k hk hm=>hR k hm (.inr hk))
  obtain rfl:n1=n:=by omega
  refine ⟨A,c,hB.cell 0,fun k y hy=>?_⟩
  have hk:=(List.getElem?_eq_some_iff.1 hy).1
  obtain ⟨q,c0,hv,_,hq,_⟩:=OwnS.head hS (by omega)
  injection hv with e4 e5 e6
  subst e4
  refine ⟨q,rfl,hq,?_⟩
  exact (OwnS.at_ cellEnc_len hS _ _ hy).1 7 _ (by cases y<;>rfl))
 rw [HX.out] at HY ⊢
 clear hb hA hW hbW hAW hI hIx bIx hY h0 hR hn hcs
 have HBI:=Lib.hid bI
 clear bI
 obtain ⟨xs,hxs⟩:∃xs,xs=idsK cs n:=⟨_,rfl⟩
 rw [← hxs] at HY ⊢
 have HXS:=Lib.hid hxs
 clear hxs
 obtain ⟨A,c,k1,_⟩:=(HC.out W (Chg.refl _ _)).2
 refine callsIn_of_wp Tryz.func110 rfl trivial ?_ rfl
 simp only [Tryz.ntmps110,List.size_toArray,List.length_cons,List.length_nil,Nat.reduceAdd,Nat.reduceSub,Array.replicate_succ,Array.replicate_zero,List.push_toArray,List.append_toArray,List.nil_append,List.cons_append]
 gi_wp2_with fail
 clear k0 k1
 gi_loopw [11] (fun i wr=>∃(k:Nat) (Fp:List Nat),k≤n∧i = .int .i64 (k:Nat)∧Sofar I Fp0 W Fp (idsK cs k) wr) (fun i _=>n-(intOf i).toNat)
 case atStart=>exact ⟨0,Fp0,Nat.zero_le _,rfl,H0.out⟩
 case round=>
  obtain ⟨k,Fp,hk,rfl,hs⟩:=hrel
  by_cases hlt:k<n
  ·obtain ⟨y,hy⟩:∃y,cs[k]? =some y:=⟨_,List.getElem?_eq_getElem (by have:=HN.out;omega)⟩
   obtain ⟨j0,A',c',j1,j2⟩:=HC.out wr hs.2.2
   obtain ⟨q,rfl,hq,j3⟩:=j2 k y hy
   clear j2
   have hki:(k:Int)<(n:Int):=by omega
   cases y with
   | none=>
    have HS:Hid (Sofar I Fp0 W Fp (idsK cs (k+1)) wr):=Lib.hid (by rw [idsK_no hy];exact hs)
    simp only [Option.isSome_none] at j3
    clear hs hy
    gi_wp2_with fail
    refine ⟨(fun f h=>by cases h),?_⟩
    gi_wp2_with fail
    go_roundw
    case rel=>exact ⟨k+1,Fp,by omega,by go_num,HS.out⟩
    case measure=>simp [intOf];omega
   | some r=>
    have hs1:=idsK_yes hy
    have hp:idsK cs k++[k] <+: xs:=by
     rw [← hs1,HXS.out]
     exact idsK_pre (by omega)
    have hu:=u32_id (k:=k) (by omega)
    obtain ⟨fn,tmps,assign,body,hyy,hR'⟩:=HY.out Fp (idsK cs k) k wr hs.1 hs.2.2.size hp
    rw [← hs1] at hR' hp
    rw [show ((k+2:Nat):Int)=(k:Int)+2 by omega] at hyy
    have HRR:=Lib.hid hR'
    have HP:=Lib.hid hp
    have HS:=Lib.hid hs
    have HU:=Lib.hid hu
    simp only [Option.isSome_some] at j3
    clear hs hy hs1 hp hR' hu
    gi_wp2_with fail
    refine ⟨rfl,HRR.out.mono ?_⟩
    rintro e W3 ⟨Fp',hgr,hch,(⟨rfl,hi3⟩|⟨rfl,hi3⟩)⟩
    ·have HS3:Hid (Sofar I Fp0 W Fp' (idsK cs (k+1)) W3):=Lib.hid ⟨hi3,grows_chg HS.out.2.1 HS.out.2.2 hgr hch⟩
     clear hgr hch hi3 hyy j0 j1 j3
     gi_wp2_with fail
     go_roundw
     case rel=>exact ⟨k+1,Fp',by omega,by go_num,HS3.out⟩
     case measure=>simp [intOf];omega
    ·have HI3:=Lib.hid (And.intro HP.out hi3)
     clear hgr hch hi3 hyy j0 j1 j3
     gi_wp2_with fail
     refine bodyPost_ret (results_none rfl _ _ _) rfl ?_
     exact ⟨⟨_,rfl⟩,Fp',.inr ⟨_,HI3.out.1,HI3.out.2⟩⟩
  ·obtain rfl:k=n:=by omega
   have HS:=Lib.hid hs
   clear hs
   gi_wp2_with fail
   go_end0
   exact ⟨⟨_,rfl⟩,Fp,.inl (by rw [HXS.out];exact HS.out.1)⟩
end
end Go.Proofs.YtnlmlehcpngcgaaGreat
