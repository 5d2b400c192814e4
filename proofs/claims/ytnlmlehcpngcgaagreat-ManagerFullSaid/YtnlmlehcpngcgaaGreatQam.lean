/- Contracts: store.Has, Find. What the contracts of the diagrams' functions have in common. Contract: store.reached. -/
import Derived.Test.YtnlmlehcpngcgaaGreatQaj
import Derived.Test.YtnlmlehcpngcgaaGreatQaa
import Derived.Test.YtnlmlehcpngcgaaGreatQal
namespace Go.Proofs.YtnlmlehcpngcgaaGreat
set_option linter.unusedSimpArgs false
set_option linter.unusedVariables false
section
open Go.RowKit Go.Sort
theorem chg2 (w:World) (g:Nat) (u v:Value):Chg [g] w ((w.setCell ⟨g,0,none⟩ u).setCell ⟨g,1,none⟩ v):=((Chg.refl [g] w).setCell (.inl (by simp)) _).setCell (.inl (by simp)) _
theorem eql_edge (lt lp ht hp:Int) (x:Bool) (hx:decide ((⟨lt,lp⟩:Edg)=⟨ht,hp⟩)=x) (w:World):(binOp .eql 48 (.agg #[.int .u8 lt,.int .u32 lp]) (.agg #[.int .u8 ht,.int .u32 hp])).run Tryz.prog w = .ok (.bool x) w:=by
 subst hx
 by_cases h1:lt=ht
 ·by_cases h2:lp=hp
  ·subst h1 h2
   rw [decide_eq_true rfl]
   go_simp
  ·rw [decide_eq_false (fun e=>h2 (by injection e))]
   have e2:(lp==hp)=false:=by simpa using h2
   subst h1
   go_simp
 ·rw [decide_eq_false (fun e=>h1 (by injection e))]
  go_simp
section
variable {z:Bool} {n room:Nat} {cs:List (Option Rec)} {l:Int} {lo hi:Edg}
end
theorem u8_in (x:Int) (h:0≤x∧x<256):IntKind.u8.wrap x=x:=by
 rw [IntKind.wrap_u8];omega
end
section
open Go Go.RowKit Go.Maps
theorem info_u32:(Tryz.prog.info? 46).map (fun i=>(i.zero,i.size,i.bytes))=some (some (.int .u32 0),1,4):=by kernel_rfl
def RchOut (w:World) (cs:List (Option Rec)) (l:List Edg) (e:Ending) (w':World):Prop:=∃q V,e = .returned (.map (some q))∧w.heap.size≤q∧VisL cs [] l V∧MapIs w' q V
set_option maxRecDepth 100000 in
set_option maxHeartbeats 8000000 in
theorem reached_any (F:List Nat) (gs nv room:Nat) (cs:List (Option Rec)) (free:List Int) (A:Option Addr) (n c:Nat) (l:List Edg) (w:World) (h:StoreAt w F gs nv room cs free) (hcs:cs.length≤1048576) (hl:l.length=n) (hn:n≤1000000) (hrow:RowS 2 Edg.cells w w.heap.size A l) (hwf:∀e∈l,e.Wf) :
  Calls Tryz.prog 93 #[.pointer (some ⟨gs,0,none⟩),.slice A n c] w fun e w'=>RchOut w cs l e w'∧Below w.heap.size w w':=by
 obtain ⟨X,hX⟩:∃X,X=(((w.alloc (.cells #[.pointer (some ⟨gs,0,none⟩)] 36)).alloc (.map #[] 0)).alloc (.cells #[.map (some (w.heap.size+1))] 174)).alloc (.cells #[.func (.func 109) #[] #[.pointer (some ⟨w.heap.size,0,none⟩),.pointer (some ⟨w.heap.size+1+1,0,none⟩),.pointer (some ⟨w.heap.size+1+1+1,0,none⟩)]] 198):=⟨_,rfl⟩
 have hbX:Below w.heap.size w X:=by rw [hX];exact ((((Below.refl _ _).alloc (Nat.le_refl _) _).alloc (by simp) _).alloc (by simp;omega) _).alloc (by simp;omega) _
 have hsX:X.heap.size=w.heap.size+4:=by rw [hX];simp
 have x0:X.cell? ⟨w.heap.size,0,none⟩=some (.pointer (some ⟨gs,0,none⟩)):=by rw [hX];simp [go_sem]
 have x2:X.cell? ⟨w.heap.size+1+1,0,none⟩=some (.map (some (w.heap.size+1))):=by rw [hX];simp [go_sem]
 have x3:X.cell? ⟨w.heap.size+1+1+1,0,none⟩=some (.func (.func 109) #[] #[.pointer (some ⟨w.heap.size,0,none⟩),.pointer (some ⟨w.heap.size+1+1,0,none⟩),.pointer (some ⟨w.heap.size+1+1+1,0,none⟩)]):=by rw [hX];simp [go_sem]
 have xm:MapIs X (w.heap.size+1) []:=by
  have h0:=MapIs.made (w.alloc (.cells #[.pointer (some ⟨gs,0,none⟩)] 36))
  rw [World.size_alloc] at h0
  refine h0.keep ?_
  rw [hX,Below.heap_alloc _ _ _ (by simp),Below.heap_alloc _ _ _ (by simp)]
 have hVS:VS X F gs nv room cs free w.heap.size (w.heap.size+1+1) (w.heap.size+1+1+1) (w.heap.size+1):=⟨h.on hbX,x0,x2,x3,fun hq=>by have:=h.lt _ hq;omega,⟨by omega,by omega,by omega⟩,⟨by omega,by omega,by omega⟩⟩
 have HX:=Lib.hid hX
 have HBX:=Lib.hid hbX
 have HSX:=Lib.hid hsX
 have HVS:=Lib.hid (And.intro hVS xm)
 have HROW:=Lib.hid (And.intro hrow hwf)
 have HV:=Lib.hid (fun V e W hV hM hS hw=>visit_any F gs nv room cs free w.heap.size (w.heap.size+1+1) (w.heap.size+1+1+1) (w.heap.size+1) hcs cs.length V e W (by omega) hV hM hS hw)
 clear hX hbX hsX x0 x2 x3 xm hVS hrow hwf h
 go_enter Tryz.func93,Tryz.ntmps93
 go_wp2_with fail
 rw [show ∀W,(Instr.makeMap 174 none).run Tryz.prog W = .ok (.map (some W.heap.size)) (W.alloc (.map #[] 0)) from fun _=>rfl]
 simp only [Result.andThen]
 rw [Oper.upon_value]
 go_wp2_with fail
 rw [run_store _ _ _ _ _ rfl,World.cell?_alloc_at _ _ _ _ (by simp),World.frozen?_alloc_at _ _ _ _ (by simp)]
 simp only [Result.andThen]
 go_wp2_with fail
 rw [← HX.out]
 go_loopw [13] (fun i wr=>∃(k:Nat) (V:List Int),k≤n∧i = .int .i64 (k:Nat)∧VisL cs [] (l.take k) V∧MapIs wr (w.heap.size+1) V∧Chg [w.heap.size+1] X wr) (fun i _=>n-(intOf i).toNat)
 case atStart=>exact ⟨0,[],by omega,rfl,by simpa using VisL.nil,HVS.out.2,Chg.refl _ _⟩
 case round=>
  obtain ⟨k,V,hk,rfl,hv,hm,hc⟩:=hrel
  have hS:=HVS.out.1.chg hc
  have hbr:Below w.heap.size w wr:=HBX.out.trans (hc.below HBX.out.size (fun x hx=>by simp at hx;omega))
  have HR:=Lib.hid (And.intro hv (And.intro hm (And.intro hc (And.intro hS hbr))))
  have hsz:=HSX.out
  have hrs:=hc.size
  have j2:=hS.i
  by_cases hkn:k<n
  ·have hki:(k:Int)<(n:Int):=by omega
   obtain ⟨e,he⟩:∃e,l[k]? =some e:=⟨_,List.getElem?_eq_getElem (by omega)⟩
   obtain ⟨b,off,rfl,hb,hcell⟩:=HROW.out.1 (by omega)
   have hce:=hcell k e he
   have k0:wr.cell? ⟨b,off+k*2,none⟩=some (.int .u8 e.tag):=(hbr.cell (p:=⟨b,off+k*2,none⟩) hb).trans (by simpa using hce 0 _ rfl)
   have k1:wr.cell? ⟨b,off+k*2+1,none⟩=some (.int .u32 e.pos):=(hbr.cell (p:=⟨b,off+k*2+1,none⟩) hb).trans (by simpa using hce 1 _ rfl)
   have j0:=hS.s
   have j3:=hS.v
   have hbl:b<wr.heap.size:=by have:=hbr.size;omega
   have l3:w.heap.size+1+1+1<wr.heap.size:=by omega
   have l2:w.heap.size+1+1<wr.heap.size:=by omega
   have l0:w.heap.size<wr.heap.size:=by omega
   have hew:e.Wf:=HROW.out.2 e (List.mem_of_getElem? he)
   have hchA:Chg [w.heap.size+1] wr (wr.alloc (.cells #[.int .u8 e.tag,.int .u32 e.pos] 48)):=(Chg.refl _ _).alloc _
   have HC:=Lib.hid (HV.out V e _ (hv.ids Ids.nil).1 (hm.chg (F:=[]) (chg_of_below ((Below.refl _ _).alloc (Nat.le_refl _) _)) (by simp)) (hS.chg hchA) hew)
   have HE:=Lib.hid (And.intro he hchA)
   clear hv hm hc hS hbr hce he hcell hew hchA
   go_wp2_with fail
   refine HC.out.mono ?_
   rintro r w9 ⟨rfl,V',hv',hm',hc'⟩
   obtain ⟨hv,hm,hc,hS,hbr⟩:=HR.out
   have HV9:Hid (VisL cs [] (l.take (k+1)) V'∧Chg [w.heap.size+1] X w9):=Lib.hid ⟨by
    rw [List.take_add_one,HE.out.1]
    exact .snoc hv hv',hc.trans (HE.out.2.trans hc' (fun x hx=> .inl hx)) (fun x hx=> .inl hx)⟩
   have HM9:=Lib.hid hm'
   clear hv hm hc hS hbr hv' hm' hc' k0 k1 j0 j2 j3
   go_wp2_with fail
   go_roundw
   case rel=>exact ⟨k+1,V',by omega,by go_num,HV9.out.1,HM9.out,HV9.out.2⟩
   case measure=>simp [intOf];omega
  ·have hki:¬(k:Int)<(n:Int):=by omega
   have hkl:l.take k=l:=List.take_of_length_le (by omega)
   rw [hkl] at hv
   have HFIN:=Lib.hid (And.intro hv (And.intro hm hbr))
   clear hv hm hc hS hbr hkl
   go_wp2_with fail
   go_ret
   exact ⟨⟨_,V,rfl,by omega,HFIN.out.1,HFIN.out.2.1⟩,HFIN.out.2.2⟩
end
end Go.Proofs.YtnlmlehcpngcgaaGreat
