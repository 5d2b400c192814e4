/- Plain: edges, records, which may be; stores as lists of records. Plain: diagrams of five forms as terms; what Make and View do to them; tables as trees. -/
import Derived.Below
namespace Go.Proofs.YtnlmlehcpngcgaaGreat
set_option linter.unusedSimpArgs false
set_option linter.unusedVariables false
section
structure Edg where
 tag:Int
 pos:Int
deriving DecidableEq
structure Rec where
 form:Int
 top:Int
 bot:Int
 lo:Edg
 hi:Edg
deriving DecidableEq
def Edg.nil:Edg:=⟨0,0⟩
def Rec.nil:Rec:=⟨0,0,0,.nil,.nil⟩
def Edg.Wf (e:Edg):Prop:=0≤e.tag∧e.tag≤255∧0≤e.pos∧e.pos≤4294967295
def Rec.Wf (r:Rec):Prop:=(0≤r.form∧r.form≤255)∧(0≤r.top∧r.top≤255)∧(0≤r.bot∧r.bot≤255)∧r.lo.Wf∧r.hi.Wf
def Edg.cells (e:Edg):List Value:=[.int .u8 e.tag,.int .u32 e.pos]
def Rec.cells (r:Rec):List Value:=[.int .u8 r.form,.int .u8 r.top,.int .u8 r.bot,.int .u8 r.lo.tag,.int .u32 r.lo.pos,.int .u8 r.hi.tag,.int .u32 r.hi.pos]
theorem Edg.nil_wf:Edg.nil.Wf:=by unfold Edg.Wf Edg.nil;simp
def plain (f:Int) (e:Edg) (l n:Int):Bool:=
 decide (1≤f∧f≤5∧0≤n∧n≤16∧0≤l∧l≤n)&&(if f≠5∨e.pos=0 then decide (e.tag=0) else decide (l≤e.tag∧e.tag≤n))
def right (r:Rec) (n:Int):Bool:=
 decide (1≤r.form∧r.form≤5∧0≤n∧n≤16∧r.top≤r.bot∧r.bot<n∧(r.top=r.bot∨r.form=3∨r.form=4))&&plain r.form r.lo (r.bot+1) n&&plain r.form r.hi (r.bot+1) n&&
  (if r.form=2∨r.form=4 then decide (r.hi.pos≠0) else decide (r.lo≠r.hi))
def recAt (cs:List (Option Rec)) (id:Int):Option Rec:=if 2≤id then (cs[(id-2).toNat]?).join else none
def leads (cs:List (Option Rec)) (n:Int) (f:Int) (e:Edg) (l:Int):Bool:=
 plain f e l n&&(decide (e.pos<2)||(match recAt cs e.pos with |some r=>decide (r.form=f∧l≤r.top∧e.tag≤r.top)|none=>false))
inductive Dg where
 | nil
 | one (tag:Int)
 | node (tag top bot:Int) (lo hi:Dg)
deriving DecidableEq
inductive BT where
 | leaf (b:Bool)
 | br (lo hi:BT)
deriving DecidableEq
def BT.Dep:BT→Nat→Prop
 | .leaf _,m=>m=0
 | .br x y,m=>∃k,m=k+1∧x.Dep k∧y.Dep k
theorem BT.Dep.split {x:BT} {k:Nat} (h:x.Dep (k+1)):∃a b,x = .br a b∧a.Dep k∧b.Dep k:=by
 cases x with
 | leaf b=>simp [BT.Dep] at h
 | br a b=>
  obtain ⟨j,hj,h1,h2⟩:=h
  obtain rfl:j=k:=by omega
  exact ⟨a,b,rfl,h1,h2⟩
theorem BT.Dep.zero {x:BT} (h:x.Dep 0):∃b,x = .leaf b:=by
 cases x with
 | leaf b=>exact ⟨b,rfl⟩
 | br a b=>obtain ⟨j,hj,_⟩:=h;omega
theorem BT.Dep.mk {a b:BT} {k:Nat} (h1:a.Dep k) (h2:b.Dep k):(BT.br a b).Dep (k+1):=⟨k,rfl,h1,h2⟩
def Dg.tag:Dg→Int
 | .nil=>0
 | .one t=>t
 | .node t _ _ _ _=>t
def Dg.retag (t:Int):Dg→Dg
 | .nil=> .nil
 | .one _=> .one t
 | .node _ a b lo hi=> .node t a b lo hi
def mkT (f l:Int) (a b:Dg):Dg:=
 if f=1 then (if a=b then a else .node 0 l l a b)
 else if f=2 then (if b = .nil then a else .node 0 l l a b)
 else if f=3 then (if a=b then a else match a with
  | .node _ t bt a0 a1=>if t=l+1∧a1=b then .node 0 l bt a0 a1 else .node 0 l l a b
  | _=> .node 0 l l a b)
 else if f=4 then (if b = .nil then a else match a with
  | .node _ t bt a0 a1=>if a=b∧t=l+1 then .node 0 l bt a0 a1 else .node 0 l l a b
  | _=> .node 0 l l a b)
 else (if a=b then a else if b = .nil∧a.tag=l+1 then a.retag l else .node l l l a b)
def viewT (f l:Int) (T:Dg):Dg×Dg:=
 if f=1 then (match T with | .node _ t _ lo hi=>if t=l then (lo,hi) else (T,T)|_=>(T,T))
 else if f=2 then (match T with | .node _ t _ lo hi=>if t=l then (lo,hi) else (T,.nil)|_=>(T,.nil))
 else if f=3 then (match T with | .node _ t bt lo hi=>if t=l then (if bt=t then (lo,hi) else (.node 0 (l+1) bt lo hi,hi)) else (T,T)|_=>(T,T))
 else if f=4 then (match T with | .node _ t bt lo hi=>if t=l then (if bt=t then (lo,hi) else (.node 0 (l+1) bt lo hi,.node 0 (l+1) bt lo hi)) else (T,.nil)|_=>(T,.nil))
 else (if T = .nil∨l<T.tag then (T,T) else match T with | .node _ t _ lo hi=>if t=l then (lo,hi) else (T.retag (l+1),.nil)|_=>(T.retag (l+1),.nil))
def can (f n:Int):Int→BT→Dg
 | _,.leaf false=> .nil
 | _,.leaf true=> .one (if f=5 then n else 0)
 | l,.br x y=>mkT f l (can f n (l+1) x) (can f n (l+1) y)
def Ft (f l:Int):Dg→Prop
 | .nil=>True
 | .one t=>f=5→l≤t
 | .node tag top _ _ _=>l≤top∧(f=5→l≤tag)
def Gd (f n:Int):Dg→Prop
 | .nil=>True
 | .one t=>if f=5 then 0≤t∧t≤n else t=0
 | .node tag top bot lo hi=>(0≤top∧top≤bot∧bot<n∧(top=bot∨f=3∨f=4))∧(if f=5 then 0≤tag∧tag≤top else tag=0)∧(Ft f (bot+1) lo∧Gd f n lo)∧(Ft f (bot+1) hi∧Gd f n hi)∧
  (if f=2∨f=4 then hi≠ .nil else lo≠hi)
theorem Ft.le {f l l':Int} {T:Dg} (h:Ft f l T) (hl:l'≤l):Ft f l' T:=by
 cases T with
 | nil=>trivial
 | one t=>exact fun hf=>Int.le_trans hl (h hf)
 | node tag top bot lo hi=>exact ⟨Int.le_trans hl h.1,fun hf=>Int.le_trans hl (h.2 hf)⟩
section
variable {f n l:Int} {a b:Dg}
theorem mkT_good (hf:1≤f∧f≤5) (hl:0≤l∧l<n) (ha:Ft f (l+1) a∧Gd f n a) (hb:Ft f (l+1) b∧Gd f n b):Ft f l (mkT f l a b)∧Gd f n (mkT f l a b):=by
 have node:∀tag,(if f=5 then tag=l else tag=0)→(if f=2∨f=4 then b≠ .nil else a≠b)→Ft f l (.node tag l l a b)∧Gd f n (.node tag l l a b):=fun tag ht hn=>by
  refine ⟨⟨by omega,fun h=>by rw [if_pos h] at ht;omega⟩,⟨by omega,by omega,by omega,.inl rfl⟩,?_,ha,hb,hn⟩
  split at ht<;>rename_i h5
  ·rw [if_pos h5];omega
  ·rw [if_neg h5];exact ht
 unfold mkT
 split
 ·rename_i h;subst h
  split
  ·exact ⟨ha.1.le (by omega),ha.2⟩
  ·rename_i h1;exact node 0 (by simp) (by simpa using h1)
 split
 ·rename_i h;subst h
  split
  ·exact ⟨ha.1.le (by omega),ha.2⟩
  ·rename_i h1;exact node 0 (by simp) (by simpa using h1)
 split
 ·rename_i h;subst h
  split
  ·exact ⟨ha.1.le (by omega),ha.2⟩
  ·rename_i h1
   have hn:=node 0 (by simp) (by simpa using h1)
   cases a with
   | nil=>exact hn
   | one t=>exact hn
   | node tag t bt a0 a1=>
    simp only
    split
    ·rename_i h2
     obtain ⟨h2,h3⟩:=h2
     obtain ⟨⟨g1,g2⟩,⟨g3,g4,g5,g6⟩,g7,g8,g9,g10⟩:=ha
     exact ⟨⟨by omega,fun h=>by omega⟩,⟨by omega,by omega,by omega,.inr (.inl rfl)⟩,by simp,g8,g9,g10⟩
    ·exact hn
 split
 ·rename_i h;subst h
  split
  ·exact ⟨ha.1.le (by omega),ha.2⟩
  ·rename_i h1
   have hn:=node 0 (by simp) (by simpa using h1)
   cases a with
   | nil=>exact hn
   | one t=>exact hn
   | node tag t bt a0 a1=>
    simp only
    split
    ·rename_i h2
     obtain ⟨h2,h3⟩:=h2
     obtain ⟨⟨g1,g2⟩,⟨g3,g4,g5,g6⟩,g7,g8,g9,g10⟩:=ha
     exact ⟨⟨by omega,fun h=>by omega⟩,⟨by omega,by omega,by omega,.inr (.inr rfl)⟩,by simp,g8,g9,g10⟩
    ·exact hn
 ·obtain rfl:f=5:=by omega
  split
  ·exact ⟨ha.1.le (by omega),ha.2⟩
  ·rename_i h1
   split
   ·rename_i h2
    obtain ⟨h2,h3⟩:=h2
    cases a with
    | nil=>exact absurd h2.symm h1
    | one t=>
     simp only [Dg.tag] at h3
     subst h3
     exact ⟨fun _=>Int.le_refl _,by simp only [Dg.retag,Gd,if_true];omega⟩
    | node tag t bt a0 a1=>
     simp only [Dg.tag] at h3
     obtain ⟨⟨g1,g2⟩,⟨g3,g4,g5,g6⟩,g7,g8,g9,g10⟩:=ha
     rw [if_pos rfl] at g7
     exact ⟨⟨by omega,fun h=>by omega⟩,⟨by omega,by omega,by omega,g6⟩,by rw [if_pos rfl];omega,g8,g9,g10⟩
   ·exact node l (by simp) (by simpa using h1)
theorem view_mk (hf:1≤f∧f≤5) (ha:Ft f (l+1) a∧Gd f n a) (hb:Ft f (l+1) b∧Gd f n b):viewT f l (mkT f l a b)=(a,b):=by
 have hv1:∀(T:Dg) (x:Dg×Dg) (F:Int→Int→Dg→Dg→Dg×Dg),Ft f (l+1) T→(match (motive:=Dg→Dg×Dg) T with | .node _ t bt lo hi=>if t=l then F t bt lo hi else x|_=>x)=x:=fun T x F hT=>by
  cases T with
  | nil=>rfl
  | one t=>rfl
  | node tag t bt lo hi=>simp only;rw [if_neg (by have:=hT.1;omega)]
 unfold mkT
 split
 ·rename_i h;subst h
  split
  ·rename_i h1;subst h1
   unfold viewT
   rw [if_pos rfl]
   exact hv1 a (a,a) (fun _ _ lo hi=>(lo,hi)) ha.1
  ·simp [viewT]
 split
 ·rename_i h;subst h
  split
  ·rename_i h1;subst h1
   unfold viewT
   rw [if_neg (by omega),if_pos rfl]
   exact hv1 a (a,.nil) (fun _ _ lo hi=>(lo,hi)) ha.1
  ·simp [viewT]
 split
 ·rename_i h;subst h
  split
  ·rename_i h1;subst h1
   unfold viewT
   rw [if_neg (by omega),if_neg (by omega),if_pos rfl]
   exact hv1 a (a,a) (fun t bt lo hi=>if bt=t then (lo,hi) else (.node 0 (l+1) bt lo hi,hi)) ha.1
  ·rename_i h1
   have hn:viewT 3 l (.node 0 l l a b)=(a,b):=by simp [viewT]
   cases a with
   | nil=>exact hn
   | one t=>exact hn
   | node tag t bt a0 a1=>
    simp only
    split
    ·rename_i h2
     obtain ⟨h2,h3⟩:=h2
     subst h2 h3
     obtain ⟨g1,⟨g3,g4,g5,g6⟩,g7,g8⟩:=ha
     rw [if_neg (by omega)] at g7
     subst g7
     unfold viewT
     rw [if_neg (by omega),if_neg (by omega),if_pos rfl]
     simp only
     rw [if_pos trivial,if_neg (by omega)]
    ·exact hn
 split
 ·rename_i h;subst h
  split
  ·rename_i h1;subst h1
   unfold viewT
   rw [if_neg (by omega),if_neg (by omega),if_neg (by omega),if_pos rfl]
   exact hv1 a (a,.nil) (fun t bt lo hi=>if bt=t then (lo,hi) else (.node 0 (l+1) bt lo hi,.node 0 (l+1) bt lo hi)) ha.1
  ·rename_i h1
   have hn:viewT 4 l (.node 0 l l a b)=(a,b):=by simp [viewT]
   cases a with
   | nil=>exact hn
   | one t=>exact hn
   | node tag t bt a0 a1=>
    simp only
    split
    ·rename_i h2
     obtain ⟨h2,h3⟩:=h2
     subst h2 h3
     obtain ⟨g1,⟨g3,g4,g5,g6⟩,g7,g8⟩:=ha
     rw [if_neg (by omega)] at g7
     subst g7
     unfold viewT
     rw [if_neg (by omega),if_neg (by omega),if_neg (by omega),if_pos rfl]
     simp only
     rw [if_pos trivial,if_neg (by omega)]
    ·exact hn
 ·obtain rfl:f=5:=by omega
  have e5:∀T:Dg,viewT 5 l T=if T = .nil∨l<T.tag then (T,T) else match T with | .node _ t _ lo hi=>if t=l then (lo,hi) else (T.retag (l+1),.nil)|_=>(T.retag (l+1),.nil):=fun T=>by unfold viewT;rw [if_neg (by omega),if_neg (by omega),if_neg (by omega),if_neg (by omega)]
  split
  ·rename_i h1;subst h1
   rw [e5,if_pos]
   cases a with
   | nil=>exact .inl rfl
   | one t=>right;have:=ha.1 rfl;simp only [Dg.tag];omega
   | node tag t bt a0 a1=>right;have:=ha.1.2 rfl;simp only [Dg.tag];omega
  ·rename_i h1
   split
   ·rename_i h2
    obtain ⟨h2,h3⟩:=h2
    subst h2
    cases a with
    | nil=>exact absurd rfl h1
    | one t=>
     simp only [Dg.tag] at h3
     subst h3
     rw [e5,if_neg (by simp [Dg.tag,Dg.retag])]
     simp [Dg.retag]
    | node tag t bt a0 a1=>
     simp only [Dg.tag] at h3
     subst h3
     rw [e5,if_neg (by simp [Dg.tag,Dg.retag])]
     have:=ha.1.1
     simp only [Dg.retag]
     rw [if_neg (by omega)]
   ·rw [e5,if_neg (by simp [Dg.tag])]
    simp
theorem can_good (hf:1≤f∧f≤5):∀(x:BT) (l:Int) (m:Nat),x.Dep m→l+m=n→0≤l→Ft f l (can f n l x)∧Gd f n (can f n l x)
 | .leaf false,l,m,h,hl,h0=>⟨trivial,trivial⟩
 | .leaf true,l,m,h,hl,h0=>by
  have hm:m=0:=h
  unfold can Ft Gd
  constructor
  ·intro h5;rw [if_pos h5];omega
  ·split<;>omega
 | .br x y,l,m,h,hl,h0=>by
  obtain ⟨k,hk,h1,h2⟩:=h
  subst hk
  unfold can
  exact mkT_good hf ⟨h0,by omega⟩ (can_good hf x (l+1) k h1 (by omega) (by omega)) (can_good hf y (l+1) k h2 (by omega) (by omega))
theorem view_can (hf:1≤f∧f≤5) {x y:BT} {m:Nat} (hx:x.Dep m) (hy:y.Dep m) (hl:l+(m+1:Nat)=n) (h0:0≤l):viewT f l (can f n l (.br x y))=(can f n (l+1) x,can f n (l+1) y):=by
 rw [show can f n l (.br x y)=mkT f l (can f n (l+1) x) (can f n (l+1) y) from rfl]
 exact view_mk (n:=n) hf (can_good hf x (l+1) m hx (by omega) (by omega)) (can_good hf y (l+1) m hy (by omega) (by omega))
theorem can_inj (hf:1≤f∧f≤5):∀(x y:BT) (l:Int) (m:Nat),x.Dep m→y.Dep m→l+m=n→0≤l→can f n l x=can f n l y→x=y
 | .leaf a,y,l,m,hx,hy,hl,h0,h=>by
  have hm:m=0:=hx
  subst hm
  obtain ⟨b,rfl⟩:=hy.zero
  cases a<;>cases b<;>simp [can] at h ⊢
 | .br x1 x2,y,l,m,hx,hy,hl,h0,h=>by
  obtain ⟨k,hk,h1,h2⟩:=hx
  subst hk
  obtain ⟨y1,y2,rfl,h3,h4⟩:=hy.split
  have e1:=view_can (f:=f) (n:=n) hf h1 h2 (by omega) h0
  have e2:=view_can (f:=f) (n:=n) hf h3 h4 (by omega) h0
  rw [h,e2] at e1
  injection e1 with e1 e3
  rw [can_inj hf x1 y1 (l+1) k h1 h3 (by omega) (by omega) e1.symm,can_inj hf x2 y2 (l+1) k h2 h4 (by omega) (by omega) e3.symm]
end
def BT.zeros:Nat→BT
 | 0=> .leaf false
 | k+1=> .br (zeros k) (zeros k)
theorem BT.zeros_dep:∀k,(BT.zeros k).Dep k
 | 0=>rfl
 | k+1=> .mk (zeros_dep k) (zeros_dep k)
theorem mkT_nil (f l:Int):mkT f l .nil .nil = .nil:=by
 unfold mkT
 simp
theorem can_zeros (f n:Int):∀(k:Nat) (l:Int),can f n l (BT.zeros k) = .nil
 | 0,l=>rfl
 | k+1,l=>by
  rw [BT.zeros,can,can_zeros f n k,mkT_nil]
theorem can_nil {f n l:Int} (hf:1≤f∧f≤5) {x:BT} {m:Nat} (hx:x.Dep m) (hl:l+m=n) (h0:0≤l):can f n l x = .nil↔x=BT.zeros m:=by
 constructor
 ·intro h
  exact can_inj hf x _ l m hx (BT.zeros_dep m) hl h0 (by rw [h,can_zeros])
 ·rintro rfl
  exact can_zeros f n m l
end
end Go.Proofs.YtnlmlehcpngcgaaGreat
