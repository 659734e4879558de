/- Abstract values and their relation to the model's cells. No condition. -/
import Derived.WalkKit
set_option linter.unusedSimpArgs false
set_option linter.unusedVariables false
set_option linter.unusedSectionVars false
section
namespace Go.Ab
open Go
inductive TyD
 | bool|int (k:IntKind)|str
 | struct (fs:List TypeId)|arr (n:Nat) (e:TypeId)|slice (e:TypeId)
 | ptr|map (k e:TypeId)|func|iface|other
 deriving DecidableEq

inductive Tok
 | no|full|own (k v:Nat)
 deriving DecidableEq

inductive AV
 | b (x:Bool)|i (k:IntKind) (n:Int)|s (x:List UInt8)
 | agg (ps:List AV)|sl (t:Tok) (xs:List AV)
 | msl (b:Nat) (e:TypeId) (off len cap:Nat)|nsl
 | ptr (b:Nat) (d:TyD) (path:List Nat)|nilptr
 | fn (f:FuncId) (caps:List AV)|nilfn
 | map (r:Option Nat)
 | ifc (T:TypeId) (x:AV)|nilifc
 | yl (l:Nat)
 | bm (f:FuncId) (first:List AV)

structure zk6 where
 b:Nat
 cap:Nat
 len:Nat
 e:TypeId

structure Gh where
 imm:Nat->Nat
 γ:Nat->Nat->Option zk6

def Gh.le (g g':Gh):Prop:=(∀b,g.imm b<=g'.imm b)/\∀k v t,g.γ k v=some t->g'.γ k v=some t

theorem Gh.le_refl (g:Gh):g.le g:=⟨fun _=>Nat.le_refl _,fun _ _ _ h=>h⟩
theorem Gh.le_trans {a b c:Gh} (h:a.le b) (k:b.le c):a.le c :=
 ⟨fun x=>Nat.le_trans (h.1 x) (k.1 x),fun x y t e=>k.2 x y t (h.2 x y t e)⟩

def q9 (P:Program) (T:TypeId):TyD :=
 if T<P.types.size then match P.underlying T with
 | some .bool=>.bool
 | some (.int k)=>.int k
 | some .string=>.str
 | some (.struct fs)=>if fs.toList.all (fun f=>f.name != "_") then .struct (fs.toList.map (·.type)) else .other
 | some (.array n e)=>.arr n e
 | some (.slice e)=>.slice e
 | some (.pointer _)=>.ptr
 | some (.map k e)=>.map k e
 | some (.func _ _ _)=>.func
 | some (.interface _)=>.iface
 | _=>.other
 else .other

def szD (P:Program):TyD->Nat
 | .struct fs=>(fs.map P.cellsOf).sum
 | .arr n e=>n*P.cellsOf e
 | _=>1

def zU (w:World) (b off n:Nat):List Value :=
 match w.heap[b]? with
 | some (.cells cs _ _)=>(cs.toList.drop off).take n
 | _=>[]

def Z7 (P:Program):TyD->List Nat->Option (Nat × TyD)
 | d,[]=>some (0,d)
 | .struct fs,i::p =>
  match fs[i]? with
  | some f=>(Z7 P (q9 P f) p).map fun r=>(((fs.take i).map P.cellsOf).sum+r.1,r.2)
  | none=>none
 | .arr _ e,i::p=>(Z7 P (q9 P e) p).map fun r=>(i*P.cellsOf e+r.1,r.2)
 | _,_::_=>none

def gK (P:Program):TyD->List Nat->Option TyD
 | d,[]=>some d
 | .struct fs,i::p=>match fs[i]? with|some f=>gK P (q9 P f) p|none=>none
 | .arr _ e,_::p=>gK P (q9 P e) p
 | _,_::_=>none

def TyD.isAgg:TyD->Bool
 | .struct _|.arr _ _=>true
 | _=>false

def kK (d:TyD):Value->Prop
 | .agg _=>d.isAgg=true
 | .tuple _=>False
 | _=>d.isAgg=false

def gR (g:Gh) (t:Tok) (a:Option Addr) (len cap:Nat) (e:TypeId):Prop :=
 match t with
 | .no=>True
 | .full=>cap=len
 | .own k v=>cap=len\/∃b,a=some ⟨b,0,none⟩/\g.γ k v=some ⟨b,cap,len,e⟩

mutual
def VC (P:Program) (g:Gh) (w:World) (d:TyD):AV->List Value->Prop
 | .b x,cs=>d=.bool/\cs=[.bool x]
 | .i k n,cs=>d=.int k/\cs=[.int k n]
 | .s x,cs=>d=.str/\cs=[.string ⟨x.toArray⟩]
 | .agg ps,cs =>
  match d with
  | .struct fs=>VF P g w fs ps cs
  | .arr n e=>ps.length=n/\VL P g w e ps cs
  | _=>False
 | .sl t xs,cs=>∃e a cap,d=.slice e/\cs=[.slice a xs.length cap]/\xs.length<=cap/\
   (xs=[]\/∃b off,a=some ⟨b,off,none⟩/\off+xs.length*P.cellsOf e<=g.imm b/\
    VL P g w e xs (zU w b off (xs.length*P.cellsOf e)))/\gR g t a xs.length cap e
 | .msl b e off len cap,cs=>d=.slice e/\cs=[.slice (some ⟨b,off*P.cellsOf e,none⟩) len cap]
 | .nsl,cs=>∃e,d=.slice e/\cs=[.slice none 0 0]
 | .ptr b d' path,cs=>d=.ptr/\∃off t,Z7 P d' path=some (off,t)/\cs=[.pointer (some ⟨b,off,none⟩)]
 | .nilptr,cs=>d=.ptr/\cs=[.pointer none]
 | .fn f caps,cs=>d=.func/\∃vs:List Value,cs=[.func (.func f) #[] vs.toArray]/\VA P g w caps vs
 | .nilfn,cs=>d=.func/\cs=[.nilFunc]
 | .map r,cs=>∃k e,d=.map k e/\cs=[.map r]
 | .ifc T x,cs=>d=.iface/\∃v:Value,cs=[.iface T v]/\kK (q9 P T) v/\VC P g w (q9 P T) x v.cells.toList
 | .nilifc,cs=>d=.iface/\cs=[.nilIface]
 | .yl l,cs=>d=.func/\cs=[.func (.yield l) #[] #[]]
 | .bm f fs,cs=>d=.func/\∃vs:List Value,cs=[.func (.func f) vs.toArray #[]]/\VA P g w fs vs
def VL (P:Program) (g:Gh) (w:World) (e:TypeId):List AV->List Value->Prop
 | [],cs=>cs=[]
 | x::xs,cs=>∃c1 c2,cs=c1++c2/\VC P g w (q9 P e) x c1/\VL P g w e xs c2
def VF (P:Program) (g:Gh) (w:World) (fs:List TypeId):List AV->List Value->Prop
 | [],cs=>fs=[]/\cs=[]
 | x::xs,cs=>∃f r c1 c2,fs=f::r/\cs=c1++c2/\VC P g w (q9 P f) x c1/\VF P g w r xs c2
def VA (P:Program) (g:Gh) (w:World):List AV->List Value->Prop
 | [],cs=>cs=[]
 | x::xs,cs=>∃(d:TyD) (v:Value) (c2:List Value),cs=v::c2/\kK d v/\VC P g w d x v.cells.toList/\VA P g w xs c2
end
end Go.Ab
end
section
namespace Go.Ab
open Go
theorem J3 {P:Program} {T:TypeId} (h:q9 P T≠.other):T<P.types.size:=by
 simp_all[q9]

theorem p6 {P:Program} {T:TypeId} (h:q9 P T≠.other):isVar P T=true:=by
 have h1:=J3 h
 unfold q9 at h
 rw[if_pos h1]at h
 simp only[isVar,h1,decide_true,Bool.true_and]
 grind [kindOk]

theorem pB {P:Program} (hl:laidOutB P=true) {T:TypeId} (h:T<P.types.size):rowFine P T=true:=by
 simp_all[laidOutB]

theorem jG {P:Program} (hl:laidOutB P=true) {T:TypeId} (h:q9 P T≠.other):P.cellsOf T=szD P (q9 P T):=by
 have hv:=p6 h
 have hlt:T<P.types.size:=by simp_all[isVar]
 have hr:=pB hl hlt
 unfold rowFine at hr
 simp only[hv,Bool.not_true,Bool.false_or]at hr
 unfold q9 at h |-
 rw[if_pos hlt]at h |-
 cases hu:P.underlying T with
 | none=>simp_all
 | some d =>
  cases d<;>simp_all[szD]
  rfl

theorem zbn {w:World} {b off n:Nat} {cs:Array Value} {E:TypeId} {fz:Nat × Nat} (h:w.heap[b]?=some (.cells cs E fz)) (hn:off+n<=cs.size) :
  (zU w b off n).length=n:=by
 grind [zU]

section
variable {P:Program} (hl:laidOutB P=true) {g:Gh} {w:World}
include hl
mutual
theorem wN (x:AV) (d:TyD) (cs:List Value) (hd:d≠.other) (h:VC P g w d x cs):cs.length=szD P d:=by
 cases x with
 | b x=>obtain⟨rfl,rfl⟩:=h;rfl
 | i k n=>obtain⟨rfl,rfl⟩:=h;rfl
 | s x=>obtain⟨rfl,rfl⟩:=h;rfl
 | agg ps =>
  cases d with
  | struct fs=>simp only[VC]at h;exact zlC ps fs cs h
  | arr n e =>
   simp only[VC]at h
   obtain⟨rfl,h⟩:=h
   exact ZD ps e cs h
  | _=>grind [VC]
 | sl t xs=>simp only[VC]at h;obtain⟨e,a,cap,rfl,rfl,_⟩:=h;rfl
 | msl b e off len cap=>simp only[VC]at h;obtain⟨rfl,rfl⟩:=h;rfl
 | nsl=>simp only[VC]at h;obtain⟨e,rfl,rfl⟩:=h;rfl
 | ptr b d' path=>simp only[VC]at h;obtain⟨rfl,off,t,_,rfl⟩:=h;rfl
 | fn f caps=>simp only[VC]at h;obtain⟨rfl,vs,rfl,_⟩:=h;rfl
 | bm f caps=>simp only[VC]at h;obtain⟨rfl,vs,rfl,_⟩:=h;rfl
 | nilptr=>simp only[VC]at h;obtain⟨rfl,rfl⟩:=h;rfl
 | nilfn=>simp only[VC]at h;obtain⟨rfl,rfl⟩:=h;rfl
 | map r=>simp only[VC]at h;obtain⟨k,e,rfl,rfl⟩:=h;rfl
 | ifc T x=>simp only[VC]at h;obtain⟨rfl,v,rfl,_⟩:=h;rfl
 | nilifc=>simp only[VC]at h;obtain⟨rfl,rfl⟩:=h;rfl
 | yl l=>simp only[VC]at h;obtain⟨rfl,rfl⟩:=h;rfl
theorem ZD (xs:List AV) (e:TypeId) (cs:List Value) (h:VL P g w e xs cs):cs.length=xs.length*P.cellsOf e:=by
 cases xs with
 | nil=>simp_all[VL]
 | cons x xs =>
  simp only[VL]at h
  obtain⟨c1,c2,rfl,h1,h2⟩:=h
  have a2:=ZD xs e c2 h2
  have hne:q9 P e≠.other:=y5 x (q9 P e) c1 h1
  have a1:=wN x (q9 P e) c1 hne h1
  rw[<-jG hl hne]at a1
  simp[a1,a2,Nat.succ_mul,Nat.add_comm]
theorem zlC (ps:List AV) (fs:List TypeId) (cs:List Value) (h:VF P g w fs ps cs):cs.length=(fs.map P.cellsOf).sum:=by
 cases ps with
 | nil=>simp_all[VF]
 | cons x xs =>
  simp only[VF]at h
  obtain⟨f,r,c1,c2,rfl,rfl,h1,h2⟩:=h
  have a2:=zlC xs r c2 h2
  have hne:q9 P f≠.other:=y5 x (q9 P f) c1 h1
  have a1:=wN x (q9 P f) c1 hne h1
  rw[<-jG hl hne]at a1
  simp[a1,a2]
theorem y5 (x:AV) (d:TyD) (cs:List Value) (h:VC P g w d x cs):d≠.other:=by
 cases x with
 | agg ps=>grind [VC]
 | sl t xs=>simp only[VC]at h;grind
 | ptr b d' path=>simp_all[VC]
 | map r=>simp only[VC]at h;grind
 | nsl=>simp only[VC]at h;grind
 | _=>simp_all[VC]
end
end
/-! ### what is kept -/
def ZI (g:Gh) (w:World):Prop:=∀b,0<g.imm b->∃cs E fz,w.heap[b]?=some (.cells cs E fz)/\g.imm b<=cs.size
def jP (g:Gh) (w w':World):Prop:=∀b cs E fz,0<g.imm b->w.heap[b]?=some (.cells cs E fz)->
 ∃cs' E' fz',w'.heap[b]?=some (.cells cs' E' fz')/\cs'.size=cs.size/\∀o,o<g.imm b->cs'[o]?=cs[o]?
theorem U2 {g:Gh} {w w':World} (hi:ZI g w) (hk:jP g w w') {b off n:Nat} (h:off+n<=g.imm b):zU w' b off n=zU w b off n:=by
 by_cases hn:n=0
 ·grind [zU]
 obtain⟨cs,E,fz,hb,hs⟩:=hi b (by omega)
 obtain⟨cs',E',fz',hb',_,ho⟩:=hk b cs E fz (by omega) hb
 simp only[zU,hb,hb']
 apply List.ext_getElem?
 grind
section
variable {P:Program} {g g':Gh} {w w':World} (hle:g.le g') (hi:ZI g w) (hk:jP g w w')
include hle hi hk
mutual
theorem jE (x:AV) (d:TyD) (cs:List Value) (h:VC P g w d x cs):VC P g' w' d x cs:=by
 cases x with
 | agg ps =>
  cases d with
  | struct fs=>simp only[VC]at h |-;exact zjQ ps fs cs h
  | arr n e=>simp only[VC]at h |-;exact⟨h.1,JS ps e cs h.2⟩
  | _=>simp[VC]at h
 | sl t xs =>
  simp only[VC]at h |-
  obtain⟨e,a,cap,h1,h2,h3,h4,h5⟩:=h
  refine⟨e,a,cap,h1,h2,h3,?_,?_⟩
  ·rcases h4 with h4|⟨b,off,ha,hb,hv⟩
   ·exact .inl h4
   ·refine .inr ⟨b,off,ha,Nat.le_trans hb (hle.1 b),?_⟩
    rw[U2 hi hk hb]
    exact JS xs e _ hv
  ·cases t with
   | no=>trivial
   | full=>exact h5
   | own k v=>exact h5.imp id (fun⟨b,hb,hg⟩=>⟨b,hb,hle.2 _ _ _ hg⟩)
 | fn f caps=>simp only[VC]at h |-;obtain⟨h1,vs,h2,h3⟩:=h;exact⟨h1,vs,h2,za1 caps vs h3⟩
 | bm f caps=>simp only[VC]at h |-;obtain⟨h1,vs,h2,h3⟩:=h;exact⟨h1,vs,h2,za1 caps vs h3⟩
 | ifc T x=>simp only[VC]at h |-;obtain⟨h1,v,h2,hf,h3⟩:=h;exact⟨h1,v,h2,hf,jE x _ _ h3⟩
 | _=>simp only[VC]at h |-;exact h
theorem JS (xs:List AV) (e:TypeId) (cs:List Value) (h:VL P g w e xs cs):VL P g' w' e xs cs:=by
 cases xs with
 | nil=>simp only[VL]at h |-;exact h
 | cons x xs =>
  simp only[VL]at h |-
  obtain⟨c1,c2,h1,h2,h3⟩:=h
  exact⟨c1,c2,h1,jE x _ _ h2,JS xs _ _ h3⟩
theorem zjQ (ps:List AV) (fs:List TypeId) (cs:List Value) (h:VF P g w fs ps cs):VF P g' w' fs ps cs:=by
 cases ps with
 | nil=>simp only[VF]at h |-;exact h
 | cons x xs =>
  simp only[VF]at h |-
  obtain⟨f,r,c1,c2,h0,h1,h2,h3⟩:=h
  exact⟨f,r,c1,c2,h0,h1,jE x _ _ h2,zjQ xs _ _ h3⟩
theorem za1 (xs:List AV) (cs:List Value) (h:VA P g w xs cs):VA P g' w' xs cs:=by
 cases xs with
 | nil=>simp only[VA]at h |-;exact h
 | cons x xs =>
  simp only[VA]at h |-
  obtain⟨d,v,c2,h1,hf,h2,h3⟩:=h
  exact⟨d,v,c2,h1,hf,jE x _ _ h2,za1 xs _ h3⟩
end
end
/-! ### paths -/
def X6:AV->List Nat->Option AV
 | x,[]=>some x
 | .agg ps,i::p=>(ps[i]?).bind fun y=>X6 y p
 | _,_::_=>none
theorem WW {P:Program} (p:List Nat):∀(d:TyD),(Z7 P d p).map (·.2)=gK P d p:=by
 induction p with
 | nil=>intro d;rfl
 | cons i p ih =>
  intro d
  cases d with
  | struct fs =>
   simp only[Z7,gK]
   cases fs[i]? with
   | none=>rfl
   | some f=>simp_all[Function.comp_def]
  | arr n e=>simp_all[Z7,gK,Function.comp_def]
  | _=>rfl
theorem cJ {P:Program} {p q:List Nat} {d d1 d2:TyD} {o1 o2:Nat} (h1:Z7 P d p=some (o1,d1)) (h2:Z7 P d1 q=some (o2,d2)) :
  Z7 P d (p++q)=some (o1+o2,d2):=by
 induction p generalizing d o1 with
 | nil=>simp_all[Z7]
 | cons i p ih =>
  cases d with
  | struct fs =>
   simp only[List.cons_append,Z7]at h1 |-
   cases hf:fs[i]? with
   | none=>simp_all
   | some f =>
    simp only[hf,Option.map_eq_some_iff,Prod.mk.injEq]at h1 |-
    grind
  | arr n e =>
   simp only[List.cons_append,Z7,Option.map_eq_some_iff,Prod.mk.injEq]at h1 |-
   grind
  | _=>grind [Z7]
def PG:AV->List Nat->AV->AV
 | _,[],y=>y
 | .agg ps,i::p,y=>.agg (ps.set i (match ps[i]? with|some x=>PG x p y|none=>.nilfn))
 | x,_::_,_=>x
section
variable {P:Program} (hl:laidOutB P=true) {g:Gh} {w:World}
include hl
theorem vQ {xs:List AV} {e:TypeId} {cs:List Value} (h:VL P g w e xs cs) {i:Nat} {x:AV} (hx:xs[i]?=some x) :
  VC P g w (q9 P e) x ((cs.drop (i*P.cellsOf e)).take (P.cellsOf e))/\i*P.cellsOf e+P.cellsOf e<=cs.length:=by
 induction xs generalizing cs i with
 | nil=>simp at hx
 | cons y ys ih =>
  simp only[VL]at h
  obtain⟨c1,c2,rfl,h1,h2⟩:=h
  have hne:=y5 hl y _ _ h1
  have hc1:=wN hl y _ _ hne h1
  rw[<-jG hl hne]at hc1
  cases i with
  | zero =>
   simp_all
  | succ i =>
   simp at hx
   obtain⟨a,b⟩:=ih h2 hx
   refine⟨?_,by grind⟩
   simp_all[Nat.succ_mul,List.drop_append,List.drop_of_length_le]
theorem zmF {xs:List AV} {e:TypeId} {cs:List Value} (h:VL P g w e xs cs) {i:Nat} (hx:i<xs.length) {y:AV} {c:List Value} (hy:VC P g w (q9 P e) y c) :
  VL P g w e (xs.set i y) (cs.take (i*P.cellsOf e)++c++cs.drop (i*P.cellsOf e+P.cellsOf e)):=by
 induction xs generalizing cs i with
 | nil=>simp at hx
 | cons x ys ih =>
  simp only[VL]at h
  obtain⟨c1,c2,rfl,h1,h2⟩:=h
  have hne:=y5 hl x _ _ h1
  have hc1:=wN hl x _ _ hne h1
  rw[<-jG hl hne]at hc1
  cases i with
  | zero =>
   grind [VL]
  | succ i =>
   simp only[List.set_cons_succ,VL]
   refine⟨c1,_,?_,h1,ih h2 (by simp_all)⟩
   simp_all[Nat.succ_mul,List.take_append,List.take_of_length_le,List.drop_append]
theorem zav {fs:List TypeId} {ps:List AV} {cs:List Value} (h:VF P g w fs ps cs) {i:Nat} {x:AV} (hx:ps[i]?=some x) :
  ∃f,fs[i]?=some f/\VC P g w (q9 P f) x ((cs.drop (((fs.take i).map P.cellsOf).sum)).take (P.cellsOf f))/\((fs.take i).map P.cellsOf).sum+P.cellsOf f<=cs.length:=by
 induction ps generalizing cs i fs with
 | nil=>simp at hx
 | cons y ys ih =>
  simp only[VF]at h
  obtain⟨f,r,c1,c2,rfl,rfl,h1,h2⟩:=h
  have hne:=y5 hl y _ _ h1
  have hc1:=wN hl y _ _ hne h1
  rw[<-jG hl hne]at hc1
  cases i with
  | zero =>
   simp_all
  | succ i =>
   simp at hx
   obtain⟨f',hf',a,b⟩:=ih h2 hx
   refine⟨f',by simp_all,?_,by grind⟩
   simp_all[List.drop_append,List.drop_of_length_le]
theorem znD {fs:List TypeId} {ps:List AV} {cs:List Value} (h:VF P g w fs ps cs) {i:Nat} {f:TypeId} (hf:fs[i]?=some f) {y:AV} {c:List Value} (hy:VC P g w (q9 P f) y c) :
  VF P g w fs (ps.set i y) (cs.take ((fs.take i).map P.cellsOf).sum++c++cs.drop (((fs.take i).map P.cellsOf).sum+P.cellsOf f)):=by
 induction ps generalizing cs i fs with
 | nil=>simp_all[VF]
 | cons x ys ih =>
  simp only[VF]at h
  obtain⟨f0,r,c1,c2,rfl,rfl,h1,h2⟩:=h
  have hne:=y5 hl x _ _ h1
  have hc1:=wN hl x _ _ hne h1
  rw[<-jG hl hne]at hc1
  cases i with
  | zero =>
   simp at hf;subst hf
   simp only[List.set_cons_zero,VF]
   exact⟨f0,r,c,c2,rfl,by simp_all,hy,h2⟩
  | succ i =>
   simp at hf
   simp only[List.set_cons_succ,VF]
   refine⟨f0,r,c1,_,rfl,?_,h1,ih h2 hf⟩
   simp only[List.take_succ_cons,List.map_cons,List.sum_cons]
   rw[<-hc1,List.take_append,List.take_of_length_le (by omega),List.drop_append,List.drop_of_length_le (by omega)]
   grind

theorem xL {path:List Nat} {x y:AV} {d d':TyD} {cs:List Value} {off:Nat} (h:VC P g w d x cs) (ho:Z7 P d path=some (off,d')) (hg:X6 x path=some y) :
  VC P g w d' y ((cs.drop off).take (szD P d'))/\off+szD P d'<=cs.length:=by
 induction path generalizing x d cs off with
 | nil =>
  simp only[Z7,Option.some.injEq,Prod.mk.injEq]at ho
  obtain⟨rfl,rfl⟩:=ho
  grind [X6,y5,wN]
 | cons i p ih =>
  cases x with
  | agg ps =>
   simp only[X6,Option.bind_eq_some_iff]at hg
   obtain⟨z,hz,hg⟩:=hg
   cases d with
   | struct fs =>
    simp only[VC]at h
    obtain⟨f,hf,hv,hle⟩:=zav hl h hz
    simp only[Z7,hf,Option.map_eq_some_iff,Prod.mk.injEq]at ho
    obtain⟨⟨o2,d2⟩,ho,rfl,rfl⟩:=ho
    obtain⟨a,b⟩:=ih hv ho hg
    have hne:=y5 hl z _ _ hv
    have hlen:=wN hl z _ _ hne hv
    simp only at a b |-
    simp only[List.length_take,List.length_drop]at b
    refine⟨?_,by omega⟩
    rw[List.drop_take,List.drop_drop,List.take_take,Nat.min_eq_left (by omega)]at a
    exact a
   | arr n e =>
    simp only[VC]at h
    obtain⟨rfl,h⟩:=h
    obtain⟨hv,hle⟩:=vQ hl h hz
    simp only[Z7,Option.map_eq_some_iff,Prod.mk.injEq]at ho
    obtain⟨⟨o2,d2⟩,ho,rfl,rfl⟩:=ho
    obtain⟨a,b⟩:=ih hv ho hg
    simp only at a b |-
    simp only[List.length_take,List.length_drop]at b
    refine⟨?_,by omega⟩
    rw[List.drop_take,List.drop_drop,List.take_take,Nat.min_eq_left (by omega)]at a
    exact a
   | _=>grind [VC]
  | _=>grind [X6]

theorem zjt {path:List Nat} {x y z:AV} {d d':TyD} {cs c:List Value} {off:Nat} (h:VC P g w d x cs) (ho:Z7 P d path=some (off,d')) (hg:X6 x path=some y)
  (hz:VC P g w d' z c):VC P g w d (PG x path z) (cs.take off++c++cs.drop (off+szD P d')):=by
 induction path generalizing x d cs off with
 | nil =>
  simp only[Z7,Option.some.injEq,Prod.mk.injEq]at ho
  obtain⟨rfl,rfl⟩:=ho
  have hne:=y5 hl x _ _ h
  have hlen:=wN hl x _ _ hne h
  grind [PG]
 | cons i p ih =>
  cases x with
  | agg ps =>
   simp only[X6,Option.bind_eq_some_iff]at hg
   obtain⟨u,hu,hg⟩:=hg
   simp only[PG,hu]
   cases d with
   | struct fs =>
    simp only[VC]at h |-
    obtain⟨f,hf,hv,hle⟩:=zav hl h hu
    simp only[Z7,hf,Option.map_eq_some_iff,Prod.mk.injEq]at ho
    obtain⟨⟨o2,d2⟩,ho,rfl,rfl⟩:=ho
    have b:=(xL hl hv ho hg).2
    have a:=ih hv ho hg
    have r:=znD hl h hf a
    simp only[List.length_take,List.length_drop]at b
    simp only at b |-
    refine(congrArg (VF P g w fs _) ?_).mp r
    generalize ((fs.take i).map P.cellsOf).sum=s at *
    generalize szD P d2=m at *
    generalize P.cellsOf f=q at *
    rw[List.take_take,Nat.min_eq_left (by omega),List.drop_take,List.drop_drop]
    have e1:List.take (s+o2) cs=List.take s cs++List.take o2 (List.drop s cs):=by rw[List.take_add]
    have e2:List.drop (s+o2+m) cs=List.take (q-(o2+m)) (List.drop (s+(o2+m)) cs)++List.drop (s+q) cs:=by
     rw[show s+q=(s+(o2+m))+(q-(o2+m)) by omega,<-List.drop_drop (i:=q-(o2+m)),List.take_append_drop,show s+o2+m=s+(o2+m) by omega]
    simp_all
   | arr n e =>
    simp only[VC]at h |-
    obtain⟨rfl,h⟩:=h
    obtain⟨hv,hle⟩:=vQ hl h hu
    have hi:i<ps.length:=(List.getElem?_eq_some_iff.1 hu).1
    simp only[Z7,Option.map_eq_some_iff,Prod.mk.injEq]at ho
    obtain⟨⟨o2,d2⟩,ho,rfl,rfl⟩:=ho
    have b:=(xL hl hv ho hg).2
    have a:=ih hv ho hg
    have r:=zmF hl h hi a
    simp only[List.length_take,List.length_drop]at b
    simp only at b |-
    refine⟨by simp,(congrArg (VL P g w e _) ?_).mp r⟩
    generalize i*P.cellsOf e=s at *
    generalize szD P d2=m at *
    generalize P.cellsOf e=q at *
    rw[List.take_take,Nat.min_eq_left (by omega),List.drop_take,List.drop_drop]
    have e1:List.take (s+o2) cs=List.take s cs++List.take o2 (List.drop s cs):=by rw[List.take_add]
    have e2:List.drop (s+o2+m) cs=List.take (q-(o2+m)) (List.drop (s+(o2+m)) cs)++List.drop (s+q) cs:=by
     rw[show s+q=(s+(o2+m))+(q-(o2+m)) by omega,<-List.drop_drop (i:=q-(o2+m)),List.take_append_drop,show s+o2+m=s+(o2+m) by omega]
    simp_all
   | _=>assumption
  | _=>grind [X6]
end
end Go.Ab
end
section
namespace Go.Ab
open Go
inductive TV
 | av (d:TyD) (x:AV)
 | cst (v:Value)
 | loc (k:Nat) (path:List Nat)
 | pel (d:TyD) (x:AV)
 | tup (xs:List (TyD × AV))
 | junk

inductive HObj
 | var (d:TyD) (x:AV)
 | map (k e:TypeId) (es:List (AV × AV))
 | raw (o:Obj) (imm:Nat->Nat) (w:World)

abbrev HObj.lrec (r:Loop) (i0:Nat->Nat) (w0:World):HObj:=.raw (.loop r) i0 w0
abbrev HObj.siter (s:List UInt8) (pos:Nat):HObj:=.raw (.stringIter ⟨s.toArray⟩ pos) (fun _=>0) default

abbrev q8:=List (Nat × HObj)

def q8.keys (H:q8):List Nat:=H.map (·.1)
def k8:q8->Nat->Option HObj
 | [],_=>none
 | (b',o)::r,b=>if b'=b then some o else k8 r b
def jW:q8->Nat->HObj->q8
 | [],_,_=>[]
 | (b',o')::r,b,o=>if b'=b then(b',o)::r else(b',o')::jW r b o

def upd {α:Type} (f:Nat->α) (k:Nat) (v:α):Nat->α:=fun j=>if j=k then v else f j

structure St where
 env:Nat->TV
 loc:Nat->Option (TyD × AV)
 ver:Nat->Nat
 H:q8
 dfs:List Nat:=[]

def St.put (s:St) (dst:Option Nat) (v:TV):St :=
 match dst with
 | some d=>{ s with env:=upd s.env d v }
 | none=>s

def kD (w:World) (b:Nat) (cs:Array Value) (Q:TypeId->Prop:=fun _=>True) (F:Prop:=∀E,Q E):Prop:=∃E fz,w.heap[b]?=some (.cells cs E fz)/\(fz.2<=fz.1\/(cs.size<=fz.1/\F))/\Q E
def EOK (P:Program) (d:TyD) (E:TypeId):Prop:=q9 P E=d\/∃m,d=.arr m E
def zcQ (P:Program) (d:TyD):Prop:=∃m e,d=.arr m e/\q9 P e=.int .u8

def VV (P:Program) (g:Gh) (w:World) (d:TyD) (x:AV) (v:Value):Prop:=kK d v/\VC P g w d x v.cells.toList

def VVs (P:Program) (g:Gh) (w:World):List (TyD × AV)->List Value->Prop
 | [],[]=>True
 | (d,x)::xs,v::vs=>VV P g w d x v/\VVs P g w xs vs
 | _,_=>False

def AR (P:Program) (g:Gh) (w:World):TV->Value->Prop
 | .av d x,v=>VV P g w d x v
 | .cst c,v=>v=c
 | .tup xs,v=>∃vs:List Value,v=.tuple vs.toArray/\VVs P g w xs vs
 | _,_=>False

def ARs (P:Program) (g:Gh) (w:World):List TV->List Value->Prop
 | [],[]=>True
 | x::xs,v::vs=>AR P g w x v/\ARs P g w xs vs
 | _,_=>False

def yA (P:Program) (g:Gh) (w:World) (k e:TypeId):List (AV × AV)->List MapEntry->Prop
 | [],[]=>True
 | (x,y)::r,en::er=>VV P g w (q9 P k) x en.key/\VV P g w (q9 P e) y en.val/\yA P g w k e r er
 | _,_=>False

def QS (en:List MapEntry) (ck:Nat):Prop:=(∀x∈en,x.born<ck)/\(en.map (·.born)).Nodup
def zp5 (P:Program) (g:Gh) (w:World) (k e:TypeId) (es:List (AV × AV)) (en:List MapEntry) (ck:Nat):Prop:=yA P g w k e es en/\QS en ck
theorem QS.nil {ck:Nat}:QS [] ck:=⟨by simp,List.nodup_nil⟩
theorem QS.push {en:List MapEntry} {ck:Nat} (h:QS en ck) (x y:Value):QS (en++[⟨x,y,ck⟩]) (ck+1):=by
 refine⟨fun z hz=>?_,?_⟩
 ·rcases List.mem_append.1 hz with h1|h1
  ·have:=h.1 z h1;omega
  simp_all
 ·rw[List.map_append]
  refine List.nodup_append.2 ⟨h.2,by simp,fun a ha b hb=>?_⟩
  obtain⟨z,hz,rfl⟩:=List.mem_map.1 ha
  simp only[List.map_cons,List.map_nil,List.mem_singleton]at hb
  subst hb
  have:=h.1 z hz
  omega
theorem cU {f:MapEntry->MapEntry} (hf:∀x,(f x).born=x.born):∀(en:List MapEntry) (j:Nat),(en.modify j f).map (·.born)=en.map (·.born)
 | [],j=>by simp
 | x::r,0=>by simp[hf]
 | x::r,j+1=>by simp[cU hf r j]
theorem QS.of_born {en en':List MapEntry} {ck:Nat} (h:QS en ck) (hb:en'.map (·.born)=en.map (·.born)):QS en' ck:=by
 refine⟨fun z hz=>?_,by rw[hb];exact h.2⟩
 have:z.born∈en'.map (·.born):=List.mem_map.2 ⟨z,hz,rfl⟩
 rw[hb]at this
 obtain⟨y,hy,e⟩:=List.mem_map.1 this
 have:=h.1 y hy
 omega
theorem QS.sub {en en':List MapEntry} {ck:Nat} (h:QS en ck) (hb:en'.Sublist en):QS en' ck:=⟨fun z hz=>h.1 z (hb.subset hz),(hb.map _).nodup h.2⟩

def g0 (imm:Nat->Nat):Gh:=⟨imm,fun _ _=>none⟩
def zjh (imm0:Nat->Nat) (w0:World) (imm:Nat->Nat) (w:World):Prop :=
 (∀b,imm0 b<=imm b)/\∀b cs E fz,0<imm0 b->w0.heap[b]?=some (.cells cs E fz)->∃cs' E' fz',w.heap[b]?=some (.cells cs' E' fz')/\cs'.size=cs.size/\∀o,o<imm0 b->cs'[o]?=cs[o]?
theorem zb0 {i0:Nat->Nat} {w0:World} {g g':Gh} {w w':World} (h:zjh i0 w0 g.imm w) (hle:g.le g') (hk:jP g w w'):zjh i0 w0 g'.imm w' :=
 ⟨fun b=>Nat.le_trans (h.1 b) (hle.1 b),fun b cs E fz h0 hb=>by
  obtain⟨cs1,E1,fz1,h1,h2⟩:=h.2 b cs E fz h0 hb
  obtain⟨cs2,E2,fz2,h3,h4⟩:=hk b cs1 E1 fz1 (Nat.lt_of_lt_of_le h0 (h.1 b)) h1
  exact⟨cs2,E2,fz2,h3,h4.1.trans h2.1,fun o ho=>(h4.2 o (Nat.lt_of_lt_of_le ho (h.1 b))).trans (h2.2 o ho)⟩⟩

def zht:Obj->Bool
 | .loop _|.stringIter _ _|.mapIter _ _ _ _|.map _ _=>true
 | _=>false
def zdP (o:Obj) (imm0:Nat->Nat) (w0:World) (imm:Nat->Nat) (w:World):Prop:=zjh imm0 w0 imm w/\zht o=true
theorem yE {o:Obj} {i0:Nat->Nat} {w0:World} {g g':Gh} {w w':World} (h:zdP o i0 w0 g.imm w) (hle:g.le g') (hk:jP g w w'):zdP o i0 w0 g'.imm w':=⟨zb0 h.1 hle hk,h.2⟩

def X8 (P:Program) (g:Gh) (w:World) (b:Nat):HObj->Prop
 | .var d x=>g.imm b=0/\∃cs,kD w b cs (EOK P d) (zcQ P d)/\VC P g w d x cs.toList
 | .map k e es=>g.imm b=0/\∃en clock,w.heap[b]?=some (.map en clock)/\zp5 P g w k e es en.toList clock
 | .raw o i0 w0=>g.imm b=0/\w.heap[b]?=some o/\zdP o i0 w0 g.imm w

def zmp (n:String):Option AV :=
 if n = "internal/strconv.uint64pow10" then some (.agg ([1,10,100,1000,10000,100000,1000000,10000000,100000000,1000000000,10000000000,100000000000,1000000000000,10000000000000,100000000000000,1000000000000000,10000000000000000,100000000000000000,1000000000000000000,10000000000000000000].map (AV.i .u64 ·)))
 else none
class Sel where
 on:String->Bool
class SelPow [Sel]:Prop where
 pow:Sel.on "internal/strconv.uint64pow10" = true
class SelMax [Sel]:Prop where
 max:Sel.on "internal/bytealg.MaxLen" = true
class zto [Sel]:Prop where
 syn:Sel.on "strconv.ErrSyntax" = true
 rng:Sel.on "strconv.ErrRange" = true
 nod:Sel.on "+drawn" = false
variable [Sel]
def zf3 (P:Program):List (Nat × TyD × AV) :=
 (List.range P.globals.size).filterMap fun n=>match P.globals[n]? with
  | some gl=>if Sel.on gl.name=true then(zmp gl.name).map fun x=>(n,q9 P gl.type,x) else none
  | none=>none
def zet (P:Program):List Nat :=
 (List.range P.globals.size).filter fun n=>match P.globals[n]? with
  | some gl=>Sel.on gl.name&&(gl.name == "strconv.ErrSyntax" || gl.name == "strconv.ErrRange")
  | none=>false
def zsP (imm:Nat->Nat) (w:World) (n:Nat):Prop:=0<imm n/\∃cs E fz v,w.heap[n]?=some (.cells cs E fz)/\cs[0]?=some v/\(v=.nilIface\/∃te pe,v=.iface te pe)
def VP (P:Program):List Nat :=
 (List.range P.globals.size).filter fun n=>match P.globals[n]? with
  | some gl=>Sel.on gl.name&&gl.name == "internal/bytealg.MaxLen"
  | none=>false
def zqJ (imm:Nat->Nat) (w:World) (n:Nat):Prop:=0<imm n/\∃cs E fz m,w.heap[n]?=some (.cells cs E fz)/\cs[0]?=some (.int .i64 m)
theorem zgm {P:Program} {n:Nat} {gl:Global} (h:P.globals[n]?=some gl) (hs:gl.name = "internal/bytealg.MaxLen") (ho:Sel.on gl.name=true):n∈VP P:=by
 grind [VP]
theorem zny {P:Program} {n:Nat} {gl:Global} {x:AV} (h:P.globals[n]?=some gl) (hs:zmp gl.name=some x) (ho:Sel.on gl.name=true):(n,q9 P gl.type,x)∈zf3 P:=by
 grind [zf3]
def UA (P:Program) (imm:Nat->Nat) (w:World):Prop :=
 (∀n d x,(n,d,x)∈zf3 P->szD P d<=imm n/\VC P (g0 imm) w d x (zU w n 0 (szD P d))/\0<szD P d/\∃cs E fz,w.heap[n]?=some (.cells cs E fz)/\cs.size=szD P d)/\
 (∀n∈zet P,zsP imm w n)/\∀n∈VP P,zqJ imm w n
theorem UA.keep {P:Program} {g g':Gh} {w w':World} (h:UA P g.imm w) (hle:g.le g') (hi:ZI g w) (hk:jP g w w'):UA P g'.imm w':=by
 refine⟨?_,?_,?_⟩
 ·intro n d x hx
  obtain⟨h1,h2,h5,cs,E,fz,h3,h4⟩:=h.1 n d x hx
  have hle':(g0 g.imm).le (g0 g'.imm):=⟨hle.1,fun _ _ _ e=>by cases e⟩
  obtain⟨cs',E',fz',h6,h7,_⟩:=hk n cs E fz (by omega) h3
  refine⟨Nat.le_trans h1 (hle.1 n),?_,h5,cs',E',fz',h6,h7.trans h4⟩
  rw[U2 (g:=g) (w:=w) (w':=w') hi hk (by omega)]
  exact jE (g:=g0 g.imm) (g':=g0 g'.imm) (w:=w) (w':=w') hle' hi hk x d _ h2
 ·intro n hn
  obtain⟨h1,cs,E,fz,v,h2,h3,h4⟩:=h.2.1 n hn
  obtain⟨cs',E',fz',h6,h7,h8⟩:=hk n cs E fz h1 h2
  exact⟨Nat.lt_of_lt_of_le h1 (hle.1 n),cs',E',fz',v,h6,(h8 0 h1).trans h3,h4⟩
 ·intro n hn
  obtain⟨h1,cs,E,fz,m,h2,h3⟩:=h.2.2 n hn
  obtain⟨cs',E',fz',h6,h7,h8⟩:=hk n cs E fz h1 h2
  exact⟨Nat.lt_of_lt_of_le h1 (hle.1 n),cs',E',fz',m,h6,(h8 0 h1).trans h3⟩

structure Rep (P:Program) (g:Gh) (w:World) (H:q8):Prop where
 imm:ZI g w
 nodup:H.keys.Nodup
 obj:∀b o,(b,o)∈H->X8 P g w b o
 tab:UA P g.imm w

structure JN (imm0:Nat->Nat) (H0:q8) (w0:World) (imm:Nat->Nat) (H:q8) (w:World):Prop where
 os:w.os=w0.os
 tape:w.tape=w0.tape
 output:w.output=w0.output
 size:w0.heap.size<=w.heap.size
 frame:∀b,b<w0.heap.size->b∉H0.keys->w.heap[b]?=w0.heap[b]?/\imm b=imm0 b
 imm:∀b,imm0 b<=imm b
 kept:∀b cs E fz,0<imm0 b->w0.heap[b]?=some (.cells cs E fz)->∃cs' E' fz',w.heap[b]?=some (.cells cs' E' fz')/\cs'.size=cs.size/\∀o,o<imm0 b->cs'[o]?=cs[o]?
 dom:∀b,b∈H.keys->b∈H0.keys\/w0.heap.size<=b
 drawn:Sel.on "+drawn" = true->w0.drawn<=w.drawn

theorem JN.refl {imm:Nat->Nat} {H:q8} {w:World}:JN imm H w imm H w :=
 ⟨rfl,rfl,rfl,Nat.le_refl _,fun _ _ _=>⟨rfl,rfl⟩,fun _=>Nat.le_refl _,fun _ cs E fz _ h=>⟨cs,E,fz,h,rfl,fun _ _=>rfl⟩,fun _ h=>.inl h,fun _=>Nat.le_refl _⟩

def q7 (P:Program) (f:FuncId) (args:List TV) (H:q8) (R:TV->q8->Prop):Prop :=
 ∀(imm:Nat->Nat) (w:World) (vs:Array Value),Rep P (g0 imm) w H->ARs P (g0 imm) w args vs.toList->
  Calls P f vs w fun e w'=>∃v r imm' H',e=.returned v/\R r H'/\AR P (g0 imm') w' r v/\Rep P (g0 imm') w' H'/\JN imm H w imm' H' w'

def PC (P:Program) (f:FuncId) (args:List TV) (r:TV):Prop:=q7 P f args [] fun r' H'=>r'=r/\H'=[]

structure Ctx where
 P:Program
 n:Nat
 imm0:Nat->Nat
 H0:q8
 w0:World
 rd:Option Nat:=none
 ds0:List Deferred:=[]

def TVR (P:Program) (s:St) (g:Gh) (w:World) (β:Nat->Nat):TV->Value->Prop
 | .av d x,v=>VV P g w d x v
 | .cst c,v=>v=c
 | .loc k path,v=>∃d x off d',s.loc k=some (d,x)/\Z7 P d path=some (off,d')/\v=.pointer (some ⟨β k,off,none⟩)
 | .pel d x,v=>0<szD P d/\∃b off,v=.pointer (some ⟨b,off,none⟩)/\off+szD P d<=g.imm b/\VC P g w d x (zU w b off (szD P d))
 | .tup xs,v=>∃vs:List Value,v=.tuple vs.toArray/\VVs P g w xs vs
 | .junk,_=>True

structure zhr (c:Ctx) (s:St) (w:World) (g:Gh) (β:Nat->Nat) (t:zk6):Prop where
 base:c.w0.heap.size<=t.b
 noH:t.b∉s.H.keys
 noLoc:∀j,s.loc j≠none->β j≠t.b
 imm:g.imm t.b=t.len*c.P.cellsOf t.e
 block:∃cs,kD w t.b cs/\cs.size=t.cap*c.P.cellsOf t.e

structure zsc (c:Ctx) (s:St) (w:World) (g:Gh) (β:Nat->Nat) (k:Nat) (d:TyD) (x:AV):Prop where
 base:c.w0.heap.size<=β k
 noH:β k∉s.H.keys
 imm:g.imm (β k)=0
 block:∃cs,kD w (β k) cs (EOK c.P d) (zcQ c.P d)/\VC c.P g w d x cs.toList

def zfY (n:Nat) (w:World) (dfs:List Nat) (d0 ds:List Deferred):Prop :=
 ds=dfs.map (fun D=>({ target:=.collected D,args:=#[] }:Deferred))++d0/\dfs.Nodup/\∀D∈dfs,n<=D/\w.heap[D]?=some (.deferred (some []))
theorem zfY.of {n:Nat} {w w':World} {dfs:List Nat} {d0 ds:List Deferred} (h:zfY n w dfs d0 ds) (hk:∀D:Nat,w.heap[D]?=some (Obj.deferred (some []))->w'.heap[D]?=some (Obj.deferred (some []))):zfY n w' dfs d0 ds :=
 ⟨h.1,h.2.1,fun D hD=>⟨(h.2.2 D hD).1,hk D (h.2.2 D hD).2⟩⟩

structure zF (c:Ctx) (s:St) (a:Act) (w:World) (g:Gh) (β:Nat->Nat):Prop where
 defers:zfY c.w0.heap.size w s.dfs c.ds0 a.defers
 size:a.tmps.size=c.n
 env:∀t,TVR c.P s g w β (s.env t) (a.tmps.getD t undef)
 locs:∀k d x,s.loc k=some (d,x)->zsc c s w g β k d x
 inj:∀k j,s.loc k≠none->s.loc j≠none->β k=β j->k=j
 rep:Rep c.P g w s.H
 toks:∀k t,g.γ k (s.ver k)=some t->zhr c s w g β t
 tokd:∀k k' t t',g.γ k (s.ver k)=some t->g.γ k' (s.ver k')=some t'->k≠k'->t.b≠t'.b
 toknew:∀k v,s.ver k<v->g.γ k v=none
 step:JN c.imm0 c.H0 c.w0 g.imm s.H w

def wF (c:Ctx) (K:St->Prop) (a:Act) (w:World):Prop:=∃s g β,K s/\zF c s a w g β

theorem WB {P:Program} {g g':Gh} {w w':World} (hle:g.le g') (hi:ZI g w) (hk:jP g w w') {d:TyD} {x:AV} {v:Value} (h:VV P g w d x v):VV P g' w' d x v :=
 ⟨h.1,jE hle hi hk x d _ h.2⟩
theorem zbf {P:Program} {g g':Gh} {w w':World} (hle:g.le g') (hi:ZI g w) (hk:jP g w w'):∀ {xs:List (TyD × AV)} {vs:List Value},VVs P g w xs vs->VVs P g' w' xs vs
 | [],[],_=>trivial
 | (_,_)::_,_::_,h=>⟨WB hle hi hk h.1,zbf hle hi hk h.2⟩
 | [],_::_,h=>h.elim
 | _::_,[],h=>h.elim

theorem y8 {P:Program} {s s':St} {g g':Gh} {w w':World} {β β':Nat->Nat} (hle:g.le g') (hi:ZI g w) (hk:jP g w w')
  (hloc:∀k d x,s.loc k=some (d,x)->∃y,s'.loc k=some (d,y)/\β' k=β k) {tv:TV} {v:Value} (h:TVR P s g w β tv v):TVR P s' g' w' β' tv v:=by
 cases tv with
 | av d x=>exact WB hle hi hk h
 | cst c=>exact h
 | loc k path =>
  obtain⟨d,x,off,d',h1,h2,h3⟩:=h
  obtain⟨y,hy,hb⟩:=hloc k d x h1
  exact⟨d,y,off,d',hy,h2,by simp_all⟩
 | pel d x =>
  obtain⟨h0,b,off,h1,h2,h3⟩:=h
  refine⟨h0,b,off,h1,Nat.le_trans h2 (hle.1 b),?_⟩
  grind [U2,jE]
 | tup xs=>obtain⟨vs,h1,h2⟩:=h;exact⟨vs,h1,zbf hle hi hk h2⟩
 | junk=>trivial

theorem zlK (a:Act) (d:Nat) (v:Value) (hd:d<a.tmps.size) (t:Nat):(a.put (some d) v).tmps.getD t undef=if t=d then v else a.tmps.getD t undef:=by
 simp only[Act.put,Array.getD_eq_getD_getElem?]
 grind

theorem zF.put {c:Ctx} {s:St} {a:Act} {w:World} {g:Gh} {β:Nat->Nat} (h:zF c s a w g β) {dst:Option Nat} (hd:∀d,dst=some d->d<c.n) {tv:TV} {v:Value}
  (hv:TVR c.P s g w β tv v):zF c (s.put dst tv) (a.put dst v) w g β:=by
 cases dst with
 | none=>exact h
 | some d =>
  have hdn:=hd d rfl
  exact { h with
   size:=by simp[Act.put,h.size]
   env:=fun t=>by
    rw[zlK a d v (by rw[h.size];exact hdn)]
    simp only[St.put,upd]
    split
    ·exact hv
    ·exact h.env t
   locs:=fun k d x hk=>{ h.locs k d x hk with }
   toks:=fun k t hk=>{ h.toks k t hk with } }

theorem KE {P:Program} {g g':Gh} {w w':World} (hle:g.le g') (hi:ZI g w) (hk:jP g w w') {k e:TypeId}:∀ {es:List (AV × AV)} {en:List MapEntry},yA P g w k e es en->yA P g' w' k e es en
 | [],[],_=>trivial
 | (_,_)::_,_::_,h=>⟨WB hle hi hk h.1,WB hle hi hk h.2.1,KE hle hi hk h.2.2⟩
 | [],_::_,h=>h.elim
 | _::_,[],h=>h.elim

theorem yI {P:Program} {g g':Gh} {w w':World} (hle:g.le g') (hi:ZI g w) (hk:jP g w w') {k e:TypeId} {es:List (AV × AV)} {en:List MapEntry} {ck:Nat} (h:zp5 P g w k e es en ck):zp5 P g' w' k e es en ck:=⟨KE hle hi hk h.1,h.2⟩
theorem zF.drew {c:Ctx} {s:St} {a:Act} {w:World} {g:Gh} {β:Nat->Nat} (h:zF c s a w g β) (n:Nat) (hn:w.drawn<=n:=by exact Nat.le_succ _):zF c s a { w with drawn:=n } g β:=by
 have hk:jP g w { w with drawn:=n }:=fun b cs E fz _ hb=>⟨cs,E,fz,hb,rfl,fun _ _=>rfl⟩
 have hi:=h.rep.imm
 have hm:=fun {d x cs}=>jE (P:=c.P) (Gh.le_refl g) hi hk x d cs
 exact { h with
  env:=fun t=>y8 (Gh.le_refl g) hi hk (fun k d x e=>⟨x,e,rfl⟩) (h.env t)
  locs:=fun k d x e=>{ h.locs k d x e with block:=let ⟨cs,h1,h2⟩:=(h.locs k d x e).block;⟨cs,h1,hm h2⟩ }
  rep:=⟨hi,h.rep.nodup,fun b o ho=>by
   have:=h.rep.obj b o ho
   cases o with
   | var d x=>obtain⟨h1,cs,h2,h3⟩:=this;exact⟨h1,cs,h2,hm h3⟩
   | map k e es=>obtain⟨h1,en,ck,h2,h3⟩:=this;exact⟨h1,en,ck,h2,yI (Gh.le_refl g) hi hk h3⟩
   | raw r i0 w0=>assumption,h.rep.tab.keep (Gh.le_refl g) hi hk⟩
  toks:=fun k t e=>{ h.toks k t e with }
  step:={ h.step with drawn:=fun hd=>Nat.le_trans (h.step.drawn hd) hn } }
end Go.Ab
end
section
namespace Go.Ab
open Go
variable [Sel]
def zP:TyD->TypeDesc->Prop
 | .bool,u=>u=.bool
 | .int k,u=>u=.int k
 | .str,u=>u=.string
 | .struct fs,u=>∃F:Array Field,u=.struct F/\fs=F.toList.map (·.type)/\F.toList.all (fun f=>f.name != "_")=true
 | .arr n e,u=>u=.array n e
 | .slice e,u=>u=.slice e
 | .ptr,u=>∃e,u=.pointer e
 | .map k e,u=>u=.map k e
 | .func,u=>∃a b c,u=.func a b c
 | .iface,u=>∃ms,u=.interface ms
 | .other,_=>True
theorem qO {P:Program} {T:TypeId} {d:TyD} (h:q9 P T=d) (hd:d≠.other):∃u,P.underlying T=some u/\zP d u:=by
 have hlt:=J3 (h▸hd)
 unfold q9 at h
 rw[if_pos hlt]at h
 cases hu:P.underlying T with
 | none=>simp[hu]at h;exact absurd h.symm hd
 | some u =>
  refine⟨u,rfl,?_⟩
  rw[hu]at h
  cases u with
  | struct F =>
   simp only at h
   split at h
   ·subst h;exact⟨F,rfl,rfl,by assumption⟩
   ·exact absurd h.symm hd
  | func a b c=>simp only at h;subst h;exact⟨a,b,c,rfl⟩
  | interface ms=>simp only at h;subst h;exact⟨ms,rfl⟩
  | pointer e=>simp only at h;subst h;exact⟨e,rfl⟩
  | _=>simp only at h;first|(subst h;rfl)|exact absurd h.symm hd

theorem uC {P:Program} (hl:laidOutB P=true) {T:TypeId} {F:Array Field} (hlt:T<P.types.size) (hu:P.underlying T=some (.struct F)) {i:Nat} {f:Field} (hf:F[i]?=some f) :
  f.offset=(((F.toList.map (·.type)).take i).map P.cellsOf).sum:=by
 have hr:=pB hl hlt
 have hv:isVar P T=true:=by simp_all[isVar,kindOk]
 unfold rowFine at hr
 simp only[hv,Bool.not_true,Bool.false_or,hu,Bool.and_eq_true,List.all_eq_true,List.mem_range,beq_iff_eq]at hr
 have hi:i<F.size:=(Array.getElem?_eq_some_iff.1 hf).1
 have:=hr.2 i (by omega)
 simp_all[Function.comp_def]

def zsO:TypeDesc->Bool|.struct _|.array _ _=>true|_=>false
theorem zkU {P:Program} {T:TypeId} {u:TypeDesc} (hne:q9 P T≠.other) (hu:P.underlying T=some u):zsO u=(q9 P T).isAgg:=by
 have hlt:=J3 hne
 unfold q9 at hne |-
 rw[if_pos hlt]at hne |-
 rw[hu]at hne |-
 cases u<;>simp only[TyD.isAgg,zsO]at hne |-
 simp_all

theorem zey {P:Program} {g:Gh} {w:World} {d:TyD} {x:AV} {v:Value} (ha:d.isAgg=false) (h:VC P g w d x [v]):kK d v/\v.cells.toList=[v]:=by
 cases x with
 | agg ps=>cases d<;>simp[VC,TyD.isAgg]at h ha
 | sl t xs=>simp only[VC]at h;obtain⟨e,a,cap,rfl,h,_⟩:=h;cases h;exact⟨rfl,rfl⟩
 | ptr b d' path=>simp only[VC]at h;obtain⟨rfl,off,t,_,h⟩:=h;cases h;exact⟨rfl,rfl⟩
 | map r=>simp only[VC]at h;obtain⟨k,e,rfl,h⟩:=h;cases h;exact⟨rfl,rfl⟩
 | nsl=>simp only[VC]at h;obtain⟨e,rfl,h⟩:=h;cases h;exact⟨rfl,rfl⟩
 | fn f caps=>simp only[VC]at h;obtain⟨rfl,vs,h,_⟩:=h;cases h;exact⟨rfl,rfl⟩
 | bm f caps=>simp only[VC]at h;obtain⟨rfl,vs,h,_⟩:=h;cases h;exact⟨rfl,rfl⟩
 | ifc T x=>simp only[VC]at h;obtain⟨rfl,vs,h,_⟩:=h;cases h;exact⟨rfl,rfl⟩
 | _=>simp only[VC]at h;obtain⟨rfl,h⟩:=h;cases h;exact⟨rfl,rfl⟩

theorem zdL {P:Program} {T:TypeId} (hne:q9 P T≠.other) (w:World):(isAgg T).run P w=.ok (q9 P T).isAgg w:=by
 obtain⟨u,hu,_⟩:=qO (d:=q9 P T) rfl hne
 rw[<-zkU hne hu]
 unfold isAgg
 simp only[Sem.run_bind,run_underlying hu,Result.andThen_ok]
 cases u<;>rfl

theorem CZ {P:Program} {T:TypeId} (hlt:T<P.types.size):∃i,P.info? T=some i:=by
 simp_all[Tables.info?]

theorem Q8 {P:Program} {T:TypeId} (hne:q9 P T≠.other) (w:World):(sizeOf T).run P w=.ok (P.cellsOf T) w:=by
 obtain⟨i,hi⟩:=CZ (J3 hne)
 simp_all[sizeOf,typeInfo,Program.cellsOf]

/-! ### parts, loads -/
theorem YL {w:World} {b:Nat} {cs:Array Value} {E:TypeId} {fz:Nat × Nat} (h:w.heap[b]?=some (.cells cs E fz)) (o:Nat):w.cell? ⟨b,o,none⟩=cs[o]?:=by
 simp[World.cell?,h]

theorem wA (b off n:Nat):(Addr.mk b off none).add n=⟨b,off+n,none⟩:=by
 simp[Addr.add]

theorem UP {P:Program} (hl:laidOutB P=true) {g:Gh} {w:World} {T:TypeId} {x:AV} {b off:Nat} {cs:Array Value} {E:TypeId} {fz:Nat × Nat}
  (hb:w.heap[b]?=some (.cells cs E fz)) (hlen:off+szD P (q9 P T)<=cs.size) (h:VC P g w (q9 P T) x ((cs.toList.drop off).take (szD P (q9 P T)))) :
  ∃v,(loadVar T ⟨b,off,none⟩).run P w=.ok v w/\VV P g w (q9 P T) x v:=by
 have hne:=y5 hl x _ _ h
 have hsz:=jG hl hne
 unfold loadVar
 simp only[Sem.run_bind,zdL hne,Result.andThen_ok]
 cases ha:(q9 P T).isAgg with
 | true =>
  simp only[if_true,Sem.run_bind,Q8 hne,Result.andThen_ok]
  have hc:((cs.toList.drop off).take (szD P (q9 P T))).length=P.cellsOf T:=by grind
  rw[<-hc,run_loadCells_list (P:=P) (w:=w) ⟨b,off,none⟩ ((cs.toList.drop off).take (szD P (q9 P T)))]
  ·refine⟨_,rfl,ha,?_⟩
   assumption
  grind [wA,YL]
 | false =>
  have hs1:szD P (q9 P T)=1:=by grind [q9,TyD.isAgg,szD]
  rw[hs1]at h hlen
  have ho:off<cs.size:=by omega
  have hone:(cs.toList.drop off).take 1=[cs[off]]:=by
   simp_all[List.drop_eq_getElem_cons]
  rw[hone]at h
  refine⟨cs[off],?_,?_,?_⟩
  ·simp[run_load,YL hb,ho]
  ·grind [zey]
  ·rw[(zey ha h).2];exact h
end Go.Ab
end
section
namespace Go.Ab
open Go
open Classical
variable [Sel]
theorem ZU {P:Program} (hl:laidOutB P=true) {g:Gh} {w:World} {T:TypeId} {x:AV} {off:Nat} {cs:Array Value}
  (hlen:(q9 P T).isAgg=false->off+szD P (q9 P T)<=cs.size) (h:VC P g w (q9 P T) x ((cs.toList.drop off).take (szD P (q9 P T)))) :
  ∃v,(part T cs off).run P w=.ok v w/\VV P g w (q9 P T) x v:=by
 have hne:=y5 hl x _ _ h
 have hsz:=jG hl hne
 unfold part
 simp only[Sem.run_bind,zdL hne,Result.andThen_ok]
 cases ha:(q9 P T).isAgg with
 | true =>
  simp only[if_true,Sem.run_bind,Q8 hne,Result.andThen_ok,Sem.run_pure]
  refine⟨_,rfl,ha,?_⟩
  simp_all[Value.cells]
 | false =>
  have hs1:szD P (q9 P T)=1:=by grind [q9,TyD.isAgg,szD]
  rw[hs1]at h hlen
  have ho:off<cs.size:=by grind
  have hone:(cs.toList.drop off).take 1=[cs[off]]:=by
   simp_all[List.drop_eq_getElem_cons]
  rw[hone]at h
  refine⟨cs[off],by simp[ho],(zey ha h).1,?_⟩
  rw[(zey ha h).2];exact h

def WX (P:Program):Nat->TypeId->Bool
 | 0,_=>false
 | n+1,T=>match q9 P T with
  | .bool|.int _|.str=>true
  | .struct fs=>!P.stoodInHeld T&&fs.all (WX P n)
  | .arr _ e=>WX P n e
  | _=>false

section
variable {P:Program} (hl:laidOutB P=true) {g:Gh} {w:World}
include hl
theorem zbr {d:Nat} {e:TypeId} (IH:∀x y v1 v2,VV P g w (q9 P e) x v1->VV P g w (q9 P e) y v2->(Op.equalIn d e v1 v2).run P w=.ok (decide (x=y)) w) (hne:q9 P e≠.other)
  (c1 c2:Array Value):∀(xs ys:List AV) (k:Nat),xs.length=ys.length->(k+xs.length)*P.cellsOf e<=c1.size->(k+xs.length)*P.cellsOf e<=c2.size->
   VL P g w e xs ((c1.toList.drop (k*P.cellsOf e)).take (xs.length*P.cellsOf e))->VL P g w e ys ((c2.toList.drop (k*P.cellsOf e)).take (xs.length*P.cellsOf e))->
   (Op.eqItems d e (P.cellsOf e) c1 c2 (List.range' k xs.length)).run P w=.ok (decide (xs=ys)) w
 | [],[],_,_,_,_,_,_=>by rfl
 | [],_::_,_,h,_,_,_,_=>by simp at h
 | _::_,[],_,h,_,_,_,_=>by simp at h
 | x::xs,y::ys,k,hlen,h1,h2,hx,hy=>by
  have hsz:=jG hl hne
  have e0:(k+(x::xs).length)*P.cellsOf e=k*P.cellsOf e+P.cellsOf e+xs.length*P.cellsOf e:=by grind
  rw[e0]at h1 h2
  have gx:=vQ hl hx (i:=0) (x:=x) rfl
  have gy:=vQ hl hy (i:=0) (x:=y) rfl
  have key:∀(c:Array Value),k*P.cellsOf e+P.cellsOf e+xs.length*P.cellsOf e<=c.size->
    ((List.drop (0*P.cellsOf e) ((c.toList.drop (k*P.cellsOf e)).take ((x::xs).length*P.cellsOf e))).take (P.cellsOf e))=(c.toList.drop (k*P.cellsOf e)).take (szD P (q9 P e)):=by
   grind
  rw[key c1 h1]at gx
  rw[key c2 h2]at gy
  obtain⟨v1,p1,q1⟩:=ZU hl (g:=g) (w:=w) (T:=e) (cs:=c1) (off:=k*P.cellsOf e) (fun _=>by omega) gx.1
  obtain⟨v2,p2,q2⟩:=ZU hl (g:=g) (w:=w) (T:=e) (cs:=c2) (off:=k*P.cellsOf e) (fun _=>by omega) gy.1
  simp only[List.length_cons,List.range'_succ,Op.eqItems,Sem.run_bind,p1,p2,Result.andThen_ok,IH x y v1 v2 q1 q2]
  by_cases hxy:x=y
  ·subst hxy
   have tl:∀(c:Array Value) (z:AV) (zs:List AV),VL P g w e (z::zs) ((c.toList.drop (k*P.cellsOf e)).take ((x::xs).length*P.cellsOf e))->
     VL P g w e zs ((c.toList.drop ((k+1)*P.cellsOf e)).take (xs.length*P.cellsOf e)):=by
    intro c z zs hz
    simp only[VL]at hz
    obtain⟨a,b,hab,ha,hb⟩:=hz
    have hla:=wN hl z _ _ hne ha
    rw[<-hsz]at hla
    have:b=(c.toList.drop ((k+1)*P.cellsOf e)).take (xs.length*P.cellsOf e):=by
     have h3:=congrArg (List.drop (P.cellsOf e)) hab
     grind [List.drop_drop,Nat.succ_mul]
    simp_all
   have:=zbr IH hne c1 c2 xs ys (k+1) (by simp_all) (by grind) (by grind) (tl c1 x xs hx) (tl c2 x ys hy)
   simp_all
  ·simp[hxy]

theorem CE {d:Nat} (c1 c2:Array Value):∀(F:List Field) (xs ys:List AV) (off:Nat),
   (∀f∈F,f.name≠"_"/\∀x y v1 v2,VV P g w (q9 P f.type) x v1->VV P g w (q9 P f.type) y v2->(Op.equalIn d f.type v1 v2).run P w=.ok (decide (x=y)) w)->
   (∀i f,F[i]?=some f->f.offset=off+(((F.map (·.type)).take i).map P.cellsOf).sum)->
   VF P g w (F.map (·.type)) xs (c1.toList.drop off)->VF P g w (F.map (·.type)) ys (c2.toList.drop off)->
   (Op.eqFields d c1 c2 F).run P w=.ok (decide (xs=ys)) w
 | [],xs,ys,off,_,_,hx,hy=>by
  cases xs with
  | nil =>
   cases ys with
   | nil=>rfl
   | cons y ys=>grind [VF]
  | cons x xs=>grind [VF]
 | f::F,xs,ys,off,hall,hoff,hx,hy=>by
  cases xs with
  | nil=>grind [VF]
  | cons x xs =>
   cases ys with
   | nil=>grind [VF]
   | cons y ys =>
    have h0:=hoff 0 f rfl
    simp at h0
    obtain⟨hn,IH⟩:=hall f (by simp)
    have gx:=zav hl hx (i:=0) (x:=x) rfl
    have gy:=zav hl hy (i:=0) (x:=y) rfl
    obtain⟨f1,e1,gx,lx⟩:=gx
    obtain⟨f2,e2,gy,ly⟩:=gy
    simp at e1 e2;subst e1;subst e2
    have hne:=y5 hl x _ _ gx
    have hsz:=jG hl hne
    simp only[List.take_zero,List.map_nil,List.sum_nil,List.drop_zero,List.length_drop,Array.length_toList,Nat.zero_add]at gx gy lx ly
    have hz:(q9 P f.type).isAgg=false->P.cellsOf f.type=1:=fun ha=>by grind [q9,TyD.isAgg,szD]
    ·obtain⟨v1,p1,q1⟩:=ZU hl (g:=g) (w:=w) (T:=f.type) (cs:=c1) (off:=off) (fun ha=>by grind) (by rw[<-hsz];exact gx)
     obtain⟨v2,p2,q2⟩:=ZU hl (g:=g) (w:=w) (T:=f.type) (cs:=c2) (off:=off) (fun ha=>by grind) (by rw[<-hsz];exact gy)
     simp only[Op.eqFields,hn,ne_eq,not_false_eq_true,if_true,Sem.run_bind,h0,p1,p2,Result.andThen_ok,IH x y v1 v2 q1 q2]
     by_cases hxy:x=y
     ·subst hxy
      have tl:∀(c:Array Value) (z:AV) (zs:List AV),VF P g w ((f::F).map (·.type)) (z::zs) (c.toList.drop off)->VF P g w (F.map (·.type)) zs (c.toList.drop (off+P.cellsOf f.type)):=by
       intro c z zs hz'
       simp only[VF]at hz'
       obtain⟨f',r,a,b,e1,hab,ha,hb⟩:=hz'
       simp only[List.map_cons,List.cons.injEq]at e1
       obtain⟨rfl,rfl⟩:=e1
       have hla:=wN hl z _ _ hne ha
       rw[<-hsz]at hla
       have h3:=congrArg (List.drop (P.cellsOf f.type)) hab
       grind [List.drop_drop]
      have:=CE c1 c2 F xs ys (off+P.cellsOf f.type) (fun f' hf'=>hall f' (by simp[hf'])) (fun i f' hf'=>by
       have:=hoff (i+1) f' (by simp_all)
       grind) (tl c1 x xs hx) (tl c2 x ys hy)
      simp_all
     ·simp[hxy]

theorem ziz:∀(n:Nat) (T:TypeId),WX P n T=true->∀(d:Nat),n<=d->∀(x y:AV) (v1 v2:Value),VV P g w (q9 P T) x v1->VV P g w (q9 P T) y v2->
  (Op.equalIn d T v1 v2).run P w=.ok (decide (x=y)) w
 | 0,_,h,_,_,_,_,_,_,_,_=>by grind [WX]
 | n+1,T,h,0,hd,_,_,_,_,_,_=>by omega
 | n+1,T,h,d+1,hd,x,y,v1,v2,hx,hy=>by
  have IH:=ziz n
  have hne:=y5 hl x _ _ hx.2
  obtain⟨u,hu,hm⟩:=qO (d:=q9 P T) rfl hne
  obtain⟨f1,c1⟩:=hx
  obtain⟨f2,c2⟩:=hy
  cases hT:q9 P T with
  | bool =>
   rw[hT]at hm f1 f2 c1 c2;simp only[zP]at hm;subst hm
   cases x<;>simp[VC]at c1
   cases y<;>simp[VC]at c2
   cases v1<;>simp[kK,TyD.isAgg,Value.cells]at f1 c1
   cases v2<;>simp[kK,TyD.isAgg,Value.cells]at f2 c2
   subst c1;subst c2
   rw[run_equalIn_bool w d T _ _ hu]
   congr 1
   grind
  | int k =>
   rw[hT]at hm f1 f2 c1 c2;simp only[zP]at hm;subst hm
   cases x<;>simp[VC]at c1
   cases y<;>simp[VC]at c2
   cases v1<;>simp[kK,TyD.isAgg,Value.cells]at f1 c1
   cases v2<;>simp[kK,TyD.isAgg,Value.cells]at f2 c2
   obtain⟨rfl,rfl,rfl⟩:=c1
   obtain⟨rfl,rfl,rfl⟩:=c2
   rw[run_equalIn_int w d T _ _ _ _ hu]
   congr 1
   grind
  | str =>
   rw[hT]at hm f1 f2 c1 c2;simp only[zP]at hm;subst hm
   cases x<;>simp[VC]at c1
   cases y<;>simp[VC]at c2
   cases v1<;>simp[kK,TyD.isAgg,Value.cells]at f1 c1
   cases v2<;>simp[kK,TyD.isAgg,Value.cells]at f2 c2
   subst c1;subst c2
   rw[run_equalIn_string w d T _ _ hu]
   congr 1
   rw[Bool.eq_iff_iff];simp
  | struct fs =>
   rw[hT]at hm f1 f2 c1 c2;simp only[zP]at hm
   obtain⟨F,rfl,rfl,hnm⟩:=hm
   cases x<;>simp[VC]at c1
   cases y<;>simp[VC]at c2
   cases v1<;>simp[kK,TyD.isAgg,Value.cells]at f1 c1
   cases v2<;>simp[kK,TyD.isAgg,Value.cells]at f2 c2
   rename_i ps qs cs1 cs2
   simp only[WX,hT,Bool.and_eq_true,Bool.not_eq_true',List.all_eq_true]at h
   have hF:P.fieldsOf T=F:=by simp[Program.fieldsOf,hu]
   rw[run_equalIn_struct w d T cs1 cs2 (by simp_all) h.1,hF]
   rw[CE hl cs1 cs2 F.toList ps qs 0]
   ·congr 1;simp
   ·intro f hf
    refine⟨?_,fun x y v1 v2 a b=>IH f.type (h.2 _ (List.mem_map_of_mem hf)) d (by omega) x y v1 v2 a b⟩
    grind
   ·intro i f hf
    rw[uC hl (J3 hne) hu (by simpa using hf)];simp
   ·simp_all
   simp_all
  | arr m e =>
   rw[hT]at hm f1 f2 c1 c2;simp only[zP]at hm;subst hm
   cases x<;>simp[VC]at c1
   cases y<;>simp[VC]at c2
   cases v1<;>simp[kK,TyD.isAgg,Value.cells]at f1 c1
   cases v2<;>simp[kK,TyD.isAgg,Value.cells]at f2 c2
   rename_i ps qs cs1 cs2
   simp only[WX,hT]at h
   by_cases he:q9 P e=.other
   ·cases n<;>simp[WX,he]at h
   obtain⟨i,hi⟩:=CZ (J3 he)
   rw[run_equalIn_array w d cs1 cs2 hu hi]
   have l1:=ZD hl ps e _ c1.2
   have l2:=ZD hl qs e _ c2.2
   have:=zbr hl (d:=d) (fun x y v1 v2 a b=>IH e h d (by omega) x y v1 v2 a b) he cs1 cs2 ps qs 0 (by omega) (by simp_all) (by simp_all)
    (by grind) (by grind)
   simp_all[List.range_eq_range']
  | _=>simp_all[WX]

theorem zgw:∀(n:Nat) (T:TypeId),WX P n T=true->∀(d:Nat),n<=d->P.eqGuardType d T=false
 | 0,_,h,_,_=>by grind [WX]
 | n+1,T,h,0,hd=>by omega
 | n+1,T,h,d+1,hd=>by
  have IH:=zgw n
  have hne:q9 P T≠.other:=by grind [WX]
  obtain⟨u,hu,hm⟩:=qO (d:=q9 P T) rfl hne
  unfold Program.eqGuardType
  cases hT:q9 P T with
  | struct fs =>
   rw[hT]at hm;simp only[zP]at hm
   obtain⟨F,rfl,rfl,hnm⟩:=hm
   simp_all[WX]
  | arr m e =>
   simp_all[zP,WX]
  | bool=>simp_all[zP]
  | int k=>simp_all[zP]
  | str=>simp_all[zP]
  | _=>simp_all[WX]
end
end Go.Ab
end
section
namespace Go.Ab
open Go
open Classical
variable [Sel]
def ev (s:St):Operand->TV
 | .tmp t=>s.env t
 | .const v=>.cst v
 | .global _=>.junk
 | .func f=>.av .func (.fn f [])

def coC (d:TyD) (v:Value):Option AV :=
 match d,v with
 | .bool,.bool b=>some (.b b)
 | .int k,.int k' n=>if k'=k then some (.i k n) else none
 | .str,.string x=>some (.s x.data.toList)
 | .slice _,.slice none 0 0=>some (.sl .full [])
 | .ptr,.pointer none=>some .nilptr
 | .map _ _,.map none=>some (.map none)
 | .func,.nilFunc=>some .nilfn
 | .iface,.nilIface=>some .nilifc
 | _,_=>none

def co (d:TyD):TV->Option AV
 | .av d' x=>if d'=d then some x else none
 | .cst v=>coC d v
 | _=>none

def asI:TV->Option (IntKind × Int)
 | .av (.int _) (.i k n)=>some (k,n)
 | .cst (.int k n)=>some (k,n)
 | _=>none
def asB:TV->Option Bool
 | .av .bool (.b x)=>some x
 | .cst (.bool x)=>some x
 | _=>none
def asS:TV->Option (List UInt8)
 | .av .str (.s x)=>some x
 | .cst (.string x)=>some x.data.toList
 | _=>none
inductive NK|ptr|func|iface|map
 deriving DecidableEq
def zbR:TV->Option (NK × Bool)
 | .cst (.pointer none)=>some (.ptr,true)
 | .cst .nilFunc=>some (.func,true)
 | .cst .nilIface=>some (.iface,true)
 | .cst (.map none)=>some (.map,true)
 | .av _ .nilptr=>some (.ptr,true)
 | .av _ .nilfn=>some (.func,true)
 | .av _ .nilifc=>some (.iface,true)
 | .av _ (.map none)=>some (.map,true)
 | .av _ (.ptr _ _ _)=>some (.ptr,false)
 | .av _ (.fn _ _)=>some (.func,false)
 | .av _ (.bm _ _)=>some (.func,false)
 | .av _ (.ifc _ _)=>some (.iface,false)
 | .av _ (.map (some _))=>some (.map,false)
 | .loc _ _=>some (.ptr,false)
 | .pel _ _=>some (.ptr,false)
 | _=>none
def zlY:TyD->Option NK
 | .ptr=>some .ptr
 | .func=>some .func
 | .iface=>some .iface
 | .map _ _=>some .map
 | _=>none

section
variable {P:Program} {s:St} {g:Gh} {w:World} {β:Nat->Nat}
theorem zj6 {d:TyD} {v:Value} {x:AV} (h:coC d v=some x):VV P g w d x v:=by
 unfold coC at h
 split at h<;>try (simp at h;done)
 ·cases h;exact⟨rfl,rfl,rfl⟩
 ·split at h
  ·rename_i e;cases h;subst e;exact⟨rfl,rfl,rfl⟩
  ·cases h
 ·cases h;exact⟨rfl,rfl,by rfl⟩
 ·cases h;exact⟨rfl,_,none,0,rfl,rfl,Nat.le_refl _,.inl rfl,rfl⟩
 ·cases h;exact⟨rfl,rfl,rfl⟩
 ·cases h;exact⟨rfl,_,_,rfl,rfl⟩
 ·cases h;exact⟨rfl,rfl,rfl⟩
 ·cases h;exact⟨rfl,rfl,rfl⟩
theorem kQ {d:TyD} {tv:TV} {x:AV} {v:Value} (h:co d tv=some x) (hv:TVR P s g w β tv v):VV P g w d x v:=by
 cases tv with
 | av d' y =>
  simp only[co]at h
  split at h
  ·rename_i e;cases h;subst e;exact hv
  ·cases h
 | cst u=>simp only[TVR]at hv;subst hv;exact zj6 h
 | _=>grind [co]
theorem zrf {k k':IntKind} {n:Int} {v:Value} (h:VV P g w (.int k) (.i k' n) v):k=k'/\v=.int k n:=by
 obtain⟨f,h⟩:=h
 cases v<;>simp[VC,kK,TyD.isAgg,Value.cells]at f h
 simp_all
theorem zp8 {b:Bool} {v:Value} (h:VV P g w .bool (.b b) v):v=.bool b:=by
 obtain⟨f,h⟩:=h
 cases v<;>simp[VC,kK,TyD.isAgg,Value.cells]at f h
 rw[h]
theorem zqV {x:List UInt8} {v:Value} (h:VV P g w .str (.s x) v):v=.string ⟨x.toArray⟩:=by
 obtain⟨f,h⟩:=h
 cases v<;>simp[VC,kK,TyD.isAgg,Value.cells]at f h
 rw[h]
theorem zaV {k:IntKind} {x:AV} {v:Value} (h:VV P g w (.int k) x v):∃n,x=.i k n/\v=.int k n:=by
 obtain⟨f,h⟩:=h
 cases x<;>simp[VC]at h
 obtain⟨rfl,h⟩:=h
 cases v<;>simp[kK,TyD.isAgg,Value.cells]at f h
 simp_all
theorem cE {x:AV} {v:Value} (h:VV P g w .bool x v):∃b,x=.b b/\v=.bool b:=by
 obtain⟨f,h⟩:=h
 cases x<;>simp[VC]at h
 cases v<;>simp[kK,TyD.isAgg,Value.cells]at f h
 simp_all
theorem zc7 {x:AV} {v:Value} (h:VV P g w .str x v):∃l,x=.s l/\v=.string ⟨l.toArray⟩:=by
 obtain⟨f,h⟩:=h
 cases x<;>simp[VC]at h
 cases v<;>simp[kK,TyD.isAgg,Value.cells]at f h
 simp_all
theorem QC {d:TyD} {x:AV} {v:Value} (hd:d.isAgg=true) (h:VV P g w d x v):∃cs,v=.agg cs:=by
 obtain⟨f,h⟩:=h
 cases v<;>simp_all[kK]
theorem kT {k:IntKind} {n:Int}:VV P g w (.int k) (.i k n) (.int k n):=⟨rfl,rfl,rfl⟩
theorem kB {b:Bool}:VV P g w .bool (.b b) (.bool b):=⟨rfl,rfl,rfl⟩
theorem WM {x:ByteArray}:VV P g w .str (.s x.data.toList) (.string x):=⟨rfl,rfl,by rfl⟩
theorem wP {tv:TV} {k:IntKind} {n:Int} {v:Value} (h:asI tv=some (k,n)) (hv:TVR P s g w β tv v):v=.int k n:=by
 unfold asI at h
 split at h
 ·cases h;obtain⟨rfl,rfl⟩:=zrf hv;rfl
 ·cases h;exact hv
 ·cases h
theorem VR {tv:TV} {b:Bool} {v:Value} (h:asB tv=some b) (hv:TVR P s g w β tv v):v=.bool b:=by
 unfold asB at h
 split at h
 ·cases h;exact zp8 hv
 ·cases h;exact hv
 ·cases h
theorem KI {tv:TV} {x:List UInt8} {v:Value} (h:asS tv=some x) (hv:TVR P s g w β tv v):∃y:ByteArray,v=.string y/\y.data.toList=x:=by
 unfold asS at h
 split at h
 ·cases h;exact⟨_,zqV hv,by simp⟩
 ·cases h;exact⟨_,hv,rfl⟩
 ·cases h
omit P s g w β in
theorem qK {d:TyD} {v:Value} (hd:d.isAgg=false) (f:kK d v):v.cells.toList=[v]:=by
 cases v<;>simp_all[kK,Value.cells]
def dE:Value->Option (NK × Bool)
 | .pointer none=>some (.ptr,true)
 | .nilFunc=>some (.func,true)
 | .nilIface=>some (.iface,true)
 | .map none=>some (.map,true)
 | .pointer (some _)=>some (.ptr,false)
 | .func _ _ _=>some (.func,false)
 | .iface _ _=>some (.iface,false)
 | .map (some _)=>some (.map,false)
 | _=>none
theorem dO {tv:TV} {b:NK × Bool} {v:Value} (h:zbR tv=some b) (hv:TVR P s g w β tv v):dE v=some b:=by
 unfold zbR at h
 split at h<;>cases h
 all_goals try (simp only[TVR]at hv;subst hv;rfl)
 case h_14=>obtain⟨d,x,off,d',_,_,rfl⟩:=hv;rfl
 case h_15=>obtain⟨_,b,off,rfl,_⟩:=hv;rfl
 ·obtain⟨f,h⟩:=hv;simp only[VC]at h;obtain⟨rfl,h⟩:=h;rw[qK rfl f]at h;cases h;rfl
 ·obtain⟨f,h⟩:=hv;simp only[VC]at h;obtain⟨rfl,h⟩:=h;rw[qK rfl f]at h;cases h;rfl
 ·obtain⟨f,h⟩:=hv;simp only[VC]at h;obtain⟨rfl,h⟩:=h;rw[qK rfl f]at h;cases h;rfl
 ·obtain⟨f,h⟩:=hv;simp only[VC]at h;obtain⟨k,e,rfl,h⟩:=h;rw[qK rfl f]at h;cases h;rfl
 ·obtain⟨f,h⟩:=hv;simp only[VC]at h;obtain⟨rfl,o,t,_,h⟩:=h;rw[qK rfl f]at h;cases h;rfl
 ·obtain⟨f,h⟩:=hv;simp only[VC]at h;obtain⟨rfl,vs,h,_⟩:=h;rw[qK rfl f]at h;cases h;rfl
 ·obtain⟨f,h⟩:=hv;simp only[VC]at h;obtain⟨rfl,vs,h,_⟩:=h;rw[qK rfl f]at h;cases h;rfl
 ·obtain⟨f,h⟩:=hv;simp only[VC]at h;obtain⟨rfl,vs,h,_⟩:=h;rw[qK rfl f]at h;cases h;rfl
 ·obtain⟨f,h⟩:=hv;simp only[VC]at h;obtain⟨k,e,rfl,h⟩:=h;rw[qK rfl f]at h;cases h;rfl
end
end Go.Ab
end
