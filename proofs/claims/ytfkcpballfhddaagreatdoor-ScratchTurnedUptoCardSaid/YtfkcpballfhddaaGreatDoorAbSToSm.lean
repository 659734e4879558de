/- ### regions, code. No condition. -/
import Derived.Test.YtfkcpballfhddaaGreatDoorAbNToR
set_option linter.unusedSimpArgs false
set_option linter.unusedVariables false
set_option linter.unusedSectionVars false
section
namespace Go.Ab
open Go
open Classical
variable [Sel]
def gB:TV->Option (Option Bool)
 | .cst (.tuple ⟨[]⟩)=>some none
 | .av .bool (.b x)=>some (some x)
 | .cst (.bool x)=>some (some x)
 | _=>none
noncomputable def vcG (P:Program) (cf:Cfg) (ops:Array Oper) (s:St) (o:Oper) (K:St->Prop):Prop :=
 match o.guard with
 | none=>yQ P cf s o K
 | some (j,want)=>match (ops[j]?).bind (·.dst)with
  | some t=>match gB (s.env t)with
   | some b=>(b=some want->yQ P cf s o K)/\(b≠some want->K (s.put o.dst (.cst undef)))
   | none=>False
  | none=>False

noncomputable def gW (P:Program) (cf:Cfg) (ops:Array Oper) (K:St->Prop):List Oper->St->Prop
 | [],s=>K s
 | o::r,s=>vcG P cf ops s o (gW P cf ops K r)

theorem xT {c:Ctx} {s:St} {a:Act} {w:World} {g:Gh} {β:Nat->Nat} (h:zF c s a w g β) {ops:Array Oper} {j t:Nat} (ht:(ops[j]?).bind (·.dst)=some t) {b:Option Bool} (hb:gB (s.env t)=some b) :
  yielded ops a.tmps j=b:=by
 have hv:=h.env t
 have key:∀u:Value,a.tmps.getD t undef=u->yielded ops a.tmps j=match u with|.bool b=>some b|_=>none:=by
  intro u hu
  unfold yielded
  rw[ht]
  simp only[Option.bind_some]
  rw[Array.getD_eq_getD_getElem?]at hu
  cases hg:a.tmps[t]? with
  | none=>rw[hg]at hu;simp at hu;subst hu;rfl
  | some x=>grind
 unfold gB at hb
 split at hb
 ·rename_i e
  cases hb
  rw[e]at hv
  rw[key _ hv]
 ·rename_i x e
  cases hb
  rw[e]at hv
  have:=VR (P:=c.P) (s:=s) (g:=g) (w:=w) (β:=β) (tv:=.av .bool (.b x)) rfl hv
  simp_all
 ·rename_i x e
  cases hb
  rw[e]at hv
  rw[key _ hv]
 ·cases hb

theorem CB {c:Ctx} (hl:laidOutB c.P=true) {cf:Cfg} {ops:Array Oper} (hdst:∀o∈ops.toList,∀d,o.dst=some d->d<c.n) {K:St->Prop} {Q:Exit->Act->World->Prop} (hQ:∀a w,wF c K a w->Q .normal a w) :
  ∀(m k:Nat) (a:Act) (w:World),k+m=ops.size->wF c (gW c.P cf ops K (ops.toList.drop k)) a w->wpOpsIn (fen c.rd) 0 c.P ops Q (List.range' k m) a w
 | 0,k,a,w,hm,hg=>by
  have:ops.toList.drop k=[]:=List.drop_of_length_le (by simp;omega)
  rw[this]at hg
  exact hQ a w hg
 | m+1,k,a,w,hm,⟨s,g,β,hk,hS⟩=>by
  have hlt:k<ops.size:=by omega
  have hd:ops.toList.drop k=ops[k]::ops.toList.drop (k+1):=by simp_all[List.drop_eq_getElem_cons]
  rw[hd]at hk
  have hok:ops[k]?=some ops[k]:=by simp[hlt]
  have hmem:ops[k]∈ops.toList:=by simp
  rw[List.range'_succ,wpOpsIn_cons]
  unfold wpOpIn
  rw[hok]
  dsimp only
  simp only[gW]at hk
  unfold vcG at hk
  have rest:∀a w,wF c (gW c.P cf ops K (ops.toList.drop (k+1))) a w->wpOpsIn (fen c.rd) 0 c.P ops Q (List.range' (k+1) m) a w :=
   fun a w hg=>CB hl hdst hQ m (k+1) a w (by omega) hg
  have run:yQ c.P cf s ops[k] (gW c.P cf ops K (ops.toList.drop (k+1)))->Oper.wpIn (fen c.rd) 0 c.P ops[k] a w (wpOpsIn (fen c.rd) 0 c.P ops Q (List.range' (k+1) m)) Q :=
   fun hv=>Oper.wpIn_mono rest (W9 hl hS (hdst _ hmem) hv)
  cases hgd:ops[k].guard with
  | none =>
   simp_all[Region.wanted]
  | some jw =>
   obtain⟨j,want⟩:=jw
   rw[hgd]at hk
   simp only at hk
   cases ht:(ops[j]?).bind (·.dst)with
   | none=>simp_all
   | some t =>
    rw[ht]at hk
    simp only at hk
    cases hb:gB (s.env t)with
    | none=>simp_all
    | some b =>
     rw[hb]at hk
     have hy:=xT hS ht hb
     by_cases hbw:b=some want
     ·simp_all[Region.wanted]
     ·rw[if_neg (by simp_all[Region.wanted])]
      exact⟨fun _ _=>trivial,rest _ _ ⟨_,g,β,hk.2 hbw,hS.put (hdst _ hmem) (tv:=.cst undef) rfl⟩⟩

/-! ### regions whose order is open, of operations that only reckon and read -/
noncomputable def p9 (P:Program) (ops:Array Oper) (K:St->Prop):List Oper->St->Prop
 | [],s=>K s
 | o::r,s=>match o.guard with
  | none=>zQ P s o.op (Y6 s o.dst (p9 P ops K r))
  | some (j,want)=>match (ops[j]?).bind (·.dst)with
   | some t=>match gB (s.env t)with
    | some b=>(b=some want->zQ P s o.op (Y6 s o.dst (p9 P ops K r)))/\(b≠some want->p9 P ops K r (s.put o.dst (.cst undef)))
    | none=>False
   | none=>False

theorem GE {c:Ctx} (hl:laidOutB c.P=true) {ops:Array Oper} {K:St->Prop} {w:World} {g:Gh} {β:Nat->Nat} :
  ∀(l:List Oper) (s:St) (a:Act),(∀o∈l,∀d,o.dst=some d->d<c.n)->zF c s a w g β->p9 c.P ops K l s->wpStill c.P ops w (fun a=>wF c K a w) l a
 | [],s,a,_,hS,hk=>⟨s,g,β,hk,hS⟩
 | o::r,s,a,hdst,hS,hk=>by
  simp only[wpStill]
  have step:zQ c.P s o.op (Y6 s o.dst (p9 c.P ops K r))->o.still c.P a w (wpStill c.P ops w (fun a=>wF c K a w) r):=by
   intro hp
   obtain⟨u,tu,hr,hk',ht⟩:=WV hl hS hp
   unfold Oper.still
   rw[hr,Oper.stillUpon_value]
   exact GE hl r _ _ (fun o' ho'=>hdst o' (by simp[ho'])) (hS.put (hdst o (by simp)) ht) hk'
  simp only[p9]at hk
  cases hgd:o.guard with
  | none =>
   simp_all[Region.wanted]
  | some jw =>
   obtain⟨j,want⟩:=jw
   rw[hgd]at hk
   simp only at hk
   cases ht:(ops[j]?).bind (·.dst)with
   | none=>simp_all
   | some t =>
    rw[ht]at hk
    simp only at hk
    cases hb:gB (s.env t)with
    | none=>simp_all
    | some b =>
     rw[hb]at hk
     have hy:=xT hS ht hb
     by_cases hbw:b=some want
     ·simp_all[Region.wanted]
     ·rw[if_neg (by simp_all[Region.wanted])]
      exact GE hl r _ _ (fun o' ho'=>hdst o' (by simp[ho'])) (hS.put (hdst o (by simp)) (tv:=.cst undef) rfl) (hk.2 hbw)

def QK (c:Ctx) (K:Exit->St->Prop):Exit->Act->World->Prop
 | .panic _,_,_=>False
 | .outgrown,_,_=>False
 | e,a,w=>wF c (K e) a w
def JM (D:List Nat):Nat->List Oper->List Nat
 | _,[]=>D
 | k,o::r=>JM (if o.after.any (fun e=>Region.binds .any e&&D.contains e.on) then k::D else D) (k+1) r
def zcx (ops:Array Oper) (i:Nat):List Nat:=JM [i] 0 ops.toList
def GO (ops:Array Oper) (j:Nat):Bool:=(List.range ops.size).all fun i=>if i<j then(zcx ops i).contains j else if j<i then(zcx ops j).contains i else true

def DC (ops:Array Oper) (listed:Array Bool):Prop:=∀k o,ops[k]?=some o->listed.getD k true=true->∀e∈o.after,Region.binds .any e=true->listed.getD e.on false=true

theorem zd2 {ops:Array Oper} {i:Nat}:∀(l:List Oper) (k:Nat) (D:List Nat),(∀j,l[j]?=ops[k+j]?)->
  (∀x∈D,x=i\/∃o,ops[x]?=some o/\∃e∈o.after,Region.binds .any e=true/\e.on∈JM D k l)->
  ∀x∈JM D k l,x=i\/∃o,ops[x]?=some o/\∃e∈o.after,Region.binds .any e=true/\e.on∈JM D k l
 | [],k,D,_,hD=>hD
 | o::r,k,D,hl,hD=>by
  simp only[JM]at hD |-
  have h0:ops[k]?=some o:=by simpa using(hl 0).symm
  have hsub:∀(r:List Oper) (k:Nat) (D:List Nat),∀x∈D,x∈JM D k r:=by
   intro r
   induction r with
   | nil=>intro k D x hx;exact hx
   | cons o r ih =>
    grind [JM]
  refine zd2 r (k+1) _ (fun j=>by have:=hl (j+1);grind) ?_
  grind

theorem gU {ops:Array Oper} {i:Nat} {listed:Array Bool} (hdc:DC ops listed) (hi:listed.getD i true=false):∀(l:List Oper) (k:Nat) (D:List Nat),(∀j,l[j]?=ops[k+j]?)->(∀x∈D,listed.getD x true=false)->∀x∈JM D k l,listed.getD x true=false
 | [],_,_,_,hD=>hD
 | o::r,k,D,hl,hD=>by
  simp only[JM]
  have h0:ops[k]?=some o:=by simpa using(hl 0).symm
  refine gU hdc hi r (k+1) _ (fun j=>by have:=hl (j+1);grind) ?_
  split
  ·rename_i hany
   intro x hx
   rcases List.mem_cons.1 hx with rfl|hx
   ·rw[Array.any_eq_true]at hany
    obtain⟨n,hn,he⟩:=hany
    simp only[Bool.and_eq_true,List.contains_iff_mem]at he
    cases hk:listed.getD x true with
    | false=>rfl
    | true =>
     have h1:=hdc x o h0 hk _ (Array.getElem_mem hn) he.1
     grind
   simp_all
  ·exact hD

theorem yM {ops:Array Oper} {i k:Nat} {listed:Array Bool} (hdc:DC ops listed) (hi:listed.getD i true=false) (hk:k∈zcx ops i) (hne:k≠i):k∉Region.ready .any ops listed:=by
 intro hr
 obtain⟨_,o,ho,hall⟩:=mem_ready.1 hr
 have hs:=zd2 (ops:=ops) (i:=i) ops.toList 0 [i] (by simp) (fun x hx=>.inl (by simp_all)) k hk
 rcases hs with rfl|⟨o',ho',e,he,hb,hon⟩
 ·exact hne rfl
 grind [gU]

theorem KW {ops:Array Oper} {i j:Nat} {listed:Array Bool} (hdc:DC ops listed) (hb:GO ops j=true) (hj:j∈Region.ready .any ops listed) (hi:i∈Region.ready .any ops listed):i=j:=by
 obtain⟨ui,oi,hoi,_⟩:=mem_ready.1 hi
 obtain⟨uj,oj,hoj,_⟩:=mem_ready.1 hj
 have h1:=List.all_eq_true.1 hb i (List.mem_range.2 (Array.getElem?_eq_some_iff.1 hoi).1)
 rcases Nat.lt_trichotomy i j with h|h|h
 ·rw[if_pos h]at h1
  grind [yM]
 ·exact h
 ·rw[if_neg (by omega),if_pos h]at h1
  grind [yM]

theorem DC.list {ops:Array Oper} {i:Nat} {listed:Array Bool} (h:DC ops listed) (hr:i∈Region.ready .any ops listed):DC ops (listed.setIfInBounds i true):=by
 intro k o ho hk e he hb
 by_cases hki:k=i
 ·grind [mem_ready,getD_set_true]
 ·rw[getD_set_ne true (Ne.symm hki)]at hk
  exact getD_set_true (h k o ho hk e he hb)
theorem DC.start (ops:Array Oper):DC ops (Array.replicate ops.size false):=by
 intro k o ho hk
 have hlt:=(Array.getElem?_eq_some_iff.1 ho).1
 simp_all
def gD (o:Oper):Option Nat :=
 match o.op with
 | .alloc _=>o.dst
 | .box _ _=>o.dst
 | .store _ (.tmp t) _=>some t
 | _=>none

def dP (ops:Array Oper) (i j:Nat):Bool :=
 (match ops[i]? with|some o=>o.after.any fun e=>Region.binds .any e&&e.on==j|none=>false) ||
 (match ops[j]? with|some o=>o.after.any fun e=>Region.binds .any e&&e.on==i|none=>false)

def rdJ (ops:Array Oper) (i k:Nat):Nat->List Oper->Bool
 | _,[]=>true
 | j,o'::r=>(j==i||gD o' != some k||dP ops i j)&&rdJ ops i k (j+1) r

theorem zfV {ops:Array Oper} {i k:Nat}:∀(l:List Oper) (j0:Nat),rdJ ops i k j0 l=true->∀j oj,l[j]?=some oj->j0+j≠i->gD oj=some k->dP ops i (j0+j)=true
 | [],_,_,j,_,h,_,_=>by simp at h
 | o'::r,j0,h,0,oj,hj,hne,hk=>by
  simp_all[rdJ]
 | o'::r,j0,h,j+1,oj,hj,hne,hk=>by
  simp only[rdJ,Bool.and_eq_true]at h
  have:=zfV r (j0+1) h.2 j oj (by simp_all) (by omega) hk
  grind

def x6 (ops:Array Oper) (i:Nat) (o:Oper) (s:St):Bool :=
 (o.looksAt ops).all fun t=>match s.env t with
  | .loc k _=>rdJ ops i k 0 ops.toList
  | _=>true

def wkB (ops:Array Oper):Bool :=
 (List.range ops.size).all fun i=>(List.range ops.size).all fun j=>i==j||(match (ops[i]?).bind gD,(ops[j]?).bind gD with|some k,some k'=>k != k'||dP ops i j|_,_=>true)

def St.app (s:St) (dst:Option Nat) (tv:TV) (ky:Option (Nat × (TyD × AV))):St :=
 { s.put dst tv with loc:=match ky with|some (k,x)=>upd s.loc k (some x)|none=>s.loc }

structure Agr (ops:Array Oper) (o:Oper) (s s':St):Prop where
 env:∀t∈o.looksAt ops,s'.env t=s.env t
 loc:∀t∈o.looksAt ops,∀k p,s.env t=.loc k p->s'.loc k=s.loc k
 H:s'.H=s.H
 ver:s'.ver=s.ver
 new:∀d,o.dst=some d->gD o=some d->s.loc d=none->s'.loc d=none

theorem Agr.refl (ops:Array Oper) (o:Oper) (s:St):Agr ops o s s:=⟨fun _ _=>rfl,fun _ _ _ _ _=>rfl,rfl,rfl,fun _ _ _ h=>h⟩
theorem Agr.trans {ops:Array Oper} {o:Oper} {s s' s'':St} (h:Agr ops o s s') (h':Agr ops o s' s''):Agr ops o s s'' :=
 ⟨fun t ht=>(h'.env t ht).trans (h.env t ht),fun t ht k p e=>(h'.loc t ht k p ((h.env t ht).trans e)).trans (h.loc t ht k p e),h'.H.trans h.H,h'.ver.trans h.ver,fun d e1 e2 e3=>h'.new d e1 e2 (h.new d e1 e2 e3)⟩

def YdS (P:Program) (cf:Cfg) (ops:Array Oper) (s:St) (o:Oper) (tv:TV) (ky:Option (Nat × (TyD × AV))):Prop :=
 ∀s',Agr ops o s s'->∀K:St->Prop,K (s'.app o.dst tv ky)->yQ P cf s' o K

def yO (ops:Array Oper) (o:Oper) (s:St):Option Bool :=
 match o.guard with
 | none=>some true
 | some (j,want)=>match (ops[j]?).bind (·.dst)with
  | some t=>(gB (s.env t)).map fun b=>decide (b=some want)
  | none=>none

structure YI (P:Program) (cf:Cfg) (ops:Array Oper) (i:Nat) (o:Oper) (tv:TV) (ky:Option (Nat × (TyD × AV))) (s:St):Prop where
 does:(yO ops o s=some true/\YdS P cf ops s o tv ky)\/(yO ops o s=some false/\tv=.cst undef/\ky=none)
 key:∀k x,ky=some (k,x)->gD o=some k
 rd:x6 ops i o s=true

def zi8 (o:Oper):Bool:=match o.op with
 | .call { callee:=.builtin .append,.. }=>true
 | .makeMap _ _=>true
 | .mapUpdate _ _ _ _=>true
 | .insert _ _ _ _=>true
 | .makeSlice _ _ _=>true
 | .call { callee:=.builtin .clear,.. }=>true
 | .call { callee:=.builtin .delete,.. }=>true
 | _=>false
def zfh (ops:Array Oper):Bool:=(List.range ops.size).all fun k=>match ops[k]? with|some o=>!zi8 o||GO ops k|none=>true
theorem zhB {ops:Array Oper} (h:zfh ops=true) {k:Nat} {o:Oper} (ho:ops[k]?=some o) (hi:zi8 o=true):GO ops k=true:=by
 have h1:=List.all_eq_true.1 h k (List.mem_range.2 (Array.getElem?_eq_some_iff.1 ho).1)
 simp_all
def q1 (P:Program) (cf:Cfg) (ops:Array Oper) (i:Nat) (o:Oper) (K:St->Prop) (s:St):Prop:=∃tv ky,YI P cf ops i o tv ky s/\K (s.app o.dst tv ky)
def q2 (P:Program) (cf:Cfg) (ops:Array Oper) (i:Nat) (o:Oper) (K:St->Prop) (s:St):Prop:=GO ops i=true/\∃K1:St->Prop,vcG P cf ops s o K1/\∀s,K1 s->K s
def qA (P:Program) (cf:Cfg) (ops:Array Oper) (i:Nat) (K:St->Prop) (s:St):Prop :=
 match ops[i]? with
 | none=>K s
 | some o=>q1 P cf ops i o K s\/q2 P cf ops i o K s

def zkp (P:Program) (cf:Cfg) (ops:Array Oper) (Q:St->Prop):Nat->Array Bool->St->Prop
 | 0,listed,s=>Region.ready .any ops listed=[]/\Q s
 | fuel+1,listed,s=>(Region.ready .any ops listed=[]->Q s)/\∀i∈Region.ready .any ops listed,qA P cf ops i (zkp P cf ops Q fuel (listed.setIfInBounds i true)) s

theorem gV {c:Ctx} {s:St} {a:Act} {w:World} {g:Gh} {β:Nat->Nat} (h:zF c s a w g β) {ops:Array Oper} {o:Oper} {b:Bool} (hw:yO ops o s=some b):Region.wanted o (yielded ops a.tmps)=b:=by
 unfold yO at hw
 cases hg:o.guard with
 | none=>simp_all[Region.wanted]
 | some jw =>
  obtain⟨j,want⟩:=jw
  rw[hg]at hw
  simp only at hw
  cases ht:(ops[j]?).bind (·.dst)with
  | none=>simp_all
  | some t =>
   rw[ht]at hw
   simp only at hw
   cases hb:gB (s.env t)with
   | none=>simp_all
   | some v =>
    grind [xT,Region.wanted]

theorem zaA {c:Ctx} (hl:laidOutB c.P=true) {cf:Cfg} {ops:Array Oper} (hdst:∀o∈ops.toList,∀d,o.dst=some d->d<c.n) {i:Nat} {K:St->Prop} {s:St} {a:Act} {w:World} {g:Gh} {β:Nat->Nat} (hS:zF c s a w g β)
  (h:qA c.P cf ops i K s) {K':Act->World->Prop} (hK:∀a w,wF c K a w->K' a w) {Q:Exit->Act->World->Prop}:wpOpIn (fen c.rd) 0 c.P ops Q i K' a w:=by
 unfold qA at h
 unfold wpOpIn
 split
 ·rename_i ho;simp only[ho]at h;exact hK _ _ ⟨s,g,β,h,hS⟩
 ·rename_i o ho
  simp only[ho]at h
  have hmem:o∈ops.toList:=by
   grind
  have skip:∀(K1:St->Prop),(∀s,K1 s->K s)->K1 (s.put o.dst (.cst undef))->K' (a.put o.dst undef) w:=fun K1 himp hk=>by
   exact hK _ _ ⟨_,g,β,himp _ hk,hS.put (hdst o hmem) (tv:=.cst undef) (v:=undef) rfl⟩
  rcases h with h|⟨_,K1,hv,himp⟩
  rotate_left
  ·have run:yQ c.P cf s o K1->(o.wpIn (fen c.rd) 0 c.P a w K' Q):=fun hv=>Oper.wpIn_mono (fun a w hg=>hK a w (by obtain⟨s',g',β',h1,h2⟩:=hg;exact⟨s',g',β',himp _ h1,h2⟩)) (W9 hl hS (hdst o hmem) (K:=K1) hv)
   unfold vcG at hv
   cases hg:o.guard with
   | none =>
    simp_all[Region.wanted]
   | some jw =>
    obtain⟨j,want⟩:=jw
    rw[hg]at hv
    simp only at hv
    cases ht:(ops[j]?).bind (·.dst)with
    | none=>simp_all
    | some t =>
     rw[ht]at hv
     simp only at hv
     cases hb:gB (s.env t)with
     | none=>simp_all
     | some b =>
      rw[hb]at hv
      have hy:=xT hS ht hb
      by_cases hbw:b=some want
      ·simp_all[Region.wanted]
      ·rw[if_neg (by simp_all[Region.wanted])]
       exact⟨fun _ _=>trivial,skip K1 himp (hv.2 hbw)⟩
  obtain⟨tv,ky,hy,hk⟩:=h
  rcases hy.does with⟨hw,hyd⟩|⟨hw,rfl,rfl⟩
  ·rw[if_pos (gV hS hw)]
   exact Oper.wpIn_mono (fun a w hg=>hK a w hg) (W9 hl hS (hdst o hmem) (K:=K) (hyd s (Agr.refl _ _ _) K hk))
  ·rw[if_neg (by grind [gV])]
   refine⟨fun _ _=>trivial,hK _ _ ⟨_,g,β,hk,?_⟩⟩
   have:=hS.put (hdst o hmem) (tv:=.cst undef) (v:=undef) rfl
   cases hd:o.dst with
   | none=>assumption
   | some d=>rw[hd]at this;exact this

theorem zaK {c:Ctx} (hl:laidOutB c.P=true) {cf:Cfg} {ops:Array Oper} (hdst:∀o∈ops.toList,∀d,o.dst=some d->d<c.n) {Q:St->Prop} {Q':Exit->Act->World->Prop} (hQ:∀a w,wF c Q a w->Q' .normal a w) :
  ∀(fuel:Nat) (listed:Array Bool) (a:Act) (w:World),wF c (zkp c.P cf ops Q fuel listed) a w->wpAnyIn (fen c.rd) 0 c.P .any ops Q' fuel listed a w
 | 0,_,a,w,⟨s,g,β,h,hS⟩=>⟨h.1,hQ a w ⟨s,g,β,h.2,hS⟩⟩
 | fuel+1,_,a,w,⟨s,g,β,h,hS⟩=>⟨fun h0=>hQ a w ⟨s,g,β,h.1 h0,hS⟩,fun i hi=>zaA hl hdst hS (h.2 i hi) (fun a' w' hg=>zaK hl hdst hQ fuel _ a' w' hg)⟩

theorem VJ {ops:Array Oper} {i:Nat} {o:Oper} {s:St} (h:x6 ops i o s=true) {t:Nat} (ht:t∈o.looksAt ops) {k:Nat} {p:List Nat} (he:s.env t=.loc k p) {j:Nat} {oj:Oper} (hj:ops[j]?=some oj) (hji:j≠i) (hk:gD oj=some k) :
  dP ops i j=true:=by
 unfold x6 at h
 have h1:=List.all_eq_true.1 h t ht
 rw[he]at h1
 simp only at h1
 have:=zfV ops.toList 0 h1 j oj (by simp_all) (by omega) hk
 simp_all

theorem Agr.wanted {ops:Array Oper} {o:Oper} {s s':St} (h:Agr ops o s s'):yO ops o s'=yO ops o s:=by
 unfold yO
 cases hg:o.guard with
 | none=>rfl
 | some jw =>
  obtain⟨j,want⟩:=jw
  simp only
  cases ht:(ops[j]?).bind (·.dst)with
  | none=>rfl
  | some t =>
   simp only
   rw[h.env t (by simp_all[Oper.looksAt])]

theorem Agr.rd {ops:Array Oper} {i:Nat} {o:Oper} {s s':St} (h:Agr ops o s s'):x6 ops i o s'=x6 ops i o s:=by
 unfold x6
 rw[Bool.eq_iff_iff,List.all_eq_true,List.all_eq_true]
 constructor<;>intro h1 t ht<;>have h2:=h1 t ht
 ·rw[h.env t ht]at h2;exact h2
 ·rw[h.env t ht];exact h2

theorem YI.same {P:Program} {cf:Cfg} {ops:Array Oper} {i:Nat} {o:Oper} {tv:TV} {ky:Option (Nat × (TyD × AV))} {s s':St} (h:YI P cf ops i o tv ky s) (ha:Agr ops o s s'):YI P cf ops i o tv ky s':=by
 refine⟨?_,h.key,?_⟩
 ·rw[ha.wanted]
  rcases h.does with⟨h1,h2⟩|h1
  ·exact .inl ⟨h1,fun s'' h3=>h2 s'' (ha.trans h3)⟩
  simp_all
 ·rw[ha.rd];exact h.rd

theorem St.app_env {s:St} {dst:Option Nat} {tv:TV} {ky:Option (Nat × (TyD × AV))} {t:Nat} (h:dst≠some t):(s.app dst tv ky).env t=s.env t:=by
 cases dst with
 | none=>rfl
 | some d =>
  have:t≠d:=fun e=>h (e▸rfl)
  simp[St.app,St.put,upd,this]
theorem St.app_loc {s:St} {dst:Option Nat} {tv:TV} {ky:Option (Nat × (TyD × AV))} {k:Nat} (h:∀x,ky≠some (k,x)):(s.app dst tv ky).loc k=s.loc k:=by
 cases ky with
 | none=>rfl
 | some kx =>
  obtain⟨k',x⟩:=kx
  have:k≠k':=fun e=>h x (e▸rfl)
  simp[St.app,upd,this]
theorem St.app_dfs {s:St} {dst:Option Nat} {tv:TV} {ky:Option (Nat × (TyD × AV))}:(s.app dst tv ky).dfs=s.dfs:=by cases dst<;>rfl
theorem St.app_H {s:St} {dst:Option Nat} {tv:TV} {ky:Option (Nat × (TyD × AV))}:(s.app dst tv ky).H=s.H:=by cases dst<;>rfl
theorem St.app_ver {s:St} {dst:Option Nat} {tv:TV} {ky:Option (Nat × (TyD × AV))}:(s.app dst tv ky).ver=s.ver:=by cases dst<;>rfl
theorem zgM {α:Type} (f:Nat->α) {i j:Nat} (h:i≠j) (x y:α):upd (upd f i x) j y=upd (upd f j y) i x:=by
 grind [upd]
theorem St.app_comm (s:St) {d d':Option Nat} {tv tv':TV} {ky ky':Option (Nat × (TyD × AV))} (h1:∀t,d=some t->d'≠some t) (h2:∀k x x',ky=some (k,x)->ky'≠some (k,x')) :
  (s.app d tv ky).app d' tv' ky'=(s.app d' tv' ky').app d tv ky:=by
 have e1:((s.app d tv ky).app d' tv' ky').env=((s.app d' tv' ky').app d tv ky).env:=by
  cases d with
  | none=>cases d'<;>rfl
  | some t =>
   cases d' with
   | none=>rfl
   | some t'=>exact zgM _ (fun e=>h1 t rfl (by rw[e])) _ _
 have e2:((s.app d tv ky).app d' tv' ky').loc=((s.app d' tv' ky').app d tv ky).loc:=by
  cases ky with
  | none=>rfl
  | some kx =>
   cases ky' with
   | none=>rfl
   | some kx' =>
    obtain⟨k,x⟩:=kx
    obtain⟨k',x'⟩:=kx'
    exact zgM _ (fun e=>h2 k x x' rfl (by rw[e])) _ _
 have e3:∀(s:St) d tv ky d' tv' ky',((s.app d tv ky).app d' tv' ky').ver=s.ver:=fun s d tv ky d' tv' ky'=>by simp[St.app_ver]
 have e4:∀(s:St) d tv ky d' tv' ky',((s.app d tv ky).app d' tv' ky').H=s.H:=fun s d tv ky d' tv' ky'=>by simp[St.app_H]
 have e5:∀(s:St) d tv ky d' tv' ky',((s.app d tv ky).app d' tv' ky').dfs=s.dfs:=fun s d tv ky d' tv' ky'=>by simp[St.app_dfs]
 have ext:∀(a b:St),a.env=b.env->a.loc=b.loc->a.ver=b.ver->a.H=b.H->a.dfs=b.dfs->a=b:=by rintro⟨⟩ ⟨⟩ rfl rfl rfl rfl rfl;rfl
 grind

theorem PE {ops:Array Oper} (h:wkB ops=true) {i j:Nat} {oi oj:Oper} (hi:ops[i]?=some oi) (hj:ops[j]?=some oj) (hij:i≠j) {k:Nat} (h1:gD oi=some k) (h2:gD oj=some k):dP ops i j=true:=by
 unfold wkB at h
 have a:=List.all_eq_true.1 (List.all_eq_true.1 h i (List.mem_range.2 (Array.getElem?_eq_some_iff.1 hi).1)) j (List.mem_range.2 (Array.getElem?_eq_some_iff.1 hj).1)
 simp_all

theorem zqh {P:Program} {cf:Cfg} {ops:Array Oper} {i:Nat} {o:Oper} {K K':St->Prop} {s:St} (h:∀s,K s->K' s) (hh:q1 P cf ops i o K s):q1 P cf ops i o K' s:=by
 obtain⟨tv,ky,h1,h2⟩:=hh;exact⟨tv,ky,h1,h _ h2⟩

theorem zrw {P:Program} {cf:Cfg} {ops:Array Oper} (hwk:wkB ops=true) {i j:Nat} {oi oj:Oper} (hi:ops[i]?=some oi) (hj:ops[j]?=some oj) (hij:i≠j) (hap:oi.apart ops oj=true) (hord:dP ops i j=false)
  {tv:TV} {ky:Option (Nat × (TyD × AV))} {K:St->Prop} {s:St} (hy:YI P cf ops i oi tv ky s) (h:q1 P cf ops j oj K (s.app oi.dst tv ky)) :
  q1 P cf ops j oj (fun s'=>YI P cf ops i oi tv ky s'/\K (s'.app oi.dst tv ky)) s:=by
 obtain⟨h1,h2,h3⟩:=Oper.apart_spec hap
 have hord':dP ops j i=false:=by simp_all[dP]
 have hj':=hj
 obtain⟨tv',ky',hy',hk⟩:=h
 have keys:∀k x x',ky=some (k,x)->ky'≠some (k,x'):=fun k x x' e1 e2=>by
  have:=PE hwk hi hj' hij (hy.key _ _ e1) (hy'.key _ _ e2)
  simp_all
  -- j as it would be ahead of i
 have aj:Agr ops oj (s.app oi.dst tv ky) s:=by
  refine⟨fun t ht=>(St.app_env fun e=>h1 t e ht).symm,fun t ht k p e=>?_,St.app_H.symm,St.app_ver.symm,fun d e1 e2 e3=>?_⟩
  ·refine(St.app_loc fun x e2=>?_).symm
   have:=VJ hy'.rd ht e hi hij (hy.key _ _ e2)
   simp_all
  ·cases ky with
   | none=>exact e3
   | some kx =>
    obtain⟨k,x⟩:=kx
    by_cases hkd:k=d
    ·simp_all[St.app,upd]
    simp_all[St.app_loc]
 have ai:Agr ops oi s (s.app oj.dst tv' ky'):=by
  refine⟨fun t ht=>St.app_env fun e=>h3 t e ht,fun t ht k p e=>St.app_loc fun x e2=>?_,St.app_H,St.app_ver,fun d e1 e2 e3=>?_⟩
  ·have:=VJ hy.rd ht e hj' (Ne.symm hij) (hy'.key _ _ e2)
   simp_all
  ·rw[St.app_loc fun x e=>?_]
   ·exact e3
   ·have:=PE hwk hi hj' hij e2 (hy'.key _ _ e)
    simp_all
 refine⟨tv',ky',hy'.same aj,hy.same ai,?_⟩
 grind [St.app_comm]

theorem p0 {ops:Array Oper} {i j:Nat} {oi oj:Oper} (hi:ops[i]?=some oi) (hj:ops[j]?=some oj) (h1:∀e∈oi.after,Region.binds .any e=true->e.on≠j) (h2:∀e∈oj.after,Region.binds .any e=true->e.on≠i):dP ops i j=false:=by
 simp_all[dP]

theorem zhi {P:Program} {cf:Cfg} {ops:Array Oper} (hwk:wkB ops=true) {Q:St->Prop} {i:Nat} {oi:Oper} {tv:TV} {ky:Option (Nat × (TyD × AV))} (hi:ops[i]?=some oi) :
  ∀(fuel:Nat) (listed:Array Bool) (s:St),DC ops listed->
   (∀j oj,ops[j]?=some oj->j≠i->listed.getD j true=false->(∀e∈oj.after,Region.binds .any e=true->e.on≠i)->oi.apart ops oj=true)->
   i∈Region.ready .any ops listed->YI P cf ops i oi tv ky s->
   zkp P cf ops Q fuel (listed.setIfInBounds i true) (s.app oi.dst tv ky)->zkp P cf ops Q (fuel+1) listed s:=by
 have own:∀ {K:St->Prop} {s:St},YI P cf ops i oi tv ky s->K (s.app oi.dst tv ky)->qA P cf ops i K s:=fun hy hk=>by
  unfold qA;simp only[hi];exact .inl ⟨tv,ky,hy,hk⟩
 intro fuel
 induction fuel with
 | zero =>
  intro listed s _ _ hr hy H
  refine⟨fun h=>(by simp_all),fun j hj=>?_⟩
  by_cases hji:j=i
  ·simp_all
  ·have:=ready_mono hj hji
   rw[H.1]at this
   cases this
 | succ fuel ih =>
  intro listed s hdc hfree hr hy H
  refine⟨fun h=>(by simp_all),fun j hj=>?_⟩
  by_cases hji:j=i
  ·simp_all
  ·have h1:=H.2 j (ready_mono hj hji)
   obtain⟨hjun,oj,hoj,hall⟩:=mem_ready.1 hj
   obtain⟨hiun,oi',hoi',halli⟩:=mem_ready.1 hr
   rw[hi]at hoi';cases hoi'
   have not_on:∀ {x y:Nat} {o:Oper},listed.getD y true=false->(∀e∈o.after,Region.binds .any e=true->listed[e.on]?=some true\/listed.getD e.on true=true)->∀e∈o.after,Region.binds .any e=true->e.on≠y:=by
    intro x y o hy' ho e he hb heq
    rcases ho e he hb with h3|h3
    ·simp_all
    simp_all
   have hnot:∀e∈oj.after,Region.binds .any e=true->e.on≠i:=fun e he hb heq=>by
    grind
   have hnot':∀e∈oi.after,Region.binds .any e=true->e.on≠j:=fun e he hb heq=>by
    grind
   have h1':q1 P cf ops j oj (zkp P cf ops Q fuel ((listed.setIfInBounds i true).setIfInBounds j true)) (s.app oi.dst tv ky):=by
    have h1q:=h1
    unfold qA at h1q
    simp only[hoj]at h1q
    rcases h1q with h|⟨hb,_⟩
    ·exact h
    grind [KW]
   have h2:=zrw hwk hi hoj (Ne.symm hji) (hfree j oj hoj hji hjun hnot) (p0 hi hoj hnot' hnot) hy h1'
   have hfree':∀k ok,ops[k]?=some ok->k≠i->(listed.setIfInBounds j true).getD k true=false->
     (∀e∈ok.after,Region.binds .any e=true->e.on≠i)->oi.apart ops ok=true:=fun k ok hk hki hun hno=>by
    refine hfree k ok hk hki ?_ hno
    by_cases hjk:j=k
    ·simp_all
    simp_all
   unfold qA
   simp only[hoj]
   left
   refine zqh (fun s' h3=>ih (listed.setIfInBounds j true) s' (hdc.list hj) hfree' (ready_mono hr (Ne.symm hji)) h3.1 ?_) h2
   grind [Array.setIfInBounds_comm]

def zkd (P:Program) (cf:Cfg) (ops:Array Oper) (Q:St->Prop):Nat->List Oper->St->Prop
 | _,[],s=>Q s
 | k,o::r,s=>q1 P cf ops k o (zkd P cf ops Q (k+1) r) s\/q2 P cf ops k o (zkd P cf ops Q (k+1) r) s

theorem zb6 {P:Program} {cf:Cfg} {ops:Array Oper} (hwk:wkB ops=true) {Q:St->Prop}:∀(l:List Oper) (k:Nat) (listed:Array Bool) (s:St),DC ops listed->(∀j,l[j]?=ops[k+j]?)->
  Region.lexFrom .any ops l.length k listed=true->zkd P cf ops Q k l s->zkp P cf ops Q l.length listed s
 | [],_,_,_,_,_,hB,h=>⟨by simp_all[Region.lexFrom],h⟩
 | o::l,k,listed,s,hdc,hl,hB,h=>by
  have h0:ops[k]?=some o:=by simpa using(hl 0).symm
  simp only[List.length_cons,Region.lexFrom,Bool.and_eq_true]at hB
  obtain⟨⟨hr,hf⟩,hB'⟩:=hB
  have hr':k∈Region.ready .any ops listed:=by simp_all
  rcases h with h|⟨hb,K1,hv,himp⟩
  rotate_left
  ·refine⟨fun h=>(by simp_all),fun j hj=>?_⟩
   obtain rfl:=KW hdc hb hr' hj
   unfold qA
   simp only[h0]
   exact .inr ⟨hb,K1,hv,fun s' hs'=>zb6 hwk l (j+1) _ _ (hdc.list hr') (fun i=>by have:=hl (i+1);grind) hB' (himp s' hs')⟩
  obtain⟨tv,ky,hy,hK⟩:=h
  exact zhi hwk h0 l.length listed s hdc (Region.free_spec h0 hf) (by omega) hy
   (zb6 hwk l (k+1) _ _ (hdc.list hr') (fun j=>by have:=hl (j+1);grind) hB' hK)
def Det (F:(TV->Prop)->Prop):Prop:=∀K,F K->∃tv,K tv/\∀K',K' tv->F K'

theorem zhZ {P:Program} {T:TypeId} {x i:TV}:Det (D7 P T x i):=by
 intro K h
 unfold D7 at *
 repeat' split at h
 all_goals first|exact h.elim|exact⟨_,h.2.2,fun K' hk=>by simp_all⟩
theorem zpw {op:UnOp} {x:TV}:Det (unV op x):=by
 intro K h
 unfold unV at *
 grind
theorem zks {P:Program} {S D:TypeId} {x:TV}:Det (zay P S D x):=by
 intro K h
 unfold zay at *
 repeat' split at h
 all_goals grind
 all_goals
  grind
theorem znz {P:Program} {s:St} {T:TypeId} {x:TV} {K:TV->Prop} (h:zix P s T x K):∃y,K y/\∀s',s'.H=s.H->∀K':TV->Prop,K' y->zix P s' T x K':=by
 have hmo:∀s',s'.H=s.H->∀k e,XY s' k e x=XY s k e x:=fun s' hH k e=>by simp_all[XY]
 unfold zix at *
 grind
theorem zkb {P:Program} {T:TypeId} {x:TV}:Det (zeX P T x):=by
 intro K h
 unfold zeX at *
 grind
theorem znP {P:Program} {T:TypeId} {x:TV}:Det (zne P T x):=by
 intro K h
 unfold zne at *
 grind
theorem znX {l:List TV}:Det (zoQ l):=by
 intro K h
 unfold zoQ at *
 grind
theorem znV {l:List TV}:Det (zoz l):=by
 intro K h
 unfold zoz at *
 grind
theorem zkF {P:Program} {c x y:TV}:Det (zds P c x y):=by
 intro K h
 unfold zds at *
 cases hc:asB c with
 | none=>simp_all
 | some b =>
  rw[hc]at h
  simp only at h
  split at h
  ·grind
  ·rename_i hno
   cases b
   ·grind
   grind
theorem zgU {P:Program} {op:BinOp} {T:TypeId} {c:Bool} {x y:TV}:Det (zf1 P op T c x y):=by
 intro K h
 unfold zf1 at *
 repeat' split at h
 all_goals grind

structure Lk (xs:List Operand) (s s':St):Prop where
 ev:∀x∈xs,ev s' x=ev s x
 loc:∀x∈xs,∀k p,Go.Ab.ev s x=.loc k p->s'.loc k=s.loc k
 H:s'.H=s.H

theorem zil {P:Program} {s:St} {tv:TV} {K:TyD->AV->Prop} (h:yB P s tv K):∃d x,K d x/\∀s',s'.H=s.H->(∀k p,tv=.loc k p->s'.loc k=s.loc k)->∀K':TyD->AV->Prop,K' d x->yB P s' tv K':=by
 unfold yB at h
 split at h
 ·rename_i k path
  split at h
  ·rename_i d x e1
   split at h
   ·rename_i d' y e2 e3
    exact⟨_,_,h,fun s' hH hl K' hk=>by simp_all[yB]⟩
   simp_all
  simp_all
 ·grind [yB]
 ·rename_i b d path
  split at h
  ·rename_i d0 x e1
   obtain⟨rfl,h⟩:=h
   split at h
   ·rename_i d' y e2 e3
    exact⟨_,_,h,fun s' hH hl K' hk=>by simp_all[yB]⟩
   simp_all
  simp_all
 simp_all

theorem zaT {P:Program} {s:St} {T:TypeId} {f:Nat} {tv:TV} {K:TV->Prop} (h:kC P s T f tv K):∃x,K x/\∀s',s'.H=s.H->(∀k p,tv=.loc k p->s'.loc k=s.loc k)->∀K':TV->Prop,K' x->kC P s' T f tv K':=by
 unfold kC at h
 split at h
 ·rename_i fs e1
  split at h
  ·rename_i F e2
   obtain⟨h0,h⟩:=h
   split at h
   ·rename_i k path
    split at h
    ·rename_i d x e3
     exact⟨_,h.2,fun s' hH hl K' hk=>by simp_all[kC]⟩
    simp_all
   ·grind [kC]
   ·grind [kC]
   simp_all
  simp_all
 simp_all

theorem zbo {P:Program} {s:St} {T:TypeId} {tv i:TV} {K:TV->Prop} (h:kP P s T tv i K):∃x,K x/\∀s',s'.H=s.H->(∀k p,tv=.loc k p->s'.loc k=s.loc k)->∀K':TV->Prop,K' x->kP P s' T tv i K':=by
 unfold kP at h
 split at h
 ·exact h.elim
 ·rename_i k0 n e0
  split at h
  ·rename_i e e1
   split at h
   ·grind [kP]
   ·grind [kP]
   simp_all
  ·rename_i m e e1
   obtain⟨h1,h2,h3,h⟩:=h
   split at h
   ·rename_i k path
    split at h
    ·rename_i d x e3
     exact⟨_,h.2,fun s' hH hl K' hk=>by simp_all[kP]⟩
    simp_all
   ·grind [kP]
   ·grind [kP]
   simp_all
  simp_all

theorem zfq {s:St} {lo:Option Operand} {h0:Nat} {K:Nat->Nat->Prop} (h:zb3 s lo h0 K):∃a b,K a b/\∀s',(∀x,lo=some x->ev s' x=ev s x)->∀K':Nat->Nat->Prop,K' a b->zb3 s' lo h0 K':=by
 unfold zb3 at h
 split at h
 ·grind [zb3]
 ·rename_i o
  split at h
  ·rename_i k l e1
   exact⟨_,_,h.2.2,fun s' he K' hk=>by simp_all[zb3]⟩
  simp_all
theorem X1 {s:St} {len:Nat} {lo hi:Option Operand} {K:Nat->Nat->Prop} (h:QQ s len lo hi K):∃a b,K a b/\∀s',(∀x,lo=some x->ev s' x=ev s x)->(∀x,hi=some x->ev s' x=ev s x)->∀K':Nat->Nat->Prop,K' a b->QQ s' len lo hi K':=by
 unfold QQ at h
 split at h
 ·simp_all[zfq,QQ]
 ·rename_i o
  split at h
  ·rename_i k l e1
   obtain⟨h3,h4,h⟩:=h
   obtain⟨a,b,h1,h2⟩:=zfq h
   exact⟨a,b,h1,fun s' he1 he2 K' hk=>by simp_all[QQ]⟩
  simp_all
theorem zhh {P:Program} {s:St} {T:TypeId} {tv:TV} {lo hi:Option Operand} {K:TV->Prop} (h:X9 P s T tv lo hi K):∃x,K x/\∀s',(∀x,lo=some x->ev s' x=ev s x)->(∀x,hi=some x->ev s' x=ev s x)->∀K':TV->Prop,K' x->X9 P s' T tv lo hi K':=by
 unfold X9 at h
 split at h
 ·grind [X1,X9]
 ·grind [X1,X9]
 ·grind [X1,X9]
 simp_all

theorem zgZ {P:Program} {s:St} {T:TypeId} {tv:TV} {lo:Option Operand} {hi m:Operand} {K:TV->Prop} (h:X3 P s T tv lo hi m K):∃x,K x/\∀s',(∀x,lo=some x->ev s' x=ev s x)->ev s' hi=ev s hi->ev s' m=ev s m->∀K':TV->Prop,K' x->X3 P s' T tv lo hi m K':=by
 unfold X3 at h
 split at h
 ·rename_i e e1
  split at h
  ·rename_i t xs e2
   obtain⟨h0,h⟩:=h
   split at h
   ·grind [X1,X3]
   simp_all
  simp_all
 simp_all

theorem zfF {P:Program} {s:St} {T:TypeId} {tv i:TV} {ok:Bool} {K:TV->Prop} (h:xN P s T tv i ok K):∃x,K x/\∀s',s'.H=s.H->∀K':TV->Prop,K' x->xN P s' T tv i ok K':=by
 have hmo:∀s',s'.H=s.H->∀k e,XY s' k e tv=XY s k e tv:=fun s' hH k e=>by simp_all[XY]
 unfold xN at h
 split at h
 ·rename_i k e e1
  split at h
  ·rename_i y e2
   obtain⟨h1,h2,h⟩:=h
   split at h
   ·grind [xN]
   simp_all
  simp_all
 simp_all

theorem zbP {s s':St} {xs:List Operand} (h:∀x∈xs,ev s' x=ev s x):xs.map (ev s')=xs.map (ev s):=List.map_congr_left h

theorem zkI {P:Program} {s:St} {op:Op} {K:TV->Prop} (h:zQ P s op K):∃tv,K tv/\∀s',Lk op.operands.toList s s'->∀K':TV->Prop,K' tv->zQ P s' op K':=by
 have done:∀ {F:(TV->Prop)->Prop},Det F->F K->(∀s',Lk op.operands.toList s s'->∀K',F K'->zQ P s' op K')->∃tv,K tv/\∀s',Lk op.operands.toList s s'->∀K':TV->Prop,K' tv->zQ P s' op K':=by
  intro F hd hf hs
  obtain⟨tv,h1,h2⟩:=hd K hf
  grind
 unfold zQ at h
 split at h
 ·exact⟨_,h,fun s' hk K' h3=>by unfold zQ;simp only;rw[hk.ev _ (by simp[Op.operands])];exact h3⟩
 ·exact⟨_,h,fun s' hk K' h3=>by unfold zQ;simp only;rw[hk.ev _ (by simp[Op.operands])];exact h3⟩
 ·exact done zkF h fun s' hk K' h3=>by unfold zQ;simp only;rw[hk.ev _ (by simp[Op.operands]),hk.ev _ (by simp[Op.operands]),hk.ev _ (by simp[Op.operands])];exact h3
 ·-- load
  obtain⟨d,x,⟨h1,h2⟩,h3⟩:=zil h
  exact⟨_,h2,fun s' hk K' h4=>by unfold zQ;simp only;rw[hk.ev _ (by simp[Op.operands])];exact h3 s' hk.H (fun k p e=>hk.loc _ (by simp[Op.operands]) k p e) _ ⟨h1,h4⟩⟩
 ·-- nilCheck
  rename_i x
  split at h
  ·rename_i f caps e1
   exact⟨_,h,fun s' hk K' h3=>by unfold zQ;simp only;rw[hk.ev _ (by simp[Op.operands]),e1];exact h3⟩
  ·rename_i f caps e1
   exact⟨_,h,fun s' hk K' h3=>by unfold zQ;simp only;rw[hk.ev _ (by simp[Op.operands]),e1];exact h3⟩
  ·rename_i e1 e1'
   exact⟨_,h.2,fun s' hk K' h3=>by
    unfold zQ;simp only;rw[hk.ev _ (by simp[Op.operands])]
    simp_all⟩
 ·-- fieldAddr
  obtain⟨x,h1,h2⟩:=zaT h
  exact⟨_,h1,fun s' hk K' h4=>by unfold zQ;simp only;rw[hk.ev _ (by simp[Op.operands])];exact h2 s' hk.H (fun k p e=>hk.loc _ (by simp[Op.operands]) k p e) _ h4⟩
 ·-- field
  rename_i T x f
  split at h
  ·rename_i fs e1
   split at h
   ·rename_i F y e2 e3
    split at h
    ·rename_i z e4
     exact⟨_,h,fun s' hk K' h4=>by unfold zQ;simp only;rw[hk.ev _ (by simp[Op.operands])];simp_all⟩
    simp_all
   simp_all
  simp_all
 ·-- indexAddr
  obtain⟨x,h1,h2⟩:=zbo h
  exact⟨_,h1,fun s' hk K' h4=>by unfold zQ;simp only;rw[hk.ev _ (by simp[Op.operands]),hk.ev _ (by simp[Op.operands])];exact h2 s' hk.H (fun k p e=>hk.loc _ (by simp[Op.operands]) k p e) _ h4⟩
 ·exact done zhZ h fun s' hk K' h3=>by unfold zQ;simp only;rw[hk.ev _ (by simp[Op.operands]),hk.ev _ (by simp[Op.operands])];exact h3
 ·exact done zgU h fun s' hk K' h3=>by unfold zQ;simp only;rw[hk.ev _ (by simp[Op.operands]),hk.ev _ (by simp[Op.operands])];exact h3
 ·exact done zpw h fun s' hk K' h3=>by unfold zQ;simp only;rw[hk.ev _ (by simp[Op.operands])];exact h3
 ·exact done zks h fun s' hk K' h3=>by unfold zQ;simp only;rw[hk.ev _ (by simp[Op.operands])];exact h3
 ·-- makeInterface
  split at h
  ·rename_i y e1
   exact⟨_,h.2,fun s' hk K' h3=>by unfold zQ;simp only;rw[hk.ev _ (by simp[Op.operands]),e1];simp_all⟩
  simp_all
 ·-- makeFunc
  rename_i f first caps
  split at h
  ·rename_i e0
   split at h
   ·rename_i xs e1
    exact⟨_,h,fun s' hk K' h3=>by unfold zQ;simp only[e0];rw[zbP (fun x hx=>hk.ev x (by simp_all[Op.operands])),e1];exact h3⟩
   simp_all
  ·rename_i o r e0
   obtain⟨rfl,h⟩:=h
   split at h
   ·rename_i xs e1
    exact⟨_,h,fun s' hk K' h3=>by unfold zQ;simp only[e0];rw[zbP (fun x hx=>hk.ev x (by simp_all[Op.operands])),e1];simp_all⟩
   simp_all
 ·-- extract
  rename_i x i
  split at h
  ·rename_i xs e1
   split at h
   ·rename_i d y e2
    exact⟨_,h,fun s' hk K' h3=>by unfold zQ;simp only;rw[hk.ev _ (by simp[Op.operands]),e1];simp_all⟩
   simp_all
  simp_all
 ·-- slice
  obtain⟨x,h1,h2⟩:=zhh h
  exact⟨_,h1,fun s' hk K' h4=>by unfold zQ;simp only;rw[hk.ev _ (by simp[Op.operands])];exact h2 s' (fun y e=>hk.ev _ (by simp_all[Op.operands])) (fun y e=>hk.ev _ (by simp_all[Op.operands])) _ h4⟩
 ·-- slice,no room behind
  obtain⟨x,h1,h2⟩:=zgZ h
  exact⟨_,h1,fun s' hk K' h4=>by unfold zQ;simp only;rw[hk.ev _ (by simp[Op.operands])];exact h2 s' (fun y e=>hk.ev _ (by simp_all[Op.operands])) (hk.ev _ (by simp[Op.operands])) (hk.ev _ (by simp[Op.operands])) _ h4⟩
 ·-- lookup
  obtain⟨x,h1,h2⟩:=zfF h
  exact⟨_,h1,fun s' hk K' h4=>by unfold zQ;simp only;rw[hk.ev _ (by simp[Op.operands]),hk.ev _ (by simp[Op.operands])];exact h2 s' hk.H _ h4⟩
 ·-- len
  rename_i args argTypes
  split at h
  ·rename_i x T e1 e2
   obtain⟨y,h1,h2⟩:=znz h
   exact⟨_,h1,fun s' hk K' h3=>by unfold zQ;simp only[e1,e2];rw[hk.ev _ (by simp[Op.operands,Call.operands,Array.mem_def,e1])];exact h2 s' hk.H _ h3⟩
  simp_all
 ·-- where a row begins
  rename_i args argTypes
  split at h
  ·rename_i x T e1 e2
   exact done zkb h fun s' hk K' h3=>by unfold zQ;simp only[e1,e2];rw[hk.ev _ (by simp[Op.operands,Call.operands,Array.mem_def,e1])];exact h3
  simp_all
 ·rename_i args _
  exact done znX h fun s' hk K' h3=>by unfold zQ;simp only;rw[zbP (fun x hx=>hk.ev x (by simp_all[Op.operands,Call.operands]))];exact h3
 ·rename_i args _
  exact done znV h fun s' hk K' h3=>by unfold zQ;simp only;rw[zbP (fun x hx=>hk.ev x (by simp_all[Op.operands,Call.operands]))];exact h3
 ·-- room
  rename_i args argTypes
  split at h
  ·rename_i x T e1 e2
   exact done znP h fun s' hk K' h3=>by unfold zQ;simp only[e1,e2];rw[hk.ev _ (by simp[Op.operands,Call.operands,Array.mem_def,e1])];exact h3
  simp_all
 simp_all
def cB (P:Program) (s:St) (ft:TV) (args:List TV) (dst:Option Nat) (K:St->Prop):Prop :=
 match ft with
 | .av .func (.fn g caps)=>match caps.mapM J0 with
  | some cs=>args.all qI=true/\qR P g=true/\∃r,(PC P g ((args++cs).map TV.er) r\/∃(Hs rest:q8),s.H.Perm (Hs++rest)/\q7 P g ((args++cs).map TV.er) Hs.er fun r' H'=>r'=r/\H'=Hs)/\K (s.put dst r)
  | none=>False
 | _=>False

def zac (o:Oper):Bool:=match o.op with
 | .call { callee:=.value _,.. }=>true
 | .call { callee:=.builtin .copy,.. }=>true
 | .call { callee:=.builtin .unsafeString,.. }=>true
 | .buildSlice _ _ _=>true
 | .build _ _=>true
 | .mapUpdate _ _ _ _=>true
 | .insert _ _ _ _=>true
 | .makeMap _ _=>true
 | .makeSlice _ _ _=>true
 | .call { callee:=.builtin .append,.. }=>true
 | .call { callee:=.builtin .clear,.. }=>true
 | .call { callee:=.builtin .delete,.. }=>true
 | _=>false

noncomputable def vcD (P:Program) (cf:Cfg) (s:St) (o:Oper) (K:St->Prop):Prop :=
 match o.op with
 | .alloc T=>match o.dst with
  | some d=>zB P T=true/\cf.esc d=false/\s.loc d=none/\K (s.app (some d) (.loc d []) (some (d,(q9 P T,zT P T))))
  | none=>False
 | .box T x=>match o.dst,co (q9 P T) (ev s x)with
  | some d,some y=>cf.esc d=false/\s.loc d=none/\K (s.app (some d) (.loc d []) (some (d,(q9 P T,y))))
  | _,_=>False
 | .build T parts=>zfw cf o.dst=false/\V1 P s T parts (Y6 s o.dst K)
 | .buildSlice T n parts=>zfw cf o.dst=false/\match q9 P T with
  | .slice e=>zB P e=true/\k7 P e=true/\n*P.cellsOf e<=16777216/\match y7 P s (fun _=>some e) parts.toList (List.replicate n (zT P e))with
   | some xs=>K (s.put o.dst (.av (.slice e) (.sl .full xs)))
   | none=>False
  | _=>False
 | .store T p v=>o.dst=none/\match p with
  | .tmp t=>match s.env t with
   | .loc k path=>k=t/\match co (q9 P T) (ev s v)with
    | some y=>match s.loc k with
     | some (d,x)=>gK P d path=some (q9 P T)/\(X6 x path).isSome=true/\K (s.app none .junk (some (k,(d,PG x path y))))
     | none=>False
    | none=>False
   | _=>False
  | _=>False
 | .call { callee:=.value f,args,.. }=>cB P s (ev s f) (args.toList.map (ev s)) o.dst K
 | op=>zQ P s op (Y6 s o.dst K)

def mkd (cf:Cfg) (o:Oper):Bool:=match o.op with
 | .store _ (.tmp t) _=>cf.mtb t
 | .call { callee:=.value _,.. }=>match o.dst with
  | some d=>cf.mtb d
  | none=>false
 | .call { callee:=.builtin .copy,.. }=>true
 | .call { callee:=.builtin .unsafeString,.. }=>true
 | .buildSlice _ _ _=>zfw cf o.dst
 | _=>false

noncomputable def UF (P:Program) (cf:Cfg) (ops:Array Oper) (K:St->Prop):Nat->List Oper->St->Prop
 | _,[],s=>K s
 | k,o::r,s=>if zi8 o=true then vcG P cf ops s o (UF P cf ops K (k+1) r) else if mkd cf o=true then GO ops k=true/\vcG P cf ops s o (UF P cf ops K (k+1) r) else x6 ops k o s=true/\match o.guard with
  | none=>vcD P cf s o (UF P cf ops K (k+1) r)
  | some (j,want)=>match (ops[j]?).bind (·.dst)with
   | some t=>match gB (s.env t)with
    | some b=>(b=some want->vcD P cf s o (UF P cf ops K (k+1) r))/\(b≠some want->UF P cf ops K (k+1) r (s.put o.dst (.cst undef)))
    | none=>False
   | none=>False

theorem St.app_put (s:St) (dst:Option Nat) (tv:TV):s.app dst tv none=s.put dst tv:=by cases dst<;>rfl

theorem Agr.lk {ops:Array Oper} {o:Oper} {s s':St} (h:Agr ops o s s'):Lk o.op.operands.toList s s':=by
 have hin:∀t,Operand.tmp t∈o.op.operands.toList->t∈o.looksAt ops:=fun t ht=>by
  unfold Oper.looksAt
  grind
 refine⟨fun x hx=>?_,fun x hx k p e=>?_,h.H⟩
 ·cases x with
  | tmp t=>exact h.env t (hin t hx)
  | _=>rfl
 ·cases x with
  | tmp t=>exact h.loc t (hin t hx) k p e
  | _=>cases e

theorem QW {P:Program} {s s':St} {f:Nat->Option TypeId}:∀(l:List (Nat × Operand)) (ps:List AV),(∀x∈l,ev s' x.2=ev s x.2)->y7 P s' f l ps=y7 P s f l ps
 | [],_,_=>rfl
 | (i,x)::r,ps,h=>by
  have he:ev s' x=ev s x:=h (i,x) (by simp)
  simp only[y7,he]
  cases f i with
  | none=>rfl
  | some T =>
   simp only
   cases co (q9 P T) (ev s x)with
   | none=>rfl
   | some y =>
    simp only
    split
    ·exact QW r _ fun y hy=>h y (by simp[hy])
    ·rfl

theorem zhW {P:Program} {cf:Cfg} {ops:Array Oper} {s:St} {o:Oper} {K:St->Prop} (h:vcD P cf s o K) :
  ∃tv ky,YdS P cf ops s o tv ky/\(∀k x,ky=some (k,x)->gD o=some k)/\K (s.app o.dst tv ky):=by
 obtain⟨dst,op,type,pos,after,guard⟩:=o
 unfold vcD at h
 simp only at h
 split at h
 ·-- alloc
  rename_i T
  cases dst with
  | none=>exact h.elim
  | some d =>
   simp only at h
   obtain⟨h1,h2,h3,h4⟩:=h
   refine⟨_,_,fun s' ha K' hk=>?_,?_,h4⟩
   ·unfold yQ
    simp only[h2]
    exact⟨h1,by simpa using⟨ha.new d rfl rfl h3,hk⟩⟩
   ·rintro k x e;cases e;rfl
 ·-- box
  rename_i T x
  split at h
  ·rename_i d y e1
   obtain⟨h2,h3,h4⟩:=h
   refine⟨_,_,fun s' ha K' hk=>?_,?_,h4⟩
   ·unfold yQ
    have he:ev s' x=ev s x:=ha.lk.ev x (by simp[Op.operands])
    simp only[he,e1,h2]
    simpa using⟨ha.new _ rfl rfl h3,hk⟩
   ·rintro k x e;cases e;rfl
  simp_all
 ·-- build
  rename_i T parts
  obtain⟨hmt,hz,h⟩:=h
  split at h
  ·rename_i fs e1
   split at h
   ·rename_i ps e2
    refine⟨_,none,fun s' ha K' hk=>?_,by simp,by rw[St.app_put];exact h⟩
    unfold yQ
    simp only[hmt,Bool.false_eq_true,if_false]
    unfold V1
    have hc:=QW (P:=P) (f:=(fs[·]?)) parts.toList (QR (zT P T)) (s:=s) (s':=s') fun x hx=>ha.lk.ev _ (by grind [Op.operands])
    simp only[e1,hc,e2]
    rw[St.app_put]at hk
    exact⟨hz,hk⟩
   simp_all
  ·rename_i n e e1
   obtain⟨h0,h⟩:=h
   split at h
   ·rename_i ps e2
    refine⟨_,none,fun s' ha K' hk=>?_,by simp,by rw[St.app_put];exact h⟩
    unfold yQ
    simp only[hmt,Bool.false_eq_true,if_false]
    unfold V1
    have hc:=QW (P:=P) (f:=fun _=>some e) parts.toList (QR (zT P T)) (s:=s) (s':=s') fun x hx=>ha.lk.ev _ (by grind [Op.operands])
    simp only[e1,hc,e2]
    rw[St.app_put]at hk
    exact⟨hz,h0,hk⟩
   simp_all
  simp_all
 ·-- buildSlice
  rename_i T n parts
  obtain⟨hmt,h⟩:=h
  split at h
  ·rename_i e e1
   obtain⟨h1,h2,h3,h⟩:=h
   split at h
   ·rename_i xs e2
    refine⟨_,none,fun s' ha K' hk=>?_,by simp,by rw[St.app_put];exact h⟩
    unfold yQ
    have hc:=QW (P:=P) (f:=fun _=>some e) parts.toList (List.replicate n (zT P e)) (s:=s) (s':=s') fun x hx=>ha.lk.ev _ (by grind [Op.operands])
    simp_all[St.app_put]
   simp_all
  simp_all
 ·-- store
  rename_i T p v
  obtain⟨hd,h⟩:=h
  subst hd
  split at h
  ·rename_i t
   split at h
   ·rename_i k path e1
    obtain⟨rfl,h⟩:=h
    split at h
    ·rename_i y e2
     split at h
     ·rename_i d x e3
      obtain⟨h1,h2,h3⟩:=h
      refine⟨_,_,fun s' ha K' hk=>?_,?_,h3⟩
      ·unfold yQ D5
       have he:ev s' v=ev s v:=ha.lk.ev v (by simp[Op.operands])
       have hp:ev s' (.tmp k)=.loc k path:=(ha.lk.ev (.tmp k) (by simp[Op.operands])).trans e1
       have hloc:s'.loc k=s.loc k:=ha.lk.loc (.tmp k) (by simp[Op.operands]) k path e1
       simp_all[St.app,St.put]
      ·rintro k' x' e;cases e;rfl
     simp_all
    simp_all
   simp_all
  simp_all
 ·-- call
  rename_i f args argTypes
  unfold cB at h
  split at h
  ·rename_i g caps e1
   split at h
   ·rename_i cs e2
    obtain⟨h1,h2,r,h3,h4⟩:=h
    refine⟨r,none,fun s' ha K' hk=>?_,by simp,by simp_all[St.app_put]⟩
    have hl:=ha.lk
    have hf:ev s' f=ev s f:=hl.ev f (by simp[Op.operands,Call.operands])
    have hargs:args.toList.map (ev s')=args.toList.map (ev s):=zbP fun x hx=>hl.ev x (by simp_all[Op.operands,Call.operands])
    rw[St.app_put]at hk
    have hne:qX P f=false:=by
     cases f with
     | func g0 =>
      simp_all[ev,W5]
     | _=>rfl
    unfold yQ
    simp only[hf,e1,hargs,hne,Bool.false_eq_true,if_false]
    unfold JD
    simp only[e2]
    rcases h3 with h3|⟨Hs,rest,hp,h3⟩
    ·refine⟨h1,h2,[],s'.H,_,by simp,h3,?_⟩
     rintro r' H' ⟨rfl,rfl⟩ _
     exact⟨_,HSub.refl _,hk⟩
    ·have hH:s'.H=s.H:=hl.H
     refine⟨h1,h2,Hs,rest,_,by simp_all,h3,?_⟩
     rintro r' H' ⟨rfl,rfl⟩ _
     exact⟨s'.H,HSub.of_perm (by grind),hk⟩
   simp_all
  simp_all
 ·-- what only reckons
  rename_i n1 n2 n3 n4 n5 n6
  obtain⟨tv,h1,h2⟩:=zkI h
  refine⟨tv,none,fun s' ha K' hk=>?_,by simp,by rw[St.app_put];exact h1⟩
  have h3:=h2 s' ha.lk (Y6 s' dst K') (by rw[St.app_put]at hk;exact hk)
  unfold yQ
  simp only
  split
  ·simp_all
  ·simp_all
  ·simp_all
  ·simp_all
  ·simp_all
  ·simp_all[zQ]
  ·simp_all[zQ]
  ·simp_all[zQ]
  ·simp_all[zQ]
  ·simp_all[zQ]
  ·simp_all[zQ]
  ·simp_all[zQ]
  ·simp_all[zQ]
  ·rename_i S D x
   cases dst with
   | none=>exact h3
   | some d =>
    have h4:=h3
    unfold zQ at h4
    simp only[zay]at h4
    have hsl:¬C4 (q9 P D)=true:=by
     grind [C4]
    have hot:¬(q9 P D=.other\/q9 P S=.other):=by
     grind
    have hm:PU (ev s' x)=none:=by
     cases hm:PU (ev s' x)with
     | none=>rfl
     | some q =>
      exfalso
      unfold PU at hm
      grind [asI,asS,co]
    simp_all
  ·simp_all[zQ]
  ·simp_all[zQ]
  ·simp_all[zQ]
  ·simp_all[zQ]
  ·simp_all
  ·have h4:=h3
   unfold zQ at h4
   rw[if_neg (by grind [zcW])]
   exact h3
  ·simp_all[zQ]
  ·exact h3

theorem vB {P:Program} {cf:Cfg} {ops:Array Oper} (him:zfh ops=true) {K:St->Prop}:∀(l:List Oper) (k:Nat) (s:St),(∀j,l[j]?=ops[k+j]?)->UF P cf ops K k l s->zkd P cf ops K k l s
 | [],_,_,_,h=>h
 | o::r,k,s,hl,h=>by
  have h0:ops[k]?=some o:=by simpa using(hl 0).symm
  have hl':∀j,r[j]?=ops[(k+1)+j]?:=fun j=>by have:=hl (j+1);grind
  simp only[UF]at h
  split at h
  ·rename_i hi
   exact .inr ⟨zhB him h0 hi,_,h,fun s' hs'=>vB him r (k+1) s' hl' hs'⟩
  split at h
  ·exact .inr ⟨h.1,_,h.2,fun s' hs'=>vB him r (k+1) s' hl' hs'⟩
  obtain⟨hrd,h⟩:=h
  left
  have does:yO ops o s=some true->vcD P cf s o (UF P cf ops K (k+1) r)->q1 P cf ops k o (zkd P cf ops K (k+1) r) s:=by
   intro hw hd
   obtain⟨tv,ky,h1,h2,h3⟩:=zhW (ops:=ops) hd
   exact⟨tv,ky,⟨.inl ⟨hw,h1⟩,h2,hrd⟩,vB him r _ _ hl' h3⟩
  cases hg:o.guard with
  | none=>simp_all[yO]
  | some jw =>
   obtain⟨j,want⟩:=jw
   rw[hg]at h
   simp only at h
   cases ht:(ops[j]?).bind (·.dst)with
   | none=>simp_all
   | some t =>
    rw[ht]at h
    simp only at h
    cases hb:gB (s.env t)with
    | none=>simp_all
    | some b =>
     rw[hb]at h
     by_cases hbw:b=some want
     ·simp_all[yO]
     ·exact⟨.cst undef,none,⟨.inr ⟨by simp_all[yO],rfl,rfl⟩,by simp,hrd⟩,vB him r _ _ hl' ((St.app_put ..).symm▸h.2 hbw)⟩
structure LtK where
 l:List Nat
 kb:List Nat
structure zbE (Lt:LtK) (ops:Array Oper) (o:Oper) (s s':St):Prop where
 env:∀t∈o.looksAt ops,s'.env t=s.env t
 loc:∀t∈o.looksAt ops,∀k p,s.env t=.loc k p->s'.loc k=s.loc k
 kept:∀b∈Lt.kb,k8 s'.H b=k8 s.H b
 new:∀d,o.dst=some d->gD o=some d->s.loc d=none->s'.loc d=none
theorem Agr.light {Lt:LtK} {ops:Array Oper} {o:Oper} {s s':St} (h:Agr ops o s s'):zbE Lt ops o s s':=⟨h.env,h.loc,fun b _=>by rw[h.H],h.new⟩
theorem zbE.trans {Lt:LtK} {ops:Array Oper} {o:Oper} {s s' s'':St} (h:zbE Lt ops o s s') (h':zbE Lt ops o s' s''):zbE Lt ops o s s'' :=
 ⟨fun t ht=>(h'.env t ht).trans (h.env t ht),fun t ht k p e=>(h'.loc t ht k p ((h.env t ht).trans e)).trans (h.loc t ht k p e),fun b hb=>(h'.kept b hb).trans (h.kept b hb),fun d e1 e2 e3=>h'.new d e1 e2 (h.new d e1 e2 e3)⟩
theorem zbE.rd {Lt:LtK} {ops:Array Oper} {i:Nat} {o:Oper} {s s':St} (h:zbE Lt ops o s s'):x6 ops i o s'=x6 ops i o s:=by
 unfold x6
 rw[Bool.eq_iff_iff,List.all_eq_true,List.all_eq_true]
 constructor<;>intro h1 t ht<;>have h2:=h1 t ht
 ·rw[h.env t ht]at h2;exact h2
 ·rw[h.env t ht];exact h2

def YdL (Lt:LtK) (P:Program) (cf:Cfg) (ops:Array Oper) (s:St) (o:Oper) (tv:TV) (ky:Option (Nat × (TyD × AV))):Prop :=
 ∀s',zbE Lt ops o s s'->∀K:St->Prop,K (s'.app o.dst tv ky)->yQ P cf s' o K

structure YJ (P:Program) (cf:Cfg) (ops:Array Oper) (Lt:LtK) (i:Nat) (o:Oper) (tv:TV) (ky:Option (Nat × (TyD × AV))) (s:St):Prop where
 yi:YI P cf ops i o tv ky s
 lt:Lt.l.contains i=true->o.guard=none/\YdL Lt P cf ops s o tv ky

theorem YJ.same {P:Program} {cf:Cfg} {ops:Array Oper} {Lt:LtK} {i:Nat} {o:Oper} {tv:TV} {ky:Option (Nat × (TyD × AV))} {s s':St} (h:YJ P cf ops Lt i o tv ky s) (ha:Agr ops o s s'):YJ P cf ops Lt i o tv ky s' :=
 ⟨h.yi.same ha,fun hl=>⟨(h.lt hl).1,fun s'' h3=>(h.lt hl).2 s'' (ha.light.trans h3)⟩⟩
theorem YJ.sameL {P:Program} {cf:Cfg} {ops:Array Oper} {Lt:LtK} {i:Nat} {o:Oper} {tv:TV} {ky:Option (Nat × (TyD × AV))} {s s':St} (h:YJ P cf ops Lt i o tv ky s) (hl:Lt.l.contains i=true) (ha:zbE Lt ops o s s'):YJ P cf ops Lt i o tv ky s':=by
 obtain⟨hg,hy⟩:=h.lt hl
 refine⟨⟨.inl ⟨by simp[yO,hg],fun s'' h3=>hy s'' (ha.trans h3.light)⟩,h.yi.key,?_⟩,fun _=>⟨hg,fun s'' h3=>hy s'' (ha.trans h3)⟩⟩
 rw[ha.rd];exact h.yi.rd

def zlL (ops:Array Oper) (Lt:LtK) (j:Nat):Bool:=(List.range ops.size).all fun i=>i==j||(zcx ops i).contains j||(zcx ops j).contains i||Lt.l.contains i

def r1 (P:Program) (cf:Cfg) (ops:Array Oper) (Lt:LtK) (i:Nat) (o:Oper) (K:St->Prop) (s:St):Prop:=∃tv ky,YJ P cf ops Lt i o tv ky s/\K (s.app o.dst tv ky)
def V3:List Nat->q8->(St->Prop)->St->Prop
 | [],_,K,s=>K s
 | b::r,H,K,s=>k8 s.H b=k8 H b/\V3 r H K s
theorem JX:∀ {l:List Nat} {H:q8} {K:St->Prop} {s:St},V3 l H K s<->(∀b∈l,k8 s.H b=k8 H b)/\K s
 | [],_,_,_=>by simp[V3]
 | b::r,H,K,s=>by
  have ih:=JX (l:=r) (H:=H) (K:=K) (s:=s)
  unfold V3
  rw[ih]
  simp only[List.mem_cons,forall_eq_or_imp,and_assoc]
theorem zfc {P:Program} {s s':St} {ft:TV} {args:List TV} {dst:Option Nat} {K K':St->Prop} (hH:s'.H=s.H) (h:∀H'' r,K (({ s with H:=H'' }:St).put dst r)->K' (({ s' with H:=H'' }:St).put dst r))
  (hc:JD P s ft args dst K):JD P s' ft args dst K':=by
 unfold JD at *
 split at hc
 ·grind
 ·grind
 ·grind
 omega

def zpm (P:Program) (e TX:TypeId) (y:TV):Option (List AV):=match q9 P TX with
 | .slice e'=>if e'=e then(match co (.slice e) y with|some (.sl _ ys)=>some ys|_=>none) else none
 | _=>none
def zaN (P:Program) (s:St) (T:TypeId) (p v:TV) (K:St->Prop):Prop:=match co (q9 P T) v with
 | none=>False
 | some y=>match p with
  | .av .ptr (.ptr b d path)=>match k8 s.H b with
   | some (.var d0 x)=>d0=d/\gK P d path=some (q9 P T)/\(X6 x path).isSome=true/\K { s with H:=jW s.H b (.var d (PG x path y)) }
   | _=>False
  | _=>False
theorem zlE {P:Program} {s:St} {T:TypeId} {p v:TV} {K:St->Prop} (h:zaN P s T p v K):D5 P s T p v K:=by
 grind [zaN,D5]
def hop (P:Program) (cf:Cfg) (s:St) (dst:Option Nat) (op:Op) (K:St->Prop):Prop:=match op with
 | .call { callee:=.value f,args,.. }=>qX P f=false/\JD P s (ev s f) (args.toList.map (ev s)) dst K
 | .call { callee:=.builtin .append,args,argTypes }=>match dst,args.toList,argTypes.toList with
  | some d,[x,y],[T,TX]=>match q9 P T with
   | .slice e=>match zpm P e TX (ev s y),co (.slice e) (ev s x)with
    | some ys,some (.msl b e' off len cap)=>e'=e/\U6 P s d e b off len cap ys K
    | some ys,some .nsl=>VG P s d e ys K
    | some ys,some (.sl t xs)=>y4 P s d e t xs ys K
    | _,_=>False
   | _=>False
  | _,_,_=>False
 | .makeMap T none=>match dst,q9 P T with
  | some d,.map k e=>∀b,b∉s.H.keys->K (({ s with H:=(b,.map k e [])::s.H }:St).put (some d) (.av (.map k e) (.map (some b))))
  | _,_=>False
 | .store T p v=>dst=none/\zaN P s T (ev s p) (ev s v) K
 | .box T x=>match dst,co (q9 P T) (ev s x)with
  | some d,some y=>cf.esc d=true/\∀b,b∉s.H.keys->K (({ s with H:=(b,.var (q9 P T) y)::s.H }:St).put (some d) (.av .ptr (.ptr b (q9 P T) [])))
  | _,_=>False
 | _=>False
theorem zk8 {P:Program} {s:St} {e TX:TypeId} {y:TV} {ys:List AV} (h:zpm P e TX y=some ys) {K:List AV->Prop} (hk:K ys):JP P s e TX y K/\q9 P TX=.slice e:=by
 unfold zpm at h
 split at h
 ·rename_i e' ht
  split at h
  ·rename_i he
   subst he
   split at h
   ·simp_all[JP]
   ·cases h
  ·cases h
 ·cases h
theorem zfS {P:Program} {cf:Cfg} {s:St} {o:Oper} {K:St->Prop} (h:hop P cf s o.dst o.op K):yQ P cf s o K:=by
 obtain⟨dst,op,type,pos,after,guard⟩:=o
 unfold hop at h
 simp only at h
 split at h
 ·simp_all[yQ]
 ·split at h
  ·grind [zk8,yQ]
  simp_all
 ·assumption
 ·simp_all[yQ,zlE]
 ·split at h
  ·simp_all[yQ]
  simp_all
 simp_all
theorem dU {P:Program} {cf:Cfg} {s s':St} {dst:Option Nat} {op:Op} {K K':St->Prop} (hH:s'.H=s.H) (hV:s'.ver=s.ver) (hev:∀x∈op.operands.toList,ev s' x=ev s x)
  (hf:∀f args tys,op=.call ⟨.value f,args,tys⟩->ev s' f=ev s f/\args.toList.map (ev s')=args.toList.map (ev s))
  (hv:∀H'' v'' r,K (({ s with H:=H'',ver:=v'' }:St).put dst r)->K' (({ s' with H:=H'',ver:=v'' }:St).put dst r)) (hc:hop P cf s dst op K):hop P cf s' dst op K':=by
 have h:∀H'' r,K (({ s with H:=H'' }:St).put dst r)->K' (({ s' with H:=H'' }:St).put dst r):=fun H'' r hk=>by
  simp_all
 unfold hop at hc |-
 split at hc
 ·rename_i f args tys
  obtain⟨h1,h2⟩:=hf _ _ _ rfl
  grind [zfc]
 ·rename_i args tys
  split at hc
  ·rename_i d x y T TX e2 e3
   have hx:ev s' x=ev s x:=hev x (by simp[Op.operands,Call.operands,e2])
   have hy:ev s' y=ev s y:=hev y (by simp[Op.operands,Call.operands,e2])
   try simp only[e2,e3]
   split at hc
   ·rename_i e he
    try simp only[he,hx,hy]
    have hg:∀(e:TypeId) (xs ys:List AV),cM P s d e xs ys K->cM P s' d e xs ys K':=fun e xs ys hg b cap hb hl=>by
     have:=h _ _ (hg b cap (by simp_all) hl)
     simp_all
    split at hc
    ·grind [U6]
    ·simp_all[VG]
    ·rename_i ys t xs hs hc2
     try simp only[hs,hc2]
     unfold y4 at hc |-
     grind
    omega
   omega
  omega
 ·grind
 ·rename_i T p v
  obtain⟨rfl,hc⟩:=hc
  have hp:ev s' p=ev s p:=hev p (by simp[Op.operands])
  have hv:ev s' v=ev s v:=hev v (by simp[Op.operands])
  refine⟨rfl,?_⟩
  rw[hp,hv]
  unfold zaN at hc |-
  split at hc
  ·exact hc.elim
  ·rename_i y hy
   try simp only[hy]
   split at hc
   ·rw[hH]
    split at hc
    ·obtain⟨q1,q2,q3,q4⟩:=hc
     exact⟨q1,q2,q3,h _ .junk q4⟩
    omega
   omega
 ·grind [Op.operands]
 omega
theorem pJ {P:Program} {cf:Cfg} {s:St} {dst:Option Nat} {op:Op} {K K':St->Prop} (h:∀s,K s->K' s) (hc:hop P cf s dst op K):hop P cf s dst op K' :=
 dU rfl rfl (fun _ _=>rfl) (fun _ _ _ _=>⟨rfl,rfl⟩) (fun H'' v'' r hk=>h _ hk) hc
def r3 (P:Program) (cf:Cfg) (ops:Array Oper) (Lt:LtK) (i:Nat) (o:Oper) (K:St->Prop) (s:St):Prop:=zlL ops Lt i=true/\o.guard=none/\hop P cf s o.dst o.op (V3 Lt.kb s.H K)
def qB (P:Program) (cf:Cfg) (ops:Array Oper) (Lt:LtK) (i:Nat) (K:St->Prop) (s:St):Prop :=
 match ops[i]? with
 | none=>K s
 | some o=>r1 P cf ops Lt i o K s\/q2 P cf ops i o K s\/r3 P cf ops Lt i o K s

def zib (P:Program) (cf:Cfg) (ops:Array Oper) (Lt:LtK) (Q:St->Prop):Nat->Array Bool->St->Prop
 | 0,listed,s=>Region.ready .any ops listed=[]/\Q s
 | fuel+1,listed,s=>(Region.ready .any ops listed=[]->Q s)/\∀i∈Region.ready .any ops listed,qB P cf ops Lt i (zib P cf ops Lt Q fuel (listed.setIfInBounds i true)) s

theorem zmK {c:Ctx} (hl:laidOutB c.P=true) {cf:Cfg} {ops:Array Oper} {Lt:LtK} (hdst:∀o∈ops.toList,∀d,o.dst=some d->d<c.n) {i:Nat} {K:St->Prop} {s:St} {a:Act} {w:World} {g:Gh} {β:Nat->Nat} (hS:zF c s a w g β)
  (h:qB c.P cf ops Lt i K s) {K':Act->World->Prop} (hK:∀a w,wF c K a w->K' a w) {Q:Exit->Act->World->Prop}:wpOpIn (fen c.rd) 0 c.P ops Q i K' a w:=by
 have old:qA c.P cf ops i K s->wpOpIn (fen c.rd) 0 c.P ops Q i K' a w:=fun h=>zaA hl hdst hS h hK
 unfold qB at h
 cases ho:ops[i]? with
 | none=>simp_all[qA]
 | some o =>
  rw[ho]at h
  rcases h with⟨tv,ky,h1,h2⟩|h|⟨_,hg,hc⟩
  ·exact old (by unfold qA;rw[ho];exact .inl ⟨tv,ky,h1.yi,h2⟩)
  ·simp_all[qA]
  ·have hmem:o∈ops.toList:=by
    grind
   have hv:yQ c.P cf s o K:=zfS (pJ (fun s' hk=>(JX.1 hk).2) hc)
   unfold wpOpIn
   simp only[ho]
   rw[if_pos (by simp[Region.wanted,hg])]
   exact Oper.wpIn_mono (fun a w hg=>hK a w hg) (W9 hl hS (hdst o hmem) (K:=K) hv)

theorem zal {c:Ctx} (hl:laidOutB c.P=true) {cf:Cfg} {ops:Array Oper} {Lt:LtK} (hdst:∀o∈ops.toList,∀d,o.dst=some d->d<c.n) {Q:St->Prop} {Q':Exit->Act->World->Prop} (hQ:∀a w,wF c Q a w->Q' .normal a w) :
  ∀(fuel:Nat) (listed:Array Bool) (a:Act) (w:World),wF c (zib c.P cf ops Lt Q fuel listed) a w->wpAnyIn (fen c.rd) 0 c.P .any ops Q' fuel listed a w
 | 0,_,a,w,⟨s,g,β,h,hS⟩=>⟨h.1,hQ a w ⟨s,g,β,h.2,hS⟩⟩
 | fuel+1,_,a,w,⟨s,g,β,h,hS⟩=>⟨fun h0=>hQ a w ⟨s,g,β,h.1 h0,hS⟩,fun i hi=>zmK hl hdst hS (h.2 i hi) (fun a' w' hg=>zal hl hdst hQ fuel _ a' w' hg)⟩

theorem znW {P:Program} {cf:Cfg} {ops:Array Oper} {Lt:LtK} (hwk:wkB ops=true) {i j:Nat} {oi oj:Oper} (hi:ops[i]?=some oi) (hj:ops[j]?=some oj) (hij:i≠j) (hap:oi.apart ops oj=true) (hord:dP ops i j=false)
  {tv:TV} {ky:Option (Nat × (TyD × AV))} {K:St->Prop} {s:St} (hy:YJ P cf ops Lt i oi tv ky s) (h:r1 P cf ops Lt j oj K (s.app oi.dst tv ky)) :
  r1 P cf ops Lt j oj (fun s'=>YJ P cf ops Lt i oi tv ky s'/\K (s'.app oi.dst tv ky)) s:=by
 obtain⟨h1,h2,h3⟩:=Oper.apart_spec hap
 have hord':dP ops j i=false:=by simp_all[dP]
 have hj':=hj
 obtain⟨tv',ky',hy',hk⟩:=h
 have keys:∀k x x',ky=some (k,x)->ky'≠some (k,x'):=fun k x x' e1 e2=>by
  have:=PE hwk hi hj' hij (hy.yi.key _ _ e1) (hy'.yi.key _ _ e2)
  simp_all
 have aj:Agr ops oj (s.app oi.dst tv ky) s:=by
  refine⟨fun t ht=>(St.app_env fun e=>h1 t e ht).symm,fun t ht k p e=>?_,St.app_H.symm,St.app_ver.symm,fun d e1 e2 e3=>?_⟩
  ·refine(St.app_loc fun x e2=>?_).symm
   have:=VJ hy'.yi.rd ht e hi hij (hy.yi.key _ _ e2)
   simp_all
  ·cases ky with
   | none=>exact e3
   | some kx =>
    obtain⟨k,x⟩:=kx
    by_cases hkd:k=d
    ·simp_all[St.app,upd]
    simp_all[St.app_loc]
 have ai:Agr ops oi s (s.app oj.dst tv' ky'):=by
  refine⟨fun t ht=>St.app_env fun e=>h3 t e ht,fun t ht k p e=>St.app_loc fun x e2=>?_,St.app_H,St.app_ver,fun d e1 e2 e3=>?_⟩
  ·have:=VJ hy.yi.rd ht e hj' (Ne.symm hij) (hy'.yi.key _ _ e2)
   simp_all
  ·rw[St.app_loc fun x e=>?_]
   ·exact e3
   ·have:=PE hwk hi hj' hij e2 (hy'.yi.key _ _ e)
    simp_all
 refine⟨tv',ky',hy'.same aj,hy.same ai,?_⟩
 grind [St.app_comm]

theorem St.app_putH (s:St) {d d':Option Nat} {tv r:TV} {ky:Option (Nat × (TyD × AV))} (H'':q8) (v'':Nat->Nat) (h:∀t,d=some t->d'≠some t) :
  ({ s.app d tv ky with H:=H'',ver:=v'' }:St).put d' r=(({ s with H:=H'',ver:=v'' }:St).put d' r).app d tv ky:=by
 have:=St.app_comm ({ s with H:=H'',ver:=v'' }:St) (d:=d) (d':=d') (tv:=tv) (tv':=r) (ky:=ky) (ky':=none) h (by simp)
 rw[St.app_put,St.app_put]at this
 rw[<-this]
 cases d<;>cases d'<;>rfl

theorem zqX {P:Program} {cf:Cfg} {ops:Array Oper} {Lt:LtK} {i j:Nat} {oi oj:Oper} (hap:oi.apart ops oj=true) (hlt:Lt.l.contains i=true)
  {tv:TV} {ky:Option (Nat × (TyD × AV))} {K:St->Prop} {s:St} (hy:YJ P cf ops Lt i oi tv ky s) (h:r3 P cf ops Lt j oj K (s.app oi.dst tv ky)) :
  r3 P cf ops Lt j oj (fun s'=>YJ P cf ops Lt i oi tv ky s'/\K (s'.app oi.dst tv ky)) s:=by
 obtain⟨h1,h2,h3⟩:=Oper.apart_spec hap
 obtain⟨hg,hyl⟩:=hy.lt hlt
 obtain⟨hs,hgj,hc⟩:=h
 have hev:∀x∈oj.op.operands.toList,ev s x=ev (s.app oi.dst tv ky) x:=by
  intro x hx
  cases x with
  | tmp t =>
   refine(St.app_env fun e=>h1 t e ?_).symm
   unfold Oper.looksAt
   grind
  | _=>rfl
 refine⟨hs,hgj,dU (s:=s.app oi.dst tv ky) St.app_H.symm St.app_ver.symm hev (fun f args tys hop=>⟨hev f (by simp[hop,Op.operands,Call.operands]),List.map_congr_left fun x hx=>hev x (by simp_all[Op.operands,Call.operands])⟩) (fun H'' v'' r hk=>?_) hc⟩
 rw[JX]at hk |-
 have hHH:∀(s:St) (r:TV),(({ s with H:=H'',ver:=v'' }:St).put oj.dst r).H=H'':=fun s r=>by cases oj.dst<;>rfl
 rw[hHH,St.app_H]at hk
 rw[hHH]
 refine⟨hk.1,?_,?_⟩
 ·refine hy.sameL hlt ⟨fun t ht=>?_,fun t ht k p e=>?_,fun b hb=>by simp_all,fun d e1 e2 e3=>by cases oj.dst<;>exact e3⟩
  ·cases hd:oj.dst with
   | none=>rfl
   | some d =>
    have:t≠d:=fun e=>h3 t (by rw[hd,e]) ht
    simp[St.put,upd,this]
  ·cases hd:oj.dst<;>rfl
 simp_all[St.app_putH]

theorem zjM {P:Program} {cf:Cfg} {ops:Array Oper} {Lt:LtK} {i:Nat} {o:Oper} {K K':St->Prop} {s:St} (h:∀s,K s->K' s) (hh:r1 P cf ops Lt i o K s):r1 P cf ops Lt i o K' s:=by
 obtain⟨tv,ky,h1,h2⟩:=hh;exact⟨tv,ky,h1,h _ h2⟩
theorem zem {P:Program} {cf:Cfg} {ops:Array Oper} {Lt:LtK} {i:Nat} {o:Oper} {K K':St->Prop} {s:St} (h:∀s,K s->K' s) (hh:r3 P cf ops Lt i o K s):r3 P cf ops Lt i o K' s:=by
 obtain⟨h1,h2,h3⟩:=hh
 exact⟨h1,h2,pJ (fun s' hk=>by simp_all[JX]) h3⟩

theorem zkV {ops:Array Oper} {Lt:LtK} {i j:Nat} {listed:Array Bool} (hdc:DC ops listed) (hb:zlL ops Lt j=true) (hj:j∈Region.ready .any ops listed) (hi:i∈Region.ready .any ops listed) (hij:i≠j):Lt.l.contains i=true:=by
 obtain⟨ui,oi,hoi,_⟩:=mem_ready.1 hi
 obtain⟨uj,oj,hoj,_⟩:=mem_ready.1 hj
 have h1:=List.all_eq_true.1 hb i (List.mem_range.2 (Array.getElem?_eq_some_iff.1 hoi).1)
 simp only[Bool.or_eq_true,beq_iff_eq]at h1
 grind [yM]

theorem zi4 {P:Program} {cf:Cfg} {ops:Array Oper} {Lt:LtK} (hwk:wkB ops=true) {Q:St->Prop} {i:Nat} {oi:Oper} {tv:TV} {ky:Option (Nat × (TyD × AV))} (hi:ops[i]?=some oi) :
  ∀(fuel:Nat) (listed:Array Bool) (s:St),DC ops listed->
   (∀j oj,ops[j]?=some oj->j≠i->listed.getD j true=false->(∀e∈oj.after,Region.binds .any e=true->e.on≠i)->oi.apart ops oj=true)->
   i∈Region.ready .any ops listed->YJ P cf ops Lt i oi tv ky s->
   zib P cf ops Lt Q fuel (listed.setIfInBounds i true) (s.app oi.dst tv ky)->zib P cf ops Lt Q (fuel+1) listed s:=by
 have own:∀ {K:St->Prop} {s:St},YJ P cf ops Lt i oi tv ky s->K (s.app oi.dst tv ky)->qB P cf ops Lt i K s:=fun hy hk=>by
  unfold qB;simp only[hi];exact .inl ⟨tv,ky,hy,hk⟩
 intro fuel
 induction fuel with
 | zero =>
  intro listed s _ _ hr hy H
  refine⟨fun h=>(by simp_all),fun j hj=>?_⟩
  by_cases hji:j=i
  ·simp_all
  ·have:=ready_mono hj hji
   rw[H.1]at this
   cases this
 | succ fuel ih =>
  intro listed s hdc hfree hr hy H
  refine⟨fun h=>(by simp_all),fun j hj=>?_⟩
  by_cases hji:j=i
  ·simp_all
  ·have h1:=H.2 j (ready_mono hj hji)
   obtain⟨hjun,oj,hoj,hall⟩:=mem_ready.1 hj
   obtain⟨hiun,oi',hoi',halli⟩:=mem_ready.1 hr
   rw[hi]at hoi';cases hoi'
   have hnot:∀e∈oj.after,Region.binds .any e=true->e.on≠i:=fun e he hb heq=>by
    grind
   have hnot':∀e∈oi.after,Region.binds .any e=true->e.on≠j:=fun e he hb heq=>by
    grind
   have hap:=hfree j oj hoj hji hjun hnot
   have hfree':∀k ok,ops[k]?=some ok->k≠i->(listed.setIfInBounds j true).getD k true=false->
     (∀e∈ok.after,Region.binds .any e=true->e.on≠i)->oi.apart ops ok=true:=fun k ok hk hki hun hno=>by
    refine hfree k ok hk hki ?_ hno
    by_cases hjk:j=k
    ·simp_all
    simp_all
   have fin:∀s',YJ P cf ops Lt i oi tv ky s'/\zib P cf ops Lt Q fuel ((listed.setIfInBounds i true).setIfInBounds j true) (s'.app oi.dst tv ky)->zib P cf ops Lt Q (fuel+1) (listed.setIfInBounds j true) s':=by
    intro s' h3
    refine ih (listed.setIfInBounds j true) s' (hdc.list hj) hfree' (ready_mono hr (Ne.symm hji)) h3.1 ?_
    simp_all[Array.setIfInBounds_comm]
   unfold qB at h1 |-
   simp only[hoj]at h1 |-
   rcases h1 with h|⟨hb,_⟩|h
   ·exact .inl (zjM fin (znW hwk hi hoj (Ne.symm hji) hap (p0 hi hoj hnot' hnot) hy h))
   ·grind [KW]
   ·exact .inr (.inr (zem fin (zqX hap (zkV hdc h.1 hj hr (Ne.symm hji)) hy h)))

def PO (ops:Array Oper) (k:Nat) (r:List Nat):Bool:=r.all fun m=>(zcx ops k).contains m&&m != k
def lexB (P:Program) (cf:Cfg) (ops:Array Oper) (Lt:LtK) (Q:St->Prop):List Nat->St->Prop
 | [],s=>Q s
 | k::r,s=>match ops[k]? with
  | none=>False
  | some o=>r1 P cf ops Lt k o (lexB P cf ops Lt Q r) s\/q2 P cf ops k o (lexB P cf ops Lt Q r) s\/(PO ops k r=true/\r3 P cf ops Lt k o (lexB P cf ops Lt Q r) s)
def JQ (ops:Array Oper):List Nat->Array Bool->Bool
 | [],listed=>(Region.ready .any ops listed).isEmpty
 | k::r,listed=>(Region.ready .any ops listed).contains k&&Region.free .any ops listed k&&JQ ops r (listed.setIfInBounds k true)
def C7 (ops:Array Oper) (l:List Nat):Bool:=l.length==ops.size&&JQ ops l (Array.replicate ops.size false)&&(List.range ops.size).all fun j=>l.contains j

theorem pV {P:Program} {cf:Cfg} {ops:Array Oper} {Lt:LtK} (hwk:wkB ops=true) {Q:St->Prop}:∀(l:List Nat) (listed:Array Bool) (s:St),DC ops listed->(∀j,j<ops.size->listed.getD j true=false->j∈l)->
  JQ ops l listed=true->lexB P cf ops Lt Q l s->zib P cf ops Lt Q l.length listed s
 | [],listed,s,_,_,hB,h=>⟨by simp_all[JQ],h⟩
 | k::l,listed,s,hdc,hun,hB,h=>by
  simp only[JQ,Bool.and_eq_true]at hB
  obtain⟨⟨hr,hf⟩,hB'⟩:=hB
  have hr':k∈Region.ready .any ops listed:=by simp_all
  have hun':∀j,j<ops.size->(listed.setIfInBounds k true).getD j true=false->j∈l:=by
   intro j hj hjl
   by_cases hkj:k=j
   ·simp_all
   ·rw[getD_set_ne true hkj]at hjl
    grind
  cases h0:ops[k]? with
  | none=>simp_all[lexB]
  | some o =>
  simp only[lexB,h0]at h
  rcases h with h|⟨hb,K1,hv,himp⟩|⟨hall,h⟩
  ·obtain⟨tv,ky,hy,hK⟩:=h
   exact zi4 hwk h0 l.length listed s hdc (Region.free_spec h0 hf) (by omega) hy (pV hwk l _ _ (hdc.list hr') hun' hB' hK)
  ·refine⟨fun h=>(by simp_all),fun j hj=>?_⟩
   obtain rfl:=KW hdc hb hr' hj
   unfold qB
   simp only[h0]
   exact .inr (.inl ⟨hb,K1,hv,fun s' hs'=>pV hwk l _ _ (hdc.list hr') hun' hB' (himp s' hs')⟩)
  ·refine⟨fun h=>(by simp_all),fun j hj=>?_⟩
   obtain⟨hjun,oj,hoj,_⟩:=mem_ready.1 hj
   obtain⟨hkun,_⟩:=mem_ready.1 hr'
   have hjk:j=k:=by
    rcases List.mem_cons.1 (hun j (Array.getElem?_eq_some_iff.1 hoj).1 hjun)with h|h
    ·exact h
    ·have h1:=List.all_eq_true.1 hall j h
     simp only[Bool.and_eq_true,bne_iff_ne,ne_eq]at h1
     grind [yM]
   subst hjk
   unfold qB
   simp only[h0]
   exact .inr (.inr (zem (fun s' hs'=>pV hwk l _ _ (hdc.list hr') hun' hB' hs') h))

theorem zgW {c:Ctx} (hl:laidOutB c.P=true) {cf:Cfg} {ops:Array Oper} {Lt:LtK} (hdst:∀o∈ops.toList,∀d,o.dst=some d->d<c.n) (hwk:wkB ops=true) {l:List Nat} (ho:C7 ops l=true)
  {K:Exit->St->Prop} {s:St} {a:Act} {w:World} {g:Gh} {β:Nat->Nat} (hS:zF c s a w g β) (h:lexB c.P cf ops Lt (K .normal) l s):wpAnyIn (fen c.rd) 0 c.P .any ops (QK c K) ops.size (Array.replicate ops.size false) a { w with drawn:=w.drawn+1 }:=by
 simp only[C7,Bool.and_eq_true,beq_iff_eq]at ho
 refine zal hl hdst (Q:=K .normal) (cf:=cf) (Lt:=Lt) (fun a w hg=>hg) _ _ _ _ ⟨s,g,β,?_,hS.drew _⟩
 have:=pV (P:=c.P) (cf:=cf) (Lt:=Lt) hwk (Q:=K .normal) l (Array.replicate ops.size false) s (DC.start ops) (fun j hj _=>by simp_all) ho.1.2 h
 simp_all

def isLt (kb:List Nat) (s:St) (o:Oper):Bool:=match o.guard,o.op with
 | none,.assign x=>true
 | none,.move x=>true
 | none,.nilCheck x=>true
 | none,.indexAddr _ x _=>(match ev s x with|.av _ (.sl _ _)=>true|_=>false)
 | none,.fieldAddr _ x _=>(match ev s x with|.loc _ _=>true|.av .ptr (.ptr _ _ _)=>true|_=>false)
 | none,.load _ x=>(match ev s x with|.loc _ _=>true|.pel _ _=>true|.av .ptr (.ptr b _ _)=>kb.contains b|_=>false)
 | _,_=>false
theorem zl7 {P:Program} {s:St} {k:Nat} {p:List Nat} {K:TyD->AV->Prop} (h:yB P s (.loc k p) K):∃d x,K d x/\∀s',s'.loc k=s.loc k->∀K':TyD->AV->Prop,K' d x->yB P s' (.loc k p) K':=by
 unfold yB at h
 grind [yB]
theorem zcD {P:Program} {s:St} {T:TypeId} {f k:Nat} {p:List Nat} {K:TV->Prop} (h:kC P s T f (.loc k p) K):∃x,K x/\∀s',s'.loc k=s.loc k->∀K':TV->Prop,K' x->kC P s' T f (.loc k p) K':=by
 unfold kC at h
 split at h
 ·rename_i fs e1
  split at h
  ·grind [kC]
  simp_all
 simp_all

theorem zci {P:Program} {s:St} {T:TypeId} {f b:Nat} {d:TyD} {p:List Nat} {K:TV->Prop} (h:kC P s T f (.av .ptr (.ptr b d p)) K):∃x,K x/\∀s',∀K':TV->Prop,K' x->kC P s' T f (.av .ptr (.ptr b d p)) K':=by
 unfold kC at h
 grind [kC]
theorem zla {P:Program} {s:St} {b:Nat} {d:TyD} {p:List Nat} {K:TyD->AV->Prop} (h:yB P s (.av .ptr (.ptr b d p)) K):∃D x,K D x/\∀s',k8 s'.H b=k8 s.H b->∀K':TyD->AV->Prop,K' D x->yB P s' (.av .ptr (.ptr b d p)) K':=by
 unfold yB at h
 grind [yB]
theorem zcs {P:Program} {s:St} {T:TypeId} {d:TyD} {t:Tok} {xs:List AV} {i:TV} {K:TV->Prop} (h:kP P s T (.av d (.sl t xs)) i K):∃x,K x/\∀s',∀K':TV->Prop,K' x->kP P s' T (.av d (.sl t xs)) i K':=by
 unfold kP at h
 split at h
 ·exact h.elim
 ·rename_i k n e0
  split at h
  ·grind [co,kP]
  ·simp_all
  simp_all
theorem zdD {Lt:LtK} {P:Program} {cf:Cfg} {ops:Array Oper} {s:St} {o:Oper} {K:St->Prop} (hl:isLt Lt.kb s o=true) (h:zQ P s o.op (Y6 s o.dst K)):o.guard=none/\∃tv,YdL Lt P cf ops s o tv none/\K (s.app o.dst tv none):=by
 obtain⟨dst,op,type,pos,after,guard⟩:=o
 have look:∀ {x:Operand},x∈op.operands.toList->∀t,x=.tmp t->t∈(Oper.mk dst op type pos after guard).looksAt ops:=by
  intro x hx t e
  subst e
  unfold Oper.looksAt
  grind
 have hev:∀ {s':St},zbE Lt ops ⟨dst,op,type,pos,after,guard⟩ s s'->∀x∈op.operands.toList,ev s' x=ev s x:=by
  intro s' ha x hx
  cases x with
  | tmp t=>exact ha.env t (look hx t rfl)
  | _=>rfl
 have hloc:∀ {s':St},zbE Lt ops ⟨dst,op,type,pos,after,guard⟩ s s'->∀x∈op.operands.toList,∀k p,ev s x=.loc k p->s'.loc k=s.loc k:=by
  intro s' ha x hx k p e
  cases x with
  | tmp t=>exact ha.loc t (look hx t rfl) k p e
  | _=>cases e
 unfold isLt at hl
 simp only at hl h
 split at hl
 ·refine⟨rfl,ev s _,fun s' ha K' hk=>?_,by rw[St.app_put];exact h⟩
  rw[St.app_put]at hk
  unfold yQ;simp only;unfold zQ;simp only
  rw[hev ha _ (by simp[Op.operands])];exact hk
 ·refine⟨rfl,ev s _,fun s' ha K' hk=>?_,by rw[St.app_put];exact h⟩
  rw[St.app_put]at hk
  unfold yQ;simp only;unfold zQ;simp only
  rw[hev ha _ (by simp[Op.operands])];exact hk
 ·rename_i x
  have hx:=fun s' ha=>hev (s':=s') ha x (by simp[Op.operands])
  obtain⟨tx,htx⟩:∃tx,ev s x=tx:=⟨_,rfl⟩
  refine⟨rfl,tx,fun s' ha K' hk=>?_,?_⟩
  ·rw[St.app_put]at hk
   unfold yQ;simp only;unfold zQ;simp only
   rw[hx s' ha,htx]
   unfold zQ at h
   simp only[htx]at h
   split at h
   ·exact hk
   ·exact hk
   ·exact⟨h.1,hk⟩
  ·rw[St.app_put]
   unfold zQ at h
   simp only[htx]at h
   split at h
   ·exact h
   ·exact h
   ·exact h.2
 ·rename_i T x i
  split at hl
  ·rename_i d t xs e
   unfold zQ at h
   simp only[e]at h
   obtain⟨tv,h1,h2⟩:=zcs h
   refine⟨rfl,tv,fun s' ha K' hk=>?_,by rw[St.app_put];exact h1⟩
   rw[St.app_put]at hk
   unfold yQ;simp only;unfold zQ;simp only
   rw[hev ha x (by simp[Op.operands]),hev ha i (by simp[Op.operands]),e]
   exact h2 s' _ hk
  ·cases hl
 ·rename_i T x f
  split at hl
  ·rename_i k p e
   unfold zQ at h
   simp only[e]at h
   obtain⟨tv,h1,h2⟩:=zcD h
   refine⟨rfl,tv,fun s' ha K' hk=>?_,by rw[St.app_put];exact h1⟩
   rw[St.app_put]at hk
   unfold yQ;simp only;unfold zQ;simp only
   rw[hev ha _ (by simp[Op.operands]),e]
   exact h2 s' (hloc ha x (by simp[Op.operands]) k p e) _ hk
  ·rename_i b d p e
   unfold zQ at h
   simp only[e]at h
   obtain⟨tv,h1,h2⟩:=zci h
   refine⟨rfl,tv,fun s' ha K' hk=>?_,by rw[St.app_put];exact h1⟩
   rw[St.app_put]at hk
   unfold yQ;simp only;unfold zQ;simp only
   rw[hev ha _ (by simp[Op.operands]),e]
   exact h2 s' _ hk
  ·cases hl
 ·rename_i T x
  split at hl
  ·rename_i k p e
   unfold zQ at h
   simp only[e]at h
   obtain⟨d,y,⟨hd,h1⟩,h2⟩:=zl7 h
   refine⟨rfl,.av d y,fun s' ha K' hk=>?_,by rw[St.app_put];exact h1⟩
   rw[St.app_put]at hk
   unfold yQ;simp only;unfold zQ;simp only
   rw[hev ha _ (by simp[Op.operands]),e]
   exact h2 s' (hloc ha x (by simp[Op.operands]) k p e) _ ⟨hd,hk⟩
  ·rename_i d y e
   unfold zQ at h
   simp only[e]at h
   unfold yB at h
   refine⟨rfl,.av d y,fun s' ha K' hk=>?_,by rw[St.app_put];exact h.2⟩
   rw[St.app_put]at hk
   unfold yQ;simp only;unfold zQ;simp only
   rw[hev ha _ (by simp[Op.operands]),e]
   unfold yB
   exact⟨h.1,hk⟩
  ·rename_i b d p e
   have hb:b∈Lt.kb:=by simp_all
   unfold zQ at h
   simp only[e]at h
   obtain⟨d',y,⟨hd,h1⟩,h2⟩:=zla h
   refine⟨rfl,.av d' y,fun s' ha K' hk=>?_,by rw[St.app_put];exact h1⟩
   rw[St.app_put]at hk
   unfold yQ;simp only;unfold zQ;simp only
   rw[hev ha _ (by simp[Op.operands]),e]
   exact h2 s' (ha.kept b hb) _ ⟨hd,hk⟩
  ·cases hl
 ·cases hl

def zmb (cf:Cfg):Option Nat->Bool
 | some d=>cf.mtb (2000000+d)
 | none=>false
def sft (cf:Cfg) (o:Oper):Bool:=match o.op with
 | .call { callee:=.value _,.. }=>zmb cf o.dst
 | .call { callee:=.builtin .append,.. }=>zmb cf o.dst
 | .makeMap _ none=>zmb cf o.dst
 | .store _ (.tmp t) _=>cf.mtb (2000000+t)
 | .box _ _=>zmb cf o.dst
 | _=>false
def vE (P:Program) (cf:Cfg) (s:St) (o:Oper) (kb:List Nat) (K:St->Prop):Prop:=o.guard=none/\hop P cf s o.dst o.op (V3 kb s.H K)
@[simp] def zqj:Op->Bool
 | .alloc _=>true
 | .build _ _=>true
 | .buildSlice _ _ _=>true
 | .binOp _ _ _ _ _=>true
 | _=>false
theorem zl9 {Lt:LtK} {P:Program} {cf:Cfg} {ops:Array Oper} {s:St} {o:Oper} {K:St->Prop} (hl:zqj o.op=true) (h:vcD P cf s o K):∃tv ky,YdL Lt P cf ops s o tv ky/\(∀k x,ky=some (k,x)->gD o=some k)/\K (s.app o.dst tv ky):=by
 obtain⟨dst,op,type,pos,after,guard⟩:=o
 cases op<;>simp only[zqj,Bool.false_eq_true]at hl
 ·rename_i T
  unfold vcD at h
  simp only at h
  cases dst with
  | none=>exact h.elim
  | some d =>
   simp only at h
   obtain⟨h1,h2,h3,h4⟩:=h
   refine⟨_,_,fun s' ha K' hk=>?_,?_,h4⟩
   ·unfold yQ
    simp only[h2]
    exact⟨h1,by simpa using⟨ha.new d rfl rfl h3,hk⟩⟩
   ·rintro k x e;cases e;rfl
 ·rename_i T parts
  unfold vcD at h
  simp only at h
  obtain⟨hmt,hz,h⟩:=h
  split at h
  ·rename_i fs e1
   split at h
   ·rename_i ps e2
    refine⟨_,none,fun s' ha K' hk=>?_,by simp,by rw[St.app_put];exact h⟩
    unfold yQ
    simp only[hmt,Bool.false_eq_true,if_false]
    unfold V1
    have hc:=QW (P:=P) (f:=(fs[·]?)) parts.toList (QR (zT P T)) (s:=s) (s':=s') fun x hx=>by
     have hin:x.2∈(Op.build T parts).operands.toList:=by grind [Op.operands]
     cases hx2:x.2 with
     | tmp t =>
      rw[hx2]at hin
      refine ha.env t ?_
      unfold Oper.looksAt
      grind
     | _=>rfl
    simp only[e1,hc,e2]
    rw[St.app_put]at hk
    exact⟨hz,hk⟩
   simp_all
  ·rename_i n e e1
   obtain⟨h0,h⟩:=h
   split at h
   ·rename_i ps e2
    refine⟨_,none,fun s' ha K' hk=>?_,by simp,by rw[St.app_put];exact h⟩
    unfold yQ
    simp only[hmt,Bool.false_eq_true,if_false]
    unfold V1
    have hc:=QW (P:=P) (f:=fun _=>some e) parts.toList (QR (zT P T)) (s:=s) (s':=s') fun x hx=>by
     have hin:x.2∈(Op.build T parts).operands.toList:=by grind [Op.operands]
     cases hx2:x.2 with
     | tmp t =>
      rw[hx2]at hin
      refine ha.env t ?_
      unfold Oper.looksAt
      grind
     | _=>rfl
    simp only[e1,hc,e2]
    rw[St.app_put]at hk
    exact⟨hz,h0,hk⟩
   simp_all
  simp_all
 ·rename_i T n parts
  unfold vcD at h
  simp only at h
  obtain⟨hmt,h⟩:=h
  split at h
  ·rename_i e e1
   obtain⟨h1,h2,h3,h⟩:=h
   split at h
   ·rename_i xs e2
    refine⟨_,none,fun s' ha K' hk=>?_,by simp,by rw[St.app_put];exact h⟩
    unfold yQ
    have hc:=QW (P:=P) (f:=fun _=>some e) parts.toList (List.replicate n (zT P e)) (s:=s) (s':=s') fun x hx=>by
     have hin:x.2∈(Op.buildSlice T n parts).operands.toList:=by grind [Op.operands]
     cases hx2:x.2 with
     | tmp t =>
      rw[hx2]at hin
      refine ha.env t ?_
      unfold Oper.looksAt
      grind
     | _=>rfl
    simp_all[St.app_put]
   simp_all
  simp_all
 ·rename_i bop T x y q
  unfold vcD at h
  simp only at h
  unfold zQ at h
  simp only at h
  have hn:=zcW h
  obtain⟨tv,h1,h2⟩:=zgU _ h
  refine⟨tv,none,fun s' ha K' hk=>?_,by simp,by rw[St.app_put];exact h1⟩
  have he:∀z∈(Op.binOp bop T x y q).operands.toList,ev s' z=ev s z:=by
   intro z hz
   cases z with
   | tmp t =>
    refine ha.env t ?_
    unfold Oper.looksAt
    grind
   | _=>rfl
  have ex:ev s' x=ev s x:=he x (by simp[Op.operands])
  have ey:ev s' y=ev s y:=he y (by simp[Op.operands])
  unfold yQ
  simp only[ey,hn,Bool.false_eq_true,if_false]
  unfold zQ
  simp only[ex,ey]
  refine h2 _ ?_
  rw[St.app_put]at hk
  exact hk
noncomputable def uY (P:Program) (cf:Cfg) (ops:Array Oper) (Lt:LtK) (K:St->Prop):List Nat->St->Prop
 | [],s=>K s
 | k::r,s=>match ops[k]? with
  | none=>False
  | some o=>if Lt.l.contains k=true then(if zqj o.op=true then o.guard=none/\x6 ops k o s=true/\vcD P cf s o (uY P cf ops Lt K r) else isLt Lt.kb s o=true/\x6 ops k o s=true/\zQ P s o.op (Y6 s o.dst (uY P cf ops Lt K r)))
   else if sft cf o=true then PO ops k r=true/\zlL ops Lt k=true/\vE P cf s o Lt.kb (uY P cf ops Lt K r)
   else if zi8 o=true then GO ops k=true/\vcG P cf ops s o (uY P cf ops Lt K r)
   else if mkd cf o=true then GO ops k=true/\vcG P cf ops s o (uY P cf ops Lt K r)
   else x6 ops k o s=true/\o.guard=none/\vcD P cf s o (uY P cf ops Lt K r)

theorem xA {P:Program} {cf:Cfg} {ops:Array Oper} {Lt:LtK} {K:St->Prop}:∀(l:List Nat) (s:St),uY P cf ops Lt K l s->lexB P cf ops Lt K l s
 | [],s,h=>h
 | k::r,s,h=>by
  simp only[uY]at h
  simp only[lexB]
  cases h0:ops[k]? with
  | none=>simp_all
  | some o =>
   rw[h0]at h
   simp only at h |-
   split at h
   ·rename_i hlt
    split at h
    ·rename_i hal
     obtain⟨hg,h2,h3⟩:=h
     obtain⟨tv,ky,h4,h6,h5⟩:=zl9 (Lt:=Lt) (ops:=ops) hal h3
     exact .inl ⟨tv,ky,⟨⟨.inl ⟨by simp[yO,hg],fun s' ha=>h4 s' ha.light⟩,h6,h2⟩,fun _=>⟨hg,h4⟩⟩,xA r _ h5⟩
    obtain⟨h1,h2,h3⟩:=h
    obtain⟨hg,tv,h4,h5⟩:=zdD (cf:=cf) (ops:=ops) h1 h3
    refine .inl ⟨tv,none,⟨⟨.inl ⟨by simp[yO,hg],fun s' ha=>h4 s' ha.light⟩,by simp,h2⟩,fun _=>⟨hg,h4⟩⟩,xA r _ h5⟩
   rename_i hnl
   split at h
   ·obtain⟨h1,h2,h3⟩:=h
    exact .inr (.inr ⟨h1,zem (fun s' hs'=>xA r s' hs') ⟨h2,h3.1,h3.2⟩⟩)
   split at h
   ·exact .inr (.inl ⟨h.1,_,h.2,fun s' hs'=>xA r s' hs'⟩)
   split at h
   ·exact .inr (.inl ⟨h.1,_,h.2,fun s' hs'=>xA r s' hs'⟩)
   ·obtain⟨h1,hg,h2⟩:=h
    obtain⟨tv,ky,h3,h4,h5⟩:=zhW (ops:=ops) h2
    exact .inl ⟨tv,ky,⟨⟨.inl ⟨by simp[yO,hg],h3⟩,h4,h1⟩,fun hl=>absurd hl hnl⟩,xA r _ h5⟩
def kI (P:Program) (cf:Cfg) (ops:Array Oper) (K:St->Prop) (s:St):Prop:=∃(l:List Nat) (Lt:LtK),C7 ops l=true/\uY P cf ops Lt K l s
theorem kI.of {P:Program} {cf:Cfg} {ops:Array Oper} {K:St->Prop} {s:St} (l Lt:List Nat) (h:C7 ops l=true) (h':uY P cf ops ⟨Lt,[]⟩ K l s):kI P cf ops K s:=⟨l,⟨Lt,[]⟩,h,h'⟩
theorem kI.ofK {P:Program} {cf:Cfg} {ops:Array Oper} {K:St->Prop} {s:St} (l Lt kb:List Nat) (h:C7 ops l=true) (h':uY P cf ops ⟨Lt,kb⟩ K l s):kI P cf ops K s:=⟨l,⟨Lt,kb⟩,h,h'⟩
def AT (c:Ctx) (code:Code) (K:Exit->St->Prop) (s:St):Prop:=∀a w g β,zF c s a w g β->code.wpIn (fen c.rd) 0 c.P (QK c K) a w

def zaR (k:St->Prop) (K:Exit->St->Prop):Exit->St->Prop
 | .normal,s=>k s
 | e,s=>K e s
def GT (id:Nat) (K:Exit->St->Prop):Exit->St->Prop
 | .exit id',s=>if id'=id then K .normal s else K (.exit id') s
 | e,s=>K e s

def zb5 (K:Exit->St->Prop):Exit->St->Prop
 | .goto _,_=>False
 | e,s=>K e s

def zqp (k b:Nat) (d:TyD):TV->TV
 | .loc k' p=>if k'=k then .av .ptr (.ptr b d p) else .loc k' p
 | v=>v
def zsv (k b:Nat) (d:TyD) (E:Nat->TV) (t:Nat):TV:=zqp k b d (E t)
def St.escL (s:St) (k b:Nat) (d:TyD) (x:AV):St:={ s with env:=zsv k b d s.env,loc:=upd s.loc k none,H:=(b,.var d x)::s.H }
def zlJ:List Nat->(St->Prop)->St->Prop
 | [],K,s=>K s
 | k::r,K,s=>match s.loc k with
  | some (d,x)=>∀b,b∉s.H.keys->zlJ r K (s.escL k b d x)
  | none=>False
def zo4:List Oper->List Nat
 | []=>[]
 | o::r=>match o.op with
  | .alloc _=>(match o.dst with
   | some d=>d::zo4 r
   | none=>zo4 r)
  | _=>zo4 r
def zf9 (cf:Cfg) (id:Nat) (ops:Array Oper) (K:St->Prop) (s:St):Prop:=if cf.mtb (3000000+id)=true then zlJ (zo4 ops.toList) K s else K s
noncomputable def vc (c:Ctx) (cf:Cfg):Code->(Exit->St->Prop)->St->Prop
 | .skip,K,s=>K .normal s
 | .label _,K,s=>K .normal s
 | .region id ops draw,K,s=>match draw with
  | false=>gW c.P cf ops (K .normal) ops.toList s
  | true=>if cf.mtb (1000000+id)=true then kI c.P cf ops (K .normal) s else if ops.toList.all (fun o=>(gD o).isNone&&!zac o) then p9 c.P ops (K .normal) ops.toList s else UF c.P cf ops (zf9 cf id ops (K .normal)) 0 ops.toList s
 | .seq x y,K,s=>vc c cf x (zaR (vc c cf y K) K) s
 | .cond b x y,K,s=>match asB (ev s b)with
  | some v=>(v=true->vc c cf x K s)/\(v=false->vc c cf y K s)
  | none=>False
 | .block id x,K,s=>vc c cf x (GT id K) s
 | .exit id,K,s=>K (.exit id) s
 | .goto l,K,s=>K (.goto l) s
 | .ret,K,s=>K .ret s
 | .loop x,K,s=>AT c (.loop x) K s
 | .rangeFunc f ps x y,K,s=>AT c (.rangeFunc f ps x y) K s
 | .scope x,K,s=>vc c cf x (zb5 K) s
 | _,_,_=>False

def KH (cf:Cfg) (n:Nat):Code->Bool
 | .region id ops draw=>(ops.toList.all fun o=>match o.dst with|some d=>decide (d<n)|none=>true)&&za4 ops&&(!draw||(Region.lexB .any ops&&wkB ops&&(cf.mtb (1000000+id)||zfh ops)))
 | .seq x y=>KH cf n x&&KH cf n y
 | .cond _ x y=>KH cf n x&&KH cf n y
 | .block _ x=>KH cf n x
 | .loop x=>KH cf n x
 | .scope x=>KH cf n x
 | _=>true
end Go.Ab
end
section
namespace Go.Ab
open Go
open Classical
variable [Sel]
mutual
def leA:AV->AV->Prop
 | .agg ps,y=>match y with
  | .agg qs=>KJ ps qs
  | _=>False
 | .sl t xs,y=>match y with
  | .sl t' ys=>(t'=t\/t'=.no\/t=.full)/\KJ xs ys
  | _=>False
 | .ifc T x,y=>match y with
  | .ifc T' y=>T'=T/\leA x y
  | _=>False
 | x,y=>y=x
def KJ:List AV->List AV->Prop
 | [],ys=>ys=[]
 | x::xs,ys=>match ys with
  | y::ys=>leA x y/\KJ xs ys
  | []=>False
end
mutual
theorem QY:∀x:AV,leA x x
 | .agg ps=>by simp only[leA];exact KZ ps
 | .sl t xs=>by simp only[leA,true_or,true_and];exact KZ xs
 | .ifc T x=>by simp only[leA,true_and];exact QY x
 | .b _|.i _ _|.s _|.msl _ _ _ _ _|.nsl|.ptr _ _ _|.nilptr|.fn _ _|.nilfn|.map _|.nilifc|.yl _|.bm _ _=>by simp only[leA]
theorem KZ:∀xs:List AV,KJ xs xs
 | []=>by simp only[KJ]
 | x::xs=>by simp only[KJ];exact⟨QY x,KZ xs⟩
end
theorem zbB:∀ {xs ys:List AV},KJ xs ys->ys.length=xs.length
 | [],ys,h=>by simp_all[KJ]
 | x::xs,[],h=>by simp_all[KJ]
 | x::xs,y::ys,h=>by simp only[KJ]at h;simp[zbB h.2]
theorem zog {g:Gh} {t t':Tok} {a:Option Addr} {len cap:Nat} {e:TypeId} (h:gR g t a len cap e) (hl:t'=t\/t'=.no\/t=.full):gR g t' a len cap e:=by
 rcases hl with rfl|rfl|rfl
 ·exact h
 ·trivial
 ·cases t' with
  | no=>trivial
  | full=>exact h
  | own k v=>exact .inl h
section
variable {P:Program} {g:Gh} {w:World}
mutual
theorem dZ:∀(x y:AV) (d:TyD) (cs:List Value),leA x y->VC P g w d x cs->VC P g w d y cs
 | .agg ps,y,d,cs,h,hv=>by
  cases y<;>simp only[leA]at h<;>try exact h.elim
  rename_i qs
  cases d with
  | struct fs=>simp only[VC]at hv |-;exact ziV ps qs fs cs h hv
  | arr n e=>simp only[VC]at hv |-;exact⟨by rw[zbB h];exact hv.1,zeH ps qs e cs h hv.2⟩
  | _=>assumption
 | .sl t xs,y,d,cs,h,hv=>by
  cases y<;>simp only[leA]at h<;>try exact h.elim
  rename_i t' ys
  simp only[VC]at hv |-
  obtain⟨e,a,cap,h1,h2,h3,h4,h5⟩:=hv
  have hlen:=zbB h.2
  refine⟨e,a,cap,h1,by simp_all,by omega,?_,by grind [zog]⟩
  rcases h4 with rfl|⟨b,off,ha,hb,hvl⟩
  ·simp_all
  ·right;exact⟨b,off,ha,by rw[hlen];exact hb,by rw[hlen];exact zeH xs ys e _ h.2 hvl⟩
 | .ifc T x,y,d,cs,h,hv=>by
  cases y<;>simp only[leA]at h<;>try exact h.elim
  obtain⟨rfl,h⟩:=h
  simp only[VC]at hv |-
  obtain⟨h1,v,h2,hf,h3⟩:=hv
  exact⟨h1,v,h2,hf,dZ x _ _ _ h h3⟩
 | .b _,y,d,cs,h,hv=>by simp_all[leA]
 | .i _ _,y,d,cs,h,hv=>by simp_all[leA]
 | .s _,y,d,cs,h,hv=>by simp_all[leA]
 | .msl _ _ _ _ _,y,d,cs,h,hv=>by simp_all[leA]
 | .nsl,y,d,cs,h,hv=>by simp_all[leA]
 | .ptr _ _ _,y,d,cs,h,hv=>by simp_all[leA]
 | .nilptr,y,d,cs,h,hv=>by simp_all[leA]
 | .fn _ _,y,d,cs,h,hv=>by simp_all[leA]
 | .nilfn,y,d,cs,h,hv=>by simp_all[leA]
 | .map _,y,d,cs,h,hv=>by simp_all[leA]
 | .nilifc,y,d,cs,h,hv=>by simp_all[leA]
 | .yl _,y,d,cs,h,hv=>by simp_all[leA]
 | .bm _ _,y,d,cs,h,hv=>by simp_all[leA]
theorem zeH:∀(xs ys:List AV) (e:TypeId) (cs:List Value),KJ xs ys->VL P g w e xs cs->VL P g w e ys cs
 | [],ys,e,cs,h,hv=>by simp_all[KJ]
 | x::xs,[],e,cs,h,hv=>by simp_all[KJ]
 | x::xs,y::ys,e,cs,h,hv=>by
  simp only[KJ]at h
  simp only[VL]at hv |-
  obtain⟨c1,c2,h1,h2,h3⟩:=hv
  exact⟨c1,c2,h1,dZ x y _ _ h.1 h2,zeH xs ys e _ h.2 h3⟩
theorem ziV:∀(xs ys:List AV) (fs:List TypeId) (cs:List Value),KJ xs ys->VF P g w fs xs cs->VF P g w fs ys cs
 | [],ys,fs,cs,h,hv=>by simp_all[KJ]
 | x::xs,[],fs,cs,h,hv=>by simp_all[KJ]
 | x::xs,y::ys,fs,cs,h,hv=>by
  simp only[KJ]at h
  simp only[VF]at hv |-
  obtain⟨f,r,c1,c2,h0,h1,h2,h3⟩:=hv
  exact⟨f,r,c1,c2,h0,h1,dZ x y _ _ h.1 h2,ziV xs ys r _ h.2 h3⟩
end
end
/-! ### weaker heaps -/
def leO:HObj->HObj->Prop
 | .var d x,.var d' y=>d'=d/\leA x y
 | .map k e es,o=>o=.map k e es
 | .raw r i w,o=>o=.raw r i w
 | _,_=>False
theorem znj:∀o:HObj,leO o o
 | .var d x=>⟨rfl,QY x⟩
 | .map _ _ _=>rfl
 | .raw _ _ _=>rfl
def leH:q8->q8->Prop
 | [],H=>H=[]
 | (b,o)::r,H=>match H with
  | (b',o')::r'=>b'=b/\leO o o'/\leH r r'
  | []=>False
theorem zfD:∀H:q8,leH H H
 | []=>rfl
 | (b,o)::r=>⟨rfl,znj o,zfD r⟩
theorem zbv:∀ {c a:q8},leH c a->a.keys=c.keys
 | [],a,h=>by simp_all[leH]
 | (b,o)::r,[],h=>by simp_all[leH]
 | (b,o)::r,(b',o')::r',h=>by
  simp only[leH]at h
  simp only[q8.keys,List.map_cons]at *
  rw[h.1];congr 1;exact zbv h.2.2
theorem zjp:∀ {c a:q8},leH c a->∀ {b:Nat} {o:HObj},(b,o)∈a->∃o',(b,o')∈c/\leO o' o
 | [],a,h,b,o,hm=>by simp_all[leH]
 | (b1,o1)::r,[],h,_,_,_=>by simp_all
 | (b1,o1)::r,(b',o')::r',h,b,o,hm=>by
  simp only[leH]at h
  rcases List.mem_cons.1 hm with hm|hm
  ·cases hm;exact⟨o1,by rw[h.1];simp,h.2.1⟩
  ·obtain⟨o2,h1,h2⟩:=zjp h.2.2 hm
   exact⟨o2,List.mem_cons_of_mem _ h1,h2⟩
def HLe (a b:q8):Prop:=∃c,HSub c b/\leH c a
theorem HLe.of_sub {a b:q8} (h:HSub a b):HLe a b:=⟨a,h,zfD a⟩
theorem HLe.keys {a b:q8} (h:HLe a b) {x:Nat} (hx:x∈a.keys):x∈b.keys:=by
 obtain⟨c,h1,h2⟩:=h
 rw[zbv h2]at hx
 exact h1.keys hx
theorem HLe.nodup {a b:q8} (h:HLe a b) (hb:b.keys.Nodup):a.keys.Nodup:=by
 obtain⟨c,h1,h2⟩:=h
 rw[zbv h2]
 exact h1.nodup hb
theorem zpI {P:Program} {g:Gh} {w:World} {b:Nat} {o o':HObj} (h:leO o o') (hr:X8 P g w b o):X8 P g w b o':=by
 cases o with
 | var d x =>
  cases o' with
  | var d' y =>
   obtain⟨rfl,h⟩:=h
   obtain⟨h1,cs,h2,h3⟩:=hr
   exact⟨h1,cs,h2,dZ _ _ _ _ h h3⟩
  | _=>exact h.elim
 | map k e es=>simp_all[leO]
 | raw r i w=>simp_all[leO]
theorem HLe.obj {P:Program} {g:Gh} {w:World} {a b:q8} (h:HLe a b) (hr:∀n o,(n,o)∈b->X8 P g w n o) (n:Nat) (o:HObj) (ho:(n,o)∈a):X8 P g w n o:=by
 obtain⟨c,h1,h2⟩:=h
 obtain⟨o',h3,h4⟩:=zjp h2 ho
 exact zpI h4 (hr n o' (h1.subset h3))
end Go.Ab
end
section
namespace Go.Ab
open Go
open Classical
variable [Sel]
theorem zpu {c:Ctx} {K K':Exit->St->Prop} (h:∀e s,K e s->K' e s) {e:Exit} {a:Act} {w:World} (hq:QK c K e a w):QK c K' e a w:=by
 cases e<;>first|exact hq.elim|(obtain⟨s,g,β,hk,hS⟩:=hq;exact⟨s,g,β,h _ _ hk,hS⟩)

theorem AT.mono {c:Ctx} {code:Code} {K K':Exit->St->Prop} {s:St} (h:AT c code K s) (hk:∀e s,K e s->K' e s):AT c code K' s :=
 fun a w g β hS=>wpIn_mono (h a w g β hS) fun _ _ _ hq=>zpu hk hq

theorem znc (c:Ctx) (K:Exit->St->Prop):¬LetsOut (QK c K):=fun⟨_,_,h⟩=>h

theorem TVR.esc {P:Program} {s:St} {g:Gh} {w:World} {β:Nat->Nat} {k:Nat} {d:TyD} {x:AV} (hk:s.loc k=some (d,x)):∀ {tv:TV} {v:Value},TVR P s g w β tv v->TVR P (s.escL k (β k) d x) g w β (zqp k (β k) d tv) v
 | .av _ _,_,h=>h
 | .cst _,_,h=>h
 | .pel _ _,_,h=>h
 | .tup _,_,h=>h
 | .junk,_,h=>h
 | .loc k' p,v,⟨d1,x1,off,d2,h1,h2,h3⟩=>by
  simp only[zqp]
  split
  ·rename_i e
   subst e
   rw[hk]at h1
   cases h1
   subst h3
   exact⟨rfl,rfl,off,d2,h2,rfl⟩
  ·rename_i e
   exact⟨d1,x1,off,d2,by simp_all[St.escL,upd],h2,h3⟩
theorem zF.esc {c:Ctx} {s:St} {a:Act} {w:World} {g:Gh} {β:Nat->Nat} (h:zF c s a w g β) {k:Nat} {d:TyD} {x:AV} (hk:s.loc k=some (d,x)):zF c (s.escL k (β k) d x) a w g β/\β k∉s.H.keys:=by
 have L:=h.locs k d x hk
 have hloc:∀j d' y,(s.escL k (β k) d x).loc j=some (d',y)->j≠k/\s.loc j=some (d',y):=fun j d' y e=>by
  simp_all[St.escL,upd]
 have hloc':∀j,(s.escL k (β k) d x).loc j≠none->j≠k/\s.loc j≠none:=fun j e=>by
  simp_all[St.escL,upd]
 have hkn:s.loc k≠none:=by rw[hk];simp
 have hkeys:∀b,b∈q8.keys ((β k,HObj.var d x)::s.H)<->b=β k\/b∈s.H.keys:=fun b=>by simp[q8.keys]
 refine⟨{ h with env:=fun t=>?_,locs:=fun j d' y e=>?_,inj:=fun i j e1 e2 e3=>?_,rep:=⟨h.rep.imm,?_,fun b o hb=>?_,h.rep.tab⟩,toks:=fun j t e=>?_,step:=?_ },L.noH⟩
 ·exact TVR.esc hk (h.env t)
 ·obtain⟨h1,h2⟩:=hloc j d' y e
  have L':=h.locs j d' y h2
  refine⟨L'.base,fun hin=>?_,L'.imm,L'.block⟩
  rcases(hkeys _).1 hin with e1|e1
  ·exact h1 (h.inj j k (by rw[h2];simp) hkn e1)
  ·exact L'.noH e1
 ·obtain⟨_,h1⟩:=hloc' i e1
  obtain⟨_,h2⟩:=hloc' j e2
  exact h.inj i j h1 h2 e3
 ·show (q8.keys ((β k,HObj.var d x)::s.H)).Nodup
  simp only[q8.keys,List.map_cons,List.nodup_cons]
  exact⟨L.noH,h.rep.nodup⟩
 ·rcases List.mem_cons.1 hb with h1|h1
  ·cases h1
   exact⟨L.imm,L.block⟩
  ·exact h.rep.obj b o h1
 ·have T:=h.toks j t e
  refine⟨T.base,fun hin=>?_,fun i hi=>T.noLoc i (hloc' i hi).2,T.imm,T.block⟩
  rcases(hkeys _).1 hin with e1|e1
  ·exact T.noLoc k hkn e1.symm
  ·exact T.noH e1
 ·refine { h.step with dom:=fun b hb=>?_ }
  rcases(hkeys _).1 hb with h1|h1
  ·right;rw[h1];exact L.base
  ·exact h.step.dom b h1
theorem zaw {c:Ctx} {K:St->Prop} {a:Act} {w:World}:∀(l:List Nat) (s:St) (g:Gh) (β:Nat->Nat),zlJ l K s->zF c s a w g β->wF c K a w
 | [],s,g,β,h,hS=>⟨s,g,β,h,hS⟩
 | k::r,s,g,β,h,hS=>by
  simp only[zlJ]at h
  cases hk:s.loc k with
  | none=>rw[hk]at h;exact h.elim
  | some dx =>
   obtain⟨d,x⟩:=dx
   rw[hk]at h
   obtain⟨h1,h2⟩:=hS.esc hk
   exact zaw r _ g β (h _ h2) h1
theorem zii {c:Ctx} {cf:Cfg} {id:Nat} {ops:Array Oper} {K:St->Prop} {a:Act} {w:World}:wF c (zf9 cf id ops K) a w->wF c K a w:=by
 rintro⟨s,g,β,h,hS⟩
 unfold zf9 at h
 split at h
 ·grind [zaw]
 ·exact⟨s,g,β,h,hS⟩
theorem zge {c:Ctx} (hl:laidOutB c.P=true) (hm:c.P.follows .mixedOrders=true) {cf:Cfg} {id:Nat} {ops:Array Oper} (hdst:∀o∈ops.toList,∀d,o.dst=some d->d<c.n) (hB:Region.lexB .any ops=true) (hwk:wkB ops=true)
  {K:Exit->St->Prop} {s:St} {a:Act} {w:World} {g:Gh} {β:Nat->Nat} (hS:zF c s a w g β) (h:zkd c.P cf ops (zf9 cf id ops (K .normal)) 0 ops.toList s):wpAnyIn (fen c.rd) 0 c.P .any ops (QK c K) ops.size (Array.replicate ops.size false) a { w with drawn:=w.drawn+1 }:=by
 simp only[Region.lexB,Bool.and_eq_true]at hB
 refine zaK hl hdst (Q:=zf9 cf id ops (K .normal)) (cf:=cf) (fun a w hg=>zii hg) _ _ _ _ ⟨s,g,β,?_,hS.drew _⟩
 have:=zb6 (P:=c.P) (cf:=cf) hwk (Q:=zf9 cf id ops (K .normal)) ops.toList 0 (Array.replicate ops.size false) s (DC.start ops) (by simp) (by simp_all) h
 omega
theorem JO {c:Ctx} (hl:laidOutB c.P=true) (hm:c.P.follows .mixedOrders=true) {cf:Cfg}:∀(code:Code) (K:Exit->St->Prop) (s:St),KH cf c.n code=true->vc c cf code K s->AT c code K s
 | .skip,K,s,_,h=>fun a w g β hS=>wpIn_skip ⟨s,g,β,h,hS⟩
 | .label _,K,s,_,h=>fun a w g β hS=>wpIn_label ⟨s,g,β,h,hS⟩
 | .region id ops draw,K,s,hd,h=>fun a w g β hS=>by
  simp only[KH,Bool.and_eq_true]at hd
  have hdst:∀o∈ops.toList,∀d,o.dst=some d->d<c.n:=by
   grind
  cases draw with
  | false =>
   simp only[vc]at h
   refine wpIn_region ?_
   rw[List.range_eq_range']
   exact CB hl hdst (Q:=QK c K) (fun a w hg=>hg) ops.size 0 a w (by omega) ⟨s,g,β,by simpa using h,hS⟩
  | true =>
   simp only[vc]at h
   have hd2:(Region.lexB .any ops=true/\wkB ops=true)/\(cf.mtb (1000000+id)||zfh ops)=true:=by
    simp_all
   refine wpIn_region_any hm ?_
   split at h
   ·obtain⟨l,Lt,ho,h⟩:=h
    exact zgW hl hdst hd2.1.2 ho hS (xA _ _ h)
   rename_i hmk
   have him:zfh ops=true:=by
    simp_all
   split at h
   ·refine zao hd.1.2 (znc c K) _ _ _ _ ?_
    have hB:=hd2.1.1
    simp only[Region.lexB,Bool.and_eq_true]at hB
    refine wpAny_of_still (Q:=fun a'=>QK c K .normal a' { w with drawn:=w.drawn+1 }) (fun _ h=>h) _ _ _ ?_
    have:=wpAnyS_lex (md:=.any) hB.1 ops.toList 0 (Array.replicate ops.size false) a (by simp) (by simp_all) (GE hl ops.toList s a hdst (hS.drew (w.drawn+1)) h)
    assumption
   grind [zge,vB]
 | .seq x y,K,s,hd,h=>fun a w g β hS=>by
  simp only[KH,Bool.and_eq_true]at hd
  simp only[vc]at h
  refine wpIn_seq (wpIn_mono (JO hl hm x _ s hd.1 h a w g β hS) ?_)
  intro e a' w' hq
  cases e with
  | normal =>
   obtain⟨s',g',β',hk,hS'⟩:=hq
   exact JO hl hm y K s' hd.2 hk a' w' g' β' hS'
  | _=>exact hq
 | .cond b x y,K,s,hd,h=>fun a w g β hS=>by
  simp only[KH,Bool.and_eq_true]at hd
  simp only[vc]at h
  cases hb:asB (ev s b)with
  | none=>simp_all
  | some v =>
   rw[hb]at h
   have hv:=VR hb (qT hS b)
   refine wpIn_cond hv ?_
   cases v
   ·exact JO hl hm y K s hd.2 (h.2 rfl) a w g β hS
   ·exact JO hl hm x K s hd.1 (h.1 rfl) a w g β hS
 | .block id x,K,s,hd,h=>fun a w g β hS=>by
  simp only[KH]at hd
  simp only[vc]at h
  refine wpIn_block (wpIn_mono (JO hl hm x _ s hd h a w g β hS) ?_)
  intro e a' w' hq
  cases e with
  | exit id' =>
   obtain⟨s',g',β',hk,hS'⟩:=hq
   simp only[GT]at hk
   simp only[Exit.inBlock]
   split at hk
   ·rename_i e;rw[if_pos e];exact⟨s',g',β',hk,hS'⟩
   ·rename_i e;rw[if_neg e];exact⟨s',g',β',hk,hS'⟩
  | _=>exact hq
 | .exit id,K,s,_,h=>fun a w g β hS=>wpIn_exit ⟨s,g,β,h,hS⟩
 | .goto l,K,s,_,h=>fun a w g β hS=>wpIn_goto ⟨s,g,β,h,hS⟩
 | .ret,K,s,_,h=>fun a w g β hS=>wpIn_ret ⟨s,g,β,h,hS⟩
 | .loop x,K,s,_,h=>h
 | .rangeFunc _ _ _ _,K,s,_,h=>h
 | .scope x,K,s,hd,h=>fun a w g β hS=>by
  simp only[KH]at hd
  simp only[vc]at h
  refine Y4 (wpIn_mono (JO hl hm x _ s hd h a w g β hS) ?_)
  intro e a' w' hq
  cases e with
  | goto l=>obtain⟨s',g',β',hk,hS'⟩:=hq;exact hk.elim
  | _=>exact hq

/-! ### weaker states -/
structure Le (s s':St):Prop where
 env:∀t,s'.env t=.junk\/s'.env t=s.env t\/(∃d k v xs,s'.env t=.av d (.sl (.own k v) xs)/\co d (s.env t)=some (.sl .full xs))\/∃d x y,s'.env t=.av d y/\co d (s.env t)=some x/\leA x y
 loc:∀k,(∃d x y,s.loc k=some (d,x)/\s'.loc k=some (d,y)/\leA x y)\/(s'.loc k=none/\∀t p,s'.env t≠.loc k p)
 ver:∀k,s.ver k<=s'.ver k
 H:HLe s'.H s.H
 dfs:s'.dfs=s.dfs


theorem zF.weaken {c:Ctx} {s s':St} {a:Act} {w:World} {g:Gh} {β:Nat->Nat} (h:zF c s a w g β) (hle:Le s s'):zF c s' a w g β:=by
 have hloc:∀k d x,s'.loc k=some (d,x)->∃y,s.loc k=some (d,y)/\leA y x:=fun k d x e=>by
  rcases hle.loc k with⟨d1,x1,y1,h1,h2,h3⟩|⟨h1,_⟩
  ·simp_all
  simp_all
 have hlocn:∀k,s'.loc k≠none->s.loc k≠none:=fun k hk=>by
  cases e:s'.loc k with
  | none=>simp_all
  | some dx=>grind
 have hkeys:∀b,b∈s'.H.keys->b∈s.H.keys:=fun b hb=>hle.H.keys hb
 have hsame:∀k t,g.γ k (s'.ver k)=some t->g.γ k (s.ver k)=some t:=fun k t e=>by
  rcases Nat.lt_or_ge (s.ver k) (s'.ver k)with h1|h1
  ·rw[h.toknew k _ h1]at e;cases e
  ·have:s'.ver k=s.ver k:=Nat.le_antisymm h1 (hle.ver k)
   simp_all
 exact {
  defers:=by rw[hle.dfs];exact h.defers
  size:=h.size
  env:=fun t=>by
   have ht:=h.env t
   rcases hle.env t with h1|h1|⟨d,k,v,xs,h1,h2⟩|⟨d,x,y,h1,h2,h3⟩
   ·rw[h1];trivial
   ·rw[h1]
    cases he:s.env t with
    | loc k path =>
     rw[he]at ht
     obtain⟨d,x,off,d',h2,h3,h4⟩:=ht
     rcases hle.loc k with⟨d1,x1,y1,h5,h6,_⟩|⟨_,h5⟩
     ·rw[h2]at h5;cases h5
      exact⟨d,y1,off,d',h6,h3,h4⟩
     simp_all
    | _=>rw[he]at ht;exact ht
   ·rw[h1]
    obtain⟨f,hv⟩:VV c.P g w d (.sl .full xs) _:=kQ h2 ht
    refine⟨f,?_⟩
    simp only[VC]at hv |-
    obtain⟨e,a',cap,h3,h4,h5,h6,h7⟩:=hv
    exact⟨e,a',cap,h3,h4,h5,h6,.inl h7⟩
   ·rw[h1]
    obtain⟨f,hv⟩:VV c.P g w d x _:=kQ h2 ht
    exact⟨f,dZ _ _ _ _ h3 hv⟩
  locs:=fun k d x e=>by
   obtain⟨y,e1,e2⟩:=hloc k d x e
   have L:=h.locs k d y e1
   obtain⟨cs,b1,b2⟩:=L.block
   exact⟨L.base,fun hin=>L.noH (hkeys _ hin),L.imm,cs,b1,dZ _ _ _ _ e2 b2⟩
  inj:=fun i j e1 e2=>h.inj i j (hlocn i e1) (hlocn j e2)
  rep:=⟨h.rep.imm,hle.H.nodup h.rep.nodup,fun b o ho=>hle.H.obj h.rep.obj b o ho,h.rep.tab⟩
  toks:=fun k t e=>by
   have T:=h.toks k t (hsame k t e)
   exact⟨T.base,fun hin=>T.noH (hkeys _ hin),fun j hj=>T.noLoc j (hlocn j hj),T.imm,T.block⟩
  tokd:=fun k k' t t' e e'=>h.tokd k k' t t' (hsame k t e) (hsame k' t' e')
  toknew:=fun k v hv=>h.toknew k v (Nat.lt_of_le_of_lt (hle.ver k) hv)
  step:={ h.step with dom:=fun b hb=>h.step.dom b (hkeys b hb) } }

theorem AT.weaken {c:Ctx} {code:Code} {K:Exit->St->Prop} {s s':St} (hle:Le s s') (h:AT c code K s'):AT c code K s :=
 fun a w g β hS=>h a w g β (hS.weaken hle)

/-! ### loops -/
def zs7 {α:Type} (head:α->St) (inv:α->Prop) (μ:α->Nat) (x:α) (K:Exit->St->Prop):Exit->St->Prop
 | .normal,s=>∃x',Le s (head x')/\inv x'/\μ x'<μ x
 | e,s=>K e s

theorem AT.loop {c:Ctx} {body:Code} {K:Exit->St->Prop} {s:St} {α:Type} (head:α->St) (inv:α->Prop) (μ:α->Nat) (x0:α) (h0:Le s (head x0)) (hi:inv x0)
  (round:∀x,inv x->AT c body (zs7 head inv μ x K) (head x)):AT c (.loop body) K s:=by
 refine AT.weaken h0 ?_
 intro a w g β hS b k cs hro hb hr
 have key:∀n x,μ x=n->inv x->∀a w g β,zF c (head x) a w g β->
   ∃e a' w',QK c K e a' w'/\ArrivesIn (Machine.fenced c.P (fen c.rd)) c.P (lone (b.atR a (.code body::.inLoop body::k)) cs w) b k cs e a' w':=by
  intro n
  induction n using Nat.strongRecOn with
  | _ n ih =>
   intro x hn hx a w g β hS
   obtain⟨e,a₁,w₁,hq,harr⟩:=round x hx a w g β hS b (.inLoop body::k) cs hro hb hr
   cases e with
   | normal =>
    obtain⟨s',g',β',⟨x',hle,hx',hlt⟩,hS'⟩:=hq
    obtain⟨e₂,a₂,w₂,hq₂,harr₂⟩:=ih (μ x') (hn▸hlt) x' rfl hx' a₁ w₁ g' β' (hS'.weaken hle)
    exact⟨e₂,a₂,w₂,hq₂,.of_steps (StepsIn.trans harr (.one (fenced_calm hb hr rfl) stepR_inLoop)) harr₂⟩
   | exit id=>exact⟨.exit id,a₁,w₁,hq,.pass (x:=.inLoop body) rfl (fun _ _=>.inl (by simp)) harr⟩
   | goto l=>exact⟨.goto l,a₁,w₁,hq,.pass (x:=.inLoop body) rfl (fun _ _=>.inl (by simp)) harr⟩
   | ret=>exact⟨.ret,a₁,w₁,hq,.pass (x:=.inLoop body) rfl (fun _ _=>.inl (by simp)) harr⟩
   | panic ch=>exact hq.elim
   | outgrown=>exact hq.elim
 obtain⟨e,a',w',hq,harr⟩:=key _ x0 rfl hi a w g β hS
 exact⟨e,a',w',hq,.of_steps (.one (fenced_calm hb hr rfl) stepR_loop) harr⟩

/-! ### functions -/
def YD (P:Program) (s:St):List ResultVar->List TypeId->(List (TyD × AV)->Prop)->Prop
 | [],_,K=>K []
 | .tmp t::r,T::ts,K=>match co (q9 P T) (s.env t)with
  | some x=>YD P s r ts fun xs=>K ((q9 P T,x)::xs)
  | none=>False
 | .cell t T'::r,_::ts,K=>yB P s (s.env t) fun d x=>d=q9 P T'/\YD P s r ts fun xs=>K ((d,x)::xs)
 | _,_,_=>False

def UY:List (TyD × AV)->TV
 | [(d,x)]=>.av d x
 | xs=>.tup xs

def zer (P:Program) (fn:Func) (R:TV->q8->Prop):Exit->St->Prop
 | .normal,s=>YD P s fn.results.toList fn.resultTypes.toList fun xs=>R (UY xs).er s.H.er
 | .ret,s=>YD P s fn.results.toList fn.resultTypes.toList fun xs=>R (UY xs).er s.H.er
 | _,_=>False

def zeL (a:Act):ResultVar->Sem Value
 | .tmp t=>pure (a.tmps.getD t undef)
 | .cell b t=>do loadVar t (<-asAddr (a.tmps.getD b undef))

theorem p5 {c:Ctx} (hl:laidOutB c.P=true) {s:St} {a:Act} {w:World} {g:Gh} {β:Nat->Nat} (h:zF c s a w g β):∀(l:List ResultVar) (ts:List TypeId) (K:List (TyD × AV)->Prop),YD c.P s l ts K->
  ∃vs xs,(l.mapM (zeL a)).run c.P w=.ok vs w/\K xs/\VVs c.P g w xs vs/\vs.length=l.length
 | [],ts,K,hk=>⟨[],[],rfl,by assumption,trivial,rfl⟩
 | .tmp t::r,[],K,hk=>by grind [YD]
 | .cell t T'::r,[],K,hk=>by grind [YD]
 | .tmp t::r,T::ts,K,hk=>by
  simp only[YD]at hk
  cases hc:co (q9 c.P T) (s.env t)with
  | none=>simp_all
  | some x =>
   rw[hc]at hk
   obtain⟨vs,xs,h1,h2,h3,h4⟩:=p5 hl h r ts _ hk
   refine⟨a.tmps.getD t undef::vs,(q9 c.P T,x)::xs,?_,h2,⟨kQ hc (h.env t),h3⟩,by simp[h4]⟩
   simp_all[zeL]
 | .cell t T'::r,T::ts,K,hk=>by
  simp only[YD]at hk
  obtain⟨b,off,cs,E,fz,d,x,hv,hb,hle,hvc,hd,hk⟩:=cD hl h (h.env t) hk
  subst hd
  obtain⟨u,hr,hvv⟩:=UP hl hb hle hvc
  obtain⟨vs,xs,h1,h2,h3,h4⟩:=p5 hl h r ts _ hk
  refine⟨u::vs,(q9 c.P T',x)::xs,?_,h2,⟨hvv,h3⟩,by simp[h4]⟩
  simp_all[zeL,asAddr]

theorem zmS {P:Program} {g:Gh} {w:World} {d:TyD} {x:AV} {v:Value} (h:VV P g w d x v):VV P (g0 g.imm) w d x.er v:=⟨h.1,uD x d _ h.2⟩
theorem zbg {P:Program} {g:Gh} {w:World}:∀ {xs:List (TyD × AV)} {vs:List Value},VVs P g w xs vs->VVs P (g0 g.imm) w (xs.map fun p=>(p.1,p.2.er)) vs
 | [],[],_=>trivial
 | (_,_)::_,_::_,h=>⟨zmS h.1,zbg h.2⟩
 | [],_::_,h=>h.elim
 | _::_,[],h=>h.elim
theorem zbJ {P:Program} {g:Gh} {w:World}:∀ {xs:List (TyD × AV)} {vs:List Value},VVs P g w xs vs->xs.length=vs.length
 | [],[],_=>rfl
 | (_,_)::_,_::_,h=>by simp[zbJ h.2]
 | [],_::_,h=>h.elim
 | _::_,[],h=>h.elim

theorem gZ {c:Ctx} (hl:laidOutB c.P=true) {s:St} {a:Act} {w:World} {g:Gh} {β:Nat->Nat} (h:zF c s a w g β) {fn:Func} {R:TV->q8->Prop}
  (hk:YD c.P s fn.results.toList fn.resultTypes.toList fun xs=>R (UY xs).er s.H.er) :
  ∃v r,(results fn a.tmps).run c.P w=.ok v w/\R r s.H.er/\AR c.P (g0 g.imm) w r v:=by
 obtain⟨vs,xs,h1,h2,h3,h4⟩:=p5 hl h _ _ _ hk
 refine⟨if h:vs.toArray.size=1 then vs.toArray[0] else .tuple vs.toArray,(UY xs).er,?_,h2,?_⟩
 ·have e0:results fn a.tmps=(do let vs <-fn.results.mapM (zeL a);pure (if h:vs.size=1 then vs[0] else .tuple vs)):=rfl
  simp_all[Array.mapM_eq_mapM_toList]
 ·have hlen:=zbJ h3
  match xs,vs,h3,hlen with
  | [(d,x)],[v],h3,_=>exact zmS h3.1
  | [],[],_,_=>exact⟨[],rfl,trivial⟩
  | x::y::xs,u::v::vs,h3,_ =>
   have:=zbg h3
   exact⟨u::v::vs,by simp,this⟩

def entry (args:List TV) (H:q8):St:={ env:=fun t=>(args[t]?).getD .junk,loc:=fun _=>none,ver:=fun _=>0,H:=H }

theorem YB {P:Program} {g:Gh} {w:World}:∀ {args:List TV} {vs:List Value},ARs P g w args vs->args.length=vs.length/\∀(t:Nat) (tv:TV),args[t]?=some tv->∃v:Value,vs[t]?=some v/\AR P g w tv v
 | [],[],_=>⟨rfl,fun t tv h=>by simp at h⟩
 | x::xs,v::vs,h=>by
  obtain⟨h1,h2⟩:=YB h.2
  refine⟨by simp[h1],fun t tv ht=>?_⟩
  cases t with
  | zero=>simp at ht;subst ht;exact⟨v,rfl,h.1⟩
  | succ t=>simp_all
 | [],_::_,h=>h.elim
 | _::_,[],h=>h.elim

theorem zF.turn {c:Ctx} {s:St} {a:Act} {w:World} {g:Gh} {β:Nat->Nat} (h:zF c s a w g β) {D:Nat} {o o':Obj} (ho:w.heap[D]?=some o) (hnc:∀cs E fz,o≠.cells cs E fz) (hb:c.w0.heap.size<=D) (hH:D∉s.H.keys)
  {dfs':List Nat} {ds':List Deferred} (hdf:zfY c.w0.heap.size (World.setM w D o') dfs' c.ds0 ds'):zF c { s with dfs:=dfs' } { a with defers:=ds' } (World.setM w D o') g β:=by
 have hi:=h.rep.imm
 have hcb:∀ {b':Nat} {cs:Array Value} {E:TypeId} {fz:Nat × Nat},w.heap[b']?=some (.cells cs E fz)->b'≠D:=fun h1 e=>by
  simp_all
 have hik:jP g w (World.setM w D o'):=fun b' cs E fz h1 h2=>⟨cs,E,fz,by grind [zK],rfl,fun _ _=>rfl⟩
 have hcell:∀ {b':Nat} {cs:Array Value} {Q:TypeId->Prop} {F:Prop},kD w b' cs Q F->kD (World.setM w D o') b' cs Q F:=fun⟨E,fz,h1,h2⟩=>⟨E,fz,by grind [zK],h2⟩
 exact {
  defers:=hdf
  size:=h.size
  env:=fun t=>y8 (Gh.le_refl g) hi hik (fun j d' z e=>⟨z,e,rfl⟩) (h.env t)
  locs:=fun j d' z e=>by
   have L':=h.locs j d' z e
   obtain⟨cs',h1,h2⟩:=L'.block
   exact⟨L'.base,L'.noH,L'.imm,cs',hcell h1,jE (Gh.le_refl g) hi hik _ _ _ h2⟩
  inj:=h.inj
  rep:=⟨fun b' hb'=>by
    obtain⟨cs',E,fz,h1,h2⟩:=hi b' hb'
    grind [zK],h.rep.nodup,fun b' x hx=>by
   have hne:b'≠D:=fun e=>hH (e▸List.mem_map.2 ⟨_,hx,rfl⟩)
   have hx':=h.rep.obj b' x hx
   cases x with
   | var d y=>obtain⟨h1,cs',h2,h3⟩:=hx';exact⟨h1,cs',hcell h2,jE (Gh.le_refl g) hi hik _ _ _ h3⟩
   | map k' e' es2=>obtain⟨h1,en',ck',h2,h3⟩:=hx';exact⟨h1,en',ck',by simp_all[zK],yI (Gh.le_refl g) hi hik h3⟩
   | raw r i0 w0=>obtain⟨h1,h2,h3⟩:=hx';exact⟨h1,by simp_all[zK],yE h3 (Gh.le_refl g) hik⟩,h.rep.tab.keep (Gh.le_refl g) hi hik⟩
  toks:=fun j t e=>by
   have T:=h.toks j t e
   obtain⟨cs',h1,h2⟩:=T.block
   exact⟨T.base,T.noH,T.noLoc,T.imm,cs',hcell h1,h2⟩
  tokd:=h.tokd
  toknew:=h.toknew
  step:={
   os:=h.step.os,tape:=h.step.tape,output:=h.step.output,drawn:=h.step.drawn
   size:=by grind [VS]
   frame:=fun b' hb' hn=>by
    have hne:b'≠D:=fun e=>by omega
    rw[zK w D b' _ hne];exact h.step.frame b' hb' hn
   imm:=h.step.imm
   kept:=fun b' cs' E fz h1 h2=>by
    obtain⟨cs2,E2,fz2,h3,h4⟩:=h.step.kept b' cs' E fz h1 h2
    grind [zK]
   dom:=h.step.dom } }

theorem zoU {P:Program} {g:Gh} {w:World} {H:q8} (h:Rep P g w H) {D:Nat} {ds:Option (List Deferred)} (hD:w.heap[D]?=some (.deferred ds)):D∉H.keys:=fun hin=>by
 obtain⟨⟨b,o⟩,ho,e⟩:=List.mem_map.1 hin
 simp only at e;subst e
 have hr:=h.obj b o ho
 cases o with
 | var d x=>obtain⟨_,cs,⟨E,fz,h1,_⟩,_⟩:=hr;simp_all
 | map k e es=>obtain⟨_,en,ck,h1,_⟩:=hr;simp_all
 | raw r i0 w0=>obtain⟨_,h1,h2⟩:=hr;rw[hD]at h1;cases h1;exact absurd h2.2 (by simp[zht])

theorem zbl {P:Program} {s:St} {d:List Nat}:∀(l:List ResultVar) (ts:List TypeId) (K:List (TyD × AV)->Prop),YD P { s with dfs:=d } l ts K=YD P s l ts K
 | [],ts,K=>by simp only[YD]
 | .tmp t::r,[],K=>by simp only[YD]
 | .cell t T'::r,[],K=>by simp only[YD]
 | .tmp t::r,T::ts,K=>by
  simp only[YD]
  cases hc:co (q9 P T) (s.env t)with
  | none=>rfl
  | some x=>exact zbl r ts _
 | .cell t T'::r,T::ts,K=>by
  simp only[YD]
  show yB P s (s.env t) _=yB P s (s.env t) _
  congr 1
  funext d' x
  rw[zbl r ts]

theorem YF {c:Ctx} (h00:c.ds0=[]) (hl:laidOutB c.P=true) {fn:Func} {R:TV->q8->Prop} {Q:Ending->World->Prop}:∀(dfs:List Nat) (s:St) (a:Act) (w:World) (g:Gh) (β:Nat->Nat),s.dfs=dfs->zF c s a w g β->
  YD c.P s fn.results.toList fn.resultTypes.toList (fun xs=>R (UY xs).er s.H.er)->
  (∀(a:Act) (w:World) (g:Gh) (β:Nat->Nat) v r,zF c { s with dfs:=[] } a w g β->R r s.H.er->AR c.P (g0 g.imm) w r v->Q (.returned v) w)->
  LeavesInM (fen none) 0 c.P fn a.tmps Q a.defers .returning w
 | [],s,a,w,g,β,hd,h,hk,hQ=>by
  have he:a.defers=[]:=by have:=h.defers.1;rw[hd,h00]at this;simpa using this
  rw[he]
  obtain⟨v,r,h1,h2,h3⟩:=gZ hl h hk
  refine⟨v,h1,hQ a w g β v r ?_ h2 h3⟩
  have:({ s with dfs:=[] }:St)=s:=by rw[<-hd]
  simp_all
 | D::rest,s,a,w,g,β,hd,h,hk,hQ=>by
  have hdf:=h.defers
  rw[hd]at hdf
  have he:a.defers={ target:=.collected D,args:=#[] }::rest.map (fun D=>({ target:=.collected D,args:=#[] }:Deferred)):=by have:=hdf.1;rw[h00]at this;simpa using this
  have hD:=hdf.2.2 D (by simp)
  rw[he]
  refine⟨by simp,.inl ⟨D,w.putObj D (.deferred none),rfl,run_takeDeferred hD.2,?_⟩⟩
  have hn:=(List.nodup_cons.1 hdf.2.1)
  have hS:=h.turn (o':=.deferred none) hD.2 (fun _ _ _ e=>by cases e) hD.1 (zoU h.rep hD.2) (dfs':=rest) (ds':=rest.map (fun D=>({ target:=.collected D,args:=#[] }:Deferred)))
   ⟨by rw[h00,List.append_nil],hn.2,fun D' hD'=>⟨(hdf.2.2 D' (by simp[hD'])).1,by
    rw[zK w D D' _ (fun e=>hn.1 (e▸hD'))];exact(hdf.2.2 D' (by simp[hD'])).2⟩⟩
  have:=YF h00 hl rest { s with dfs:=rest } _ _ g β rfl hS (by rw[zbl];exact hk) hQ
  exact this

theorem q7.of_vc {P:Program} (hl:laidOutB P=true) (hm:P.follows .mixedOrders=true) {f:FuncId} {fn:Func} {code:Code} (hf:P.funcs[f]?=some fn) (hb:fn.body=some code) (cf:Cfg) (hd:KH cf fn.ntmps code=true)
  {args:List TV} {H:q8} {R:TV->q8->Prop} (hn:args.length<=fn.ntmps) (h:∀imm0 w0,vc ⟨P,fn.ntmps,imm0,H,w0,none,[]⟩ cf code (zer P fn R) (entry args H)):q7 P f args H R:=by
 intro imm w vs hrep hargs
 have hlen:=(YB hargs).1
 have hvs:vs.size<=fn.ntmps:=by simp_all
 have hS:zF ⟨P,fn.ntmps,imm,H,w,none,[]⟩ (entry args H) { tmps:=vs++Array.replicate (fn.ntmps-vs.size) undef,defers:=[] } w (g0 imm) (fun _=>0):={
  defers:=⟨rfl,List.nodup_nil,fun D hD=>by grind [entry]⟩
  size:=by simp;omega
  env:=fun t=>by
   simp only[entry]
   cases ht:args[t]? with
   | none=>trivial
   | some tv =>
    obtain⟨v,h1,h2⟩:=(YB hargs).2 t tv ht
    have hv:(vs++Array.replicate (fn.ntmps-vs.size) undef).getD t undef=v:=by
     have hlt:t<vs.size:=by
      grind
     simp_all[Array.getElem?_append_left]
    simp only[Option.getD_some]
    rw[hv]
    cases tv with
    | av d x=>exact h2
    | cst u=>exact h2
    | tup xs=>exact h2
    | _=>exact h2.elim
  locs:=fun k d x e=>by grind [entry]
  inj:=fun k j e=>by simp[entry]
  rep:=hrep
  toks:=fun k t e=>by grind [g0]
  tokd:=fun k k' t t' e=>by simp[g0]
  toknew:=fun k v _=>rfl
  step:=JN.refl }
 have hcl:CallsIn (fen none) 0 P f vs w fun e w'=>∃v r imm' H',e=.returned v/\R r H'/\AR P (g0 imm') w' r v/\Rep P (g0 imm') w' H'/\JN imm H w imm' H' w':=by
  refine callsIn_of_wp_marks hf hb trivial (wpIn_mono (JO (c:=⟨P,fn.ntmps,imm,H,w,none,[]⟩) hl hm code _ _ hd (h imm w) _ _ _ _ hS) ?_) rfl
  intro e a' w' hq
  have fin:wF ⟨P,fn.ntmps,imm,H,w,none,[]⟩ (fun s=>YD P s fn.results.toList fn.resultTypes.toList fun xs=>R (UY xs).er s.H.er) a' w'->
    LeavesInM (fen none) 0 P fn a'.tmps (fun e w'=>∃v r imm' H',e=.returned v/\R r H'/\AR P (g0 imm') w' r v/\Rep P (g0 imm') w' H'/\JN imm H w imm' H' w') a'.defers .returning w':=by
   rintro⟨s,g,β,hk,hS'⟩
   refine YF (c:=⟨P,fn.ntmps,imm,H,w,none,[]⟩) rfl hl s.dfs s a' w' g β rfl hS' hk ?_
   intro a2 w2 g2 β2 v r hS2 h2 h3
   refine⟨v,r,g2.imm,s.H.er,rfl,h2,h3,WE (rest:=[]) hS2.rep (by simp),?_⟩
   exact { hS2.step with dom:=fun b hb=>hS2.step.dom b (by grind [q8.er_keys]) }
  cases e with
  | normal=>exact fin hq
  | ret=>exact fin hq
  | exit id=>obtain⟨s,g,β,hk,hS'⟩:=hq;exact hk.elim
  | goto l=>obtain⟨s,g,β,hk,hS'⟩:=hq;exact hk.elim
  | panic ch=>exact hq.elim
  | outgrown=>exact hq.elim
 grind [WT]
def lk {α:Type} (z:α):List (Nat × α)->Nat->α
 | [],_=>z
 | (k,v)::r,t=>if t=k then v else lk z r t

def St.of (l:List (Nat × TV)) (ls:List (Nat × (TyD × AV))) (ver:Nat->Nat) (H:q8) (dfs:List Nat:=[]):St :=
 { env:=lk .junk l,loc:=lk none (ls.map fun p=>(p.1,some p.2)),ver:=ver,H:=H,dfs:=dfs }

theorem zeD {α:Type} {z:α}:∀ {l:List (Nat × α)} {t:Nat},lk z l t=z\/(t,lk z l t)∈l
 | [],t=>.inl rfl
 | (k,v)::r,t=>by
  simp only[lk]
  split
  ·rename_i e;subst e;right;simp
  ·rcases zeD (z:=z) (l:=r) (t:=t)with h|h
   ·exact .inl h
   ·exact .inr (List.mem_cons_of_mem _ h)

theorem nr {α:Sort _} {a b:α} (h:a=b):a=b:=h
def XP (y x:AV):Prop:=x=y\/(∃k v xs,x=.sl (.own k v) xs/\y=.sl .full xs)\/leA y x
def zA (a b:TV):Prop :=
 match b with
 | .av d x=>match a with
  | .av d' y=>d'=d/\XP y x
  | .cst v=>∃y,coC d v=some y/\XP y x
  | _=>False
 | b=>b=a
@[simp] theorem zrT (y:AV):XP y y:=.inl rfl
@[simp] theorem zt8 (k k':IntKind) (n n':Int):XP (.i k n) (.i k' n')<->k'=k/\n'=n:=by simp[XP,leA];try (intro h;exact h.symm▸⟨rfl,rfl⟩)
@[simp] theorem ztr (n n':List UInt8):XP (.s n) (.s n')<->n'=n:=by simp[XP,leA];try (intro h;exact h.symm▸⟨rfl,rfl⟩)
@[simp] theorem ztd (n n':Bool):XP (.b n) (.b n')<->n'=n:=by simp[XP,leA];try (intro h;exact h.symm▸⟨rfl,rfl⟩)
@[simp] theorem zsy (n n':List AV):XP (.agg n) (.agg n')<->n'=n\/KJ n n':=by simp[XP,leA]
@[simp] theorem zrW (k v:Nat) (xs:List AV):XP (.sl .full xs) (.sl (.own k v) xs):=.inr (.inl ⟨k,v,xs,rfl,rfl⟩)
@[simp] theorem zt4 (t:Tok) (xs ys:List AV):XP (.sl t xs) (.sl .no ys)<->ys=xs\/KJ xs ys:=by
 simp only[XP,leA,AV.sl.injEq,reduceCtorEq,false_and,exists_const,false_or,true_and]
 constructor
 ·rintro(⟨_,h⟩|⟨_,h⟩)
  ·exact .inl h
  ·exact .inr h
 ·rintro(rfl|h)
  ·exact .inr ⟨.inr (.inl trivial),KZ _⟩
  ·exact .inr ⟨.inr (.inl trivial),h⟩

@[simp] theorem zs8 (k v:Nat) (xs ys:List AV):XP (.sl (.own k v) xs) (.sl (.own k v) ys)<->ys=xs\/KJ xs ys:=by
 simp only[XP,leA,AV.sl.injEq,reduceCtorEq,false_and,and_false,exists_const,false_or,true_and,true_or]
attribute [simp] QY KZ
@[simp] theorem zsQ (T T':TypeId) (x y:AV):XP (.ifc T x) (.ifc T' y)<->T'=T/\leA x y:=by
 simp only[XP,leA,AV.ifc.injEq,reduceCtorEq,false_and,and_false,exists_const,false_or]
 constructor
 ·rintro(⟨rfl,rfl⟩|h)
  ·exact⟨rfl,QY _⟩
  ·exact h
 ·exact .inr

def qF (ks:List Nat):List (Nat × TV)->Prop
 | []=>True
 | (_,.loc k _)::r=>k∈ks/\qF ks r
 | _::r=>qF ks r

theorem zaH {ks:List Nat}:∀ {l:List (Nat × TV)},qF ks l->∀t k p,(t,TV.loc k p)∈l->k∈ks
 | [],_,_,_,_,h=>by simp at h
 | (t',v)::r,hl,t,k,p,h=>by
  rcases List.mem_cons.1 h with h|h
  ·cases h;exact hl.1
  ·have hr:qF ks r:=by
    cases v with
    | loc k' p'=>exact hl.2
    | _=>exact hl
   exact zaH hr t k p h

def zdK (a:Option (TyD × AV)) (b:TyD × AV):Prop:=match a with
 | some (d,x)=>d=b.1/\XP x b.2
 | none=>False
theorem zfZ {x y:AV} (h:XP x y):leA x y:=by
 rcases h with rfl|⟨k,v,xs,rfl,rfl⟩|h
 ·simp
 ·simp[leA]
 ·exact h

theorem Le.ofH {s:St} {l:List (Nat × TV)} {ls:List (Nat × (TyD × AV))} {ver:Nat->Nat} {H:q8} {dfs:List Nat} (he:∀p∈l,zA (s.env p.1) p.2) (hl:∀p∈ls,zdK (s.loc p.1) p.2)
  (hp:qF (ls.map (·.1)) l) (hv:∀k,s.ver k<=ver k) (hH:HLe H s.H) (hd:s.dfs=dfs:=by rfl):Le s (St.of l ls ver H dfs):=by
 refine⟨fun t=>?_,fun k=>?_,hv,hH,hd.symm⟩
 ·rcases zeD (z:=TV.junk) (l:=l) (t:=t)with h|h
  ·exact .inl h
  ·right
   have h':=he _ h
   show lk .junk l t=s.env t\/_
   simp only at h'
   unfold zA at h'
   split at h'
   ·rename_i d x hb
    show lk .junk l t=s.env t\/(∃d k v xs,lk .junk l t=.av d (.sl (.own k v) xs)/\co d (s.env t)=some (.sl .full xs))\/∃d x y,lk .junk l t=.av d y/\co d (s.env t)=some x/\leA x y
    split at h'
    ·rename_i d' y ha
     obtain⟨rfl,h'⟩:=h'
     rcases h' with rfl|⟨k,v,xs,rfl,rfl⟩|h'
     ·simp_all
     ·simp_all[co]
     ·right;right;exact⟨d',y,x,hb,by simp_all[co],h'⟩
    ·rename_i v ha
     obtain⟨y,h1,h2⟩:=h'
     rcases h2 with rfl|⟨k,u,xs,rfl,rfl⟩|h2
     ·right;right;exact⟨d,x,x,hb,by rw[ha];exact h1,QY x⟩
     ·right;left;exact⟨d,k,u,xs,hb,by rw[ha];exact h1⟩
     ·right;right;exact⟨d,y,x,hb,by rw[ha];exact h1,h2⟩
    simp_all
   simp_all
 ·rcases zeD (z:=(none:Option (TyD × AV))) (l:=ls.map fun p=>(p.1,some p.2)) (t:=k)with h|h
  ·by_cases hk:k∈ls.map (·.1)
   ·-- then it is there
    exfalso
    have key:∀(ls:List (Nat × (TyD × AV))),k∈ls.map (·.1)->lk none (ls.map fun p=>(p.1,some p.2)) k≠none:=by
     intro ls
     induction ls with
     | nil=>simp
     | cons x r ih =>
      grind [lk]
    simp_all
   ·right
    refine⟨h,fun t p e=>hk ?_⟩
    rcases zeD (z:=TV.junk) (l:=l) (t:=t)with h1|h1
    ·simp_all[St.of]
    ·have h2:(St.of l ls ver H dfs).env t=lk .junk l t:=rfl
     grind [zaH]
  ·left
   simp only[St.of]
   obtain⟨p,hp1,hp2⟩:=List.mem_map.1 h
   simp only[Prod.mk.injEq]at hp2
   have h1:=hl p hp1
   unfold zdK at h1
   cases hs:s.loc p.1 with
   | none=>simp_all
   | some dx =>
    rw[hs]at h1
    obtain⟨h2,h3⟩:=h1
    refine⟨p.2.1,dx.2,p.2.2,?_,?_,zfZ h3⟩
    ·grind
    simp_all

theorem Le.ofP {s:St} {l:List (Nat × TV)} {ls:List (Nat × (TyD × AV))} {ver:Nat->Nat} {H:q8} {dfs:List Nat} (he:∀p∈l,zA (s.env p.1) p.2) (hl:∀p∈ls,zdK (s.loc p.1) p.2)
  (hp:qF (ls.map (·.1)) l) (hv:∀k,s.ver k<=ver k) (hH:HSub H s.H) (hd:s.dfs=dfs:=by rfl):Le s (St.of l ls ver H dfs):=Le.ofH he hl hp hv (HLe.of_sub hH) hd
theorem Le.ofW {s:St} {l:List (Nat × TV)} {ls:List (Nat × (TyD × AV))} {ver:Nat->Nat} {H:q8} {dfs:List Nat} (he:∀p∈l,zA (s.env p.1) p.2) (hl:∀p∈ls,zdK (s.loc p.1) p.2)
  (hp:qF (ls.map (·.1)) l) (hv:∀k,s.ver k<=ver k) (hH:leH s.H H) (hd:s.dfs=dfs:=by rfl):Le s (St.of l ls ver H dfs):=Le.ofH he hl hp hv ⟨s.H,HSub.refl _,hH⟩ hd
theorem zep {H:q8}:leH [] H=(H=[]):=nr rfl
theorem zbz {b b':Nat} {o o':HObj} {r r':q8}:leH ((b,o)::r) ((b',o')::r')=(b'=b/\leO o o'/\leH r r'):=nr rfl
theorem zev {d d':TyD} {x y:AV}:leO (.var d x) (.var d' y)=(d'=d/\leA x y):=nr rfl
theorem ze3 {ps qs:List AV}:leA (.agg ps) (.agg qs)=KJ ps qs:=nr rfl
theorem zmf {k k':IntKind} {n n':Int}:leA (.i k n) (.i k' n')=(k'=k/\n'=n):=by simp[leA]
theorem zhD {t:Tok} {xs ys:List AV}:leA (.sl t xs) (.sl .no ys)=(ys=xs\/KJ xs ys):=by
 simp_all[leA]
theorem zeq {k v:Nat} {xs ys:List AV}:leA (.sl (.own k v) xs) (.sl (.own k v) ys)=(ys=xs\/KJ xs ys):=by
 simp_all[leA]
theorem dC {x y:AV} {xs ys:List AV}:KJ (x::xs) (y::ys)=(leA x y/\KJ xs ys):=nr rfl
theorem zb7 {ys:List AV}:KJ [] ys=(ys=[]):=nr rfl

theorem Le.of {s:St} {l:List (Nat × TV)} {ls:List (Nat × (TyD × AV))} {ver:Nat->Nat} {H:q8} {dfs:List Nat} (he:∀p∈l,zA (s.env p.1) p.2) (hl:∀p∈ls,zdK (s.loc p.1) p.2)
  (hp:qF (ls.map (·.1)) l) (hv:∀k,s.ver k<=ver k) (hH:H.Sublist s.H) (hd:s.dfs=dfs:=by rfl):Le s (St.of l ls ver H dfs):=Le.ofP he hl hp hv (HSub.of_sub hH) hd

theorem G6 {P:Program} {s:St} {g:FuncId} {caps:List AV} {cs:List TV} {args:List TV} {dst:Option Nat} {K:St->Prop} {r:TV} (hc:caps.mapM J0=some cs) (ha:args.all qI=true) (hf:qR P g=true)
  (h:PC P g ((args++cs).map TV.er) r) (hk:K (s.put dst r)):JD P s (.av .func (.fn g caps)) args dst K:=by
 unfold JD
 simp only[hc]
 refine⟨ha,hf,[],s.H,_,by simp,h,?_⟩
 rintro r' H' ⟨rfl,rfl⟩ _
 exact⟨s.H,HSub.refl _,hk⟩

theorem q7.mono {P:Program} {f:FuncId} {args:List TV} {H:q8} {R R':TV->q8->Prop} (h:q7 P f args H R) (hr:∀r H',R r H'->R' r H'):q7 P f args H R' :=
 fun imm w vs h1 h2=>(h imm w vs h1 h2).mono fun e w' ⟨v,r,imm',H',a,b,c⟩=>⟨v,r,imm',H',a,hr _ _ b,c⟩

theorem q7.drop {P:Program} {f:FuncId} {args:List TV} {H:q8} {R R':TV->q8->Prop} (h:q7 P f args H R) (hr:∀r H',R r H'->∃H'':q8,H''.Sublist H'/\R' r H''):q7 P f args H R' :=
 fun imm w vs h1 h2=>(h imm w vs h1 h2).mono fun e w' ⟨v,r,imm',H',a,b,c,d,st⟩=>by
  obtain⟨H'',hs,hR⟩:=hr _ _ b
  have hk:∀b,b∈H''.keys->b∈H'.keys:=fun b hb=>(hs.map _).subset hb
  exact⟨v,r,imm',H'',a,hR,c,⟨d.imm,(hs.map _).nodup d.nodup,fun b o ho=>d.obj b o (hs.subset ho),d.tab⟩,⟨st.os,st.tape,st.output,st.size,st.frame,st.imm,st.kept,fun b hb=>st.dom b (hk b hb),st.drawn⟩⟩
theorem PC.of {P:Program} {f:FuncId} {args:List TV} {r:TV} (h:q7 P f args [] fun r' _=>r'=r):PC P f args r:=h.drop fun _ _ e=>⟨[],List.nil_sublist _,e,rfl⟩

def qM:List TV->List TV->Prop
 | [],[]=>True
 | a::r,b::r'=>(a=b\/match a with
  | .cst c=>match b with
   | .av d x=>∃y,coC d c=some y/\y.er=x
   | _=>False
  | _=>False)/\qM r r'
 | _,_=>False
theorem zdA {P:Program} {imm:Nat->Nat} {w:World}:∀ {as bs:List TV} {vs:List Value},qM as bs->ARs P (g0 imm) w as vs->ARs P (g0 imm) w bs vs
 | [],[],_,_,h=>h
 | [],_::_,_,h,_=>h.elim
 | _::_,[],_,h,_=>h.elim
 | a::r,b::r',[],_,h=>h.elim
 | a::r,b::r',v::vs,hle,h=>by
  obtain⟨h1,h2⟩:=hle
  refine⟨?_,zdA h2 h.2⟩
  rcases h1 with rfl|h1
  ·exact h.1
  ·cases a with
   | cst c =>
    cases b with
    | av d x =>
     obtain⟨y,e1,rfl⟩:=h1
     have hv:v=c:=h.1
     subst hv
     have:=zmS (zj6 (P:=P) (g:=g0 imm) (w:=w) e1)
     exact this
    | _=>exact h1.elim
   | _=>exact h1.elim
theorem q7.args {P:Program} {f:FuncId} {as bs:List TV} {H:q8} {R:TV->q8->Prop} (h:q7 P f bs H R) (hle:qM as bs):q7 P f as H R :=
 fun imm w vs h1 h2=>h imm w vs h1 (zdA hle h2)

theorem zi1 {P:Program} {s:St} {g:FuncId} {caps:List AV} {cs:List TV} {args:List TV} {dst:Option Nat} {K:St->Prop} {r:TV} (hc:caps.mapM J0=some cs) (ha:args.all qI=true) (hf:qR P g=true)
  (h:PC P g ((args++cs).map TV.er) r) (hk:K (s.put dst r)):cB P s (.av .func (.fn g caps)) args dst K:=by
 unfold cB
 grind
theorem GW {P:Program} {s:St} {g:FuncId} {caps:List AV} {cs:List TV} {args bs:List TV} {dst:Option Nat} {K:St->Prop} {r:TV} (Hs rest:q8) (hp:s.H.Perm (Hs++rest)) (h:q7 P g bs Hs.er fun r' H'=>r'=r/\H'=Hs) (hc:caps.mapM J0=some cs) (ha:args.all qI=true) (hf:qR P g=true)
  (hle:qM ((args++cs).map TV.er) bs) (hk:K (s.put dst r)):cB P s (.av .func (.fn g caps)) args dst K:=by
 unfold cB
 simp only[hc]
 exact⟨ha,hf,r,.inr ⟨Hs,rest,hp,h.args hle⟩,hk⟩

theorem y9 {P:Program} {s:St} {g:FuncId} {caps:List AV} {cs:List TV} {args bs:List TV} {dst:Option Nat} {K:St->Prop} {r:TV} (h:PC P g bs r) (hc:caps.mapM J0=some cs) (ha:args.all qI=true) (hf:qR P g=true)
  (hle:qM ((args++cs).map TV.er) bs) (hk:K (s.put dst r)):cB P s (.av .func (.fn g caps)) args dst K:=zi1 hc ha hf (h.args hle) hk
theorem qG {P:Program} {s:St} {g:FuncId} {caps:List AV} {cs:List TV} {args bs:List TV} {dst:Option Nat} {K:St->Prop} {r:TV} (h:PC P g bs r) (hc:caps.mapM J0=some cs) (ha:args.all qI=true) (hf:qR P g=true)
  (hle:qM ((args++cs).map TV.er) bs) (hk:K (s.put dst r)):JD P s (.av .func (.fn g caps)) args dst K:=G6 hc ha hf (h.args hle) hk

theorem wZ {P:Program} {s:St} {g:FuncId} {caps:List AV} {cs:List TV} {args:List TV} {dst:Option Nat} {K:St->Prop} {R:TV->q8->Prop} (hc:caps.mapM J0=some cs) (ha:args.all qI=true) (hf:qR P g=true)
  (h:q7 P g ((args++cs).map TV.er) s.H.er R) (hk:∀r H',R r H'->K (({ s with H:=H' }:St).put dst r)):JD P s (.av .func (.fn g caps)) args dst K:=by
 unfold JD
 simp only[hc]
 exact⟨ha,hf,s.H,[],R,by simp,h,fun r H' hR _=>⟨H',by simp[HSub.refl],hk r H' hR⟩⟩

theorem qD {P:Program} {s:St} {g:FuncId} {caps:List AV} {cs:List TV} {args:List TV} {dst:Option Nat} {K:St->Prop} {R:TV->q8->Prop} (Hs rest:q8) (hp:s.H.Perm (Hs++rest)) (hc:caps.mapM J0=some cs) (ha:args.all qI=true) (hf:qR P g=true)
  (h:q7 P g ((args++cs).map TV.er) Hs.er R) (hk:∀r H',R r H'->(H'++rest).keys.Nodup->∃H'',HSub H'' (H'++rest)/\K (({ s with H:=H'' }:St).put dst r)):JD P s (.av .func (.fn g caps)) args dst K:=by
 unfold JD
 grind
theorem zo9 {P:Program} {s:St} {g:FuncId} {fs:List AV} {cs:List TV} {args:List TV} {dst:Option Nat} {K:St->Prop} {R:TV->q8->Prop} (Hs rest:q8) (hp:s.H.Perm (Hs++rest)) (hc:fs.mapM J0=some cs) (ha:args.all qI=true) (hf:qR P g=true)
  (h:q7 P g ((cs++args).map TV.er) Hs.er R) (hk:∀r H',R r H'->(H'++rest).keys.Nodup->∃H'',HSub H'' (H'++rest)/\K (({ s with H:=H'' }:St).put dst r)):JD P s (.av .func (.bm g fs)) args dst K:=by
 unfold JD
 grind
theorem q7.nodup {P:Program} {f:FuncId} {args:List TV} {H:q8} {R:TV->q8->Prop} (h:H.keys.Nodup->q7 P f args H R):q7 P f args H R :=
 fun imm w vs h1 h2=>h h1.nodup imm w vs h1 h2
theorem q7.sub {P:Program} {f:FuncId} {args:List TV} {H:q8} {R R':TV->q8->Prop} (h:q7 P f args H R) (hr:∀r H',R r H'->H'.keys.Nodup->∃H'':q8,HSub H'' H'/\R' r H''):q7 P f args H R' :=
 fun imm w vs h1 h2=>(h imm w vs h1 h2).mono fun e w' ⟨v,r,imm',H',a,b,c,d,st⟩=>by
  obtain⟨H'',hs,hR⟩:=hr _ _ b d.nodup
  exact⟨v,r,imm',H'',a,hR,c,⟨d.imm,hs.nodup d.nodup,fun b o ho=>d.obj b o (hs.subset ho),d.tab⟩,⟨st.os,st.tape,st.output,st.size,st.frame,st.imm,st.kept,fun b hb=>st.dom b (hs.keys hb),st.drawn⟩⟩

/-! ### loops, with what comes later out of sight -/
theorem AT.loop' {c:Ctx} {body:Code} {K:Exit->St->Prop} {s:St} {α:Type} (head:α->St) (inv:α->Prop) (μ:α->Nat) (x0:α) (h0:Le s (head x0)) (hi:inv x0)
  (round:∀x,inv x->∀KL:Exit->St->Prop,(∀s x',Le s (head x')->inv x'->μ x'<μ x->KL .normal s)->(∀e s,e≠.normal->K e s->KL e s)->AT c body KL (head x)):AT c (.loop body) K s :=
 AT.loop head inv μ x0 h0 hi fun x hx=>round x hx _ (fun s x' h1 h2 h3=>⟨x',h1,h2,h3⟩) (fun e s he hk=>by cases e<;>first|exact absurd rfl he|exact hk)

theorem AT.loopV {c:Ctx} {body:Code} {K:Exit->St->Prop} {s:St} {α:Type} (head:α->(Nat->Nat)->St) (inv:α->Prop) (μ:α->Nat) (x0:α) (h0:Le s (head x0 s.ver)) (hi:inv x0)
  (round:∀x ver,inv x->∀KL:Exit->St->Prop,(∀s x',Le s (head x' s.ver)->inv x'->μ x'<μ x->KL .normal s)->(∀e s,e≠.normal->K e s->KL e s)->AT c body KL (head x ver)):AT c (.loop body) K s :=
 AT.loop' (fun x:α × (Nat->Nat)=>head x.1 x.2) (fun x=>inv x.1) (fun x=>μ x.1) (x0,s.ver) h0 hi
  fun x hx KL hN hE=>round x.1 x.2 hx KL (fun s x' h1 h2 h3=>hN s (x',s.ver) h1 h2 h3) hE

theorem vc.loop {c:Ctx} {cf:Cfg} {body:Code} {K:Exit->St->Prop} {s:St} (h:AT c (.loop body) K s):vc c cf (.loop body) K s:=h

/-! ### the steps, as equations that look no further ahead than they must -/
theorem ztu {p:Prop} [Decidable p] {A B:Prop}:(if p then A else B)=((p->A)/\(¬p->B)):=by
 grind
theorem zl6 {v:Bool} {A B:Prop}:((v=true->A)/\(v=false->B))=(if v=true then A else B):=by grind
theorem dD {v w:Option Bool} {A B:Prop}:((v=w->A)/\(v≠w->B))=(if v=w then A else B):=by grind
theorem zmX {x y:AV}:PG x [] y=y:=by rfl
theorem zmB {ps:List AV} {i:Nat} {y:AV}:PG (.agg ps) [i] y=.agg (ps.set i y):=by
 grind [PG,List.set_eq_of_length_le]
def zqR (x:Option AV) (p:List Nat) (y:AV):AV:=match x with
 | some x=>PG x p y
 | none=>.nilfn
theorem zhM {x:AV} {p:List Nat} {y:AV}:zqR (some x) p y=PG x p y:=nr rfl
theorem znF {ps:List AV} {i j:Nat} {p:List Nat} {y:AV}:PG (.agg ps) (i::j::p) y=.agg (ps.set i (zqR ps[i]? (j::p) y)):=nr rfl
theorem qJ {α:Type} {z:α} {t:Nat}:lk z [] t=z:=nr rfl
theorem zpF {α:Type} {z:α} {k t:Nat} {v:α} {r:List (Nat × α)}:lk z ((k,v)::r) t=if t=k then v else lk z r t:=nr rfl
theorem zm7:gB (.cst (.tuple #[]))=some none:=nr rfl
theorem zrX {x:Bool}:gB (.av .bool (.b x))=some (some x):=nr rfl
theorem zri {x:Bool}:gB (.cst (.bool x))=some (some x):=nr rfl
theorem zq0 {c:Ctx} {cf:Cfg} {K:Exit->St->Prop} {s:St}:vc c cf .skip K s=K .normal s:=nr rfl
theorem zmg {c:Ctx} {cf:Cfg} {K:Exit->St->Prop} {s:St} {l:Nat}:vc c cf (.label l) K s=K .normal s:=nr rfl
theorem zjY {c:Ctx} {cf:Cfg} {K:Exit->St->Prop} {s:St} {id:Nat} {ops:Array Oper}:vc c cf (.region id ops false) K s=gW c.P cf ops (K .normal) ops.toList s:=nr rfl
theorem zmd {c:Ctx} {cf:Cfg} {K:Exit->St->Prop} {s:St} {id:Nat} {ops:Array Oper}:vc c cf (.region id ops true) K s=if cf.mtb (1000000+id)=true then kI c.P cf ops (K .normal) s else if ops.toList.all (fun o=>(gD o).isNone&&!zac o) then p9 c.P ops (K .normal) ops.toList s else UF c.P cf ops (zf9 cf id ops (K .normal)) 0 ops.toList s:=nr rfl
theorem zqZ {c:Ctx} {cf:Cfg} {K:Exit->St->Prop} {s:St} {x y:Code}:vc c cf (.seq x y) K s=vc c cf x (zaR (vc c cf y K) K) s:=nr rfl
theorem zq2 {c:Ctx} {cf:Cfg} {K:Exit->St->Prop} {s:St} {b:Operand} {x y:Code}:vc c cf (.cond b x y) K s=match asB (ev s b)with
  | some v=>if v=true then vc c cf x K s else vc c cf y K s
  | none=>False:=by
 show (match asB (ev s b)with|some v=>(v=true->vc c cf x K s)/\(v=false->vc c cf y K s)|none=>False)=_
 grind
theorem znO {c:Ctx} {cf:Cfg} {K:Exit->St->Prop} {s:St} {id:Nat} {x:Code}:vc c cf (.block id x) K s=vc c cf x (GT id K) s:=nr rfl
theorem zpH {c:Ctx} {cf:Cfg} {K:Exit->St->Prop} {s:St} {id:Nat}:vc c cf (.exit id) K s=K (.exit id) s:=nr rfl
theorem zq6 {c:Ctx} {cf:Cfg} {K:Exit->St->Prop} {s:St} {id:Nat}:vc c cf (.goto id) K s=K (.goto id) s:=nr rfl
theorem zrL {c:Ctx} {cf:Cfg} {K:Exit->St->Prop} {s:St}:vc c cf .ret K s=K .ret s:=nr rfl
theorem zpP {c:Ctx} {cf:Cfg} {K:Exit->St->Prop} {s:St} {x:Code}:vc c cf (.loop x) K s=AT c (.loop x) K s:=nr rfl
theorem znQ {c:Ctx} {cf:Cfg} {K:Exit->St->Prop} {s:St} {x:Code}:vc c cf (.scope x) K s=vc c cf x (zb5 K) s:=nr rfl
theorem zkD {P:Program} {cf:Cfg} {ops:Array Oper} {K:St->Prop} {s:St}:gW P cf ops K [] s=K s:=nr rfl
theorem ziF {P:Program} {cf:Cfg} {ops:Array Oper} {K:St->Prop} {s:St} {o:Oper} {r:List Oper}:gW P cf ops K (o::r) s=vcG P cf ops s o (gW P cf ops K r):=nr rfl
theorem zr3 {P:Program} {cf:Cfg} {ops:Array Oper} {s:St} {o:Oper} {K:St->Prop}:vcG P cf ops s o K=match o.guard with
  | none=>yQ P cf s o K
  | some (j,want)=>match (ops[j]?).bind (·.dst)with
   | some t=>match gB (s.env t)with
    | some b=>if b=some want then yQ P cf s o K else K (s.put o.dst (.cst undef))
    | none=>False
   | none=>False:=by simp only[vcG,dD]<;>rfl
theorem zmT {P:Program} {c x y:TV} {K:TV->Prop}:zds P c x y K=match asB c with
  | none=>False
  | some b=>match asB x,asB y with
   | some p,some q=>K (.av .bool (.b (if b then p else q)))
   | _,_=>if b=true then K x else K y:=by simp only[zds,zl6]<;>rfl
theorem zn4 {P:Program} {ops:Array Oper} {K:St->Prop} {s:St}:p9 P ops K [] s=K s:=nr rfl
theorem zlB {P:Program} {ops:Array Oper} {K:St->Prop} {s:St} {o:Oper} {r:List Oper}:p9 P ops K (o::r) s=match o.guard with
  | none=>zQ P s o.op (Y6 s o.dst (p9 P ops K r))
  | some (j,want)=>match (ops[j]?).bind (·.dst)with
   | some t=>match gB (s.env t)with
    | some b=>if b=some want then zQ P s o.op (Y6 s o.dst (p9 P ops K r)) else p9 P ops K r (s.put o.dst (.cst undef))
    | none=>False
   | none=>False:=by simp only[p9,dD]<;>rfl
def rdT (ops:Array Oper) (i:Nat):TV->Bool
 | .loc k _=>rdJ ops i k 0 ops.toList
 | _=>true
def rdL (ops:Array Oper) (i:Nat) (s:St):List Nat->Bool
 | []=>true
 | t::r=>rdT ops i (s.env t)&&rdL ops i s r
theorem zqm {ops:Array Oper} {i:Nat} {s:St}:rdL ops i s []=true:=nr rfl
theorem zg5 {ops:Array Oper} {i:Nat} {s:St} {t:Nat} {r:List Nat}:rdL ops i s (t::r)=(rdT ops i (s.env t)&&rdL ops i s r):=nr rfl
theorem zru {ops:Array Oper} {i:Nat} {d:TyD} {x:AV}:rdT ops i (.av d x)=true:=nr rfl
theorem zpO {ops:Array Oper} {i:Nat} {v:Value}:rdT ops i (.cst v)=true:=nr rfl
theorem zqk {ops:Array Oper} {i:Nat} {d:TyD} {x:AV}:rdT ops i (.pel d x)=true:=nr rfl
theorem zpT {ops:Array Oper} {i:Nat} {xs:List (TyD × AV)}:rdT ops i (.tup xs)=true:=nr rfl
theorem znA {ops:Array Oper} {i:Nat}:rdT ops i .junk=true:=nr rfl
theorem zoZ {ops:Array Oper} {i k:Nat} {p:List Nat}:rdT ops i (.loc k p)=rdJ ops i k 0 ops.toList:=nr rfl
def rdO (ops:Array Oper) (i:Nat) (s:St):List Operand->Bool
 | []=>true
 | .tmp t::r=>rdT ops i (s.env t)&&rdO ops i s r
 | _::r=>rdO ops i s r
theorem zqg {ops:Array Oper} {i:Nat} {s:St}:rdO ops i s []=true:=nr rfl
theorem zje {ops:Array Oper} {i:Nat} {s:St} {t:Nat} {r:List Operand}:rdO ops i s (.tmp t::r)=(rdT ops i (s.env t)&&rdO ops i s r):=nr rfl
theorem zcF {ops:Array Oper} {i:Nat} {s:St} {v:Value} {r:List Operand}:rdO ops i s (.const v::r)=rdO ops i s r:=nr rfl
theorem zbA {ops:Array Oper} {i:Nat} {s:St} {v:Nat} {r:List Operand}:rdO ops i s (.global v::r)=rdO ops i s r:=nr rfl
theorem zfE {ops:Array Oper} {i:Nat} {s:St} {v:FuncId} {r:List Operand}:rdO ops i s (.func v::r)=rdO ops i s r:=nr rfl
theorem ziY {ops:Array Oper} {i:Nat} {s:St} {b:List Nat}:∀ {a:List Nat},rdL ops i s (a++b)=(rdL ops i s a&&rdL ops i s b)
 | []=>by simp[rdL]
 | t::r=>by simp[rdL,ziY,Bool.and_assoc]
theorem pF {ops:Array Oper} {i:Nat} {s:St}:∀ {a:List Operand},rdL ops i s (a.filterMap fun|.tmp t=>some t|_=>none)=rdO ops i s a
 | []=>rfl
 | .tmp t::r=>by rw[zje,<-pF];rfl
 | .const _::r=>by simp[zcF,pF]
 | .global _::r=>by simp[zbA,pF]
 | .func _::r=>by simp[zfE,pF]
theorem zoT {ops:Array Oper} {i:Nat} {o:Oper} {s:St}:x6 ops i o s=(rdO ops i s o.op.operands.toList&&rdL ops i s (match o.guard with
  | some (g,_)=>((ops[g]?).bind (·.dst)).toList
  | none=>[])):=by
 rw[<-pF,<-ziY]
 unfold x6
 show (o.looksAt ops).all _=rdL ops i s (o.looksAt ops)
 generalize o.looksAt ops=l
 induction l with
 | nil=>rfl
 | cons t r ih =>
  rw[List.all_cons,zg5,ih]
  congr 1
theorem zop {P:Program} {cf:Cfg} {ops:Array Oper} {K:St->Prop} {k:Nat} {s:St}:UF P cf ops K k [] s=K s:=nr rfl
theorem zkx {P:Program} {cf:Cfg} {ops:Array Oper} {K:St->Prop} {k:Nat} {s:St} {o:Oper} {r:List Oper}:UF P cf ops K k (o::r) s=(if zi8 o=true then vcG P cf ops s o (UF P cf ops K (k+1) r) else if mkd cf o=true then GO ops k=true/\vcG P cf ops s o (UF P cf ops K (k+1) r) else x6 ops k o s=true/\match o.guard with
  | none=>vcD P cf s o (UF P cf ops K (k+1) r)
  | some (j,want)=>match (ops[j]?).bind (·.dst)with
   | some t=>match gB (s.env t)with
    | some b=>if b=some want then vcD P cf s o (UF P cf ops K (k+1) r) else UF P cf ops K (k+1) r (s.put o.dst (.cst undef))
    | none=>False
   | none=>False):=by simp only[UF,dD]<;>rfl
theorem zlG {P:Program} {cf:Cfg} {ops:Array Oper} {Lt:LtK} {K:St->Prop} {s:St}:uY P cf ops Lt K [] s=K s:=nr rfl
theorem zkR {P:Program} {cf:Cfg} {ops:Array Oper} {Lt:LtK} {K:St->Prop} {k:Nat} {r:List Nat} {s:St}:uY P cf ops Lt K (k::r) s=match ops[k]? with
  | none=>False
  | some o=>if Lt.l.contains k=true then(if zqj o.op=true then o.guard=none/\x6 ops k o s=true/\vcD P cf s o (uY P cf ops Lt K r) else isLt Lt.kb s o=true/\x6 ops k o s=true/\zQ P s o.op (Y6 s o.dst (uY P cf ops Lt K r)))
   else if sft cf o=true then PO ops k r=true/\zlL ops Lt k=true/\vE P cf s o Lt.kb (uY P cf ops Lt K r)
   else if zi8 o=true then GO ops k=true/\vcG P cf ops s o (uY P cf ops Lt K r)
   else if mkd cf o=true then GO ops k=true/\vcG P cf ops s o (uY P cf ops Lt K r)
   else x6 ops k o s=true/\o.guard=none/\vcD P cf s o (uY P cf ops Lt K r):=nr rfl
theorem HObj.er_var {d:TyD} {x:AV}:(HObj.var d x).er=.var d x.erk:=nr rfl
theorem HObj.er_map {k e:TypeId} {es:List (AV × AV)}:(HObj.map k e es).er=.map k e (es.map fun p=>(p.1.er,p.2.er)):=nr rfl
theorem q8.er_nil:q8.er []=[]:=nr rfl
theorem q8.er_cons {b:Nat} {o:HObj} {H:q8}:q8.er ((b,o)::H)=(b,o.er)::H.er:=nr rfl
theorem q8.er_app {H K:q8}:q8.er (H++K)=H.er++K.er:=by simp[q8.er]
theorem q8.keys_nil:q8.keys []=[]:=nr rfl
theorem q8.keys_cons {b:Nat} {o:HObj} {H:q8}:q8.keys ((b,o)::H)=b::H.keys:=nr rfl
theorem q8.keys_app {H K:q8}:q8.keys (H++K)=H.keys++K.keys:=by simp[q8.keys]
theorem zpU {s:St} {dst:Option Nat} {K:St->Prop} {tv:TV}:Y6 s dst K tv=K (s.put dst tv):=nr rfl
theorem zrH {k:St->Prop} {K:Exit->St->Prop} {s:St}:zaR k K .normal s=k s:=nr rfl
theorem zr8 {k:St->Prop} {K:Exit->St->Prop} {s:St} {i:Nat}:zaR k K (.exit i) s=K (.exit i) s:=nr rfl
theorem zrz {k:St->Prop} {K:Exit->St->Prop} {s:St} {i:Nat}:zaR k K (.goto i) s=K (.goto i) s:=nr rfl
theorem zr2 {k:St->Prop} {K:Exit->St->Prop} {s:St}:zaR k K .ret s=K .ret s:=nr rfl
theorem zmO {i:Nat} {K:Exit->St->Prop} {s:St}:GT i K .normal s=K .normal s:=nr rfl
theorem znN {i j:Nat} {K:Exit->St->Prop} {s:St}:GT i K (.exit j) s=if j=i then K .normal s else K (.exit j) s:=nr rfl
theorem zmw {i j:Nat} {K:Exit->St->Prop} {s:St}:GT i K (.goto j) s=K (.goto j) s:=nr rfl
theorem zm0 {i:Nat} {K:Exit->St->Prop} {s:St}:GT i K .ret s=K .ret s:=nr rfl
theorem zmG {K:Exit->St->Prop} {s:St}:zb5 K .normal s=K .normal s:=nr rfl
theorem zm4 {j:Nat} {K:Exit->St->Prop} {s:St}:zb5 K (.exit j) s=K (.exit j) s:=nr rfl
theorem znn {K:Exit->St->Prop} {s:St}:zb5 K .ret s=K .ret s:=nr rfl
theorem zr4 {P:Program} {fn:Func} {R:TV->q8->Prop} {s:St}:zer P fn R .ret s=YD P s fn.results.toList fn.resultTypes.toList fun xs=>R (UY xs).er s.H.er:=nr rfl
theorem zrJ {P:Program} {fn:Func} {R:TV->q8->Prop} {s:St}:zer P fn R .normal s=YD P s fn.results.toList fn.resultTypes.toList fun xs=>R (UY xs).er s.H.er:=nr rfl
def pD:TV->TV
 | .av d x=>.av d x.er
 | .cst v=>.cst v
 | _=>.junk
theorem zrg {P:Program} {s s':St} {g:Gh} {w:World} {β β':Nat->Nat} {tv:TV} {v:Value} (h:TVR P s g w β tv v):TVR P s' (g0 g.imm) w β' (pD tv) v:=by
 cases tv with
 | av d x=>exact⟨h.1,uD _ _ _ h.2⟩
 | cst c=>exact h
 | _=>trivial
theorem zo8 {P:Program} {s s':St} {i0 imm:Nat->Nat} {w0 w:World} {β β':Nat->Nat} {tv:TV} {v:Value} (hi:ZI (g0 i0) w0) (hl:zjh i0 w0 imm w) (h:TVR P s (g0 i0) w0 β (pD tv) v):TVR P s' (g0 imm) w β' (pD tv) v:=by
 have hle:(g0 i0).le (g0 imm):=⟨hl.1,fun _ _ _ e=>by cases e⟩
 have hk:jP (g0 i0) w0 w:=fun b cs E fz h0 hb=>hl.2 b cs E fz h0 hb
 cases tv with
 | av d x=>exact WB hle hi hk h
 | cst c=>exact h
 | _=>trivial

structure zlZ (P:Program) (n:Nat) (E:Nat->TV) (r:Loop) (i0:Nat->Nat) (w0:World):Prop where
 size:r.tmps.size=n
 imm:ZI (g0 i0) w0
 env:∀t s β,TVR P s (g0 i0) w0 β (pD (E t)) (r.tmps.getD t undef)

def Z5 (E:Nat->TV):List (Nat × TV)->Nat->TV
 | []=>E
 | (p,x)::r=>Z5 (upd E p x) r

theorem pG {P:Program} {n:Nat} {s:St} {g:Gh} {w:World} {β:Nat->Nat}:∀(l:List (Nat × TV)) (vs:List Value) (E:Nat->TV) (tmps:Array Value),l.length=vs.length->(∀p∈l,p.1<n)->tmps.size=n->
  (∀t,TVR P s g w β (E t) (tmps.getD t undef))->(∀(i:Nat) p v,l[i]?=some p->vs[i]?=some v->TVR P s g w β p.2 v)->
  ((l.map (·.1)).zip vs |>.foldl (fun t p=>t.setIfInBounds p.1 p.2) tmps).size=n/\∀t,TVR P s g w β (Z5 E l t) (((l.map (·.1)).zip vs |>.foldl (fun t p=>t.setIfInBounds p.1 p.2) tmps).getD t undef)
 | [],vs,E,tmps,_,_,hn,hE,_=>by simp_all[Z5]
 | (p,x)::r,[],E,tmps,hl,_,_,_,_=>by simp at hl
 | (p,x)::r,v::vs,E,tmps,hl,hp,hn,hE,hx=>by
  have h0:=hx 0 (p,x) v rfl rfl
  have hpn:p<n:=hp (p,x) (by simp)
  have:=pG (P:=P) (n:=n) (s:=s) (g:=g) (w:=w) (β:=β) r vs (upd E p x) (tmps.setIfInBounds p v) (by simp_all) (fun q hq=>hp q (by simp[hq])) (by simp_all)
   (fun t=>by
    simp only[upd,Array.getD_eq_getD_getElem?]
    by_cases e:t=p
    ·simp_all
    simp_all[Ne.symm])
   (fun i q u h1 h2=>hx (i+1) q u (by simp_all) (by simp_all))
  assumption

def gJ (l:Nat) (i0:Nat->Nat) (w0:World) (R:TV->q8->Prop) (jump:Option Code) (s:St):Prop :=
 ∃rb:Loop,k8 s.H l=some (.lrec rb i0 w0)/\R (.av .bool (.b jump.isNone)) (q8.er (jW s.H l (.lrec { rb with state:=if jump.isNone then .ready else .done,pending:=jump } i0 w0)))
def X4 (l:Nat) (i0:Nat->Nat) (w0:World) (R:TV->q8->Prop):Exit->St->Prop
 | .normal,s=>gJ l i0 w0 R none s
 | .ret,s=>gJ l i0 w0 R (some .ret) s
 | .exit id,s=>gJ l i0 w0 R (some (.exit id)) s
 | _,_=>False
def KNo:Exit->St->Prop:=fun _ _=>False

def JA (E:Nat->TV) (ps:List Nat) (args:List TV) (H:q8):St :=
 { env:=Z5 (fun t=>pD (E t)) (ps.zip args),loc:=fun _=>none,ver:=fun _=>0,H:=H }

theorem YC.of_round {P:Program} {n:Nat} {E:Nat->TV} {r:Loop} {i0:Nat->Nat} {w0:World} {l:Nat} (hrec:zlZ P n E r i0 w0) (hready:r.state=.ready) {args:List TV} {H:q8} {R:TV->q8->Prop}
  (hps:r.params.size=args.length) (hpn:∀p∈r.params.toList,p<n)
  (hat:∀imm w,AT ⟨P,n,imm,(l,.lrec r i0 w0)::H,w,some l,[]⟩ r.assign
   (zaR (fun s=>k8 s.H l=some (.lrec r i0 w0)/\AT ⟨P,n,imm,(l,.lrec r i0 w0)::H,w,some l,[]⟩ r.body (X4 l i0 w0 R) { s with H:=jW s.H l (.lrec { r with state:=.busy } i0 w0) }) KNo)
   (JA E r.params.toList args ((l,.lrec r i0 w0)::H))):YC P l args ((l,.lrec r i0 w0)::H) R:=by
 intro imm w vs hrep hargs
 obtain⟨h0,hl,hlater⟩:=hrep.obj l (.lrec r i0 w0) (by simp)
 have hvs:=(YB hargs).1
 have hsz:vs.size=r.params.size:=by simp_all
 refine⟨r.fn,_,r.assign,r.body,run_yield hl hsz,roundIn_of_wpIn trivial ?_⟩
 have hfold:(r.params.zip vs).foldl (fun t (p,v)=>t.setIfInBounds p v) r.tmps=(((r.params.toList.zip args).map (·.1)).zip vs.toList).foldl (fun t p=>t.setIfInBounds p.1 p.2) r.tmps:=by
  grind [List.map_fst_zip,Array.toList_zip]
 have hW:=pG (P:=P) (n:=n) (s:=JA E r.params.toList args ((l,.lrec r i0 w0)::H)) (g:=g0 imm) (w:=w) (β:=fun _=>0) (r.params.toList.zip args) vs.toList (fun t=>pD (E t)) r.tmps
  (by simp_all) (fun p hp=>hpn p.1 (List.of_mem_zip hp).1) hrec.size
  (fun t=>zo8 (s:=JA E r.params.toList args ((l,.lrec r i0 w0)::H)) (β:=fun _=>0) hrec.imm hlater.1 (hrec.env t _ _))
  (fun i p v h1 h2=>by
   have h3:args[i]?=some p.2:=by
    grind
   obtain⟨v',h4,h5⟩:=(YB hargs).2 i p.2 h3
   rw[h2]at h4;cases h4
   cases hp:p.2 with
   | av d x=>rw[hp]at h5;exact h5
   | cst u=>rw[hp]at h5;exact h5
   | tup xs=>rw[hp]at h5;exact h5
   | _=>rw[hp]at h5;exact h5.elim)
 have hS:zF ⟨P,n,imm,(l,.lrec r i0 w0)::H,w,some l,[]⟩ (JA E r.params.toList args ((l,.lrec r i0 w0)::H)) { tmps:=(r.params.zip vs).foldl (fun t (p,v)=>t.setIfInBounds p v) r.tmps,defers:=[] } w (g0 imm) (fun _=>0):={
  defers:=⟨rfl,List.nodup_nil,fun D hD=>by grind [JA]⟩
  size:=by simp_all
  env:=fun t=>by rw[hfold];exact hW.2 t
  locs:=fun k d x e=>by grind [JA]
  inj:=fun k j e=>by simp[JA]
  rep:=hrep
  toks:=fun k t e=>by grind [g0]
  tokd:=fun k k' t t' e=>by simp[g0]
  toknew:=fun k v _=>rfl
  step:=JN.refl }
 refine wpIn_mono (show r.assign.wpIn (fen (some l)) 0 P _ _ _ from hat imm w _ _ _ _ hS) ?_
 intro e a1 w1 hq
 cases e with
 | normal =>
  obtain⟨s1,g1,β1,⟨hg1,hbody⟩,hS1⟩:=hq
  obtain⟨_,hl1,_⟩:=hS1.rep.obj l _ (jA hg1)
  refine⟨_,run_beginRound hl1 hready,?_⟩
  refine wpIn_mono (show r.body.wpIn (fen (some l)) 0 P _ _ _ from hbody _ _ _ _ (hS1.setR (r':=.loop { r with state:=.busy }) hg1 rfl)) ?_
  intro e a2 w2 hq2
  have fin:∀jump:Option Code,wF ⟨P,n,imm,(l,.lrec r i0 w0)::H,w,some l,[]⟩ (gJ l i0 w0 R jump) a2 w2->
    ∃v w',(Instr.endRound l jump).run P w2=.ok v w'/\∃v' r' imm' H',Ending.returned v=.returned v'/\R r' H'/\AR P (g0 imm') w' r' v'/\Rep P (g0 imm') w' H'/\JN imm ((l,.lrec r i0 w0)::H) w imm' H' w':=by
   rintro jump ⟨s2,g2,β2,⟨rb,hg2,hR⟩,hS2⟩
   obtain⟨_,hl2,_⟩:=hS2.rep.obj l _ (jA hg2)
   have hS3:=hS2.setR (r':=.loop { rb with state:=if jump.isNone then .ready else .done,pending:=jump }) hg2 rfl
   refine⟨_,_,run_endRound jump hl2,_,_,g2.imm,_,rfl,hR,⟨rfl,rfl,rfl⟩,WE (rest:=[]) hS3.rep (by simp),?_⟩
   exact { hS3.step with dom:=fun b hb=>hS3.step.dom b (by grind [q8.er_keys]) }
  cases e with
  | normal=>exact fin none hq2
  | ret=>exact fin (some .ret) hq2
  | exit id=>exact fin (some (.exit id)) hq2
  | goto t=>obtain⟨_,_,_,hk,_⟩:=hq2;exact hk.elim
  | panic ch=>assumption
  | outgrown=>assumption
 | panic ch=>exact hq.elim
 | outgrown=>exact hq.elim
 | ret=>obtain⟨_,_,_,hk,_⟩:=hq;exact hk.elim
 | exit id=>obtain⟨_,_,_,hk,_⟩:=hq;exact hk.elim
 | goto id=>obtain⟨_,_,_,hk,_⟩:=hq;exact hk.elim

def zbk (K:Exit->St->Prop):Option Code->St->Prop
 | none,s=>K .normal s
 | some .ret,s=>K .ret s
 | some (.exit id),s=>K (.exit id) s
 | _,_=>False

theorem AT.range {c:Ctx} {f:Operand} {ps:Array Nat} {assign body:Code} {K:Exit->St->Prop} {s:St} (hrd:c.rd=none) {gf:FuncId} {caps:List AV} {cs:List TV} (hev:ev s f=.av .func (.fn gf caps)) (hcm:caps.mapM J0=some cs) (hfn:qR c.P gf=true)
  (h:∀(l D:Nat) (r:Loop) (i0:Nat->Nat) (w0:World),l∉s.H.keys->zlZ c.P c.n s.env r i0 w0->r.state=.ready->r.pending=none->r.params=ps->r.assign=assign->r.body=body->
   ∃(Hs rest:q8) (R:TV->q8->Prop),List.Perm ((l,HObj.lrec r i0 w0)::s.H) (Hs++rest)/\q7 c.P gf (.av .func (.yl l)::cs.map TV.er) Hs.er R/\
    ∀t H',R t H'->(H'++rest).keys.Nodup->∃(r':Loop) (H'':q8),HSub ((l,.lrec r' i0 w0)::H'') (H'++rest)/\r'.state≠.busy/\zbk K r'.pending { s with H:=H'',dfs:=D::s.dfs }) :
  AT c (.rangeFunc f ps assign body) K s:=by
 intro a w g β hS
 refine wpIn_rangeFunc fun fn _=>?_
  -- the blocks that are laid
 have h1:=hS.push (.deferred (some [])) 0 (by omega)
 have eg:({ g with imm:=upd g.imm w.heap.size 0 }:Gh)=g:=by
  have:upd g.imm w.heap.size 0=g.imm:=by
   funext b;simp only[upd];split
   ·rename_i e;rw[e,ZJ hS.rep.imm (Nat.le_refl _)]
   ·rfl
  rw[this]
 rw[eg]at h1
 obtain⟨r,hr⟩:∃r:Loop,r={ state:=.ready,pending:=none,fn,tmps:=a.tmps,params:=ps,assign,body,defers:=w.heap.size }:=⟨_,rfl⟩
 obtain⟨w1,hw1⟩:∃w1,w1=World.push' (World.push' w (.deferred (some []))) (.loop r):=⟨_,rfl⟩
 have hl:(World.push' w (.deferred (some []))).heap.size=w.heap.size+1:=by simp[World.push']
 have hnew:=h1.newO (o:=.loop r) (x:=.lrec r g.imm w1) (fun g' hg'=>⟨by rw[hg'];exact ZJ h1.rep.imm (Nat.le_refl _),Z0 _ _,by
  rw[hg',<-hw1]
  exact⟨⟨fun _=>Nat.le_refl _,fun b cs E fz _ hb=>⟨cs,E,fz,hb,rfl,fun _ _=>rfl⟩⟩,rfl⟩⟩)
 obtain⟨h2,hlH⟩:=hnew
 rw[hl,<-hw1]at h2
 rw[hl]at hlH
 have hDold:w1.heap[w.heap.size]?=some (.deferred (some [])):=by
  grind [World.push']
 have hDn:w.heap.size∉s.dfs:=fun hin=>by
  have:=(Array.getElem?_eq_some_iff.1 (hS.defers.2.2 _ hin).2).1
  omega
 have h3:zF c { s with H:=(w.heap.size+1,.lrec r g.imm w1)::s.H,dfs:=w.heap.size::s.dfs } { a with defers:={ target:=.collected w.heap.size,args:=#[] }::a.defers } w1 g β:={ h2 with
  env:=fun t=>y8 (Gh.le_refl g) h2.rep.imm (fun b cs E fz _ hb=>⟨cs,E,fz,hb,rfl,fun _ _=>rfl⟩) (fun k d x e=>⟨x,e,rfl⟩) (h2.env t)
  locs:=fun k d x e=>{ h2.locs k d x e with }
  toks:=fun k t e=>{ h2.toks k t e with }
  defers:=⟨by rw[h2.defers.1];rfl,List.nodup_cons.2 ⟨hDn,h2.defers.2.1⟩,fun D hD=>by
   rcases List.mem_cons.1 hD with rfl|hD
   ·exact⟨hS.step.size,hDold⟩
   ·exact h2.defers.2.2 D hD⟩ }
 have hrec:zlZ c.P c.n s.env r g.imm w1:=⟨by rw[hr];exact hS.size,h2.rep.imm,fun t s' β'=>by
  have:r.tmps=a.tmps:=by rw[hr]
  rw[this]
  exact zrg (h2.env t)⟩
 obtain⟨Hs,rest,R,hperm,hcall,hK⟩:=h (w.heap.size+1) w.heap.size r g.imm w1 hlH hrec (by rw[hr]) (by rw[hr]) (by rw[hr]) (by rw[hr]) (by rw[hr])
  -- the function
 have hf:=qT hS f
 rw[hev]at hf
 obtain⟨f',hf⟩:=hf
 simp only[VC]at hf
 obtain⟨_,vs,hf,hva⟩:=hf
 rw[qK rfl f']at hf
 simp only[List.cons.injEq,and_true]at hf
 have hik:jP g w w1:=fun b cs E fz h0 hb=>⟨cs,E,fz,by simp_all[YR],rfl,fun _ _=>rfl⟩
 have hva':=za1 (Gh.le_refl g) hS.rep.imm hik _ _ hva
 have hrep:=WE h3.rep hperm
 have hargs:ARs c.P (g0 g.imm) w1 (.av .func (.yl (w.heap.size+1))::cs.map TV.er) ((#[.func (.yield (w.heap.size+1)) #[] #[]]++vs.toArray:Array Value)).toList:=by
  simp only[Array.toList_append,List.cons_append,List.nil_append]
  exact⟨⟨rfl,rfl,rfl⟩,P6 hcm hva'⟩
 have hC:=hcall g.imm w1 (#[.func (.yield (w.heap.size+1)) #[] #[]]++vs.toArray) hrep hargs
 have hbody:∃fnn,c.P.funcs[gf]?=some fnn/\(fnn.name != "runtime.NumGoroutine")=true/\fnn.body≠none:=by
  unfold qR at hfn
  grind
 obtain⟨fnn,hfs,hnm,hbd⟩:=hbody
 have hnm':fnn.name≠"runtime.NumGoroutine":=by simp_all
 refine⟨w.heap.size+1,[{ target:=.collected w.heap.size,args:=#[] }],w1,{ target:=.fn (.func gf) vs.toArray,args:=#[]++#[.func (.yield (w.heap.size+1)) #[] #[]] },w1,gf,#[.func (.yield (w.heap.size+1)) #[] #[]]++vs.toArray,w1,?_,?_,fun _ _=>trivial,?_,pZ,?_⟩
 ·show (Instr.enterLoop fn a.tmps ps assign body c.rd).run c.P w=_
  rw[hrd,run_enterLoop_outer,hw1,hr];rfl
 ·simp_all[resolve,Deferred.ofValue,Act.eval]
 ·simp_all[invoke,callFunc]
 ·have hC':Calls c.P gf (#[.func (.yield (w.heap.size+1)) #[] #[]]++vs.toArray) w1 (rangePost (fen c.rd) 0 c.P (w.heap.size+1) (QK c K) { a with defers:=[{ target:=.collected w.heap.size,args:=#[] }]++a.defers }):=by
   refine hC.mono ?_
   rintro e w3 ⟨v,t,imm',H',rfl,hR,hAR,hRep,hStep⟩
   have h4:=h3.called hperm hRep hStep
   obtain⟨r',H'',hsub,hbz,hKJ⟩:=hK t H' hR h4.rep.nodup
   have h5:=h4.subH hsub
   obtain⟨_,hl3,_⟩:=h5.rep.obj (w.heap.size+1) (.lrec r' g.imm w1) (by simp)
   have hnd:=h5.rep.nodup
   have hlH2:w.heap.size+1∉H''.keys:=by
    simp_all[q8.keys]
   have h6:=h5.subH (H':=H'') (HSub.of_sub (List.sublist_cons_self _ _))
   have h7:=h6.turn (o':=.loop { r' with state:=.exhausted }) hl3 (fun _ _ _ e=>by cases e) (Nat.le_trans hS.step.size (Nat.le_succ _)) hlH2 (dfs':=w.heap.size::s.dfs) (ds':={ target:=.collected w.heap.size,args:=#[] }::a.defers)
    (h6.defers.of fun D hD=>by
     grind [zK])
   have hrun:=run_endLoop (P:=c.P) hl3 hbz
   obtain⟨w4,hw4⟩:∃w4,w4=w3.putObj (w.heap.size+1) (.loop { r' with state:=.exhausted }):=⟨_,rfl⟩
   have h8:zF c { s with H:=H'',dfs:=w.heap.size::s.dfs } { a with defers:={ target:=.collected w.heap.size,args:=#[] }::a.defers } w4 { g with imm:=imm' } β:=by rw[hw4];exact h7
   rw[<-hw4]at hrun
   refine⟨r'.pending,w4,hrun,?_⟩
   have hgood:∀(k:St->Prop),k { s with H:=H'',dfs:=w.heap.size::s.dfs }->wF c k { a with defers:=[{ target:=.collected w.heap.size,args:=#[] }]++a.defers } w4 :=
    fun k hk=>⟨_,_,_,hk,h8⟩
   cases hp:r'.pending with
   | none=>rw[hp]at hKJ;exact hgood (K .normal) hKJ
   | some j =>
    rw[hp]at hKJ
    cases j with
    | ret=>exact wpIn_ret (hgood (K .ret) hKJ)
    | exit id=>exact wpIn_exit (hgood (K (.exit id)) hKJ)
    | _=>exact hKJ.elim
  grind [WT]

theorem WK {P:Program} {s:St} {l:Nat} {args:List TV} {dst:Option Nat} {K:St->Prop} {R:TV->q8->Prop} (Hs rest:q8) (hp:s.H.Perm (Hs++rest)) (ha:args.all qI=true)
  (h:YC P l (args.map TV.er) Hs.er R) (hk:∀r H',R r H'->(H'++rest).keys.Nodup->∃H'',HSub H'' (H'++rest)/\K (({ s with H:=H'' }:St).put dst r)):JD P s (.av .func (.yl l)) args dst K:=by
 unfold JD
 grind
end Go.Ab
end
section
namespace Go.Ab
open Go
open Classical
variable [Sel]
mutual
noncomputable def fzA (b m:Nat) (e:TypeId) (xs:List AV):AV->AV
 | .msl b' e' off len cap=>if b'=b/\e'=e/\off+len<=m/\len<=cap then .sl .no ((xs.drop off).take len) else .msl b' e' off len cap
 | .agg ps=>.agg (zax b m e xs ps)
 | x=>x
noncomputable def zax (b m:Nat) (e:TypeId) (xs:List AV):List AV->List AV
 | []=>[]
 | x::r=>fzA b m e xs x::zax b m e xs r
end
theorem cZ {b m:Nat} {e:TypeId} {xs:List AV}:∀ps:List AV,(zax b m e xs ps).length=ps.length
 | []=>rfl
 | x::r=>by simp[zax,cZ r]
noncomputable def CQ (b m:Nat) (e:TypeId) (xs:List AV):TV->TV
 | .av d x=>.av d (fzA b m e xs x)
 | .tup l=>.tup (l.map fun p=>(p.1,fzA b m e xs p.2))
 | t=>t
section
variable {P:Program} (hl:laidOutB P=true) {g g':Gh} {w:World} {b m:Nat} {e:TypeId} {xs:List AV} (hle:g.le g') (hi:ZI g w)
  (hb:m*P.cellsOf e<=g'.imm b) (hv:VL P g' w e xs (zU w b 0 (m*P.cellsOf e))) (hm:xs.length=m)
include hl hle hi hb hv hm
mutual
theorem zdW (x:AV) (d:TyD) (cs:List Value) (h:VC P g w d x cs):VC P g' w d (fzA b m e xs x) cs:=by
 have hk:jP g w w:=fun b cs E fz _ hb=>⟨cs,E,fz,hb,rfl,fun _ _=>rfl⟩
 cases x with
 | msl b' e' off len cap =>
  simp only[fzA]
  split
  ·rename_i hc
   obtain⟨rfl,rfl,h1,h2⟩:=hc
   simp only[VC]at h |-
   obtain⟨rfl,rfl⟩:=h
   have hlen:((xs.drop off).take len).length=len:=by rw[List.length_take,List.length_drop];omega
   refine⟨e',some ⟨b',off*P.cellsOf e',none⟩,cap,rfl,by rw[hlen],by rw[hlen];exact h2,?_,trivial⟩
   right
   have hmul:(off+len)*P.cellsOf e'<=m*P.cellsOf e':=Nat.mul_le_mul_right _ h1
   rw[Nat.add_mul]at hmul
   refine⟨b',off*P.cellsOf e',rfl,by rw[hlen];omega,?_⟩
   rw[hlen]
   have:=JV hl off len hv (by omega)
   rwa[WO (by omega),Nat.zero_add]at this
  ·exact jE hle hi hk _ d cs h
 | agg ps =>
  simp only[fzA]
  cases d with
  | struct fs=>simp only[VC]at h |-;exact zmy ps fs cs h
  | arr n e2=>simp only[VC]at h |-;exact⟨by rw[cZ];exact h.1,zno ps e2 cs h.2⟩
  | _=>simp[VC]at h
 | _=>exact jE hle hi hk _ d cs h
theorem zno (ps:List AV) (e2:TypeId) (cs:List Value) (h:VL P g w e2 ps cs):VL P g' w e2 (zax b m e xs ps) cs:=by
 cases ps with
 | nil=>simpa[zax,VL]using h
 | cons x r =>
  simp only[zax,VL]at h |-
  obtain⟨c1,c2,h0,h1,h2⟩:=h
  exact⟨c1,c2,h0,zdW x _ _ h1,zno r e2 _ h2⟩
theorem zmy (ps:List AV) (fs:List TypeId) (cs:List Value) (h:VF P g w fs ps cs):VF P g' w fs (zax b m e xs ps) cs:=by
 cases ps with
 | nil=>simpa[zax,VF]using h
 | cons x r =>
  simp only[zax,VF]at h |-
  obtain⟨f,q,c1,c2,e0,h0,h1,h2⟩:=h
  exact⟨f,q,c1,c2,e0,h0,zdW x _ _ h1,zmy r q _ h2⟩
end
end
theorem zhf {P:Program} {g g':Gh} {w:World} {b m:Nat} {e:TypeId} {ys:List AV} (hf:∀d x v,VV P g w d x v->VV P g' w d (fzA b m e ys x) v):∀ {xs:List (TyD × AV)} {vs:List Value},VVs P g w xs vs->VVs P g' w (xs.map fun p=>(p.1,fzA b m e ys p.2)) vs
 | [],[],_=>trivial
 | (_,_)::_,_::_,h=>⟨hf _ _ _ h.1,zhf hf h.2⟩
 | [],_::_,h=>h.elim
 | _::_,[],h=>h.elim
theorem q7.freeze {P:Program} (hl:laidOutB P=true) {f:FuncId} {args:List TV} {H:q8} {R R':TV->q8->Prop} (h:q7 P f args H R)
  (hr:∀r H',R r H'->H'.keys.Nodup->(∃b m e xs H'',H'.Perm ((b,.var (.arr m e) (.agg xs))::H'')/\R' (CQ b m e xs r) H'')\/R' r H'):q7 P f args H R':=by
 intro imm w vs h1 h2
 refine(h imm w vs h1 h2).mono ?_
 rintro e' w' ⟨v,r,imm',H',a,hR,hv,hrep,st⟩
 rcases hr _ _ hR hrep.nodup with⟨b,m,e,xs,H'',hp,hR'⟩|hR'
 ·have hin:(b,HObj.var (.arr m e) (.agg xs))∈H':=hp.mem_iff.2 (by simp)
  obtain⟨h0,cs,⟨E,fz,hc,_,_⟩,hvc⟩:=hrep.obj b _ hin
  simp only[VC]at hvc
  obtain⟨hm,hvl⟩:=hvc
  have hsz:=ZD hl _ _ _ hvl
  rw[Array.length_toList,hm]at hsz
  have h00:imm' b=0:=h0
  have hle:(g0 imm').le (g0 (upd imm' b (m*P.cellsOf e))):=by
   refine⟨fun x=>?_,fun _ _ _ e=>by cases e⟩
   simp only[g0,upd];grind
  have hk:jP (g0 imm') w' w':=fun b cs E fz _ hb=>⟨cs,E,fz,hb,rfl,fun _ _=>rfl⟩
  have hi:ZI (g0 imm') w':=hrep.imm
  have hcell:zU w' b 0 (m*P.cellsOf e)=cs.toList:=by
   simp_all[zU,List.take_of_length_le]
  have hv2:VL P (g0 (upd imm' b (m*P.cellsOf e))) w' e xs (zU w' b 0 (m*P.cellsOf e)):=by
   grind [JS]
  have hb2:m*P.cellsOf e<=(g0 (upd imm' b (m*P.cellsOf e))).imm b:=by simp[g0,upd]
  have hfz:∀d x v,VV P (g0 imm') w' d x v->VV P (g0 (upd imm' b (m*P.cellsOf e))) w' d (fzA b m e xs x) v:=fun d x v hx =>
   ⟨hx.1,zdW hl hle hi hb2 hv2 hm x d _ hx.2⟩
  have hnd:(q8.keys ((b,.var (.arr m e) (.agg xs))::H'')).Nodup:=(hp.map _).nodup_iff.1 hrep.nodup
  simp only[q8.keys,List.map_cons,List.nodup_cons]at hnd
  refine⟨v,CQ b m e xs r,upd imm' b (m*P.cellsOf e),H'',a,hR',?_,?_,?_⟩
  ·cases r with
   | av d x=>exact hfz d x v hv
   | cst c=>exact hv
   | tup l=>obtain⟨us,h3,h4⟩:=hv;exact⟨us,h3,zhf hfz h4⟩
   | _=>exact hv.elim
  ·refine⟨fun x hx=>?_,hnd.2,fun x o ho=>?_,hrep.tab.keep (g:=g0 imm') (g':=g0 (upd imm' b (m*P.cellsOf e))) hle hi hk⟩
   ·simp only[g0,upd]at hx |-
    split
    ·simp_all
    ·rename_i ee;rw[if_neg ee]at hx;exact hrep.imm x hx
   ·have hne:x≠b:=fun ee=>hnd.1 (by simp_all)
    have himm:upd imm' b (m*P.cellsOf e) x=imm' x:=by grind [upd]
    have hob:=hrep.obj x o (hp.mem_iff.2 (List.mem_cons_of_mem _ ho))
    cases o with
    | var d y=>obtain⟨q1,cs',q2,q3⟩:=hob;exact⟨himm.trans q1,cs',q2,jE hle hi hk _ _ _ q3⟩
    | map k e es=>obtain⟨q1,en,ck,q2,q3⟩:=hob;exact⟨himm.trans q1,en,ck,q2,yI hle hi hk q3⟩
    | raw o i0 w0=>obtain⟨q1,q2,q3⟩:=hob;exact⟨himm.trans q1,q2,yE q3 hle hk⟩
  ·have hbd:b∈H.keys\/w.heap.size<=b:=st.dom b (List.mem_map.2 ⟨_,hin,rfl⟩)
   exact {
    os:=st.os,tape:=st.tape,output:=st.output,drawn:=st.drawn,size:=st.size
    frame:=fun x hx hn=>by
     have hne:x≠b:=fun ee=>by
      grind
     obtain⟨q1,q2⟩:=st.frame x hx hn
     simp_all[upd]
    imm:=fun x=>Nat.le_trans (st.imm x) (hle.1 x)
    kept:=st.kept
    dom:=fun x hx=>st.dom x ((hp.map (·.1)).mem_iff.2 (List.mem_cons_of_mem _ hx)) }
 grind
end Go.Ab
end
section
namespace Go.Ab
open Go
open Classical
variable [Sel]
theorem Rep.openMap {P:Program} {imm:Nat->Nat} {w:World} {b:Nat} {k e:TypeId} {es:List (AV × AV)} {rest:q8} (h:Rep P (g0 imm) w ((b,.map k e es)::rest)) :
  ∃en ck,UL P k e es en ck imm w/\Rep P (g0 imm) w ((b,.raw (.map en ck) imm w)::rest):=by
 obtain⟨h0,en,ck,hb,hrel,hst⟩:=h.obj b (.map k e es) (by simp)
 refine⟨en,ck,⟨h.imm,hrel,hst⟩,⟨h.imm,h.nodup,fun x o ho=>?_,h.tab⟩⟩
 rcases List.mem_cons.1 ho with e|e
 ·cases e
  exact⟨h0,hb,⟨fun _=>Nat.le_refl _,fun b cs E fz _ hb=>⟨cs,E,fz,hb,rfl,fun _ _=>rfl⟩⟩,rfl⟩
 ·exact h.obj x o (List.mem_cons_of_mem _ e)

theorem Rep.shutMap {P:Program} {imm i0:Nat->Nat} {w w0:World} {b:Nat} {k e:TypeId} {es:List (AV × AV)} {en:Array MapEntry} {ck:Nat} {rest:q8} (ho:UL P k e es en ck i0 w0) (h:Rep P (g0 imm) w ((b,.raw (.map en ck) i0 w0)::rest)) :
  Rep P (g0 imm) w ((b,.map k e es)::rest):=by
 obtain⟨h0,hb,hlat⟩:=h.obj b (.raw (.map en ck) i0 w0) (by simp)
 have hle:(g0 i0).le (g0 imm):=⟨hlat.1.1,fun _ _ _ e=>by cases e⟩
 have hk:jP (g0 i0) w0 w:=fun b cs E fz h0 hb=>hlat.1.2 b cs E fz h0 hb
 refine⟨h.imm,h.nodup,fun x o hx=>?_,h.tab⟩
 rcases List.mem_cons.1 hx with e|e
 ·cases e
  exact⟨h0,en,ck,hb,KE hle ho.imm hk ho.ents,ho.st⟩
 ·exact h.obj x o (List.mem_cons_of_mem _ e)

theorem JN.keys {imm imm':Nat->Nat} {H H1 H':q8} {w w':World} (h:JN imm H w imm' H' w') (hk:∀b,b∈H.keys<->b∈H1.keys):JN imm H1 w imm' H' w' :=
 ⟨h.os,h.tape,h.output,h.size,fun b hb hn=>h.frame b hb fun h1=>hn ((hk b).1 h1),h.imm,h.kept,fun b hb=>(h.dom b hb).imp_left (hk b).1,h.drawn⟩
theorem JN.keys' {imm imm':Nat->Nat} {H H1 H':q8} {w w':World} (h:JN imm H w imm' H' w') (hk:∀b,b∈H1.keys->b∈H'.keys):JN imm H w imm' H1 w' :=
 ⟨h.os,h.tape,h.output,h.size,h.frame,h.imm,h.kept,fun b hb=>h.dom b (hk b hb),h.drawn⟩

theorem q7.openMap {P:Program} {f:FuncId} {args:List TV} {b:Nat} {k e:TypeId} {es:List (AV × AV)} {rest:q8} {R:TV->q8->Prop}
  (h:∀en ck i0 w0,UL P k e es en ck i0 w0->q7 P f args ((b,.raw (.map en ck) i0 w0)::rest) R):q7 P f args ((b,.map k e es)::rest) R:=by
 intro imm w vs hrep hargs
 obtain⟨en,ck,ho,hr⟩:=hrep.openMap
 refine(h en ck imm w ho imm w vs hr hargs).mono ?_
 rintro x w' ⟨v,r,imm',H',a,b,c,d,st⟩
 exact⟨v,r,imm',H',a,b,c,d,st.keys fun _=>Iff.rfl⟩
theorem q7.conv {P:Program} {f:FuncId} {args:List TV} {H:q8} {R R':TV->q8->Prop} (h:q7 P f args H R)
  (hr:∀r H',R r H'->∃H'':q8,(∀b,b∈H''.keys->b∈H'.keys)/\(∀imm w,Rep P (g0 imm) w H'->Rep P (g0 imm) w H'')/\R' r H''):q7 P f args H R' :=
 fun imm w vs h1 h2=>(h imm w vs h1 h2).mono fun e w' ⟨v,r,imm',H',a,b,c,d,st⟩=>by
  obtain⟨H'',hk,hrep,hR⟩:=hr _ _ b
  exact⟨v,r,imm',H'',a,hR,c,hrep _ _ d,st.keys' hk⟩
theorem q7.perm {P:Program} {f:FuncId} {args:List TV} {H H1:q8} {R:TV->q8->Prop} (hp:H1.Perm H) (h:q7 P f args H R):q7 P f args H1 R:=by
 intro imm w vs hrep hargs
 have hr:Rep P (g0 imm) w H:=⟨hrep.imm,(hp.map _).nodup_iff.1 hrep.nodup,fun b o ho=>hrep.obj b o (hp.mem_iff.2 ho),hrep.tab⟩
 refine(h imm w vs hr hargs).mono ?_
 rintro x w' ⟨v,r,imm',H',a,b,c,d,st⟩
 exact⟨v,r,imm',H',a,b,c,d,st.keys fun b=>((hp.map (·.1)).mem_iff).symm⟩
theorem q7.frame {P:Program} {f:FuncId} {args:List TV} {Hs:q8} {R:TV->q8->Prop} (rest:q8) (h:q7 P f args Hs R):q7 P f args (Hs++rest) fun r H'=>∃H1,R r H1/\H'=H1++rest:=by
 intro imm w vs hrep hargs
 have hnd:(Hs.keys++rest.keys).Nodup:=by
  have:=hrep.nodup
  simp_all[q8.keys]
 have hr0:Rep P (g0 imm) w Hs:=⟨hrep.imm,(List.nodup_append.1 hnd).1,fun b o ho=>hrep.obj b o (List.mem_append_left _ ho),hrep.tab⟩
 refine(h imm w vs hr0 hargs).mono ?_
 rintro e w' ⟨v,r,imm',H',a,b,c,d,st⟩
 have hS:zF ⟨P,0,imm,Hs++rest,w,none,[]⟩ { env:=fun _=>.junk,loc:=fun _=>none,ver:=fun _=>0,H:=Hs++rest } { tmps:=#[],defers:=[] } w (g0 imm) (fun _=>0):={
  defers:=⟨rfl,List.nodup_nil,fun D hD=>by simp at hD⟩
  size:=rfl
  env:=fun t=>trivial
  locs:=fun k d x e=>by simp at e
  inj:=fun k j e=>by simp at e
  rep:=hrep
  toks:=fun k t e=>by grind [g0]
  tokd:=fun k k' t t' e=>by simp[g0]
  toknew:=fun k v _=>rfl
  step:=JN.refl }
 have h2:=hS.called (List.Perm.refl _) d (st.keys fun b=>by rw[q8.er_keys])
 exact⟨v,r,imm',H'++rest,a,⟨H',b,rfl⟩,c,h2.rep,h2.step⟩
theorem q7.use {P:Program} {f:FuncId} {args:List TV} {H Hs rest:q8} {R R':TV->q8->Prop} (hp:H.Perm (Hs++rest)) (h:q7 P f args Hs R)
  (hk:∀r H1,R r H1->(H1++rest).keys.Nodup->∃H'',HSub H'' (H1++rest)/\R' r H''):q7 P f args H R':=by
 refine((h.frame rest).perm hp).sub ?_
 simp_all
theorem UA.off {P:Program} {imm:Nat->Nat} {w:World} (h:∀n,Sel.on n=false):UA P imm w:=by
 refine⟨fun n d x hx=>?_,fun n hn=>?_,fun n hn=>?_⟩
 ·grind [zf3]
 ·grind [zet]
 grind [VP]
def zck (ops:Array Oper) (Lt:LtK) (pr:List Nat) (j:Nat):Bool:=(List.range ops.size).all fun i=>i==j||(zcx ops i).contains j||(zcx ops j).contains i||Lt.l.contains i||(pr.contains i&&pr.contains j)
def r3c (pr:List Nat) (P:Program) (cf:Cfg) (ops:Array Oper) (Lt:LtK) (i:Nat) (o:Oper) (K:St->Prop) (s:St):Prop:=zck ops Lt pr i=true/\o.guard=none/\hop P cf s o.dst o.op (V3 Lt.kb s.H K)
def qC (pr:List Nat) (P:Program) (cf:Cfg) (ops:Array Oper) (Lt:LtK) (i:Nat) (K:St->Prop) (s:St):Prop :=
 match ops[i]? with
 | none=>K s
 | some o=>r1 P cf ops Lt i o K s\/q2 P cf ops i o K s\/r3c pr P cf ops Lt i o K s
def zgP (pr:List Nat) (P:Program) (cf:Cfg) (ops:Array Oper) (Lt:LtK) (Q:St->Prop):Nat->Array Bool->St->Prop
 | 0,listed,s=>Region.ready .any ops listed=[]/\Q s
 | fuel+1,listed,s=>(Region.ready .any ops listed=[]->Q s)/\∀i∈Region.ready .any ops listed,qC pr P cf ops Lt i (zgP pr P cf ops Lt Q fuel (listed.setIfInBounds i true)) s

theorem zn6 {c:Ctx} (hl:laidOutB c.P=true) {cf:Cfg} {ops:Array Oper} {Lt:LtK} {pr:List Nat} (hdst:∀o∈ops.toList,∀d,o.dst=some d->d<c.n) {i:Nat} {K:St->Prop} {s:St} {a:Act} {w:World} {g:Gh} {β:Nat->Nat} (hS:zF c s a w g β)
  (h:qC pr c.P cf ops Lt i K s) {K':Act->World->Prop} (hK:∀a w,wF c K a w->K' a w) {Q:Exit->Act->World->Prop}:wpOpIn (fen c.rd) 0 c.P ops Q i K' a w:=by
 have old:qA c.P cf ops i K s->wpOpIn (fen c.rd) 0 c.P ops Q i K' a w:=fun h=>zaA hl hdst hS h hK
 unfold qC at h
 cases ho:ops[i]? with
 | none=>simp_all[qA]
 | some o =>
  rw[ho]at h
  rcases h with⟨tv,ky,h1,h2⟩|h|⟨_,hg,hc⟩
  ·exact old (by unfold qA;rw[ho];exact .inl ⟨tv,ky,h1.yi,h2⟩)
  ·simp_all[qA]
  ·have hmem:o∈ops.toList:=by
    grind
   have hv:yQ c.P cf s o K:=zfS (pJ (fun s' hk=>(JX.1 hk).2) hc)
   unfold wpOpIn
   simp only[ho]
   rw[if_pos (by simp[Region.wanted,hg])]
   exact Oper.wpIn_mono (fun a w hg=>hK a w hg) (W9 hl hS (hdst o hmem) (K:=K) hv)

theorem zaO {c:Ctx} (hl:laidOutB c.P=true) {cf:Cfg} {ops:Array Oper} {Lt:LtK} {pr:List Nat} (hdst:∀o∈ops.toList,∀d,o.dst=some d->d<c.n) {Q:St->Prop} {Q':Exit->Act->World->Prop} (hQ:∀a w,wF c Q a w->Q' .normal a w) :
  ∀(fuel:Nat) (listed:Array Bool) (a:Act) (w:World),wF c (zgP pr c.P cf ops Lt Q fuel listed) a w->wpAnyIn (fen c.rd) 0 c.P .any ops Q' fuel listed a w
 | 0,_,a,w,⟨s,g,β,h,hS⟩=>⟨h.1,hQ a w ⟨s,g,β,h.2,hS⟩⟩
 | fuel+1,_,a,w,⟨s,g,β,h,hS⟩=>⟨fun h0=>hQ a w ⟨s,g,β,h.1 h0,hS⟩,fun i hi=>zn6 hl hdst hS (h.2 i hi) (fun a' w' hg=>zaO hl hdst hQ fuel _ a' w' hg)⟩

theorem zp1 {P:Program} {cf:Cfg} {ops:Array Oper} {Lt:LtK} {pr:List Nat} {i j:Nat} {oi oj:Oper} (hap:oi.apart ops oj=true) (hlt:Lt.l.contains i=true)
  {tv:TV} {ky:Option (Nat × (TyD × AV))} {K:St->Prop} {s:St} (hy:YJ P cf ops Lt i oi tv ky s) (h:r3c pr P cf ops Lt j oj K (s.app oi.dst tv ky)) :
  r3c pr P cf ops Lt j oj (fun s'=>YJ P cf ops Lt i oi tv ky s'/\K (s'.app oi.dst tv ky)) s:=by
 obtain⟨h1,h2,h3⟩:=Oper.apart_spec hap
 obtain⟨hg,hyl⟩:=hy.lt hlt
 obtain⟨hs,hgj,hc⟩:=h
 have hev:∀x∈oj.op.operands.toList,ev s x=ev (s.app oi.dst tv ky) x:=by
  intro x hx
  cases x with
  | tmp t =>
   refine(St.app_env fun e=>h1 t e ?_).symm
   unfold Oper.looksAt
   grind
  | _=>rfl
 refine⟨hs,hgj,dU (s:=s.app oi.dst tv ky) St.app_H.symm St.app_ver.symm hev (fun f args tys hop=>⟨hev f (by simp[hop,Op.operands,Call.operands]),List.map_congr_left fun x hx=>hev x (by simp_all[Op.operands,Call.operands])⟩) (fun H'' v'' r hk=>?_) hc⟩
 rw[JX]at hk |-
 have hHH:∀(s:St) (r:TV),(({ s with H:=H'',ver:=v'' }:St).put oj.dst r).H=H'':=fun s r=>by cases oj.dst<;>rfl
 rw[hHH,St.app_H]at hk
 rw[hHH]
 refine⟨hk.1,?_,?_⟩
 ·refine hy.sameL hlt ⟨fun t ht=>?_,fun t ht k p e=>?_,fun b hb=>by simp_all,fun d e1 e2 e3=>by cases oj.dst<;>exact e3⟩
  ·cases hd:oj.dst with
   | none=>rfl
   | some d =>
    have:t≠d:=fun e=>h3 t (by rw[hd,e]) ht
    simp[St.put,upd,this]
  ·cases hd:oj.dst<;>rfl
 simp_all[St.app_putH]

theorem WS {P:Program} {cf:Cfg} {ops:Array Oper} {Lt:LtK} {pr:List Nat} {i:Nat} {o:Oper} {K K':St->Prop} {s:St} (h:∀s,K s->K' s) (hh:r3c pr P cf ops Lt i o K s):r3c pr P cf ops Lt i o K' s:=by
 obtain⟨h1,h2,h3⟩:=hh
 exact⟨h1,h2,pJ (fun s' hk=>by simp_all[JX]) h3⟩

theorem zi9 {ops:Array Oper} {Lt:LtK} {pr:List Nat} {i j:Nat} {listed:Array Bool} (hdc:DC ops listed) (hb:zck ops Lt pr j=true) (hj:j∈Region.ready .any ops listed) (hi:i∈Region.ready .any ops listed) (hij:i≠j) (hip:pr.contains i=false):Lt.l.contains i=true:=by
 obtain⟨ui,oi,hoi,_⟩:=mem_ready.1 hi
 obtain⟨uj,oj,hoj,_⟩:=mem_ready.1 hj
 have h1:=List.all_eq_true.1 hb i (List.mem_range.2 (Array.getElem?_eq_some_iff.1 hoi).1)
 simp only[Bool.or_eq_true,beq_iff_eq,Bool.and_eq_true]at h1
 grind [yM]

theorem zbd {P:Program} {cf:Cfg} {ops:Array Oper} {Lt:LtK} {pr:List Nat} (hwk:wkB ops=true) {Q:St->Prop} {i:Nat} {oi:Oper} {tv:TV} {ky:Option (Nat × (TyD × AV))} (hi:ops[i]?=some oi) (hip:pr.contains i=false) :
  ∀(fuel:Nat) (listed:Array Bool) (s:St),DC ops listed->
   (∀j oj,ops[j]?=some oj->j≠i->listed.getD j true=false->(∀e∈oj.after,Region.binds .any e=true->e.on≠i)->oi.apart ops oj=true)->
   i∈Region.ready .any ops listed->YJ P cf ops Lt i oi tv ky s->
   zgP pr P cf ops Lt Q fuel (listed.setIfInBounds i true) (s.app oi.dst tv ky)->zgP pr P cf ops Lt Q (fuel+1) listed s:=by
 have own:∀ {K:St->Prop} {s:St},YJ P cf ops Lt i oi tv ky s->K (s.app oi.dst tv ky)->qC pr P cf ops Lt i K s:=fun hy hk=>by
  unfold qC;simp only[hi];exact .inl ⟨tv,ky,hy,hk⟩
 intro fuel
 induction fuel with
 | zero =>
  intro listed s _ _ hr hy H
  refine⟨fun h=>(by simp_all),fun j hj=>?_⟩
  by_cases hji:j=i
  ·simp_all
  ·have:=ready_mono hj hji
   rw[H.1]at this
   cases this
 | succ fuel ih =>
  intro listed s hdc hfree hr hy H
  refine⟨fun h=>(by simp_all),fun j hj=>?_⟩
  by_cases hji:j=i
  ·simp_all
  ·have h1:=H.2 j (ready_mono hj hji)
   obtain⟨hjun,oj,hoj,hall⟩:=mem_ready.1 hj
   obtain⟨hiun,oi',hoi',halli⟩:=mem_ready.1 hr
   rw[hi]at hoi';cases hoi'
   have hnot:∀e∈oj.after,Region.binds .any e=true->e.on≠i:=fun e he hb heq=>by
    grind
   have hnot':∀e∈oi.after,Region.binds .any e=true->e.on≠j:=fun e he hb heq=>by
    grind
   have hap:=hfree j oj hoj hji hjun hnot
   have hfree':∀k ok,ops[k]?=some ok->k≠i->(listed.setIfInBounds j true).getD k true=false->
     (∀e∈ok.after,Region.binds .any e=true->e.on≠i)->oi.apart ops ok=true:=fun k ok hk hki hun hno=>by
    refine hfree k ok hk hki ?_ hno
    by_cases hjk:j=k
    ·simp_all
    simp_all
   have fin:∀s',YJ P cf ops Lt i oi tv ky s'/\zgP pr P cf ops Lt Q fuel ((listed.setIfInBounds i true).setIfInBounds j true) (s'.app oi.dst tv ky)->zgP pr P cf ops Lt Q (fuel+1) (listed.setIfInBounds j true) s':=by
    intro s' h3
    refine ih (listed.setIfInBounds j true) s' (hdc.list hj) hfree' (ready_mono hr (Ne.symm hji)) h3.1 ?_
    simp_all[Array.setIfInBounds_comm]
   unfold qC at h1 |-
   simp only[hoj]at h1 |-
   rcases h1 with h|⟨hb,_⟩|h
   ·exact .inl (zjM fin (znW hwk hi hoj (Ne.symm hji) hap (p0 hi hoj hnot' hnot) hy h))
   ·grind [KW]
   ·exact .inr (.inr (WS fin (zp1 hap (zi9 hdc h.1 hj hr (Ne.symm hji) hip) hy h)))

def zcm (pr:List Nat) (P:Program) (cf:Cfg) (ops:Array Oper) (Lt:LtK) (Q:St->Prop):List Nat->St->Prop
 | [],s=>Q s
 | k::r,s=>match ops[k]? with
  | none=>False
  | some o=>(pr.contains k=false/\r1 P cf ops Lt k o (zcm pr P cf ops Lt Q r) s)\/q2 P cf ops k o (zcm pr P cf ops Lt Q r) s\/(PO ops k r=true/\r3c pr P cf ops Lt k o (zcm pr P cf ops Lt Q r) s)
theorem vF {P:Program} {cf:Cfg} {ops:Array Oper} {Lt:LtK} {pr:List Nat} (hwk:wkB ops=true) {Q:St->Prop}:∀(l:List Nat) (listed:Array Bool) (s:St),DC ops listed->(∀j,j<ops.size->listed.getD j true=false->j∈l)->
  JQ ops l listed=true->zcm pr P cf ops Lt Q l s->zgP pr P cf ops Lt Q l.length listed s
 | [],listed,s,_,_,hB,h=>⟨by simp_all[JQ],h⟩
 | k::l,listed,s,hdc,hun,hB,h=>by
  simp only[JQ,Bool.and_eq_true]at hB
  obtain⟨⟨hr,hf⟩,hB'⟩:=hB
  have hr':k∈Region.ready .any ops listed:=by simp_all
  have hun':∀j,j<ops.size->(listed.setIfInBounds k true).getD j true=false->j∈l:=by
   intro j hj hjl
   by_cases hkj:k=j
   ·simp_all
   ·rw[getD_set_ne true hkj]at hjl
    grind
  cases h0:ops[k]? with
  | none=>simp_all[zcm]
  | some o =>
  simp only[zcm,h0]at h
  rcases h with⟨hpr,h⟩|⟨hb,K1,hv,himp⟩|⟨hall,h⟩
  ·obtain⟨tv,ky,hy,hK⟩:=h
   exact zbd hwk h0 hpr l.length listed s hdc (Region.free_spec h0 hf) (by omega) hy (vF hwk l _ _ (hdc.list hr') hun' hB' hK)
  ·refine⟨fun h=>(by simp_all),fun j hj=>?_⟩
   obtain rfl:=KW hdc hb hr' hj
   unfold qC
   simp only[h0]
   exact .inr (.inl ⟨hb,K1,hv,fun s' hs'=>vF hwk l _ _ (hdc.list hr') hun' hB' (himp s' hs')⟩)
  ·refine⟨fun h=>(by simp_all),fun j hj=>?_⟩
   obtain⟨hjun,oj,hoj,_⟩:=mem_ready.1 hj
   obtain⟨hkun,_⟩:=mem_ready.1 hr'
   have hjk:j=k:=by
    rcases List.mem_cons.1 (hun j (Array.getElem?_eq_some_iff.1 hoj).1 hjun)with h|h
    ·exact h
    ·have h1:=List.all_eq_true.1 hall j h
     simp only[Bool.and_eq_true,bne_iff_ne,ne_eq]at h1
     grind [yM]
   subst hjk
   unfold qC
   simp only[h0]
   exact .inr (.inr (WS (fun s' hs'=>vF hwk l _ _ (hdc.list hr') hun' hB' hs') h))

def zmM (ops:Array Oper) (k m:Nat) (r:List Nat):Bool:=r.all fun j=>j==m||((zcx ops k).contains j&&j != k)||((zcx ops m).contains j&&j != m)
def zeJ (pr:List Nat) (P:Program) (cf:Cfg) (ops:Array Oper) (Lt:LtK) (Q:St->Prop) (k m:Nat) (ra rb:List Nat):List Nat->St->Prop
 | [],s=>match ops[k]?,ops[m]? with
  | some ok,some om=>zmM ops k m ra=true/\r3c pr P cf ops Lt k ok (zcm pr P cf ops Lt Q ra) s/\r3c pr P cf ops Lt m om (zcm pr P cf ops Lt Q rb) s
  | _,_=>False
 | j::r,s=>match ops[j]? with
  | none=>False
  | some o=>(pr.contains j=false/\r1 P cf ops Lt j o (zeJ pr P cf ops Lt Q k m ra rb r) s)\/q2 P cf ops j o (zeJ pr P cf ops Lt Q k m ra rb r) s
theorem PP {ops:Array Oper} {l:List Nat} {listed:Array Bool} {k:Nat} (hun:∀j,j<ops.size->listed.getD j true=false->j∈k::l):∀j,j<ops.size->(listed.setIfInBounds k true).getD j true=false->j∈l:=by
 intro j hj hjl
 by_cases hkj:k=j
 ·simp_all
 ·rw[getD_set_ne true hkj]at hjl
  grind
theorem DL {P:Program} {cf:Cfg} {ops:Array Oper} {Lt:LtK} {pr:List Nat} (hwk:wkB ops=true) {Q:St->Prop} {k m:Nat} {ra rb:List Nat} (hlen:ra.length=rb.length):∀(l:List Nat) (listed:Array Bool) (s:St),DC ops listed->
  (∀j,j<ops.size->listed.getD j true=false->j∈l++k::ra)->(∀j,j<ops.size->listed.getD j true=false->j∈l++m::rb)->
  JQ ops (l++k::ra) listed=true->JQ ops (l++m::rb) listed=true->zeJ pr P cf ops Lt Q k m ra rb l s->zgP pr P cf ops Lt Q (l.length+(ra.length+1)) listed s
 | [],listed,s,hdc,hua,hub,ha,hb,h=>by
  simp only[List.nil_append,JQ,Bool.and_eq_true]at ha hb
  have hrk:k∈Region.ready .any ops listed:=by simp_all
  have hrm:m∈Region.ready .any ops listed:=by simp_all
  simp only[zeJ]at h
  cases hk0:ops[k]? with
  | none=>simp_all
  | some ok =>
  cases hm0:ops[m]? with
  | none=>simp_all
  | some om =>
  rw[hk0,hm0]at h
  obtain⟨ht,h1,h2⟩:=h
  have key:([]:List Nat).length+(ra.length+1)=ra.length+1:=by simp
  rw[key]
  refine⟨fun h=>(by simp_all),fun j hj=>?_⟩
  obtain⟨hjun,oj,hoj,_⟩:=mem_ready.1 hj
  obtain⟨hkun,_⟩:=mem_ready.1 hrk
  obtain⟨hmun,_⟩:=mem_ready.1 hrm
  have hjk:j=k\/j=m:=by
   rcases List.mem_cons.1 (hua j (Array.getElem?_eq_some_iff.1 hoj).1 hjun)with h|h
   ·exact .inl h
   ·have h3:=List.all_eq_true.1 ht j h
    simp only[Bool.or_eq_true,Bool.and_eq_true,beq_iff_eq,bne_iff_ne,ne_eq]at h3
    grind [yM]
  rcases hjk with rfl|rfl
  ·unfold qC
   simp only[hk0]
   exact .inr (.inr (WS (fun s' hs'=>vF hwk ra _ _ (hdc.list hrk) (PP hua) ha.2 hs') h1))
  ·unfold qC
   simp only[hm0]
   rw[hlen]
   exact .inr (.inr (WS (fun s' hs'=>vF hwk rb _ _ (hdc.list hrm) (PP hub) hb.2 hs') h2))
 | j::l,listed,s,hdc,hua,hub,ha,hb,h=>by
  simp only[List.cons_append,JQ,Bool.and_eq_true]at ha hb
  obtain⟨⟨hr,hf⟩,ha'⟩:=ha
  obtain⟨_,hb'⟩:=hb
  have hr':j∈Region.ready .any ops listed:=by simp_all
  have hua':=PP (l:=l++k::ra) hua
  have hub':=PP (l:=l++m::rb) hub
  have e:(j::l).length+(ra.length+1)=(l.length+(ra.length+1))+1:=by grind
  cases h0:ops[j]? with
  | none=>simp_all[zeJ]
  | some o =>
  simp only[zeJ,h0]at h
  rw[e]
  rcases h with⟨hpr,h⟩|⟨hb2,K1,hv,himp⟩
  ·obtain⟨tv,ky,hy,hK⟩:=h
   exact zbd hwk h0 hpr _ listed s hdc (Region.free_spec h0 hf) hr' hy (DL hwk hlen l _ _ (hdc.list hr') hua' hub' ha' hb' hK)
  ·refine⟨fun h=>(by simp_all),fun j' hj=>?_⟩
   obtain rfl:=KW hdc hb2 hr' hj
   unfold qC
   simp only[h0]
   exact .inr (.inl ⟨hb2,K1,hv,fun s' hs'=>DL hwk hlen l _ _ (hdc.list hr') hua' hub' ha' hb' (himp s' hs')⟩)
def zfG (P:Program) (s:St) (o:Oper) (K:St->Prop):Prop:=match o.op with
 | .call { callee:=.value f,args,.. }=>qX P f=false/\match ev s f with
  | .av .func (.fn g caps)=>match caps.mapM J0 with
   | some cs=>(args.toList.map (ev s)).all qI=true/\qR P g=true/\∃r,PC P g ((args.toList.map (ev s)++cs).map TV.er) r/\K (s.put o.dst r)
   | none=>False
  | _=>False
 | _=>False
theorem zkQ {Lt:LtK} {P:Program} {cf:Cfg} {ops:Array Oper} {s:St} {o:Oper} {K:St->Prop} (h:zfG P s o K):∃tv,YdL Lt P cf ops s o tv none/\K (s.app o.dst tv none):=by
 obtain⟨dst,op,type,pos,after,guard⟩:=o
 unfold zfG at h
 simp only at h
 split at h
 ·rename_i f args _
  obtain⟨h1,h⟩:=h
  split at h
  ·rename_i g caps hev
   split at h
   ·rename_i cs hcs
    obtain⟨h2,h3,r,h4,h5⟩:=h
    refine⟨r,fun s' ha K' hk=>?_,by cases dst<;>exact h5⟩
    have hop:∀x:Operand,(x=f\/x∈args.toList)->ev s' x=ev s x:=by
     intro x hx
     cases x with
     | tmp t =>
      refine ha.env t ?_
      unfold Oper.looksAt
      refine List.mem_append_left _ (List.mem_filterMap.2 ⟨.tmp t,?_,rfl⟩)
      simp_all[Op.operands,Call.operands]
     | _=>rfl
    have e1:ev s' f=ev s f:=hop f (.inl rfl)
    have e2:args.toList.map (ev s')=args.toList.map (ev s):=List.map_congr_left fun x hx=>hop x (.inr hx)
    unfold yQ
    simp only
    rw[if_neg (by simp_all),e1,e2,hev]
    exact G6 hcs h2 h3 h4 (by cases dst<;>exact hk)
   simp_all
  simp_all
 simp_all
def zng (cf:Cfg) (o:Oper):Bool:=match o.op with
 | .build _ _=>zfw cf o.dst
 | _=>false
noncomputable def gL (pr:List Nat) (P:Program) (cf:Cfg) (ops:Array Oper) (Lt:LtK) (K:St->Prop):List Nat->St->Prop
 | [],s=>K s
 | k::r,s=>match ops[k]? with
  | none=>False
  | some o=>if pr.contains k=true then PO ops k r=true/\zck ops Lt pr k=true/\vE P cf s o Lt.kb (gL pr P cf ops Lt K r)
   else if sft cf o=true then PO ops k r=true/\zck ops Lt pr k=true/\vE P cf s o Lt.kb (gL pr P cf ops Lt K r)
   else if zng cf o=true then GO ops k=true/\vcG P cf ops s o (gL pr P cf ops Lt K r)
   else x6 ops k o s=true/\o.guard=none/\Lt.l.contains k=false/\vcD P cf s o (gL pr P cf ops Lt K r)
theorem XV {pr:List Nat} {P:Program} {cf:Cfg} {ops:Array Oper} {Lt:LtK} {K:St->Prop}:∀(l:List Nat) (s:St),gL pr P cf ops Lt K l s->zcm pr P cf ops Lt K l s
 | [],s,h=>h
 | k::r,s,h=>by
  simp only[gL]at h
  simp only[zcm]
  cases h0:ops[k]? with
  | none=>simp_all
  | some o =>
   rw[h0]at h
   simp only at h |-
   split at h
   ·obtain⟨h1,h2,h3⟩:=h
    exact .inr (.inr ⟨h1,WS (fun s' hs'=>XV r s' hs') ⟨h2,h3.1,h3.2⟩⟩)
   rename_i hnp
   split at h
   ·obtain⟨h1,h2,h3⟩:=h
    exact .inr (.inr ⟨h1,WS (fun s' hs'=>XV r s' hs') ⟨h2,h3.1,h3.2⟩⟩)
   split at h
   ·exact .inr (.inl ⟨h.1,_,h.2,fun s' hs'=>XV r s' hs'⟩)
   ·obtain⟨h1,hg,hnl,h2⟩:=h
    obtain⟨tv,ky,h3,h4,h5⟩:=zhW (ops:=ops) h2
    exact .inl ⟨by simp_all,tv,ky,⟨⟨.inl ⟨by simp[yO,hg],h3⟩,h4,h1⟩,fun hl=>by simp_all⟩,XV r _ h5⟩
noncomputable def zcn (pr:List Nat) (P:Program) (cf:Cfg) (ops:Array Oper) (Lt:LtK) (K:St->Prop) (k m:Nat) (ra rb:List Nat):List Nat->St->Prop
 | [],s=>match ops[k]?,ops[m]? with
  | some ok,some om=>zmM ops k m ra=true/\(zck ops Lt pr k=true/\vE P cf s ok Lt.kb (gL pr P cf ops Lt K ra))/\(zck ops Lt pr m=true/\vE P cf s om Lt.kb (gL pr P cf ops Lt K rb))
  | _,_=>False
 | j::r,s=>match ops[j]? with
  | none=>False
  | some o=>pr.contains j=false/\x6 ops j o s=true/\o.guard=none/\((isLt Lt.kb s o=true/\zQ P s o.op (Y6 s o.dst (zcn pr P cf ops Lt K k m ra rb r)))\/zfG P s o (zcn pr P cf ops Lt K k m ra rb r))
theorem zbw {pr:List Nat} {P:Program} {cf:Cfg} {ops:Array Oper} {Lt:LtK} {K:St->Prop} {k m:Nat} {ra rb:List Nat}:∀(l:List Nat) (s:St),zcn pr P cf ops Lt K k m ra rb l s->zeJ pr P cf ops Lt K k m ra rb l s
 | [],s,h=>by
  simp only[zcn]at h
  simp only[zeJ]
  cases hk0:ops[k]? with
  | none=>simp_all
  | some ok =>
  cases hm0:ops[m]? with
  | none=>simp_all
  | some om =>
  rw[hk0,hm0]at h
  simp only at h |-
  obtain⟨h1,⟨h2,h3⟩,h4,h5⟩:=h
  exact⟨h1,WS (fun s' hs'=>XV ra s' hs') ⟨h2,h3.1,h3.2⟩,WS (fun s' hs'=>XV rb s' hs') ⟨h4,h5.1,h5.2⟩⟩
 | j::r,s,h=>by
  simp only[zcn]at h
  simp only[zeJ]
  cases h0:ops[j]? with
  | none=>simp_all
  | some o =>
   rw[h0]at h
   simp only at h |-
   obtain⟨h1,h2,hg,h⟩:=h
   left
   refine⟨h1,?_⟩
   rcases h with⟨h3,h4⟩|h3
   ·obtain⟨_,tv,h5,h6⟩:=zdD (cf:=cf) (ops:=ops) h3 h4
    exact⟨tv,none,⟨⟨.inl ⟨by simp[yO,hg],fun s' ha=>h5 s' ha.light⟩,by simp,h2⟩,fun _=>⟨hg,h5⟩⟩,zbw r _ h6⟩
   ·obtain⟨tv,h5,h6⟩:=zkQ (Lt:=Lt) (cf:=cf) (ops:=ops) h3
    exact⟨tv,none,⟨⟨.inl ⟨by simp[yO,hg],fun s' ha=>h5 s' ha.light⟩,by simp,h2⟩,fun _=>⟨hg,h5⟩⟩,zbw r _ h6⟩
theorem AT.two {c:Ctx} (hl:laidOutB c.P=true) (hm:c.P.follows .mixedOrders=true) {cf:Cfg} {id:Nat} {ops:Array Oper} {K:Exit->St->Prop} {s:St} (l:List Nat) (k m:Nat) (ra rb lt:List Nat)
  (hdst:(ops.toList.all fun o=>match o.dst with|some d=>decide (d<c.n)|none=>true)=true) (hwk:wkB ops=true) (hlen:ra.length=rb.length) (ha:C7 ops (l++k::ra)=true) (hb:C7 ops (l++m::rb)=true)
  (h:zcn [k,m] c.P cf ops ⟨lt,[]⟩ (K .normal) k m ra rb l s):AT c (.region id ops true) K s:=by
 intro a w g β hS
 refine wpIn_region_any hm ?_
 have hd:∀o∈ops.toList,∀d,o.dst=some d->d<c.n:=by
  grind
 simp only[C7,Bool.and_eq_true,beq_iff_eq]at ha hb
 refine zaO hl hd (Q:=K .normal) (cf:=cf) (Lt:=⟨lt,[]⟩) (pr:=[k,m]) (fun a w hg=>hg) _ _ _ _ ⟨s,g,β,?_,hS.drew _⟩
 have:=DL (P:=c.P) (cf:=cf) (Lt:=⟨lt,[]⟩) (pr:=[k,m]) hwk (Q:=K .normal) hlen l (Array.replicate ops.size false) s (DC.start ops) (fun j hj _=>by simp_all) (fun j hj _=>by simp_all) ha.1.2 hb.1.2 (zbw l s h)
 simp_all
theorem AT.seq {c:Ctx} {x y:Code} {K:Exit->St->Prop} {s:St} (h:AT c x (zaR (fun s'=>AT c y K s') K) s):AT c (.seq x y) K s:=by
 intro a w g β hS
 refine wpIn_seq (wpIn_mono (h a w g β hS) ?_)
 intro e a' w' hq
 cases e with
 | normal =>
  obtain⟨s',g',β',hk,hS'⟩:=hq
  exact hk a' w' g' β' hS'
 | _=>exact hq
theorem q7.of_at {P:Program} (hl:laidOutB P=true) {f:FuncId} {fn:Func} {code:Code} (hf:P.funcs[f]?=some fn) (hb:fn.body=some code)
  {args:List TV} {H:q8} {R:TV->q8->Prop} (hn:args.length<=fn.ntmps) (h:∀imm0 w0,AT ⟨P,fn.ntmps,imm0,H,w0,none,[]⟩ code (zer P fn R) (entry args H)):q7 P f args H R:=by
 intro imm w vs hrep hargs
 have hlen:=(YB hargs).1
 have hvs:vs.size<=fn.ntmps:=by simp_all
 have hS:zF ⟨P,fn.ntmps,imm,H,w,none,[]⟩ (entry args H) { tmps:=vs++Array.replicate (fn.ntmps-vs.size) undef,defers:=[] } w (g0 imm) (fun _=>0):={
  defers:=⟨rfl,List.nodup_nil,fun D hD=>by grind [entry]⟩
  size:=by simp;omega
  env:=fun t=>by
   simp only[entry]
   cases ht:args[t]? with
   | none=>trivial
   | some tv =>
    obtain⟨v,h1,h2⟩:=(YB hargs).2 t tv ht
    have hv:(vs++Array.replicate (fn.ntmps-vs.size) undef).getD t undef=v:=by
     have hlt:t<vs.size:=by
      grind
     simp_all[Array.getElem?_append_left]
    simp only[Option.getD_some]
    rw[hv]
    cases tv with
    | av d x=>exact h2
    | cst u=>exact h2
    | tup xs=>exact h2
    | _=>exact h2.elim
  locs:=fun k d x e=>by grind [entry]
  inj:=fun k j e=>by simp[entry]
  rep:=hrep
  toks:=fun k t e=>by grind [g0]
  tokd:=fun k k' t t' e=>by simp[g0]
  toknew:=fun k v _=>rfl
  step:=JN.refl }
 have hcl:CallsIn (fen none) 0 P f vs w fun e w'=>∃v r imm' H',e=.returned v/\R r H'/\AR P (g0 imm') w' r v/\Rep P (g0 imm') w' H'/\JN imm H w imm' H' w':=by
  refine callsIn_of_wp_marks hf hb trivial (wpIn_mono (h imm w _ _ _ _ hS) ?_) rfl
  intro e a' w' hq
  have fin:wF ⟨P,fn.ntmps,imm,H,w,none,[]⟩ (fun s=>YD P s fn.results.toList fn.resultTypes.toList fun xs=>R (UY xs).er s.H.er) a' w'->
    LeavesInM (fen none) 0 P fn a'.tmps (fun e w'=>∃v r imm' H',e=.returned v/\R r H'/\AR P (g0 imm') w' r v/\Rep P (g0 imm') w' H'/\JN imm H w imm' H' w') a'.defers .returning w':=by
   rintro⟨s,g,β,hk,hS'⟩
   refine YF (c:=⟨P,fn.ntmps,imm,H,w,none,[]⟩) rfl hl s.dfs s a' w' g β rfl hS' hk ?_
   intro a2 w2 g2 β2 v r hS2 h2 h3
   refine⟨v,r,g2.imm,s.H.er,rfl,h2,h3,WE (rest:=[]) hS2.rep (by simp),?_⟩
   exact { hS2.step with dom:=fun b hb=>hS2.step.dom b (by grind [q8.er_keys]) }
  cases e with
  | normal=>exact fin hq
  | ret=>exact fin hq
  | exit id=>obtain⟨s,g,β,hk,hS'⟩:=hq;exact hk.elim
  | goto l=>obtain⟨s,g,β,hk,hS'⟩:=hq;exact hk.elim
  | panic ch=>exact hq.elim
  | outgrown=>exact hq.elim
 grind [WT]
theorem AT.nsl {c:Ctx} {code:Code} {K:Exit->St->Prop} {s:St} (n:Nat) (e:TypeId) (h0:s.env n=.cst (.slice none 0 0)) (h:AT c code K { s with env:=upd s.env n (.av (.slice e) .nsl) }):AT c code K s:=by
 intro a w g β hS
 refine h a w g β { hS with
  env:=fun t=>?_
  locs:=fun k d x e=>{ hS.locs k d x e with }
  toks:=fun k t e=>{ hS.toks k t e with } }
 have ht:=hS.env t
 by_cases hn:t=n
 ·subst hn
  rw[h0]at ht
  have hv:a.tmps.getD t undef=.slice none 0 0:=ht
  rw[hv]
  simp only[upd,if_true]
  exact⟨by rfl,e,rfl,rfl⟩
 ·simp only[upd,hn,if_false]
  assumption
theorem zoB {P:Program} {s:St} {H:q8} {g:Gh} {w:World} {β:Nat->Nat} {tv:TV} {v:Value} (h:TVR P s g w β tv v):TVR P { s with H:=H } g w β tv v:=by
 assumption
theorem zF.heap {c:Ctx} {s:St} {a:Act} {w:World} {g:Gh} {β:Nat->Nat} {H:q8} (h:zF c s a w g β) (hk:∀b,b∈H.keys<->b∈s.H.keys) (hr:Rep c.P g w H):zF c { s with H:=H } a w g β :=
 { h with
  env:=fun t=>zoB (h.env t)
  locs:=fun k d x e=>{ h.locs k d x e with noH:=fun hb=>(h.locs k d x e).noH ((hk _).1 hb) }
  rep:=hr
  toks:=fun k t e=>{ h.toks k t e with noH:=fun hb=>(h.toks k t e).noH ((hk _).1 hb) }
  step:=h.step.keys' fun b hb=>(hk b).1 hb }
theorem AT.openMap {c:Ctx} {code:Code} {K:Exit->St->Prop} {s:St} {b:Nat} {k e:TypeId} {es:List (AV × AV)} {rest:q8} (hH:s.H=(b,.map k e es)::rest) (her:(HObj.map k e es).er=.map k e es)
  (h:∀en ck i0 w0,UL c.P k e es en ck i0 w0->AT c code K { s with H:=(b,.raw (.map en ck) i0 w0)::rest }):AT c code K s:=by
 intro a w g β hS
 have hr:=hS.rep
 rw[hH]at hr
 have h1:=WE hr (Hs:=[(b,.map k e es)]) (rest:=rest) (List.Perm.refl _)
 simp only[q8.er_cons,q8.er_nil,her]at h1
 obtain⟨h0,en,ck,hb,hrel,hst⟩:=h1.obj b (.map k e es) (by simp)
 refine h en ck g.imm w ⟨h1.imm,hrel,hst⟩ a w g β (hS.heap (fun x=>by rw[hH];exact Iff.rfl) ⟨hr.imm,hr.nodup,fun x o ho=>?_,hr.tab⟩)
 rcases List.mem_cons.1 ho with e|e
 ·cases e
  exact⟨h0,hb,⟨fun _=>Nat.le_refl _,fun b cs E fz _ hb=>⟨cs,E,fz,hb,rfl,fun _ _=>rfl⟩⟩,rfl⟩
 ·exact hr.obj x o (List.mem_cons_of_mem _ e)
theorem AT.shutMap {c:Ctx} {code:Code} {K:Exit->St->Prop} {s:St} {b:Nat} {k e:TypeId} {es:List (AV × AV)} {en:Array MapEntry} {ck:Nat} {i0:Nat->Nat} {w0:World} {rest:q8} (ho:UL c.P k e es en ck i0 w0)
  (hH:s.H=(b,.raw (.map en ck) i0 w0)::rest) (h:AT c code K { s with H:=(b,.map k e es)::rest }):AT c code K s:=by
 intro a w g β hS
 have hr:=hS.rep
 rw[hH]at hr
 obtain⟨h0,hb,hlat⟩:=hr.obj b (.raw (.map en ck) i0 w0) (by simp)
 have hle:(g0 i0).le g:=⟨hlat.1.1,fun _ _ _ e=>by cases e⟩
 have hk:jP (g0 i0) w0 w:=fun b cs E fz h0 hb=>hlat.1.2 b cs E fz h0 hb
 refine h a w g β (hS.heap (fun x=>by rw[hH];exact Iff.rfl) ⟨hr.imm,hr.nodup,fun x o hx=>?_,hr.tab⟩)
 rcases List.mem_cons.1 hx with e|e
 ·cases e
  exact⟨h0,en,ck,hb,KE hle ho.imm hk ho.ents,ho.st⟩
 ·exact hr.obj x o (List.mem_cons_of_mem _ e)
noncomputable def fzO (b m:Nat) (e:TypeId) (xs:List AV):HObj->HObj
 | .var d x=>.var d (fzA b m e xs x)
 | o=>o
noncomputable def fzS (b m:Nat) (e:TypeId) (xs:List AV) (rest:q8) (s:St):St :=
 { s with env:=fun t=>CQ b m e xs (s.env t),loc:=fun k=>(s.loc k).map fun p=>(p.1,fzA b m e xs p.2),H:=rest.map fun p=>(p.1,fzO b m e xs p.2) }
theorem AT.freeze {c:Ctx} {code:Code} {K:Exit->St->Prop} {s:St} {b m:Nat} {e:TypeId} {xs:List AV} {rest:q8} (hl:laidOutB c.P=true)
  (hH:s.H.Perm ((b,.var (.arr m e) (.agg xs))::rest)) (h:AT c code K (fzS b m e xs rest s)):AT c code K s:=by
 intro a w g β hS
 have hrep:Rep c.P g w ((b,.var (.arr m e) (.agg xs))::rest):=⟨hS.rep.imm,(hH.map _).nodup_iff.1 hS.rep.nodup,fun x o ho=>hS.rep.obj x o (hH.mem_iff.2 ho),hS.rep.tab⟩
 obtain⟨h0,cs,⟨E,fz,hc,_,_⟩,hvc⟩:=hrep.obj b (.var (.arr m e) (.agg xs)) (by simp)
 simp only[VC]at hvc
 obtain⟨hm,hvl⟩:=hvc
 have hsz:=ZD hl _ _ _ hvl
 rw[Array.length_toList,hm]at hsz
 have h00:g.imm b=0:=h0
 obtain⟨g',hg'⟩:∃g':Gh,g'={ g with imm:=upd g.imm b (m*c.P.cellsOf e) }:=⟨_,rfl⟩
 have hgi:g'.imm=upd g.imm b (m*c.P.cellsOf e):=by rw[hg']
 have hgg:g'.γ=g.γ:=by rw[hg']
 have hle:g.le g':=by
  refine⟨fun x=>?_,fun _ _ _ e=>by rw[hgg];exact e⟩
  rw[hgi];simp only[upd];split
  ·rename_i ee;rw[ee,h00];exact Nat.zero_le _
  ·exact Nat.le_refl _
 have hk:jP g w w:=fun b cs E fz _ hb=>⟨cs,E,fz,hb,rfl,fun _ _=>rfl⟩
 have hi:ZI g w:=hrep.imm
 have hcell:zU w b 0 (m*c.P.cellsOf e)=cs.toList:=by
  unfold zU
  rw[hc]
  simp only[List.drop_zero]
  rw[List.take_of_length_le (by simp[hsz])]
 have hv2:VL c.P g' w e xs (zU w b 0 (m*c.P.cellsOf e)):=by
  rw[hcell];exact JS hle hi hk _ _ _ hvl
 have hb2:m*c.P.cellsOf e<=g'.imm b:=by rw[hgi];simp[upd]
 have hfc:∀d x l,VC c.P g w d x l->VC c.P g' w d (fzA b m e xs x) l:=fun d x l hx=>zdW hl hle hi hb2 hv2 hm x d _ hx
 have hfz:∀d x v,VV c.P g w d x v->VV c.P g' w d (fzA b m e xs x) v:=fun d x v hx=>⟨hx.1,hfc _ _ _ hx.2⟩
 have hnd:=hrep.nodup
 simp only[q8.keys,List.map_cons,List.nodup_cons]at hnd
 have hbH:b∈s.H.keys:=List.mem_map.2 ⟨_,hH.mem_iff.2 (List.mem_cons_self ..),rfl⟩
 have hkeys:∀x,x∈(fzS b m e xs rest s).H.keys->x∈s.H.keys:=by
  intro x hx
  simp only[fzS,q8.keys,List.map_map,Function.comp_def]at hx
  obtain⟨p,hp,rfl⟩:=List.mem_map.1 hx
  exact List.mem_map.2 ⟨p,hH.mem_iff.2 (List.mem_cons_of_mem _ hp),rfl⟩
 have himm:∀x,x≠b->g'.imm x=g.imm x:=fun x hx=>by rw[hgi];simp[upd,hx]
 refine h a w g' β ?_
 exact {
  defers:=hS.defers
  size:=hS.size
  env:=fun t=>by
   have ht:=hS.env t
   show TVR c.P _ g' w β (CQ b m e xs (s.env t)) _
   cases he:s.env t with
   | av d x=>rw[he]at ht;exact hfz _ _ _ ht
   | cst cc=>rw[he]at ht;exact ht
   | loc k path =>
    rw[he]at ht
    obtain⟨d,x,off,d',h1,h2,h3⟩:=ht
    exact⟨d,fzA b m e xs x,off,d',by simp[fzS,h1],h2,h3⟩
   | pel d x =>
    rw[he]at ht
    obtain⟨h0,b',off,h1,h2,h3⟩:=ht
    exact⟨h0,b',off,h1,Nat.le_trans h2 (hle.1 b'),jE hle hi hk _ _ _ h3⟩
   | tup l=>rw[he]at ht;obtain⟨us,h3,h4⟩:=ht;exact⟨us,h3,zhf hfz h4⟩
   | junk=>trivial
  locs:=fun k d x hx=>by
   simp only[fzS,Option.map_eq_some_iff]at hx
   obtain⟨⟨d',x'⟩,h1,h2⟩:=hx
   simp only[Prod.mk.injEq]at h2
   obtain⟨rfl,rfl⟩:=h2
   have hL:=hS.locs k d' x' h1
   obtain⟨cs',hc',hv'⟩:=hL.block
   exact⟨hL.base,fun hb=>hL.noH (hkeys _ hb),by rw[himm _ (fun ee=>hL.noH (by rw[ee];exact hbH))];exact hL.imm,cs',hc',hfc _ _ _ hv'⟩
  inj:=fun k j h1 h2=>hS.inj k j (by intro h3;apply h1;simp[fzS,h3]) (by intro h3;apply h2;simp[fzS,h3])
  rep:=by
   refine⟨fun x hx=>?_,?_,fun x o ho=>?_,hrep.tab.keep hle hi hk⟩
   ·rw[hgi]at hx |-
    simp only[upd]at hx |-
    split
    ·rename_i ee;rw[ee];exact⟨cs,E,fz,hc,by rw[hsz];exact Nat.le_refl _⟩
    ·rename_i ee;rw[if_neg ee]at hx;exact hrep.imm x hx
   ·simp only[fzS,q8.keys,List.map_map,Function.comp_def];exact hnd.2
   ·simp only[fzS,List.mem_map]at ho
    obtain⟨⟨x',o'⟩,ho',h2⟩:=ho
    simp only[Prod.mk.injEq]at h2
    obtain⟨rfl,rfl⟩:=h2
    have hne:x'≠b:=fun ee=>hnd.1 (by rw[<-ee];exact List.mem_map.2 ⟨(x',o'),ho',rfl⟩)
    have hob:=hrep.obj x' o' (List.mem_cons_of_mem _ ho')
    cases o' with
    | var d y=>obtain⟨q1,cs',q2,q3⟩:=hob;exact⟨(himm _ hne).trans q1,cs',q2,hfc _ _ _ q3⟩
    | map k e es=>obtain⟨q1,en,ck,q2,q3⟩:=hob;exact⟨(himm _ hne).trans q1,en,ck,q2,KE hle hi hk q3.1,q3.2⟩
    | raw o i0 w0=>obtain⟨q1,q2,q3⟩:=hob;exact⟨(himm _ hne).trans q1,q2,yE q3 hle hk⟩
  toks:=fun k t hx=>by
   rw[hgg]at hx
   have hT:=hS.toks k t hx
   exact⟨hT.base,fun hb=>hT.noH (hkeys _ hb),fun j hj=>hT.noLoc j (by intro h3;apply hj;simp[fzS,h3]),by rw[himm _ (fun ee=>hT.noH (by rw[ee];exact hbH))];exact hT.imm,hT.block⟩
  tokd:=fun k k' t t' h1 h2=>by rw[hgg]at h1 h2;exact hS.tokd k k' t t' h1 h2
  toknew:=fun k v hv=>by rw[hgg];exact hS.toknew k v hv
  step:=by
   have st:=hS.step
   exact {
    os:=st.os,tape:=st.tape,output:=st.output,size:=st.size,drawn:=st.drawn
    frame:=fun x hx hn=>by
     obtain⟨q1,q2⟩:=st.frame x hx hn
     have hne:x≠b:=fun ee=>by
      rcases st.dom b hbH with h1|h1
      ·exact hn (by rw[ee];exact h1)
      ·omega
     exact⟨q1,by rw[himm _ hne];exact q2⟩
    imm:=fun x=>Nat.le_trans (st.imm x) (hle.1 x)
    kept:=st.kept
    dom:=fun x hx=>st.dom x (hkeys _ hx) } }
end Go.Ab
end
section
namespace Go.Ab
open Go
open Classical
variable [Sel]
theorem zec {P:Program} {fr:Frame} {cs:List Frame} {w w':World} {d:Deferred} {ds:List Deferred} {b:Builtin} {ats:Array TypeId} {ty:TypeId} {cn:Array Bool} {v:Value}
  (hm:fr.mode=.returning) (hd:fr.defers=d::ds) (ht:d.target=.builtin b ats ty cn) (hk:(invoke d.target d.args).run P w=.ok (.value v) w') :
  step P (lone fr cs w)=.next (lone { fr with defers:=ds } cs w'):=by
 obtain⟨t,a⟩:=d
 simp only at ht hk
 subst ht
 refine step_lone_go ?_
 simp[stepG,unwind,callDeferred,hm,hd,Sem.runT_eq,hk,GStep.bare_after]

def U3 (P:Program) (fn:Func) (tmps:Array Value) (R:Ending->World->Prop):List Deferred->World->Prop
 | [],w=>∃v,(results fn tmps).run P w=.ok v w/\R (.returned v) w
 | d::ds,w=>(∃r w',d.target=.collected r/\(Instr.takeDeferred r).run P w=.ok [] w'/\U3 P fn tmps R ds w')\/
   ∃b ats ty cn v w',d.target=.builtin b ats ty cn/\(invoke d.target d.args).run P w=.ok (.value v) w'/\U3 P fn tmps R ds w'

theorem gT {P:Program} {F:Fence} {n:Nat} {fn:Func} {tmps:Array Value} {R:Ending->World->Prop}:∀(ds:List Deferred) (w:World) (fr:Frame)
  (cs:List Frame),fr.mode=.returning->fr.defers=ds->fr.tmps=tmps->P.funcs[fr.fn]?=some fn->fr.kind=.normal->F.fn fr.fn->F.room (cs.length+1+n)->U3 P fn tmps R ds w->
  ∃e w' fr',R e w'/\ComesIn (Machine.fenced P F) P (lone fr cs w) (lone fr' cs w') e/\fr'.fn=fr.fn/\fr'.leaving P w' e:=by
 intro ds
 induction ds with
 | nil=>exact fun w fr cs hu hd ht hf hk hb hroom h=>leaves_stepsIn [] .returning w fr cs hu hd ht hf hk hb hroom h
 | cons d ds ih =>
  intro w fr cs hu hd ht hf hk hb hroom h
  have hrun:fr.mode≠.run:=by rw[hu];simp
  rcases h with⟨r,w',htar,htake,hrest⟩|⟨b,ats,ty,cn,v,w',htar,hinv,hrest⟩
  ·have h1:=step_collected (cs:=cs) hrun hd htar htake
   have i1:(lone fr cs w).fenced P F:=fenced_out hb hroom hrun hd (fun g hg=>by rw[htar]at hg;simp[Target.leads]at hg)
   obtain⟨e',w'',fr',hR',hs',hfn',hl'⟩:=ih w' { fr with defers:=[]++ds } cs hu rfl ht hf hk hb hroom hrest
   exact⟨e',w'',fr',hR',ComesIn.of_steps (.one i1 h1) hs',hfn',hl'⟩
  ·have h1:=zec (cs:=cs) hu hd htar hinv
   have i1:(lone fr cs w).fenced P F:=fenced_out hb hroom hrun hd (fun g hg=>by rw[htar]at hg;simp[Target.leads]at hg)
   obtain⟨e',w'',fr',hR',hs',hfn',hl'⟩:=ih w' { fr with defers:=ds } cs hu rfl ht hf hk hb hroom hrest
   exact⟨e',w'',fr',hR',ComesIn.of_steps (.one i1 h1) hs',hfn',hl'⟩

def zdw (P:Program) (fn:Func) (R:Ending->World->Prop):Exit->Act->World->Prop
 | .normal,a,w|.ret,a,w=>U3 P fn a.tmps R a.defers w
 | _,_,_=>False

theorem CJ {P:Program} {F:Fence} {n:Nat} {f:FuncId} {fn:Func} {c:Code} {args:Array Value} {w:World} {R:Ending->World->Prop}
  (hf:P.funcs[f]?=some fn) (hb:fn.body=some c) (hF:F.fn f)
  (h:c.wpIn F n P (zdw P fn R) { tmps:=args++Array.replicate (fn.ntmps-args.size) undef,defers:=[] } w) (hro:F.round=none:=by rfl):CallsIn F n P f args w R:=by
 refine⟨hF,fun cs hr=>?_⟩
 let b:Frame:={ (default:Frame)with fn:=f,kind:=.normal,roundOf:=none }
 have henter:Frame.enter P f args .normal =
   b.atR { tmps:=args++Array.replicate (fn.ntmps-args.size) undef,defers:=[] } [.code c]:=by
  simp[Frame.enter,Frame.atR,hf,hb,b]
 obtain⟨e,a',w',hq,harr⟩:=h b [] cs hro.symm hF hr
 rw[<-henter]at harr
 cases e with
 | normal =>
  obtain⟨e',w'',fr',hR,hs,hfn,hl⟩:=gT (n:=n) a'.defers w' { b.atR a' []with mode:=.returning } cs rfl rfl rfl hf rfl hF hr hq
  exact⟨e',w'',fr',hR,ComesIn.of_steps (StepsIn.trans harr (.one (fenced_calm (fr:=b.atR a' []) hF hr rfl) (stepR_end rfl))) hs,hfn,hl⟩
 | ret =>
  obtain⟨todo,hs₀⟩:=harr.1 rfl
  obtain⟨e',w'',fr',hR,hs,hfn,hl⟩:=gT (n:=n) a'.defers w' { b.atR a' todo with mode:=.returning } cs rfl rfl rfl hf rfl hF hr hq
  exact⟨e',w'',fr',hR,ComesIn.of_steps hs₀ hs,hfn,hl⟩
 | panic chain=>exact hq.elim
 | exit id=>exact hq.elim
 | goto l=>exact hq.elim
 | outgrown=>exact hq.elim

def dlD (ats:Array TypeId) (ty:TypeId) (cn:Array Bool) (b:Nat) (n:Int):Deferred:={ target:=.builtin .delete ats ty cn,args:=#[.map (some b),.int .i64 n] }
def G9 (P:Program) (cf:Cfg) (K:Array TypeId->TypeId->Array Bool->Nat->Int->St->Prop):List Oper->St->Prop
 | [],_=>False
 | [o],s=>o.guard=none/\o.dst=none/\match o.op with
  | .defer { callee:=.builtin .delete,args,argTypes }=>match args.toList with
   | [x,y]=>match ev s x,ev s y with
    | .av (.map _ _) (.map (some b)),.av (.int .i64) (.i .i64 n)=>s.dfs=[]/\K argTypes o.type (args.map fun|.const _=>true|_=>false) b n s
    | _,_=>False
   | _=>False
  | _=>False
 | o::r,s=>o.guard=none/\yQ P cf s o (G9 P cf K r)
theorem pW {P:Program} {n:Nat} {imm:Nat->Nat} {H0:q8} {w0:World} (hl:laidOutB P=true) {cf:Cfg} {ops:Array Oper} (hdst:∀o∈ops.toList,∀d,o.dst=some d->d<n) {K:Array TypeId->TypeId->Array Bool->Nat->Int->St->Prop} {Q:Exit->Act->World->Prop}
  (hQ:∀ats ty cn b i s a w g β,K ats ty cn b i s->s.dfs=[]->zF ⟨P,n,imm,H0,w0,none,[dlD ats ty cn b i]⟩ s a w g β->Q .normal a w) :
  ∀(m k:Nat) (a:Act) (w:World),k+m=ops.size->wF ⟨P,n,imm,H0,w0,none,[]⟩ (G9 P cf K (ops.toList.drop k)) a w->wpOpsIn (fen none) 0 P ops Q (List.range' k m) a w
 | 0,k,a,w,hm,⟨s,g,β,hk,hS⟩=>by
  have:ops.toList.drop k=[]:=List.drop_of_length_le (by simp;omega)
  rw[this]at hk
  exact hk.elim
 | m+1,k,a,w,hm,⟨s,g,β,hk,hS⟩=>by
  have hlt:k<ops.size:=by omega
  have hd:ops.toList.drop k=ops[k]::ops.toList.drop (k+1):=by simp_all[List.drop_eq_getElem_cons]
  rw[hd]at hk
  have hok:ops[k]?=some ops[k]:=by simp[hlt]
  have hmem:ops[k]∈ops.toList:=by simp
  rw[List.range'_succ,wpOpsIn_cons]
  unfold wpOpIn
  rw[hok]
  dsimp only
  cases hr:ops.toList.drop (k+1)with
  | cons o2 r2 =>
   rw[hr]at hk
   obtain⟨hg,hv⟩:=hk
   rw[if_pos (by simp[Region.wanted,hg])]
   rw[<-hr]at hv
   exact Oper.wpIn_mono (fun a' w' hg'=>pW hl hdst hQ m (k+1) a' w' (by omega) hg') (W9 (c:=⟨P,n,imm,H0,w0,none,[]⟩) hl hS (hdst _ hmem) hv)
  | nil =>
   rw[hr]at hk
   have hm0:m=0:=by
    have:=congrArg List.length hr
    simp at this;omega
   subst hm0
   obtain⟨o,ho⟩:∃o,o=ops[k]:=⟨_,rfl⟩
   rw[<-ho]at hk |-
   obtain⟨dst,op,type,pos,after,guard⟩:=o
   simp only[G9]at hk
   obtain⟨hg,hdn,hk⟩:=hk
   subst hg hdn
   rw[if_pos (by simp[Region.wanted])]
   cases op<;>try exact hk.elim
   rename_i cl
   obtain⟨callee,args,ats⟩:=cl
   cases callee<;>try exact hk.elim
   rename_i bi
   cases bi<;>try exact hk.elim
   simp only at hk
   split at hk
   ·rename_i x y hxy
    split at hk
    ·rename_i mk me b i e1 e2
     obtain⟨hdf,hk⟩:=hk
     have h1:=qT hS x
     have h2:=qT hS y
     rw[e1]at h1
     rw[e2]at h2
     obtain⟨f1,h1⟩:=h1
     obtain⟨f2,h2⟩:=h2
     simp only[VC]at h1 h2
     obtain⟨_,_,_,h1⟩:=h1
     have h2':=h2.2
     rw[qK rfl f1]at h1
     rw[qK rfl f2]at h2'
     have hvx:a.eval x=.map (some b):=by simp_all
     have hvy:a.eval y=.int .i64 i:=by simp_all
     have hargs:args.map a.eval=#[.map (some b),.int .i64 i]:=by
      have:args=#[x,y]:=by rw[<-hxy]
      rw[this];simp[hvx,hvy]
     refine⟨fun f _=>trivial,?_⟩
     have hrun:(Oper.semAt (fen none).round a.eval ⟨none,.defer ⟨.builtin .delete,args,ats⟩,type,pos,after,none⟩).run P w=.ok (.defer (dlD ats type (args.map fun|.const _=>true|_=>false) b i)) w:=by
      rw[show (fen none).round=none from rfl,Oper.semAt_none]
      simp[execOp,resolve,dlD,hargs]
      intro z _
      cases z<;>rfl
     rw[hrun,Oper.uponIn_defer]
     show wpOpsIn (fen none) 0 P ops Q [] _ w
     refine hQ _ _ _ _ _ s _ w g β hk hdf ?_
     exact {
      defers:=⟨by have:=hS.defers.1;rw[hdf]at this;rw[hdf];simpa[Act.put]using this,by rw[hdf];exact List.nodup_nil,fun D hD=>by rw[hdf]at hD;cases hD⟩
      size:=hS.size
      env:=hS.env
      locs:=fun j d z e=>by
       have L:=hS.locs j d z e
       exact⟨L.base,L.noH,L.imm,L.block⟩
      inj:=hS.inj
      rep:=hS.rep
      toks:=fun j t e=>by
       have T:=hS.toks j t e
       exact⟨T.base,T.noH,T.noLoc,T.imm,T.block⟩
      tokd:=hS.tokd
      toknew:=hS.toknew
      step:=hS.step }
    ·exact hk.elim
   ·exact hk.elim

def zjW:List (Option Code)->Code->Code
 | [],y=>y
 | some x::r,y=>.seq x (zjW r y)
 | none::r,y=>.scope (zjW r y)
def PT (c:Ctx) (cf:Cfg) (KR:Exit->St->Prop) (K:St->Prop):List (Option Code)->St->Prop
 | [],s=>K s
 | some x::r,s=>vc c cf x (zaR (PT c cf KR K r) KR) s
 | none::r,s=>PT c cf KR K r s
def zm3 (cf:Cfg) (n:Nat):List (Option Code)->Bool
 | []=>true
 | some x::r=>KH cf n x&&zm3 cf n r
 | none::r=>zm3 cf n r
theorem dN {c:Ctx} (hl:laidOutB c.P=true) (hm:c.P.follows .mixedOrders=true) {cf:Cfg} {KR:Exit->St->Prop} {K:St->Prop} {Q:Exit->Act->World->Prop} {y:Code}
  (hgo:∀l a w,¬Q (.goto l) a w) (hKR:∀e a w,e≠.normal->QK c KR e a w->Q e a w) (hy:∀a w,wF c K a w->y.wpIn (fen c.rd) 0 c.P Q a w) :
  ∀(pre:List (Option Code)) (s:St),zm3 cf c.n pre=true->PT c cf KR K pre s->∀a w g β,zF c s a w g β->(zjW pre y).wpIn (fen c.rd) 0 c.P Q a w
 | [],s,_,h,a,w,g,β,hS=>hy a w ⟨s,g,β,h,hS⟩
 | none::r,s,hd,h,a,w,g,β,hS=>by
  refine Y4 (wpIn_mono (dN hl hm hgo hKR hy r s hd h a w g β hS) ?_)
  intro e a' w' hq
  cases e with
  | goto l=>exact absurd hq (hgo l a' w')
  | _=>exact hq
 | some x::r,s,hd,h,a,w,g,β,hS=>by
  simp only[zm3,Bool.and_eq_true]at hd
  refine wpIn_seq (wpIn_mono (JO hl hm x _ s hd.1 h a w g β hS) ?_)
  intro e a' w' hq
  cases e with
  | normal =>
   obtain⟨s',g',β',hk,hS'⟩:=hq
   exact dN hl hm hgo hKR hy r s' hd.2 hk a' w' g' β' hS'
  | _=>exact hKR _ _ _ (by simp) hq
noncomputable def pQ (P:Program) (fn:Func) (R:TV->q8->Prop) (ats:Array TypeId) (b:Nat) (i:Int):Exit->St->Prop
 | .normal,s|.ret,s=>match ats.toList with
  | [T,_]=>s.dfs=[]/\(∃k e,q9 P T=.map k e)/\zoh P s T (.av (q9 P T) (.map (some b))) (.av (.int .i64) (.i .i64 i)) fun s'=>YD P s' fn.results.toList fn.resultTypes.toList fun xs=>R (UY xs).er s'.H.er
  | _=>False
 | _,_=>False
theorem zgR {P:Program} {n:Nat} {imm:Nat->Nat} {H0:q8} {w0:World} {ats:Array TypeId} {ty:TypeId} {cn:Array Bool} {b:Nat} {i:Int} (hl:laidOutB P=true) {fn:Func} {R:TV->q8->Prop} {Q:Ending->World->Prop}
  {s:St} {a:Act} {w:World} {g:Gh} {β:Nat->Nat} (h:zF ⟨P,n,imm,H0,w0,none,[dlD ats ty cn b i]⟩ s a w g β) (hk:pQ P fn R ats b i .ret s)
  (hQ:∀s' w' v r,zF ⟨P,n,imm,H0,w0,none,[dlD ats ty cn b i]⟩ s' a w' g β->R r s'.H.er->AR P (g0 g.imm) w' r v->Q (.returned v) w'):U3 P fn a.tmps Q a.defers w:=by
 simp only[pQ]at hk
 split at hk
 ·rename_i T TK hat
  obtain⟨hdf,⟨mk,me,hT⟩,hk⟩:=hk
  have hats:ats=#[T,TK]:=by rw[<-hat]
  have hde:a.defers=[dlD ats ty cn b i]:=by have:=h.defers.1;rw[hdf]at this;simpa using this
  have h1:TVR P s g w β (.av (q9 P T) (.map (some b))) (.map (some b)):=by
   rw[hT];exact⟨rfl,mk,me,rfl,rfl⟩
  have h2:TVR P s g w β (.av (.int .i64) (.i .i64 i)) (.int .i64 i):=⟨rfl,rfl,rfl⟩
  obtain⟨w',s',hrun,hk',hS'⟩:=zcR (c:=⟨P,n,imm,H0,w0,none,[dlD ats ty cn b i]⟩) (TK:=TK) (ty:=ty) hl h h1 h2 hk
  rw[hde]
  refine .inr ⟨.delete,ats,ty,cn,.tuple #[],w',rfl,?_,?_⟩
  ·show (builtin .delete ats ty cn #[.map (some b),.int .i64 i]).run P w=_
   rw[hats]
   simp[builtin,hrun]
  ·obtain⟨v,r,h3,h4,h5⟩:=gZ hl hS' hk'
   exact⟨v,h3,hQ s' w' v r hS' h4 h5⟩
 ·exact hk.elim

theorem zcL {P:Program} {fn:Func} {tmps:Array Value} {Q:Ending->World->Prop}:∀ {ds:List Deferred} {w:World},(∀d∈ds,∃D,d={ target:=.collected D,args:=#[] })->LeavesInM (fen none) 0 P fn tmps Q ds .returning w->U3 P fn tmps Q ds w
 | [],w,_,h=>h
 | d::ds,w,hd,h=>by
  obtain⟨_,h⟩:=h
  obtain⟨D,hD⟩:=hd d (by simp)
  rcases h with⟨r,w',h1,h2,h3⟩|⟨_,fv,cap,f,args,h1,_⟩
  ·exact .inl ⟨r,w',h1,h2,zcL (fun x hx=>hd x (by simp[hx])) h3⟩
  ·rw[hD]at h1;cases h1
noncomputable def zqS (P:Program) (fn:Func) (R:TV->q8->Prop) (cf:Cfg) (B:Code) (imm0:Nat->Nat) (H:q8) (w0:World) (ats:Array TypeId) (ty:TypeId) (cn:Array Bool) (b:Nat) (i:Int) (s:St):Prop :=
 vc ⟨P,fn.ntmps,imm0,H,w0,none,[dlD ats ty cn b i]⟩ cf B (pQ P fn R ats b i) s
theorem q7.of_vcD {P:Program} (hl:laidOutB P=true) (hm:P.follows .mixedOrders=true) {f:FuncId} {fn:Func} (pre:List (Option Code)) {id:Nat} {ops:Array Oper} {B:Code} (hf:P.funcs[f]?=some fn) (hb:fn.body=some (zjW pre (.seq (.region id ops false) B))) (cf:Cfg)
  (hdA:zm3 cf fn.ntmps pre=true) (hdo:(ops.toList.all fun o=>match o.dst with|some d=>decide (d<fn.ntmps)|none=>true)=true) (hdB:KH cf fn.ntmps B=true)
  {args:List TV} {H:q8} {R:TV->q8->Prop} (hn:args.length<=fn.ntmps)
  (h:∀imm0 w0,PT ⟨P,fn.ntmps,imm0,H,w0,none,[]⟩ cf (zer P fn R) (G9 P cf (zqS P fn R cf B imm0 H w0) ops.toList) pre (entry args H)):q7 P f args H R:=by
 intro imm w vs hrep hargs
 have hlen:=(YB hargs).1
 have hvs:vs.size<=fn.ntmps:=by simp_all
 have hS:zF ⟨P,fn.ntmps,imm,H,w,none,[]⟩ (entry args H) { tmps:=vs++Array.replicate (fn.ntmps-vs.size) undef,defers:=[] } w (g0 imm) (fun _=>0):={
  defers:=⟨rfl,List.nodup_nil,fun D hD=>by grind [entry]⟩
  size:=by simp;omega
  env:=fun t=>by
   simp only[entry]
   cases ht:args[t]? with
   | none=>trivial
   | some tv =>
    obtain⟨v,h1,h2⟩:=(YB hargs).2 t tv ht
    have hv:(vs++Array.replicate (fn.ntmps-vs.size) undef).getD t undef=v:=by
     have hlt:t<vs.size:=by
      grind
     simp_all[Array.getElem?_append_left]
    simp only[Option.getD_some]
    rw[hv]
    cases tv with
    | av d x=>exact h2
    | cst u=>exact h2
    | tup xs=>exact h2
    | _=>exact h2.elim
  locs:=fun k d x e=>by grind [entry]
  inj:=fun k j e=>by simp[entry]
  rep:=hrep
  toks:=fun k t e=>by grind [g0]
  tokd:=fun k k' t t' e=>by simp[g0]
  toknew:=fun k v _=>rfl
  step:=JN.refl }
 have fin0:∀(a':Act) (w':World),wF ⟨P,fn.ntmps,imm,H,w,none,[]⟩ (zer P fn R .ret) a' w'->U3 P fn a'.tmps (fun e w'=>∃v r imm' H',e=.returned v/\R r H'/\AR P (g0 imm') w' r v/\Rep P (g0 imm') w' H'/\JN imm H w imm' H' w') a'.defers w':=by
  rintro a' w' ⟨s,g,β,hk,hS'⟩
  have hm0:=YF (c:=⟨P,fn.ntmps,imm,H,w,none,[]⟩) rfl hl s.dfs s a' w' g β rfl hS' hk (Q:=fun e w'=>∃v r imm' H',e=.returned v/\R r H'/\AR P (g0 imm') w' r v/\Rep P (g0 imm') w' H'/\JN imm H w imm' H' w') (fun a2 w2 g2 β2 v r hS2 h2 h3=>⟨v,r,g2.imm,s.H.er,rfl,h2,h3,WE (rest:=[]) hS2.rep (by simp),{ hS2.step with dom:=fun b hb=>hS2.step.dom b (by grind [q8.er_keys]) }⟩)
  exact zcL (fun d hd=>by
   have:=hS'.defers.1
   rw[this]at hd
   obtain⟨D,_,rfl⟩:=List.mem_map.1 (by simpa using hd)
   exact⟨D,rfl⟩) hm0
 have hcl:CallsIn (fen none) 0 P f vs w fun e w'=>∃v r imm' H',e=.returned v/\R r H'/\AR P (g0 imm') w' r v/\Rep P (g0 imm') w' H'/\JN imm H w imm' H' w':=by
  refine CJ hf hb trivial ?_ rfl
  refine dN (c:=⟨P,fn.ntmps,imm,H,w,none,[]⟩) hl hm (KR:=zer P fn R) (fun l a' w' h=>h) ?_ ?_ pre (entry args H) hdA (h imm w) _ _ _ _ hS
  ·intro e a' w' hne hq
   cases e with
   | normal=>exact absurd rfl hne
   | ret=>exact fin0 a' w' hq
   | exit id=>obtain⟨s,g,β,hk,hS'⟩:=hq;exact hk.elim
   | goto l=>obtain⟨s,g,β,hk,hS'⟩:=hq;exact hk.elim
   | panic ch=>exact hq.elim
   | outgrown=>exact hq.elim
  ·intro a' w' hg
   refine wpIn_seq ?_
   refine wpIn_region ?_
   rw[List.range_eq_range']
   refine pW hl (fun o ho d hd=>by
    have:=List.all_eq_true.1 hdo o ho
    rw[hd]at this
    simpa using this) ?_ ops.size 0 a' w' (by omega) (by simpa using hg)
   intro ats ty cn b i s a2 w2 g2 β2 hk hdf hS2
   refine wpIn_mono (JO (c:=⟨P,fn.ntmps,imm,H,w,none,[dlD ats ty cn b i]⟩) hl hm B _ s hdB hk a2 w2 g2 β2 hS2) ?_
   intro e a3 w3 hq
   have fin:wF ⟨P,fn.ntmps,imm,H,w,none,[dlD ats ty cn b i]⟩ (pQ P fn R ats b i .ret) a3 w3->zdw P fn (fun e w'=>∃v r imm' H',e=.returned v/\R r H'/\AR P (g0 imm') w' r v/\Rep P (g0 imm') w' H'/\JN imm H w imm' H' w') .ret a3 w3:=by
    rintro⟨s3,g3,β3,hk3,hS3⟩
    refine zgR hl hS3 hk3 ?_
    intro s' w' v r hS4 h2 h3
    refine⟨v,r,g3.imm,s'.H.er,rfl,h2,h3,WE (rest:=[]) hS4.rep (by simp),?_⟩
    exact { hS4.step with dom:=fun b hb=>hS4.step.dom b (by grind [q8.er_keys]) }
   cases e with
   | normal=>exact fin hq
   | ret=>exact fin hq
   | exit id=>obtain⟨s,g,β,hk,hS'⟩:=hq;exact hk.elim
   | goto l=>obtain⟨s,g,β,hk,hS'⟩:=hq;exact hk.elim
   | panic ch=>exact hq.elim
   | outgrown=>exact hq.elim
 grind [WT]
section
variable {c:Ctx} {P:Program} {cf:Cfg} {KR:Exit->St->Prop} {K:St->Prop} {s:St}
theorem zdN:PT c cf KR K [] s=K s:=nr rfl
theorem zaJ {x:Code} {r:List (Option Code)}:PT c cf KR K (some x::r) s=vc c cf x (zaR (PT c cf KR K r) KR) s:=nr rfl
theorem zau {r:List (Option Code)}:PT c cf KR K (none::r) s=PT c cf KR K r s:=nr rfl
theorem zh1 {G:Array TypeId->TypeId->Array Bool->Nat->Int->St->Prop} {o o2:Oper} {r:List Oper}:G9 P cf G (o::o2::r) s=(o.guard=none/\yQ P cf s o (G9 P cf G (o2::r))):=nr rfl
theorem zhc {G:Array TypeId->TypeId->Array Bool->Nat->Int->St->Prop} {o:Oper}:G9 P cf G [o] s=(o.guard=none/\o.dst=none/\match o.op with
  | .defer { callee:=.builtin .delete,args,argTypes }=>match args.toList with
   | [x,y]=>match ev s x,ev s y with
    | .av (.map _ _) (.map (some b)),.av (.int .i64) (.i .i64 n)=>s.dfs=[]/\G argTypes o.type (args.map fun|.const _=>true|_=>false) b n s
    | _,_=>False
   | _=>False
  | _=>False):=nr rfl
theorem zmc {fn:Func} {R:TV->q8->Prop} {B:Code} {imm0:Nat->Nat} {H:q8} {w0:World} {ats:Array TypeId} {ty:TypeId} {cn:Array Bool} {b:Nat} {i:Int} :
  zqS P fn R cf B imm0 H w0 ats ty cn b i s=vc ⟨P,fn.ntmps,imm0,H,w0,none,[dlD ats ty cn b i]⟩ cf B (pQ P fn R ats b i) s:=nr rfl
end
end Go.Ab
end
