/- ### regions, code. No condition. -/
import Derived.Test.YtognnffjdckalaaGreatDoorAbNToR
set_option linter.unusedSimpArgs false
set_option linter.unusedVariables false
set_option linter.unusedSectionVars false
section
namespace Go.Ab
open Go
open Classical
variable [Sel]
def gB:TV->Option (Option Bool)
 | .cst (.tuple ⟨[]⟩)=>some none
 | .av .bool (.b x)=>some (some x)
 | .cst (.bool x)=>some (some x)
 | _=>none
noncomputable def vcG (P:Program) (cf:Cfg) (ops:Array Oper) (s:St) (o:Oper) (K:St->Prop):Prop :=
 match o.guard with
 | none=>yD P cf s o K
 | some (j,want)=>match (ops[j]?).bind (·.dst)with
  | some t=>match gB (s.env t)with
   | some b=>(b=some want->yD P cf s o K)/\(b≠some want->K (s.put o.dst (.cst undef)))
   | none=>False
  | none=>False

noncomputable def VI (P:Program) (cf:Cfg) (ops:Array Oper) (K:St->Prop):List Oper->St->Prop
 | [],s=>K s
 | o::r,s=>vcG P cf ops s o (VI P cf ops K r)

theorem x9 {c:Ctx} {s:St} {a:Act} {w:World} {g:Gh} {β:Nat->Nat} (h:qX c s a w g β) {ops:Array Oper} {j t:Nat} (ht:(ops[j]?).bind (·.dst)=some t) {b:Option Bool} (hb:gB (s.env t)=some b) :
  yielded ops a.tmps j=b:=by
 have hv:=h.env t
 have key:∀u:Value,a.tmps.getD t undef=u->yielded ops a.tmps j=match u with|.bool b=>some b|_=>none:=by
  intro u hu
  unfold yielded
  rw[ht]
  simp only[Option.bind_some]
  rw[Array.getD_eq_getD_getElem?]at hu
  cases hg:a.tmps[t]? with
  | none=>rw[hg]at hu;simp at hu;subst hu;rfl
  | some x=>grind
 unfold gB at hb
 split at hb
 ·rename_i e
  cases hb
  rw[e]at hv
  rw[key _ hv]
 ·rename_i x e
  cases hb
  rw[e]at hv
  have:=vV (P:=c.P) (s:=s) (g:=g) (w:=w) (β:=β) (tv:=.av .bool (.b x)) rfl hv
  simp_all
 ·rename_i x e
  cases hb
  rw[e]at hv
  rw[key _ hv]
 ·cases hb

theorem dL {c:Ctx} (hl:laidOutB c.P=true) {cf:Cfg} {ops:Array Oper} (hdst:∀o∈ops.toList,∀d,o.dst=some d->d<c.n) {K:St->Prop} {Q:Exit->Act->World->Prop} (hQ:∀a w,W5 c K a w->Q .normal a w) :
  ∀(m k:Nat) (a:Act) (w:World),k+m=ops.size->W5 c (VI c.P cf ops K (ops.toList.drop k)) a w->wpOpsIn (fen c.rd) 0 c.P ops Q (List.range' k m) a w
 | 0,k,a,w,hm,hg=>by
  have:ops.toList.drop k=[]:=List.drop_of_length_le (by simp;omega)
  rw[this]at hg
  exact hQ a w hg
 | m+1,k,a,w,hm,⟨s,g,β,hk,hS⟩=>by
  have hlt:k<ops.size:=by omega
  have hd:ops.toList.drop k=ops[k]::ops.toList.drop (k+1):=by simp_all[List.drop_eq_getElem_cons]
  rw[hd]at hk
  have hok:ops[k]?=some ops[k]:=by simp[hlt]
  have hmem:ops[k]∈ops.toList:=by simp
  rw[List.range'_succ,wpOpsIn_cons]
  unfold wpOpIn
  rw[hok]
  dsimp only
  simp only[VI]at hk
  unfold vcG at hk
  have rest:∀a w,W5 c (VI c.P cf ops K (ops.toList.drop (k+1))) a w->wpOpsIn (fen c.rd) 0 c.P ops Q (List.range' (k+1) m) a w :=
   fun a w hg=>dL hl hdst hQ m (k+1) a w (by omega) hg
  have run:yD c.P cf s ops[k] (VI c.P cf ops K (ops.toList.drop (k+1)))->Oper.wpIn (fen c.rd) 0 c.P ops[k] a w (wpOpsIn (fen c.rd) 0 c.P ops Q (List.range' (k+1) m)) Q :=
   fun hv=>Oper.wpIn_mono rest (Y6 hl hS (hdst _ hmem) hv)
  cases hgd:ops[k].guard with
  | none =>
   simp_all[Region.wanted]
  | some jw =>
   obtain⟨j,want⟩:=jw
   rw[hgd]at hk
   simp only at hk
   cases ht:(ops[j]?).bind (·.dst)with
   | none=>simp_all
   | some t =>
    rw[ht]at hk
    simp only at hk
    cases hb:gB (s.env t)with
    | none=>simp_all
    | some b =>
     rw[hb]at hk
     have hy:=x9 hS ht hb
     by_cases hbw:b=some want
     ·simp_all[Region.wanted]
     ·rw[if_neg (by simp_all[Region.wanted])]
      exact⟨fun _ _=>trivial,rest _ _ ⟨_,g,β,hk.2 hbw,hS.put (hdst _ hmem) (tv:=.cst undef) rfl⟩⟩

/-! ### regions whose order is open, of operations that only reckon and read -/
noncomputable def pA (P:Program) (ops:Array Oper) (K:St->Prop):List Oper->St->Prop
 | [],s=>K s
 | o::r,s=>match o.guard with
  | none=>z8 P s o.op (WV s o.dst (pA P ops K r))
  | some (j,want)=>match (ops[j]?).bind (·.dst)with
   | some t=>match gB (s.env t)with
    | some b=>(b=some want->z8 P s o.op (WV s o.dst (pA P ops K r)))/\(b≠some want->pA P ops K r (s.put o.dst (.cst undef)))
    | none=>False
   | none=>False

theorem VU {c:Ctx} (hl:laidOutB c.P=true) {ops:Array Oper} {K:St->Prop} {w:World} {g:Gh} {β:Nat->Nat} :
  ∀(l:List Oper) (s:St) (a:Act),(∀o∈l,∀d,o.dst=some d->d<c.n)->qX c s a w g β->pA c.P ops K l s->wpStill c.P ops w (fun a=>W5 c K a w) l a
 | [],s,a,_,hS,hk=>⟨s,g,β,hk,hS⟩
 | o::r,s,a,hdst,hS,hk=>by
  simp only[wpStill]
  have step:z8 c.P s o.op (WV s o.dst (pA c.P ops K r))->o.still c.P a w (wpStill c.P ops w (fun a=>W5 c K a w) r):=by
   intro hp
   obtain⟨u,tu,hr,hk',ht⟩:=KU hl hS hp
   unfold Oper.still
   rw[hr,Oper.stillUpon_value]
   exact VU hl r _ _ (fun o' ho'=>hdst o' (by simp[ho'])) (hS.put (hdst o (by simp)) ht) hk'
  simp only[pA]at hk
  cases hgd:o.guard with
  | none =>
   simp_all[Region.wanted]
  | some jw =>
   obtain⟨j,want⟩:=jw
   rw[hgd]at hk
   simp only at hk
   cases ht:(ops[j]?).bind (·.dst)with
   | none=>simp_all
   | some t =>
    rw[ht]at hk
    simp only at hk
    cases hb:gB (s.env t)with
    | none=>simp_all
    | some b =>
     rw[hb]at hk
     have hy:=x9 hS ht hb
     by_cases hbw:b=some want
     ·simp_all[Region.wanted]
     ·rw[if_neg (by simp_all[Region.wanted])]
      exact VU hl r _ _ (fun o' ho'=>hdst o' (by simp[ho'])) (hS.put (hdst o (by simp)) (tv:=.cst undef) rfl) (hk.2 hbw)

def QK (c:Ctx) (K:Exit->St->Prop):Exit->Act->World->Prop
 | .panic _,_,_=>False
 | .outgrown,_,_=>False
 | e,a,w=>W5 c (K e) a w
def Z9 (D:List Nat):Nat->List Oper->List Nat
 | _,[]=>D
 | k,o::r=>Z9 (if o.after.any (fun e=>Region.binds .any e&&D.contains e.on) then k::D else D) (k+1) r
def zbP (ops:Array Oper) (i:Nat):List Nat:=Z9 [i] 0 ops.toList
def VZ (ops:Array Oper) (j:Nat):Bool:=(List.range ops.size).all fun i=>if i<j then(zbP ops i).contains j else if j<i then(zbP ops j).contains i else true

def DC (ops:Array Oper) (listed:Array Bool):Prop:=∀k o,ops[k]?=some o->listed.getD k true=true->∀e∈o.after,Region.binds .any e=true->listed.getD e.on false=true

theorem zcs {ops:Array Oper} {i:Nat}:∀(l:List Oper) (k:Nat) (D:List Nat),(∀j,l[j]?=ops[k+j]?)->
  (∀x∈D,x=i\/∃o,ops[x]?=some o/\∃e∈o.after,Region.binds .any e=true/\e.on∈Z9 D k l)->
  ∀x∈Z9 D k l,x=i\/∃o,ops[x]?=some o/\∃e∈o.after,Region.binds .any e=true/\e.on∈Z9 D k l
 | [],k,D,_,hD=>hD
 | o::r,k,D,hl,hD=>by
  simp only[Z9]at hD |-
  have h0:ops[k]?=some o:=by simpa using(hl 0).symm
  have hsub:∀(r:List Oper) (k:Nat) (D:List Nat),∀x∈D,x∈Z9 D k r:=by
   intro r
   induction r with
   | nil=>intro k D x hx;exact hx
   | cons o r ih =>
    grind [Z9]
  refine zcs r (k+1) _ (fun j=>by have:=hl (j+1);grind) ?_
  grind

theorem VS {ops:Array Oper} {i:Nat} {listed:Array Bool} (hdc:DC ops listed) (hi:listed.getD i true=false):∀(l:List Oper) (k:Nat) (D:List Nat),(∀j,l[j]?=ops[k+j]?)->(∀x∈D,listed.getD x true=false)->∀x∈Z9 D k l,listed.getD x true=false
 | [],_,_,_,hD=>hD
 | o::r,k,D,hl,hD=>by
  simp only[Z9]
  have h0:ops[k]?=some o:=by simpa using(hl 0).symm
  refine VS hdc hi r (k+1) _ (fun j=>by have:=hl (j+1);grind) ?_
  split
  ·rename_i hany
   intro x hx
   rcases List.mem_cons.1 hx with rfl|hx
   ·rw[Array.any_eq_true]at hany
    obtain⟨n,hn,he⟩:=hany
    simp only[Bool.and_eq_true,List.contains_iff_mem]at he
    cases hk:listed.getD x true with
    | false=>rfl
    | true =>
     have h1:=hdc x o h0 hk _ (Array.getElem_mem hn) he.1
     grind
   simp_all
  ·exact hD

theorem wY {ops:Array Oper} {i k:Nat} {listed:Array Bool} (hdc:DC ops listed) (hi:listed.getD i true=false) (hk:k∈zbP ops i) (hne:k≠i):k∉Region.ready .any ops listed:=by
 intro hr
 obtain⟨_,o,ho,hall⟩:=mem_ready.1 hr
 have hs:=zcs (ops:=ops) (i:=i) ops.toList 0 [i] (by simp) (fun x hx=>.inl (by simp_all)) k hk
 rcases hs with rfl|⟨o',ho',e,he,hb,hon⟩
 ·exact hne rfl
 grind [VS]

theorem K0 {ops:Array Oper} {i j:Nat} {listed:Array Bool} (hdc:DC ops listed) (hb:VZ ops j=true) (hj:j∈Region.ready .any ops listed) (hi:i∈Region.ready .any ops listed):i=j:=by
 obtain⟨ui,oi,hoi,_⟩:=mem_ready.1 hi
 obtain⟨uj,oj,hoj,_⟩:=mem_ready.1 hj
 have h1:=List.all_eq_true.1 hb i (List.mem_range.2 (Array.getElem?_eq_some_iff.1 hoi).1)
 rcases Nat.lt_trichotomy i j with h|h|h
 ·rw[if_pos h]at h1
  grind [wY]
 ·exact h
 ·rw[if_neg (by omega),if_pos h]at h1
  grind [wY]

theorem DC.list {ops:Array Oper} {i:Nat} {listed:Array Bool} (h:DC ops listed) (hr:i∈Region.ready .any ops listed):DC ops (listed.setIfInBounds i true):=by
 intro k o ho hk e he hb
 by_cases hki:k=i
 ·grind [mem_ready,getD_set_true]
 ·rw[getD_set_ne true (Ne.symm hki)]at hk
  exact getD_set_true (h k o ho hk e he hb)
theorem DC.start (ops:Array Oper):DC ops (Array.replicate ops.size false):=by
 intro k o ho hk
 have hlt:=(Array.getElem?_eq_some_iff.1 ho).1
 simp_all
def V9 (o:Oper):Option Nat :=
 match o.op with
 | .alloc _=>o.dst
 | .box _ _=>o.dst
 | .store _ (.tmp t) _=>some t
 | _=>none

def P3 (ops:Array Oper) (i j:Nat):Bool :=
 (match ops[i]? with|some o=>o.after.any fun e=>Region.binds .any e&&e.on==j|none=>false) ||
 (match ops[j]? with|some o=>o.after.any fun e=>Region.binds .any e&&e.on==i|none=>false)

def rdJ (ops:Array Oper) (i k:Nat):Nat->List Oper->Bool
 | _,[]=>true
 | j,o'::r=>(j==i||V9 o' != some k||P3 ops i j)&&rdJ ops i k (j+1) r

theorem zfU {ops:Array Oper} {i k:Nat}:∀(l:List Oper) (j0:Nat),rdJ ops i k j0 l=true->∀j oj,l[j]?=some oj->j0+j≠i->V9 oj=some k->P3 ops i (j0+j)=true
 | [],_,_,j,_,h,_,_=>by simp at h
 | o'::r,j0,h,0,oj,hj,hne,hk=>by
  simp_all[rdJ]
 | o'::r,j0,h,j+1,oj,hj,hne,hk=>by
  simp only[rdJ,Bool.and_eq_true]at h
  have:=zfU r (j0+1) h.2 j oj (by simp_all) (by omega) hk
  grind

def xK (ops:Array Oper) (i:Nat) (o:Oper) (s:St):Bool :=
 (o.looksAt ops).all fun t=>match s.env t with
  | .loc k _=>rdJ ops i k 0 ops.toList
  | _=>true

def wkB (ops:Array Oper):Bool :=
 (List.range ops.size).all fun i=>(List.range ops.size).all fun j=>i==j||(match (ops[i]?).bind V9,(ops[j]?).bind V9 with|some k,some k'=>k != k'||P3 ops i j|_,_=>true)

def St.app (s:St) (dst:Option Nat) (tv:TV) (ky:Option (Nat × (TyD × AV))):St :=
 { s.put dst tv with loc:=match ky with|some (k,x)=>upd s.loc k (some x)|none=>s.loc }

structure Agr (ops:Array Oper) (o:Oper) (s s':St):Prop where
 env:∀t∈o.looksAt ops,s'.env t=s.env t
 loc:∀t∈o.looksAt ops,∀k p,s.env t=.loc k p->s'.loc k=s.loc k
 H:s'.H=s.H
 ver:s'.ver=s.ver
 new:∀d,o.dst=some d->V9 o=some d->s.loc d=none->s'.loc d=none

theorem Agr.refl (ops:Array Oper) (o:Oper) (s:St):Agr ops o s s:=⟨fun _ _=>rfl,fun _ _ _ _ _=>rfl,rfl,rfl,fun _ _ _ h=>h⟩
theorem Agr.trans {ops:Array Oper} {o:Oper} {s s' s'':St} (h:Agr ops o s s') (h':Agr ops o s' s''):Agr ops o s s'' :=
 ⟨fun t ht=>(h'.env t ht).trans (h.env t ht),fun t ht k p e=>(h'.loc t ht k p ((h.env t ht).trans e)).trans (h.loc t ht k p e),h'.H.trans h.H,h'.ver.trans h.ver,fun d e1 e2 e3=>h'.new d e1 e2 (h.new d e1 e2 e3)⟩

def YdS (P:Program) (cf:Cfg) (ops:Array Oper) (s:St) (o:Oper) (tv:TV) (ky:Option (Nat × (TyD × AV))):Prop :=
 ∀s',Agr ops o s s'->∀K:St->Prop,K (s'.app o.dst tv ky)->yD P cf s' o K

def y5 (ops:Array Oper) (o:Oper) (s:St):Option Bool :=
 match o.guard with
 | none=>some true
 | some (j,want)=>match (ops[j]?).bind (·.dst)with
  | some t=>(gB (s.env t)).map fun b=>decide (b=some want)
  | none=>none

structure YI (P:Program) (cf:Cfg) (ops:Array Oper) (i:Nat) (o:Oper) (tv:TV) (ky:Option (Nat × (TyD × AV))) (s:St):Prop where
 does:(y5 ops o s=some true/\YdS P cf ops s o tv ky)\/(y5 ops o s=some false/\tv=.cst undef/\ky=none)
 key:∀k x,ky=some (k,x)->V9 o=some k
 rd:xK ops i o s=true

def zhb (o:Oper):Bool:=match o.op with
 | .call { callee:=.builtin .append,.. }=>true
 | .makeMap _ _=>true
 | .mapUpdate _ _ _ _=>true
 | .insert _ _ _ _=>true
 | .makeSlice _ _ _=>true
 | .call { callee:=.builtin .clear,.. }=>true
 | .call { callee:=.builtin .delete,.. }=>true
 | _=>false
def zgd (ops:Array Oper):Bool:=(List.range ops.size).all fun k=>match ops[k]? with|some o=>!zhb o||VZ ops k|none=>true
theorem zhX {ops:Array Oper} (h:zgd ops=true) {k:Nat} {o:Oper} (ho:ops[k]?=some o) (hi:zhb o=true):VZ ops k=true:=by
 have h1:=List.all_eq_true.1 h k (List.mem_range.2 (Array.getElem?_eq_some_iff.1 ho).1)
 simp_all
def q1 (P:Program) (cf:Cfg) (ops:Array Oper) (i:Nat) (o:Oper) (K:St->Prop) (s:St):Prop:=∃tv ky,YI P cf ops i o tv ky s/\K (s.app o.dst tv ky)
def q2 (P:Program) (cf:Cfg) (ops:Array Oper) (i:Nat) (o:Oper) (K:St->Prop) (s:St):Prop:=VZ ops i=true/\∃K1:St->Prop,vcG P cf ops s o K1/\∀s,K1 s->K s
def qA (P:Program) (cf:Cfg) (ops:Array Oper) (i:Nat) (K:St->Prop) (s:St):Prop :=
 match ops[i]? with
 | none=>K s
 | some o=>q1 P cf ops i o K s\/q2 P cf ops i o K s

def zjO (P:Program) (cf:Cfg) (ops:Array Oper) (Q:St->Prop):Nat->Array Bool->St->Prop
 | 0,listed,s=>Region.ready .any ops listed=[]/\Q s
 | fuel+1,listed,s=>(Region.ready .any ops listed=[]->Q s)/\∀i∈Region.ready .any ops listed,qA P cf ops i (zjO P cf ops Q fuel (listed.setIfInBounds i true)) s

theorem VQ {c:Ctx} {s:St} {a:Act} {w:World} {g:Gh} {β:Nat->Nat} (h:qX c s a w g β) {ops:Array Oper} {o:Oper} {b:Bool} (hw:y5 ops o s=some b):Region.wanted o (yielded ops a.tmps)=b:=by
 unfold y5 at hw
 cases hg:o.guard with
 | none=>simp_all[Region.wanted]
 | some jw =>
  obtain⟨j,want⟩:=jw
  rw[hg]at hw
  simp only at hw
  cases ht:(ops[j]?).bind (·.dst)with
  | none=>simp_all
  | some t =>
   rw[ht]at hw
   simp only at hw
   cases hb:gB (s.env t)with
   | none=>simp_all
   | some v =>
    grind [x9,Region.wanted]

theorem CI {c:Ctx} (hl:laidOutB c.P=true) {cf:Cfg} {ops:Array Oper} (hdst:∀o∈ops.toList,∀d,o.dst=some d->d<c.n) {i:Nat} {K:St->Prop} {s:St} {a:Act} {w:World} {g:Gh} {β:Nat->Nat} (hS:qX c s a w g β)
  (h:qA c.P cf ops i K s) {K':Act->World->Prop} (hK:∀a w,W5 c K a w->K' a w) {Q:Exit->Act->World->Prop}:wpOpIn (fen c.rd) 0 c.P ops Q i K' a w:=by
 unfold qA at h
 unfold wpOpIn
 split
 ·rename_i ho;simp only[ho]at h;exact hK _ _ ⟨s,g,β,h,hS⟩
 ·rename_i o ho
  simp only[ho]at h
  have hmem:o∈ops.toList:=by
   grind
  have skip:∀(K1:St->Prop),(∀s,K1 s->K s)->K1 (s.put o.dst (.cst undef))->K' (a.put o.dst undef) w:=fun K1 himp hk=>by
   exact hK _ _ ⟨_,g,β,himp _ hk,hS.put (hdst o hmem) (tv:=.cst undef) (v:=undef) rfl⟩
  rcases h with h|⟨_,K1,hv,himp⟩
  rotate_left
  ·have run:yD c.P cf s o K1->(o.wpIn (fen c.rd) 0 c.P a w K' Q):=fun hv=>Oper.wpIn_mono (fun a w hg=>hK a w (by obtain⟨s',g',β',h1,h2⟩:=hg;exact⟨s',g',β',himp _ h1,h2⟩)) (Y6 hl hS (hdst o hmem) (K:=K1) hv)
   unfold vcG at hv
   cases hg:o.guard with
   | none =>
    simp_all[Region.wanted]
   | some jw =>
    obtain⟨j,want⟩:=jw
    rw[hg]at hv
    simp only at hv
    cases ht:(ops[j]?).bind (·.dst)with
    | none=>simp_all
    | some t =>
     rw[ht]at hv
     simp only at hv
     cases hb:gB (s.env t)with
     | none=>simp_all
     | some b =>
      rw[hb]at hv
      have hy:=x9 hS ht hb
      by_cases hbw:b=some want
      ·simp_all[Region.wanted]
      ·rw[if_neg (by simp_all[Region.wanted])]
       exact⟨fun _ _=>trivial,skip K1 himp (hv.2 hbw)⟩
  obtain⟨tv,ky,hy,hk⟩:=h
  rcases hy.does with⟨hw,hyd⟩|⟨hw,rfl,rfl⟩
  ·rw[if_pos (VQ hS hw)]
   exact Oper.wpIn_mono (fun a w hg=>hK a w hg) (Y6 hl hS (hdst o hmem) (K:=K) (hyd s (Agr.refl _ _ _) K hk))
  ·rw[if_neg (by grind [VQ])]
   refine⟨fun _ _=>trivial,hK _ _ ⟨_,g,β,hk,?_⟩⟩
   have:=hS.put (hdst o hmem) (tv:=.cst undef) (v:=undef) rfl
   cases hd:o.dst with
   | none=>assumption
   | some d=>rw[hd]at this;exact this

theorem zaB {c:Ctx} (hl:laidOutB c.P=true) {cf:Cfg} {ops:Array Oper} (hdst:∀o∈ops.toList,∀d,o.dst=some d->d<c.n) {Q:St->Prop} {Q':Exit->Act->World->Prop} (hQ:∀a w,W5 c Q a w->Q' .normal a w) :
  ∀(fuel:Nat) (listed:Array Bool) (a:Act) (w:World),W5 c (zjO c.P cf ops Q fuel listed) a w->wpAnyIn (fen c.rd) 0 c.P .any ops Q' fuel listed a w
 | 0,_,a,w,⟨s,g,β,h,hS⟩=>⟨h.1,hQ a w ⟨s,g,β,h.2,hS⟩⟩
 | fuel+1,_,a,w,⟨s,g,β,h,hS⟩=>⟨fun h0=>hQ a w ⟨s,g,β,h.1 h0,hS⟩,fun i hi=>CI hl hdst hS (h.2 i hi) (fun a' w' hg=>zaB hl hdst hQ fuel _ a' w' hg)⟩

theorem vJ {ops:Array Oper} {i:Nat} {o:Oper} {s:St} (h:xK ops i o s=true) {t:Nat} (ht:t∈o.looksAt ops) {k:Nat} {p:List Nat} (he:s.env t=.loc k p) {j:Nat} {oj:Oper} (hj:ops[j]?=some oj) (hji:j≠i) (hk:V9 oj=some k) :
  P3 ops i j=true:=by
 unfold xK at h
 have h1:=List.all_eq_true.1 h t ht
 rw[he]at h1
 simp only at h1
 have:=zfU ops.toList 0 h1 j oj (by simp_all) (by omega) hk
 simp_all

theorem Agr.wanted {ops:Array Oper} {o:Oper} {s s':St} (h:Agr ops o s s'):y5 ops o s'=y5 ops o s:=by
 unfold y5
 cases hg:o.guard with
 | none=>rfl
 | some jw =>
  obtain⟨j,want⟩:=jw
  simp only
  cases ht:(ops[j]?).bind (·.dst)with
  | none=>rfl
  | some t =>
   simp only
   rw[h.env t (by simp_all[Oper.looksAt])]

theorem Agr.rd {ops:Array Oper} {i:Nat} {o:Oper} {s s':St} (h:Agr ops o s s'):xK ops i o s'=xK ops i o s:=by
 unfold xK
 rw[Bool.eq_iff_iff,List.all_eq_true,List.all_eq_true]
 constructor<;>intro h1 t ht<;>have h2:=h1 t ht
 ·rw[h.env t ht]at h2;exact h2
 ·rw[h.env t ht];exact h2

theorem YI.same {P:Program} {cf:Cfg} {ops:Array Oper} {i:Nat} {o:Oper} {tv:TV} {ky:Option (Nat × (TyD × AV))} {s s':St} (h:YI P cf ops i o tv ky s) (ha:Agr ops o s s'):YI P cf ops i o tv ky s':=by
 refine⟨?_,h.key,?_⟩
 ·rw[ha.wanted]
  rcases h.does with⟨h1,h2⟩|h1
  ·exact .inl ⟨h1,fun s'' h3=>h2 s'' (ha.trans h3)⟩
  simp_all
 ·rw[ha.rd];exact h.rd

theorem St.app_env {s:St} {dst:Option Nat} {tv:TV} {ky:Option (Nat × (TyD × AV))} {t:Nat} (h:dst≠some t):(s.app dst tv ky).env t=s.env t:=by
 cases dst with
 | none=>rfl
 | some d =>
  have:t≠d:=fun e=>h (e▸rfl)
  simp[St.app,St.put,upd,this]
theorem St.app_loc {s:St} {dst:Option Nat} {tv:TV} {ky:Option (Nat × (TyD × AV))} {k:Nat} (h:∀x,ky≠some (k,x)):(s.app dst tv ky).loc k=s.loc k:=by
 cases ky with
 | none=>rfl
 | some kx =>
  obtain⟨k',x⟩:=kx
  have:k≠k':=fun e=>h x (e▸rfl)
  simp[St.app,upd,this]
theorem St.app_dfs {s:St} {dst:Option Nat} {tv:TV} {ky:Option (Nat × (TyD × AV))}:(s.app dst tv ky).dfs=s.dfs:=by cases dst<;>rfl
theorem St.app_H {s:St} {dst:Option Nat} {tv:TV} {ky:Option (Nat × (TyD × AV))}:(s.app dst tv ky).H=s.H:=by cases dst<;>rfl
theorem St.app_ver {s:St} {dst:Option Nat} {tv:TV} {ky:Option (Nat × (TyD × AV))}:(s.app dst tv ky).ver=s.ver:=by cases dst<;>rfl
theorem zfh {α:Type} (f:Nat->α) {i j:Nat} (h:i≠j) (x y:α):upd (upd f i x) j y=upd (upd f j y) i x:=by
 grind [upd]
theorem St.app_comm (s:St) {d d':Option Nat} {tv tv':TV} {ky ky':Option (Nat × (TyD × AV))} (h1:∀t,d=some t->d'≠some t) (h2:∀k x x',ky=some (k,x)->ky'≠some (k,x')) :
  (s.app d tv ky).app d' tv' ky'=(s.app d' tv' ky').app d tv ky:=by
 have e1:((s.app d tv ky).app d' tv' ky').env=((s.app d' tv' ky').app d tv ky).env:=by
  cases d with
  | none=>cases d'<;>rfl
  | some t =>
   cases d' with
   | none=>rfl
   | some t'=>exact zfh _ (fun e=>h1 t rfl (by rw[e])) _ _
 have e2:((s.app d tv ky).app d' tv' ky').loc=((s.app d' tv' ky').app d tv ky).loc:=by
  cases ky with
  | none=>rfl
  | some kx =>
   cases ky' with
   | none=>rfl
   | some kx' =>
    obtain⟨k,x⟩:=kx
    obtain⟨k',x'⟩:=kx'
    exact zfh _ (fun e=>h2 k x x' rfl (by rw[e])) _ _
 have e3:∀(s:St) d tv ky d' tv' ky',((s.app d tv ky).app d' tv' ky').ver=s.ver:=fun s d tv ky d' tv' ky'=>by simp[St.app_ver]
 have e4:∀(s:St) d tv ky d' tv' ky',((s.app d tv ky).app d' tv' ky').H=s.H:=fun s d tv ky d' tv' ky'=>by simp[St.app_H]
 have e5:∀(s:St) d tv ky d' tv' ky',((s.app d tv ky).app d' tv' ky').dfs=s.dfs:=fun s d tv ky d' tv' ky'=>by simp[St.app_dfs]
 have ext:∀(a b:St),a.env=b.env->a.loc=b.loc->a.ver=b.ver->a.H=b.H->a.dfs=b.dfs->a=b:=by rintro⟨⟩ ⟨⟩ rfl rfl rfl rfl rfl;rfl
 grind

theorem GP {ops:Array Oper} (h:wkB ops=true) {i j:Nat} {oi oj:Oper} (hi:ops[i]?=some oi) (hj:ops[j]?=some oj) (hij:i≠j) {k:Nat} (h1:V9 oi=some k) (h2:V9 oj=some k):P3 ops i j=true:=by
 unfold wkB at h
 have a:=List.all_eq_true.1 (List.all_eq_true.1 h i (List.mem_range.2 (Array.getElem?_eq_some_iff.1 hi).1)) j (List.mem_range.2 (Array.getElem?_eq_some_iff.1 hj).1)
 simp_all

theorem zpQ {P:Program} {cf:Cfg} {ops:Array Oper} {i:Nat} {o:Oper} {K K':St->Prop} {s:St} (h:∀s,K s->K' s) (hh:q1 P cf ops i o K s):q1 P cf ops i o K' s:=by
 obtain⟨tv,ky,h1,h2⟩:=hh;exact⟨tv,ky,h1,h _ h2⟩

theorem zqU {P:Program} {cf:Cfg} {ops:Array Oper} (hwk:wkB ops=true) {i j:Nat} {oi oj:Oper} (hi:ops[i]?=some oi) (hj:ops[j]?=some oj) (hij:i≠j) (hap:oi.apart ops oj=true) (hord:P3 ops i j=false)
  {tv:TV} {ky:Option (Nat × (TyD × AV))} {K:St->Prop} {s:St} (hy:YI P cf ops i oi tv ky s) (h:q1 P cf ops j oj K (s.app oi.dst tv ky)) :
  q1 P cf ops j oj (fun s'=>YI P cf ops i oi tv ky s'/\K (s'.app oi.dst tv ky)) s:=by
 obtain⟨h1,h2,h3⟩:=Oper.apart_spec hap
 have hord':P3 ops j i=false:=by simp_all[P3]
 have hj':=hj
 obtain⟨tv',ky',hy',hk⟩:=h
 have keys:∀k x x',ky=some (k,x)->ky'≠some (k,x'):=fun k x x' e1 e2=>by
  have:=GP hwk hi hj' hij (hy.key _ _ e1) (hy'.key _ _ e2)
  simp_all
  -- j as it would be ahead of i
 have aj:Agr ops oj (s.app oi.dst tv ky) s:=by
  refine⟨fun t ht=>(St.app_env fun e=>h1 t e ht).symm,fun t ht k p e=>?_,St.app_H.symm,St.app_ver.symm,fun d e1 e2 e3=>?_⟩
  ·refine(St.app_loc fun x e2=>?_).symm
   have:=vJ hy'.rd ht e hi hij (hy.key _ _ e2)
   simp_all
  ·cases ky with
   | none=>exact e3
   | some kx =>
    obtain⟨k,x⟩:=kx
    by_cases hkd:k=d
    ·simp_all[St.app,upd]
    simp_all[St.app_loc]
 have ai:Agr ops oi s (s.app oj.dst tv' ky'):=by
  refine⟨fun t ht=>St.app_env fun e=>h3 t e ht,fun t ht k p e=>St.app_loc fun x e2=>?_,St.app_H,St.app_ver,fun d e1 e2 e3=>?_⟩
  ·have:=vJ hy.rd ht e hj' (Ne.symm hij) (hy'.key _ _ e2)
   simp_all
  ·rw[St.app_loc fun x e=>?_]
   ·exact e3
   ·have:=GP hwk hi hj' hij e2 (hy'.key _ _ e)
    simp_all
 refine⟨tv',ky',hy'.same aj,hy.same ai,?_⟩
 grind [St.app_comm]

theorem g9 {ops:Array Oper} {i j:Nat} {oi oj:Oper} (hi:ops[i]?=some oi) (hj:ops[j]?=some oj) (h1:∀e∈oi.after,Region.binds .any e=true->e.on≠j) (h2:∀e∈oj.after,Region.binds .any e=true->e.on≠i):P3 ops i j=false:=by
 simp_all[P3]

theorem zhc {P:Program} {cf:Cfg} {ops:Array Oper} (hwk:wkB ops=true) {Q:St->Prop} {i:Nat} {oi:Oper} {tv:TV} {ky:Option (Nat × (TyD × AV))} (hi:ops[i]?=some oi) :
  ∀(fuel:Nat) (listed:Array Bool) (s:St),DC ops listed->
   (∀j oj,ops[j]?=some oj->j≠i->listed.getD j true=false->(∀e∈oj.after,Region.binds .any e=true->e.on≠i)->oi.apart ops oj=true)->
   i∈Region.ready .any ops listed->YI P cf ops i oi tv ky s->
   zjO P cf ops Q fuel (listed.setIfInBounds i true) (s.app oi.dst tv ky)->zjO P cf ops Q (fuel+1) listed s:=by
 have own:∀ {K:St->Prop} {s:St},YI P cf ops i oi tv ky s->K (s.app oi.dst tv ky)->qA P cf ops i K s:=fun hy hk=>by
  unfold qA;simp only[hi];exact .inl ⟨tv,ky,hy,hk⟩
 intro fuel
 induction fuel with
 | zero =>
  intro listed s _ _ hr hy H
  refine⟨fun h=>(by simp_all),fun j hj=>?_⟩
  by_cases hji:j=i
  ·simp_all
  ·have:=ready_mono hj hji
   rw[H.1]at this
   cases this
 | succ fuel ih =>
  intro listed s hdc hfree hr hy H
  refine⟨fun h=>(by simp_all),fun j hj=>?_⟩
  by_cases hji:j=i
  ·simp_all
  ·have h1:=H.2 j (ready_mono hj hji)
   obtain⟨hjun,oj,hoj,hall⟩:=mem_ready.1 hj
   obtain⟨hiun,oi',hoi',halli⟩:=mem_ready.1 hr
   rw[hi]at hoi';cases hoi'
   have not_on:∀ {x y:Nat} {o:Oper},listed.getD y true=false->(∀e∈o.after,Region.binds .any e=true->listed[e.on]?=some true\/listed.getD e.on true=true)->∀e∈o.after,Region.binds .any e=true->e.on≠y:=by
    intro x y o hy' ho e he hb heq
    rcases ho e he hb with h3|h3
    ·simp_all
    simp_all
   have hnot:∀e∈oj.after,Region.binds .any e=true->e.on≠i:=fun e he hb heq=>by
    grind
   have hnot':∀e∈oi.after,Region.binds .any e=true->e.on≠j:=fun e he hb heq=>by
    grind
   have h1':q1 P cf ops j oj (zjO P cf ops Q fuel ((listed.setIfInBounds i true).setIfInBounds j true)) (s.app oi.dst tv ky):=by
    have h1q:=h1
    unfold qA at h1q
    simp only[hoj]at h1q
    rcases h1q with h|⟨hb,_⟩
    ·exact h
    grind [K0]
   have h2:=zqU hwk hi hoj (Ne.symm hji) (hfree j oj hoj hji hjun hnot) (g9 hi hoj hnot' hnot) hy h1'
   have hfree':∀k ok,ops[k]?=some ok->k≠i->(listed.setIfInBounds j true).getD k true=false->
     (∀e∈ok.after,Region.binds .any e=true->e.on≠i)->oi.apart ops ok=true:=fun k ok hk hki hun hno=>by
    refine hfree k ok hk hki ?_ hno
    by_cases hjk:j=k
    ·simp_all
    simp_all
   unfold qA
   simp only[hoj]
   left
   refine zpQ (fun s' h3=>ih (listed.setIfInBounds j true) s' (hdc.list hj) hfree' (ready_mono hr (Ne.symm hji)) h3.1 ?_) h2
   grind [Array.setIfInBounds_comm]

def zjA (P:Program) (cf:Cfg) (ops:Array Oper) (Q:St->Prop):Nat->List Oper->St->Prop
 | _,[],s=>Q s
 | k,o::r,s=>q1 P cf ops k o (zjA P cf ops Q (k+1) r) s\/q2 P cf ops k o (zjA P cf ops Q (k+1) r) s

theorem zaj {P:Program} {cf:Cfg} {ops:Array Oper} (hwk:wkB ops=true) {Q:St->Prop}:∀(l:List Oper) (k:Nat) (listed:Array Bool) (s:St),DC ops listed->(∀j,l[j]?=ops[k+j]?)->
  Region.lexFrom .any ops l.length k listed=true->zjA P cf ops Q k l s->zjO P cf ops Q l.length listed s
 | [],_,_,_,_,_,hB,h=>⟨by simp_all[Region.lexFrom],h⟩
 | o::l,k,listed,s,hdc,hl,hB,h=>by
  have h0:ops[k]?=some o:=by simpa using(hl 0).symm
  simp only[List.length_cons,Region.lexFrom,Bool.and_eq_true]at hB
  obtain⟨⟨hr,hf⟩,hB'⟩:=hB
  have hr':k∈Region.ready .any ops listed:=by simp_all
  rcases h with h|⟨hb,K1,hv,himp⟩
  rotate_left
  ·refine⟨fun h=>(by simp_all),fun j hj=>?_⟩
   obtain rfl:=K0 hdc hb hr' hj
   unfold qA
   simp only[h0]
   exact .inr ⟨hb,K1,hv,fun s' hs'=>zaj hwk l (j+1) _ _ (hdc.list hr') (fun i=>by have:=hl (i+1);grind) hB' (himp s' hs')⟩
  obtain⟨tv,ky,hy,hK⟩:=h
  exact zhc hwk h0 l.length listed s hdc (Region.free_spec h0 hf) (by omega) hy
   (zaj hwk l (k+1) _ _ (hdc.list hr') (fun j=>by have:=hl (j+1);grind) hB' hK)
def Det (F:(TV->Prop)->Prop):Prop:=∀K,F K->∃tv,K tv/\∀K',K' tv->F K'

theorem zhJ {P:Program} {T:TypeId} {x i:TV}:Det (PW P T x i):=by
 intro K h
 unfold PW at *
 repeat' split at h
 all_goals first|exact h.elim|exact⟨_,h.2.2,fun K' hk=>by simp_all⟩
theorem zpD {op:UnOp} {x:TV}:Det (unV op x):=by
 intro K h
 unfold unV at *
 grind
theorem zke {P:Program} {S D:TypeId} {x:TV}:Det (CG P S D x):=by
 intro K h
 unfold CG at *
 repeat' split at h
 all_goals grind
 all_goals
  grind
theorem zmd {P:Program} {s:St} {T:TypeId} {x:TV} {K:TV->Prop} (h:zhg P s T x K):∃y,K y/\∀s',s'.H=s.H->∀K':TV->Prop,K' y->zhg P s' T x K':=by
 have hmo:∀s',s'.H=s.H->∀k e,xZ s' k e x=xZ s k e x:=fun s' hH k e=>by simp_all[xZ]
 unfold zhg at *
 grind
theorem zjD {P:Program} {T:TypeId} {x:TV}:Det (zgM P T x):=by
 intro K h
 unfold zgM at *
 grind
theorem zmW {P:Program} {T:TypeId} {x:TV}:Det (zmP P T x):=by
 intro K h
 unfold zmP at *
 grind
theorem zmr {l:List TV}:Det (znu l):=by
 intro K h
 unfold znu at *
 grind
theorem zo7 {l:List TV}:Det (zob l):=by
 intro K h
 unfold zob at *
 grind
theorem zkx {P:Program} {c x y:TV}:Det (zcX P c x y):=by
 intro K h
 unfold zcX at *
 cases hc:asB c with
 | none=>simp_all
 | some b =>
  rw[hc]at h
  simp only at h
  split at h
  ·grind
  ·rename_i hno
   cases b
   ·grind
   grind
theorem zgN {P:Program} {op:BinOp} {T:TypeId} {c:Bool} {x y:TV}:Det (zgE P op T c x y):=by
 intro K h
 unfold zgE at *
 repeat' split at h
 all_goals grind

structure Lk (xs:List Operand) (s s':St):Prop where
 ev:∀x∈xs,ev s' x=ev s x
 loc:∀x∈xs,∀k p,Go.Ab.ev s x=.loc k p->s'.loc k=s.loc k
 H:s'.H=s.H

theorem zin {P:Program} {s:St} {tv:TV} {K:TyD->AV->Prop} (h:wL P s tv K):∃d x,K d x/\∀s',s'.H=s.H->(∀k p,tv=.loc k p->s'.loc k=s.loc k)->∀K':TyD->AV->Prop,K' d x->wL P s' tv K':=by
 unfold wL at h
 split at h
 ·rename_i k path
  split at h
  ·rename_i d x e1
   split at h
   ·rename_i d' y e2 e3
    exact⟨_,_,h,fun s' hH hl K' hk=>by simp_all[wL]⟩
   simp_all
  simp_all
 ·grind [wL]
 ·rename_i b d path
  split at h
  ·rename_i d0 x e1
   obtain⟨rfl,h⟩:=h
   split at h
   ·rename_i d' y e2 e3
    exact⟨_,_,h,fun s' hH hl K' hk=>by simp_all[wL]⟩
   simp_all
  simp_all
 simp_all

theorem zaK {P:Program} {s:St} {T:TypeId} {f:Nat} {tv:TV} {K:TV->Prop} (h:jC P s T f tv K):∃x,K x/\∀s',s'.H=s.H->(∀k p,tv=.loc k p->s'.loc k=s.loc k)->∀K':TV->Prop,K' x->jC P s' T f tv K':=by
 unfold jC at h
 split at h
 ·rename_i fs e1
  split at h
  ·rename_i F e2
   obtain⟨h0,h⟩:=h
   split at h
   ·rename_i k path
    split at h
    ·rename_i d x e3
     exact⟨_,h.2,fun s' hH hl K' hk=>by simp_all[jC]⟩
    simp_all
   ·grind [jC]
   ·grind [jC]
   simp_all
  simp_all
 simp_all

theorem zaS {P:Program} {s:St} {T:TypeId} {tv i:TV} {K:TV->Prop} (h:jS P s T tv i K):∃x,K x/\∀s',s'.H=s.H->(∀k p,tv=.loc k p->s'.loc k=s.loc k)->∀K':TV->Prop,K' x->jS P s' T tv i K':=by
 unfold jS at h
 split at h
 ·exact h.elim
 ·rename_i k0 n e0
  split at h
  ·rename_i e e1
   split at h
   ·grind [jS]
   ·grind [jS]
   simp_all
  ·rename_i m e e1
   obtain⟨h1,h2,h3,h⟩:=h
   split at h
   ·rename_i k path
    split at h
    ·rename_i d x e3
     exact⟨_,h.2,fun s' hH hl K' hk=>by simp_all[jS]⟩
    simp_all
   ·grind [jS]
   ·grind [jS]
   simp_all
  simp_all

theorem zgc {s:St} {lo:Option Operand} {h0:Nat} {K:Nat->Nat->Prop} (h:zbE s lo h0 K):∃a b,K a b/\∀s',(∀x,lo=some x->ev s' x=ev s x)->∀K':Nat->Nat->Prop,K' a b->zbE s' lo h0 K':=by
 unfold zbE at h
 split at h
 ·grind [zbE]
 ·rename_i o
  split at h
  ·rename_i k l e1
   exact⟨_,_,h.2.2,fun s' he K' hk=>by simp_all[zbE]⟩
  simp_all
theorem YV {s:St} {len:Nat} {lo hi:Option Operand} {K:Nat->Nat->Prop} (h:yZ s len lo hi K):∃a b,K a b/\∀s',(∀x,lo=some x->ev s' x=ev s x)->(∀x,hi=some x->ev s' x=ev s x)->∀K':Nat->Nat->Prop,K' a b->yZ s' len lo hi K':=by
 unfold yZ at h
 split at h
 ·simp_all[zgc,yZ]
 ·rename_i o
  split at h
  ·rename_i k l e1
   obtain⟨h3,h4,h⟩:=h
   obtain⟨a,b,h1,h2⟩:=zgc h
   exact⟨a,b,h1,fun s' he1 he2 K' hk=>by simp_all[yZ]⟩
  simp_all
theorem zi4 {P:Program} {s:St} {T:TypeId} {tv:TV} {lo hi:Option Operand} {K:TV->Prop} (h:xQ P s T tv lo hi K):∃x,K x/\∀s',(∀x,lo=some x->ev s' x=ev s x)->(∀x,hi=some x->ev s' x=ev s x)->∀K':TV->Prop,K' x->xQ P s' T tv lo hi K':=by
 unfold xQ at h
 split at h
 ·grind [YV,xQ]
 ·grind [YV,xQ]
 ·grind [YV,xQ]
 simp_all

theorem zge {P:Program} {s:St} {T:TypeId} {tv:TV} {lo:Option Operand} {hi m:Operand} {K:TV->Prop} (h:YQ P s T tv lo hi m K):∃x,K x/\∀s',(∀x,lo=some x->ev s' x=ev s x)->ev s' hi=ev s hi->ev s' m=ev s m->∀K':TV->Prop,K' x->YQ P s' T tv lo hi m K':=by
 unfold YQ at h
 split at h
 ·rename_i e e1
  split at h
  ·rename_i t xs e2
   obtain⟨h0,h⟩:=h
   split at h
   ·grind [YV,YQ]
   simp_all
  simp_all
 simp_all

theorem zft {P:Program} {s:St} {T:TypeId} {tv i:TV} {ok:Bool} {K:TV->Prop} (h:xF P s T tv i ok K):∃x,K x/\∀s',s'.H=s.H->∀K':TV->Prop,K' x->xF P s' T tv i ok K':=by
 have hmo:∀s',s'.H=s.H->∀k e,xZ s' k e tv=xZ s k e tv:=fun s' hH k e=>by simp_all[xZ]
 unfold xF at h
 split at h
 ·rename_i k e e1
  split at h
  ·rename_i y e2
   obtain⟨h1,h2,h⟩:=h
   split at h
   ·grind [xF]
   simp_all
  simp_all
 simp_all

theorem zaL {s s':St} {xs:List Operand} (h:∀x∈xs,ev s' x=ev s x):xs.map (ev s')=xs.map (ev s):=List.map_congr_left h

theorem zkk {P:Program} {s:St} {op:Op} {K:TV->Prop} (h:z8 P s op K):∃tv,K tv/\∀s',Lk op.operands.toList s s'->∀K':TV->Prop,K' tv->z8 P s' op K':=by
 have done:∀ {F:(TV->Prop)->Prop},Det F->F K->(∀s',Lk op.operands.toList s s'->∀K',F K'->z8 P s' op K')->∃tv,K tv/\∀s',Lk op.operands.toList s s'->∀K':TV->Prop,K' tv->z8 P s' op K':=by
  intro F hd hf hs
  obtain⟨tv,h1,h2⟩:=hd K hf
  grind
 unfold z8 at h
 split at h
 ·exact⟨_,h,fun s' hk K' h3=>by unfold z8;simp only;rw[hk.ev _ (by simp[Op.operands])];exact h3⟩
 ·exact⟨_,h,fun s' hk K' h3=>by unfold z8;simp only;rw[hk.ev _ (by simp[Op.operands])];exact h3⟩
 ·exact done zkx h fun s' hk K' h3=>by unfold z8;simp only;rw[hk.ev _ (by simp[Op.operands]),hk.ev _ (by simp[Op.operands]),hk.ev _ (by simp[Op.operands])];exact h3
 ·-- load
  obtain⟨d,x,⟨h1,h2⟩,h3⟩:=zin h
  exact⟨_,h2,fun s' hk K' h4=>by unfold z8;simp only;rw[hk.ev _ (by simp[Op.operands])];exact h3 s' hk.H (fun k p e=>hk.loc _ (by simp[Op.operands]) k p e) _ ⟨h1,h4⟩⟩
 ·-- nilCheck
  rename_i x
  split at h
  ·rename_i f caps e1
   exact⟨_,h,fun s' hk K' h3=>by unfold z8;simp only;rw[hk.ev _ (by simp[Op.operands]),e1];exact h3⟩
  ·rename_i f caps e1
   exact⟨_,h,fun s' hk K' h3=>by unfold z8;simp only;rw[hk.ev _ (by simp[Op.operands]),e1];exact h3⟩
  ·rename_i e1 e1'
   exact⟨_,h.2,fun s' hk K' h3=>by
    unfold z8;simp only;rw[hk.ev _ (by simp[Op.operands])]
    simp_all⟩
 ·-- fieldAddr
  obtain⟨x,h1,h2⟩:=zaK h
  exact⟨_,h1,fun s' hk K' h4=>by unfold z8;simp only;rw[hk.ev _ (by simp[Op.operands])];exact h2 s' hk.H (fun k p e=>hk.loc _ (by simp[Op.operands]) k p e) _ h4⟩
 ·-- field
  rename_i T x f
  split at h
  ·rename_i fs e1
   split at h
   ·rename_i F y e2 e3
    split at h
    ·rename_i z e4
     exact⟨_,h,fun s' hk K' h4=>by unfold z8;simp only;rw[hk.ev _ (by simp[Op.operands])];simp_all⟩
    simp_all
   simp_all
  simp_all
 ·-- indexAddr
  obtain⟨x,h1,h2⟩:=zaS h
  exact⟨_,h1,fun s' hk K' h4=>by unfold z8;simp only;rw[hk.ev _ (by simp[Op.operands]),hk.ev _ (by simp[Op.operands])];exact h2 s' hk.H (fun k p e=>hk.loc _ (by simp[Op.operands]) k p e) _ h4⟩
 ·exact done zhJ h fun s' hk K' h3=>by unfold z8;simp only;rw[hk.ev _ (by simp[Op.operands]),hk.ev _ (by simp[Op.operands])];exact h3
 ·exact done zgN h fun s' hk K' h3=>by unfold z8;simp only;rw[hk.ev _ (by simp[Op.operands]),hk.ev _ (by simp[Op.operands])];exact h3
 ·exact done zpD h fun s' hk K' h3=>by unfold z8;simp only;rw[hk.ev _ (by simp[Op.operands])];exact h3
 ·exact done zke h fun s' hk K' h3=>by unfold z8;simp only;rw[hk.ev _ (by simp[Op.operands])];exact h3
 ·-- makeInterface
  split at h
  ·rename_i y e1
   exact⟨_,h.2,fun s' hk K' h3=>by unfold z8;simp only;rw[hk.ev _ (by simp[Op.operands]),e1];simp_all⟩
  simp_all
 ·-- makeFunc
  rename_i f first caps
  split at h
  ·rename_i e0
   split at h
   ·rename_i xs e1
    exact⟨_,h,fun s' hk K' h3=>by unfold z8;simp only[e0];rw[zaL (fun x hx=>hk.ev x (by simp_all[Op.operands])),e1];exact h3⟩
   simp_all
  ·rename_i o r e0
   obtain⟨rfl,h⟩:=h
   split at h
   ·rename_i xs e1
    exact⟨_,h,fun s' hk K' h3=>by unfold z8;simp only[e0];rw[zaL (fun x hx=>hk.ev x (by simp_all[Op.operands])),e1];simp_all⟩
   simp_all
 ·-- extract
  rename_i x i
  split at h
  ·rename_i xs e1
   split at h
   ·rename_i d y e2
    exact⟨_,h,fun s' hk K' h3=>by unfold z8;simp only;rw[hk.ev _ (by simp[Op.operands]),e1];simp_all⟩
   simp_all
  simp_all
 ·-- slice
  obtain⟨x,h1,h2⟩:=zi4 h
  exact⟨_,h1,fun s' hk K' h4=>by unfold z8;simp only;rw[hk.ev _ (by simp[Op.operands])];exact h2 s' (fun y e=>hk.ev _ (by simp_all[Op.operands])) (fun y e=>hk.ev _ (by simp_all[Op.operands])) _ h4⟩
 ·-- slice,no room behind
  obtain⟨x,h1,h2⟩:=zge h
  exact⟨_,h1,fun s' hk K' h4=>by unfold z8;simp only;rw[hk.ev _ (by simp[Op.operands])];exact h2 s' (fun y e=>hk.ev _ (by simp_all[Op.operands])) (hk.ev _ (by simp[Op.operands])) (hk.ev _ (by simp[Op.operands])) _ h4⟩
 ·-- lookup
  obtain⟨x,h1,h2⟩:=zft h
  exact⟨_,h1,fun s' hk K' h4=>by unfold z8;simp only;rw[hk.ev _ (by simp[Op.operands]),hk.ev _ (by simp[Op.operands])];exact h2 s' hk.H _ h4⟩
 ·-- len
  rename_i args argTypes
  split at h
  ·rename_i x T e1 e2
   obtain⟨y,h1,h2⟩:=zmd h
   exact⟨_,h1,fun s' hk K' h3=>by unfold z8;simp only[e1,e2];rw[hk.ev _ (by simp[Op.operands,Call.operands,Array.mem_def,e1])];exact h2 s' hk.H _ h3⟩
  simp_all
 ·-- where a row begins
  rename_i args argTypes
  split at h
  ·rename_i x T e1 e2
   exact done zjD h fun s' hk K' h3=>by unfold z8;simp only[e1,e2];rw[hk.ev _ (by simp[Op.operands,Call.operands,Array.mem_def,e1])];exact h3
  simp_all
 ·rename_i args _
  exact done zmr h fun s' hk K' h3=>by unfold z8;simp only;rw[zaL (fun x hx=>hk.ev x (by simp_all[Op.operands,Call.operands]))];exact h3
 ·rename_i args _
  exact done zo7 h fun s' hk K' h3=>by unfold z8;simp only;rw[zaL (fun x hx=>hk.ev x (by simp_all[Op.operands,Call.operands]))];exact h3
 ·-- room
  rename_i args argTypes
  split at h
  ·rename_i x T e1 e2
   exact done zmW h fun s' hk K' h3=>by unfold z8;simp only[e1,e2];rw[hk.ev _ (by simp[Op.operands,Call.operands,Array.mem_def,e1])];exact h3
  simp_all
 simp_all
def gS (P:Program) (s:St) (ft:TV) (args:List TV) (dst:Option Nat) (K:St->Prop):Prop :=
 match ft with
 | .av .func (.fn g caps)=>match caps.mapM QB with
  | some cs=>args.all qH=true/\qL P g=true/\∃r,(PC P g ((args++cs).map TV.er) r\/∃(Hs rest:q7),s.H.Perm (Hs++rest)/\q6 P g ((args++cs).map TV.er) Hs.er fun r' H'=>r'=r/\H'=Hs)/\K (s.put dst r)
  | none=>False
 | _=>False

def cE (o:Oper):Bool:=match o.op with
 | .call { callee:=.value _,.. }=>true
 | .call { callee:=.builtin .copy,.. }=>true
 | .call { callee:=.builtin .unsafeString,.. }=>true
 | .buildSlice _ _ _=>true
 | .build _ _=>true
 | .mapUpdate _ _ _ _=>true
 | .insert _ _ _ _=>true
 | .makeMap _ _=>true
 | .makeSlice _ _ _=>true
 | .call { callee:=.builtin .append,.. }=>true
 | .call { callee:=.builtin .clear,.. }=>true
 | .call { callee:=.builtin .delete,.. }=>true
 | _=>false

noncomputable def vcD (P:Program) (cf:Cfg) (s:St) (o:Oper) (K:St->Prop):Prop :=
 match o.op with
 | .alloc T=>match o.dst with
  | some d=>zB P T=true/\cf.esc d=false/\s.loc d=none/\K (s.app (some d) (.loc d []) (some (d,(q8 P T,zT P T))))
  | none=>False
 | .box T x=>match o.dst,co (q8 P T) (ev s x)with
  | some d,some y=>cf.esc d=false/\s.loc d=none/\K (s.app (some d) (.loc d []) (some (d,(q8 P T,y))))
  | _,_=>False
 | .build T parts=>zgD cf o.dst=false/\UJ P s T parts (WV s o.dst K)
 | .buildSlice T n parts=>zgD cf o.dst=false/\match q8 P T with
  | .slice e=>zB P e=true/\j8 P e=true/\n*P.cellsOf e<=16777216/\match wH P s (fun _=>some e) parts.toList (List.replicate n (zT P e))with
   | some xs=>K (s.put o.dst (.av (.slice e) (.sl .full xs)))
   | none=>False
  | _=>False
 | .store T p v=>o.dst=none/\match p with
  | .tmp t=>match s.env t with
   | .loc k path=>k=t/\match co (q8 P T) (ev s v)with
    | some y=>match s.loc k with
     | some (d,x)=>V1 P d path=some (q8 P T)/\(xH x path).isSome=true/\K (s.app none .junk (some (k,(d,gW x path y))))
     | none=>False
    | none=>False
   | _=>False
  | _=>False
 | .call { callee:=.value f,args,.. }=>gS P s (ev s f) (args.toList.map (ev s)) o.dst K
 | op=>z8 P s op (WV s o.dst K)

def mkd (cf:Cfg) (o:Oper):Bool:=match o.op with
 | .store _ (.tmp t) _=>cf.mtb t
 | .call { callee:=.value _,.. }=>match o.dst with
  | some d=>cf.mtb d
  | none=>false
 | .call { callee:=.builtin .copy,.. }=>true
 | .call { callee:=.builtin .unsafeString,.. }=>true
 | .buildSlice _ _ _=>zgD cf o.dst
 | _=>false

noncomputable def uM (P:Program) (cf:Cfg) (ops:Array Oper) (K:St->Prop):Nat->List Oper->St->Prop
 | _,[],s=>K s
 | k,o::r,s=>if zhb o=true then vcG P cf ops s o (uM P cf ops K (k+1) r) else if mkd cf o=true then VZ ops k=true/\vcG P cf ops s o (uM P cf ops K (k+1) r) else xK ops k o s=true/\match o.guard with
  | none=>vcD P cf s o (uM P cf ops K (k+1) r)
  | some (j,want)=>match (ops[j]?).bind (·.dst)with
   | some t=>match gB (s.env t)with
    | some b=>(b=some want->vcD P cf s o (uM P cf ops K (k+1) r))/\(b≠some want->uM P cf ops K (k+1) r (s.put o.dst (.cst undef)))
    | none=>False
   | none=>False

theorem St.app_put (s:St) (dst:Option Nat) (tv:TV):s.app dst tv none=s.put dst tv:=by cases dst<;>rfl

theorem Agr.lk {ops:Array Oper} {o:Oper} {s s':St} (h:Agr ops o s s'):Lk o.op.operands.toList s s':=by
 have hin:∀t,Operand.tmp t∈o.op.operands.toList->t∈o.looksAt ops:=fun t ht=>by
  unfold Oper.looksAt
  grind
 refine⟨fun x hx=>?_,fun x hx k p e=>?_,h.H⟩
 ·cases x with
  | tmp t=>exact h.env t (hin t hx)
  | _=>rfl
 ·cases x with
  | tmp t=>exact h.loc t (hin t hx) k p e
  | _=>cases e

theorem yW {P:Program} {s s':St} {f:Nat->Option TypeId}:∀(l:List (Nat × Operand)) (ps:List AV),(∀x∈l,ev s' x.2=ev s x.2)->wH P s' f l ps=wH P s f l ps
 | [],_,_=>rfl
 | (i,x)::r,ps,h=>by
  have he:ev s' x=ev s x:=h (i,x) (by simp)
  simp only[wH,he]
  cases f i with
  | none=>rfl
  | some T =>
   simp only
   cases co (q8 P T) (ev s x)with
   | none=>rfl
   | some y =>
    simp only
    split
    ·exact yW r _ fun y hy=>h y (by simp[hy])
    ·rfl

theorem zi3 {P:Program} {cf:Cfg} {ops:Array Oper} {s:St} {o:Oper} {K:St->Prop} (h:vcD P cf s o K) :
  ∃tv ky,YdS P cf ops s o tv ky/\(∀k x,ky=some (k,x)->V9 o=some k)/\K (s.app o.dst tv ky):=by
 obtain⟨dst,op,type,pos,after,guard⟩:=o
 unfold vcD at h
 simp only at h
 split at h
 ·-- alloc
  rename_i T
  cases dst with
  | none=>exact h.elim
  | some d =>
   simp only at h
   obtain⟨h1,h2,h3,h4⟩:=h
   refine⟨_,_,fun s' ha K' hk=>?_,?_,h4⟩
   ·unfold yD
    simp only[h2]
    exact⟨h1,by simpa using⟨ha.new d rfl rfl h3,hk⟩⟩
   ·rintro k x e;cases e;rfl
 ·-- box
  rename_i T x
  split at h
  ·rename_i d y e1
   obtain⟨h2,h3,h4⟩:=h
   refine⟨_,_,fun s' ha K' hk=>?_,?_,h4⟩
   ·unfold yD
    have he:ev s' x=ev s x:=ha.lk.ev x (by simp[Op.operands])
    simp only[he,e1,h2]
    simpa using⟨ha.new _ rfl rfl h3,hk⟩
   ·rintro k x e;cases e;rfl
  simp_all
 ·-- build
  rename_i T parts
  obtain⟨hmt,hz,h⟩:=h
  split at h
  ·rename_i fs e1
   split at h
   ·rename_i ps e2
    refine⟨_,none,fun s' ha K' hk=>?_,by simp,by rw[St.app_put];exact h⟩
    unfold yD
    simp only[hmt,Bool.false_eq_true,if_false]
    unfold UJ
    have hc:=yW (P:=P) (f:=(fs[·]?)) parts.toList (Q1 (zT P T)) (s:=s) (s':=s') fun x hx=>ha.lk.ev _ (by grind [Op.operands])
    simp only[e1,hc,e2]
    rw[St.app_put]at hk
    exact⟨hz,hk⟩
   simp_all
  ·rename_i n e e1
   obtain⟨h0,h⟩:=h
   split at h
   ·rename_i ps e2
    refine⟨_,none,fun s' ha K' hk=>?_,by simp,by rw[St.app_put];exact h⟩
    unfold yD
    simp only[hmt,Bool.false_eq_true,if_false]
    unfold UJ
    have hc:=yW (P:=P) (f:=fun _=>some e) parts.toList (Q1 (zT P T)) (s:=s) (s':=s') fun x hx=>ha.lk.ev _ (by grind [Op.operands])
    simp only[e1,hc,e2]
    rw[St.app_put]at hk
    exact⟨hz,h0,hk⟩
   simp_all
  simp_all
 ·-- buildSlice
  rename_i T n parts
  obtain⟨hmt,h⟩:=h
  split at h
  ·rename_i e e1
   obtain⟨h1,h2,h3,h⟩:=h
   split at h
   ·rename_i xs e2
    refine⟨_,none,fun s' ha K' hk=>?_,by simp,by rw[St.app_put];exact h⟩
    unfold yD
    have hc:=yW (P:=P) (f:=fun _=>some e) parts.toList (List.replicate n (zT P e)) (s:=s) (s':=s') fun x hx=>ha.lk.ev _ (by grind [Op.operands])
    simp_all[St.app_put]
   simp_all
  simp_all
 ·-- store
  rename_i T p v
  obtain⟨hd,h⟩:=h
  subst hd
  split at h
  ·rename_i t
   split at h
   ·rename_i k path e1
    obtain⟨rfl,h⟩:=h
    split at h
    ·rename_i y e2
     split at h
     ·rename_i d x e3
      obtain⟨h1,h2,h3⟩:=h
      refine⟨_,_,fun s' ha K' hk=>?_,?_,h3⟩
      ·unfold yD pP
       have he:ev s' v=ev s v:=ha.lk.ev v (by simp[Op.operands])
       have hp:ev s' (.tmp k)=.loc k path:=(ha.lk.ev (.tmp k) (by simp[Op.operands])).trans e1
       have hloc:s'.loc k=s.loc k:=ha.lk.loc (.tmp k) (by simp[Op.operands]) k path e1
       simp_all[St.app,St.put]
      ·rintro k' x' e;cases e;rfl
     simp_all
    simp_all
   simp_all
  simp_all
 ·-- call
  rename_i f args argTypes
  unfold gS at h
  split at h
  ·rename_i g caps e1
   split at h
   ·rename_i cs e2
    obtain⟨h1,h2,r,h3,h4⟩:=h
    refine⟨r,none,fun s' ha K' hk=>?_,by simp,by simp_all[St.app_put]⟩
    have hl:=ha.lk
    have hf:ev s' f=ev s f:=hl.ev f (by simp[Op.operands,Call.operands])
    have hargs:args.toList.map (ev s')=args.toList.map (ev s):=zaL fun x hx=>hl.ev x (by simp_all[Op.operands,Call.operands])
    rw[St.app_put]at hk
    have hne:qN P f=false:=by
     cases f with
     | func g0 =>
      simp_all[ev,JY]
     | _=>rfl
    unfold yD
    simp only[hf,e1,hargs,hne,Bool.false_eq_true,if_false]
    unfold kL
    simp only[e2]
    rcases h3 with h3|⟨Hs,rest,hp,h3⟩
    ·refine⟨h1,h2,[],s'.H,_,by simp,h3,?_⟩
     rintro r' H' ⟨rfl,rfl⟩ _
     exact⟨_,HSub.refl _,hk⟩
    ·have hH:s'.H=s.H:=hl.H
     refine⟨h1,h2,Hs,rest,_,by simp_all,h3,?_⟩
     rintro r' H' ⟨rfl,rfl⟩ _
     exact⟨s'.H,HSub.of_perm (by grind),hk⟩
   simp_all
  simp_all
 ·-- what only reckons
  rename_i n1 n2 n3 n4 n5 n6
  obtain⟨tv,h1,h2⟩:=zkk h
  refine⟨tv,none,fun s' ha K' hk=>?_,by simp,by rw[St.app_put];exact h1⟩
  have h3:=h2 s' ha.lk (WV s' dst K') (by rw[St.app_put]at hk;exact hk)
  unfold yD
  simp only
  split
  ·simp_all
  ·simp_all
  ·simp_all
  ·simp_all
  ·simp_all
  ·simp_all[z8]
  ·simp_all[z8]
  ·simp_all[z8]
  ·simp_all[z8]
  ·simp_all[z8]
  ·simp_all[z8]
  ·simp_all[z8]
  ·simp_all[z8]
  ·rename_i S D x
   cases dst with
   | none=>exact h3
   | some d =>
    have h4:=h3
    unfold z8 at h4
    simp only[CG]at h4
    have hsl:¬D6 (q8 P D)=true:=by
     grind [D6]
    have hot:¬(q8 P D=.other\/q8 P S=.other):=by
     grind
    have hm:G8 (ev s' x)=none:=by
     cases hm:G8 (ev s' x)with
     | none=>rfl
     | some q =>
      exfalso
      unfold G8 at hm
      grind [asI,asS,co]
    simp_all
  ·simp_all[z8]
  ·simp_all[z8]
  ·simp_all[z8]
  ·simp_all[z8]
  ·simp_all
  ·have h4:=h3
   unfold z8 at h4
   rw[if_neg (by grind [zcY])]
   exact h3
  ·simp_all[z8]
  ·exact h3

theorem v8 {P:Program} {cf:Cfg} {ops:Array Oper} (him:zgd ops=true) {K:St->Prop}:∀(l:List Oper) (k:Nat) (s:St),(∀j,l[j]?=ops[k+j]?)->uM P cf ops K k l s->zjA P cf ops K k l s
 | [],_,_,_,h=>h
 | o::r,k,s,hl,h=>by
  have h0:ops[k]?=some o:=by simpa using(hl 0).symm
  have hl':∀j,r[j]?=ops[(k+1)+j]?:=fun j=>by have:=hl (j+1);grind
  simp only[uM]at h
  split at h
  ·rename_i hi
   exact .inr ⟨zhX him h0 hi,_,h,fun s' hs'=>v8 him r (k+1) s' hl' hs'⟩
  split at h
  ·exact .inr ⟨h.1,_,h.2,fun s' hs'=>v8 him r (k+1) s' hl' hs'⟩
  obtain⟨hrd,h⟩:=h
  left
  have does:y5 ops o s=some true->vcD P cf s o (uM P cf ops K (k+1) r)->q1 P cf ops k o (zjA P cf ops K (k+1) r) s:=by
   intro hw hd
   obtain⟨tv,ky,h1,h2,h3⟩:=zi3 (ops:=ops) hd
   exact⟨tv,ky,⟨.inl ⟨hw,h1⟩,h2,hrd⟩,v8 him r _ _ hl' h3⟩
  cases hg:o.guard with
  | none=>simp_all[y5]
  | some jw =>
   obtain⟨j,want⟩:=jw
   rw[hg]at h
   simp only at h
   cases ht:(ops[j]?).bind (·.dst)with
   | none=>simp_all
   | some t =>
    rw[ht]at h
    simp only at h
    cases hb:gB (s.env t)with
    | none=>simp_all
    | some b =>
     rw[hb]at h
     by_cases hbw:b=some want
     ·simp_all[y5]
     ·exact⟨.cst undef,none,⟨.inr ⟨by simp_all[y5],rfl,rfl⟩,by simp,hrd⟩,v8 him r _ _ hl' ((St.app_put ..).symm▸h.2 hbw)⟩
structure LtK where
 l:List Nat
 kb:List Nat
structure zbe (Lt:LtK) (ops:Array Oper) (o:Oper) (s s':St):Prop where
 env:∀t∈o.looksAt ops,s'.env t=s.env t
 loc:∀t∈o.looksAt ops,∀k p,s.env t=.loc k p->s'.loc k=s.loc k
 kept:∀b∈Lt.kb,zU s'.H b=zU s.H b
 new:∀d,o.dst=some d->V9 o=some d->s.loc d=none->s'.loc d=none
theorem Agr.light {Lt:LtK} {ops:Array Oper} {o:Oper} {s s':St} (h:Agr ops o s s'):zbe Lt ops o s s':=⟨h.env,h.loc,fun b _=>by rw[h.H],h.new⟩
theorem zbe.trans {Lt:LtK} {ops:Array Oper} {o:Oper} {s s' s'':St} (h:zbe Lt ops o s s') (h':zbe Lt ops o s' s''):zbe Lt ops o s s'' :=
 ⟨fun t ht=>(h'.env t ht).trans (h.env t ht),fun t ht k p e=>(h'.loc t ht k p ((h.env t ht).trans e)).trans (h.loc t ht k p e),fun b hb=>(h'.kept b hb).trans (h.kept b hb),fun d e1 e2 e3=>h'.new d e1 e2 (h.new d e1 e2 e3)⟩
theorem zbe.rd {Lt:LtK} {ops:Array Oper} {i:Nat} {o:Oper} {s s':St} (h:zbe Lt ops o s s'):xK ops i o s'=xK ops i o s:=by
 unfold xK
 rw[Bool.eq_iff_iff,List.all_eq_true,List.all_eq_true]
 constructor<;>intro h1 t ht<;>have h2:=h1 t ht
 ·rw[h.env t ht]at h2;exact h2
 ·rw[h.env t ht];exact h2

def YdL (Lt:LtK) (P:Program) (cf:Cfg) (ops:Array Oper) (s:St) (o:Oper) (tv:TV) (ky:Option (Nat × (TyD × AV))):Prop :=
 ∀s',zbe Lt ops o s s'->∀K:St->Prop,K (s'.app o.dst tv ky)->yD P cf s' o K

structure YJ (P:Program) (cf:Cfg) (ops:Array Oper) (Lt:LtK) (i:Nat) (o:Oper) (tv:TV) (ky:Option (Nat × (TyD × AV))) (s:St):Prop where
 yi:YI P cf ops i o tv ky s
 lt:Lt.l.contains i=true->o.guard=none/\YdL Lt P cf ops s o tv ky

theorem YJ.same {P:Program} {cf:Cfg} {ops:Array Oper} {Lt:LtK} {i:Nat} {o:Oper} {tv:TV} {ky:Option (Nat × (TyD × AV))} {s s':St} (h:YJ P cf ops Lt i o tv ky s) (ha:Agr ops o s s'):YJ P cf ops Lt i o tv ky s' :=
 ⟨h.yi.same ha,fun hl=>⟨(h.lt hl).1,fun s'' h3=>(h.lt hl).2 s'' (ha.light.trans h3)⟩⟩
theorem YJ.sameL {P:Program} {cf:Cfg} {ops:Array Oper} {Lt:LtK} {i:Nat} {o:Oper} {tv:TV} {ky:Option (Nat × (TyD × AV))} {s s':St} (h:YJ P cf ops Lt i o tv ky s) (hl:Lt.l.contains i=true) (ha:zbe Lt ops o s s'):YJ P cf ops Lt i o tv ky s':=by
 obtain⟨hg,hy⟩:=h.lt hl
 refine⟨⟨.inl ⟨by simp[y5,hg],fun s'' h3=>hy s'' (ha.trans h3.light)⟩,h.yi.key,?_⟩,fun _=>⟨hg,fun s'' h3=>hy s'' (ha.trans h3)⟩⟩
 rw[ha.rd];exact h.yi.rd

def zma (ops:Array Oper) (Lt:LtK) (j:Nat):Bool:=(List.range ops.size).all fun i=>i==j||(zbP ops i).contains j||(zbP ops j).contains i||Lt.l.contains i

def r1 (P:Program) (cf:Cfg) (ops:Array Oper) (Lt:LtK) (i:Nat) (o:Oper) (K:St->Prop) (s:St):Prop:=∃tv ky,YJ P cf ops Lt i o tv ky s/\K (s.app o.dst tv ky)
def DF:List Nat->q7->(St->Prop)->St->Prop
 | [],_,K,s=>K s
 | b::r,H,K,s=>zU s.H b=zU H b/\DF r H K s
theorem ZN:∀ {l:List Nat} {H:q7} {K:St->Prop} {s:St},DF l H K s<->(∀b∈l,zU s.H b=zU H b)/\K s
 | [],_,_,_=>by simp[DF]
 | b::r,H,K,s=>by
  have ih:=ZN (l:=r) (H:=H) (K:=K) (s:=s)
  unfold DF
  rw[ih]
  simp only[List.mem_cons,forall_eq_or_imp,and_assoc]
theorem zfd {P:Program} {s s':St} {ft:TV} {args:List TV} {dst:Option Nat} {K K':St->Prop} (hH:s'.H=s.H) (h:∀H'' r,K (({ s with H:=H'' }:St).put dst r)->K' (({ s' with H:=H'' }:St).put dst r))
  (hc:kL P s ft args dst K):kL P s' ft args dst K':=by
 unfold kL at *
 split at hc
 ·grind
 ·grind
 ·grind
 omega

def zoq (P:Program) (e TX:TypeId) (y:TV):Option (List AV):=match q8 P TX with
 | .slice e'=>if e'=e then(match co (.slice e) y with|some (.sl _ ys)=>some ys|_=>none) else none
 | _=>none
def zbf (P:Program) (s:St) (T:TypeId) (p v:TV) (K:St->Prop):Prop:=match co (q8 P T) v with
 | none=>False
 | some y=>match p with
  | .av .ptr (.ptr b d path)=>match zU s.H b with
   | some (.var d0 x)=>d0=d/\V1 P d path=some (q8 P T)/\(xH x path).isSome=true/\K { s with H:=jZ s.H b (.var d (gW x path y)) }
   | _=>False
  | _=>False
theorem znj {P:Program} {s:St} {T:TypeId} {p v:TV} {K:St->Prop} (h:zbf P s T p v K):pP P s T p v K:=by
 grind [zbf,pP]
def hop (P:Program) (cf:Cfg) (s:St) (dst:Option Nat) (op:Op) (K:St->Prop):Prop:=match op with
 | .call { callee:=.value f,args,.. }=>qN P f=false/\kL P s (ev s f) (args.toList.map (ev s)) dst K
 | .call { callee:=.builtin .append,args,argTypes }=>match dst,args.toList,argTypes.toList with
  | some d,[x,y],[T,TX]=>match q8 P T with
   | .slice e=>match zoq P e TX (ev s y),co (.slice e) (ev s x)with
    | some ys,some (.msl b e' off len cap)=>e'=e/\XO P s d e b off len cap ys K
    | some ys,some .nsl=>appendN P s d e ys K
    | some ys,some (.sl t xs)=>qQ P s d e t xs ys K
    | _,_=>False
   | _=>False
  | _,_,_=>False
 | .makeMap T none=>match dst,q8 P T with
  | some d,.map k e=>∀b,b∉s.H.keys->K (({ s with H:=(b,.map k e [])::s.H }:St).put (some d) (.av (.map k e) (.map (some b))))
  | _,_=>False
 | .store T p v=>dst=none/\zbf P s T (ev s p) (ev s v) K
 | .box T x=>match dst,co (q8 P T) (ev s x)with
  | some d,some y=>cf.esc d=true/\∀b,b∉s.H.keys->K (({ s with H:=(b,.var (q8 P T) y)::s.H }:St).put (some d) (.av .ptr (.ptr b (q8 P T) [])))
  | _,_=>False
 | _=>False
theorem zjS {P:Program} {s:St} {e TX:TypeId} {y:TV} {ys:List AV} (h:zoq P e TX y=some ys) {K:List AV->Prop} (hk:K ys):JE P s e TX y K/\q8 P TX=.slice e:=by
 unfold zoq at h
 split at h
 ·rename_i e' ht
  split at h
  ·rename_i he
   subst he
   split at h
   ·simp_all[JE]
   ·cases h
  ·cases h
 ·cases h
theorem zfF {P:Program} {cf:Cfg} {s:St} {o:Oper} {K:St->Prop} (h:hop P cf s o.dst o.op K):yD P cf s o K:=by
 obtain⟨dst,op,type,pos,after,guard⟩:=o
 unfold hop at h
 simp only at h
 split at h
 ·simp_all[yD]
 ·split at h
  ·grind [zjS,yD]
  simp_all
 ·assumption
 ·simp_all[yD,znj]
 ·split at h
  ·simp_all[yD]
  simp_all
 simp_all
theorem PM {P:Program} {cf:Cfg} {s s':St} {dst:Option Nat} {op:Op} {K K':St->Prop} (hH:s'.H=s.H) (hV:s'.ver=s.ver) (hev:∀x∈op.operands.toList,ev s' x=ev s x)
  (hf:∀f args tys,op=.call ⟨.value f,args,tys⟩->ev s' f=ev s f/\args.toList.map (ev s')=args.toList.map (ev s))
  (hv:∀H'' v'' r,K (({ s with H:=H'',ver:=v'' }:St).put dst r)->K' (({ s' with H:=H'',ver:=v'' }:St).put dst r)) (hc:hop P cf s dst op K):hop P cf s' dst op K':=by
 have h:∀H'' r,K (({ s with H:=H'' }:St).put dst r)->K' (({ s' with H:=H'' }:St).put dst r):=fun H'' r hk=>by
  simp_all
 unfold hop at hc |-
 split at hc
 ·rename_i f args tys
  obtain⟨h1,h2⟩:=hf _ _ _ rfl
  grind [zfd]
 ·rename_i args tys
  split at hc
  ·rename_i d x y T TX e2 e3
   have hx:ev s' x=ev s x:=hev x (by simp[Op.operands,Call.operands,e2])
   have hy:ev s' y=ev s y:=hev y (by simp[Op.operands,Call.operands,e2])
   try simp only[e2,e3]
   split at hc
   ·rename_i e he
    try simp only[he,hx,hy]
    have hg:∀(e:TypeId) (xs ys:List AV),zaZ P s d e xs ys K->zaZ P s' d e xs ys K':=fun e xs ys hg b cap hb hl=>by
     have:=h _ _ (hg b cap (by simp_all) hl)
     simp_all
    split at hc
    ·grind [XO]
    ·simp_all[appendN]
    ·rename_i ys t xs hs hc2
     try simp only[hs,hc2]
     unfold qQ at hc |-
     grind
    omega
   omega
  omega
 ·grind
 ·rename_i T p v
  obtain⟨rfl,hc⟩:=hc
  have hp:ev s' p=ev s p:=hev p (by simp[Op.operands])
  have hv:ev s' v=ev s v:=hev v (by simp[Op.operands])
  refine⟨rfl,?_⟩
  rw[hp,hv]
  unfold zbf at hc |-
  split at hc
  ·exact hc.elim
  ·rename_i y hy
   try simp only[hy]
   split at hc
   ·rw[hH]
    split at hc
    ·obtain⟨q1,q2,q3,q4⟩:=hc
     exact⟨q1,q2,q3,h _ .junk q4⟩
    omega
   omega
 ·grind [Op.operands]
 omega
theorem GX {P:Program} {cf:Cfg} {s:St} {dst:Option Nat} {op:Op} {K K':St->Prop} (h:∀s,K s->K' s) (hc:hop P cf s dst op K):hop P cf s dst op K' :=
 PM rfl rfl (fun _ _=>rfl) (fun _ _ _ _=>⟨rfl,rfl⟩) (fun H'' v'' r hk=>h _ hk) hc
def r3 (P:Program) (cf:Cfg) (ops:Array Oper) (Lt:LtK) (i:Nat) (o:Oper) (K:St->Prop) (s:St):Prop:=zma ops Lt i=true/\o.guard=none/\hop P cf s o.dst o.op (DF Lt.kb s.H K)
def qB (P:Program) (cf:Cfg) (ops:Array Oper) (Lt:LtK) (i:Nat) (K:St->Prop) (s:St):Prop :=
 match ops[i]? with
 | none=>K s
 | some o=>r1 P cf ops Lt i o K s\/q2 P cf ops i o K s\/r3 P cf ops Lt i o K s

def zhd (P:Program) (cf:Cfg) (ops:Array Oper) (Lt:LtK) (Q:St->Prop):Nat->Array Bool->St->Prop
 | 0,listed,s=>Region.ready .any ops listed=[]/\Q s
 | fuel+1,listed,s=>(Region.ready .any ops listed=[]->Q s)/\∀i∈Region.ready .any ops listed,qB P cf ops Lt i (zhd P cf ops Lt Q fuel (listed.setIfInBounds i true)) s

theorem zmY {c:Ctx} (hl:laidOutB c.P=true) {cf:Cfg} {ops:Array Oper} {Lt:LtK} (hdst:∀o∈ops.toList,∀d,o.dst=some d->d<c.n) {i:Nat} {K:St->Prop} {s:St} {a:Act} {w:World} {g:Gh} {β:Nat->Nat} (hS:qX c s a w g β)
  (h:qB c.P cf ops Lt i K s) {K':Act->World->Prop} (hK:∀a w,W5 c K a w->K' a w) {Q:Exit->Act->World->Prop}:wpOpIn (fen c.rd) 0 c.P ops Q i K' a w:=by
 have old:qA c.P cf ops i K s->wpOpIn (fen c.rd) 0 c.P ops Q i K' a w:=fun h=>CI hl hdst hS h hK
 unfold qB at h
 cases ho:ops[i]? with
 | none=>simp_all[qA]
 | some o =>
  rw[ho]at h
  rcases h with⟨tv,ky,h1,h2⟩|h|⟨_,hg,hc⟩
  ·exact old (by unfold qA;rw[ho];exact .inl ⟨tv,ky,h1.yi,h2⟩)
  ·simp_all[qA]
  ·have hmem:o∈ops.toList:=by
    grind
   have hv:yD c.P cf s o K:=zfF (GX (fun s' hk=>(ZN.1 hk).2) hc)
   unfold wpOpIn
   simp only[ho]
   rw[if_pos (by simp[Region.wanted,hg])]
   exact Oper.wpIn_mono (fun a w hg=>hK a w hg) (Y6 hl hS (hdst o hmem) (K:=K) hv)

theorem zb6 {c:Ctx} (hl:laidOutB c.P=true) {cf:Cfg} {ops:Array Oper} {Lt:LtK} (hdst:∀o∈ops.toList,∀d,o.dst=some d->d<c.n) {Q:St->Prop} {Q':Exit->Act->World->Prop} (hQ:∀a w,W5 c Q a w->Q' .normal a w) :
  ∀(fuel:Nat) (listed:Array Bool) (a:Act) (w:World),W5 c (zhd c.P cf ops Lt Q fuel listed) a w->wpAnyIn (fen c.rd) 0 c.P .any ops Q' fuel listed a w
 | 0,_,a,w,⟨s,g,β,h,hS⟩=>⟨h.1,hQ a w ⟨s,g,β,h.2,hS⟩⟩
 | fuel+1,_,a,w,⟨s,g,β,h,hS⟩=>⟨fun h0=>hQ a w ⟨s,g,β,h.1 h0,hS⟩,fun i hi=>zmY hl hdst hS (h.2 i hi) (fun a' w' hg=>zb6 hl hdst hQ fuel _ a' w' hg)⟩

theorem zmJ {P:Program} {cf:Cfg} {ops:Array Oper} {Lt:LtK} (hwk:wkB ops=true) {i j:Nat} {oi oj:Oper} (hi:ops[i]?=some oi) (hj:ops[j]?=some oj) (hij:i≠j) (hap:oi.apart ops oj=true) (hord:P3 ops i j=false)
  {tv:TV} {ky:Option (Nat × (TyD × AV))} {K:St->Prop} {s:St} (hy:YJ P cf ops Lt i oi tv ky s) (h:r1 P cf ops Lt j oj K (s.app oi.dst tv ky)) :
  r1 P cf ops Lt j oj (fun s'=>YJ P cf ops Lt i oi tv ky s'/\K (s'.app oi.dst tv ky)) s:=by
 obtain⟨h1,h2,h3⟩:=Oper.apart_spec hap
 have hord':P3 ops j i=false:=by simp_all[P3]
 have hj':=hj
 obtain⟨tv',ky',hy',hk⟩:=h
 have keys:∀k x x',ky=some (k,x)->ky'≠some (k,x'):=fun k x x' e1 e2=>by
  have:=GP hwk hi hj' hij (hy.yi.key _ _ e1) (hy'.yi.key _ _ e2)
  simp_all
 have aj:Agr ops oj (s.app oi.dst tv ky) s:=by
  refine⟨fun t ht=>(St.app_env fun e=>h1 t e ht).symm,fun t ht k p e=>?_,St.app_H.symm,St.app_ver.symm,fun d e1 e2 e3=>?_⟩
  ·refine(St.app_loc fun x e2=>?_).symm
   have:=vJ hy'.yi.rd ht e hi hij (hy.yi.key _ _ e2)
   simp_all
  ·cases ky with
   | none=>exact e3
   | some kx =>
    obtain⟨k,x⟩:=kx
    by_cases hkd:k=d
    ·simp_all[St.app,upd]
    simp_all[St.app_loc]
 have ai:Agr ops oi s (s.app oj.dst tv' ky'):=by
  refine⟨fun t ht=>St.app_env fun e=>h3 t e ht,fun t ht k p e=>St.app_loc fun x e2=>?_,St.app_H,St.app_ver,fun d e1 e2 e3=>?_⟩
  ·have:=vJ hy.yi.rd ht e hj' (Ne.symm hij) (hy'.yi.key _ _ e2)
   simp_all
  ·rw[St.app_loc fun x e=>?_]
   ·exact e3
   ·have:=GP hwk hi hj' hij e2 (hy'.yi.key _ _ e)
    simp_all
 refine⟨tv',ky',hy'.same aj,hy.same ai,?_⟩
 grind [St.app_comm]

theorem St.app_putH (s:St) {d d':Option Nat} {tv r:TV} {ky:Option (Nat × (TyD × AV))} (H'':q7) (v'':Nat->Nat) (h:∀t,d=some t->d'≠some t) :
  ({ s.app d tv ky with H:=H'',ver:=v'' }:St).put d' r=(({ s with H:=H'',ver:=v'' }:St).put d' r).app d tv ky:=by
 have:=St.app_comm ({ s with H:=H'',ver:=v'' }:St) (d:=d) (d':=d') (tv:=tv) (tv':=r) (ky:=ky) (ky':=none) h (by simp)
 rw[St.app_put,St.app_put]at this
 rw[<-this]
 cases d<;>cases d'<;>rfl

theorem zrh {P:Program} {cf:Cfg} {ops:Array Oper} {Lt:LtK} {i j:Nat} {oi oj:Oper} (hap:oi.apart ops oj=true) (hlt:Lt.l.contains i=true)
  {tv:TV} {ky:Option (Nat × (TyD × AV))} {K:St->Prop} {s:St} (hy:YJ P cf ops Lt i oi tv ky s) (h:r3 P cf ops Lt j oj K (s.app oi.dst tv ky)) :
  r3 P cf ops Lt j oj (fun s'=>YJ P cf ops Lt i oi tv ky s'/\K (s'.app oi.dst tv ky)) s:=by
 obtain⟨h1,h2,h3⟩:=Oper.apart_spec hap
 obtain⟨hg,hyl⟩:=hy.lt hlt
 obtain⟨hs,hgj,hc⟩:=h
 have hev:∀x∈oj.op.operands.toList,ev s x=ev (s.app oi.dst tv ky) x:=by
  intro x hx
  cases x with
  | tmp t =>
   refine(St.app_env fun e=>h1 t e ?_).symm
   unfold Oper.looksAt
   grind
  | _=>rfl
 refine⟨hs,hgj,PM (s:=s.app oi.dst tv ky) St.app_H.symm St.app_ver.symm hev (fun f args tys hop=>⟨hev f (by simp[hop,Op.operands,Call.operands]),List.map_congr_left fun x hx=>hev x (by simp_all[Op.operands,Call.operands])⟩) (fun H'' v'' r hk=>?_) hc⟩
 rw[ZN]at hk |-
 have hHH:∀(s:St) (r:TV),(({ s with H:=H'',ver:=v'' }:St).put oj.dst r).H=H'':=fun s r=>by cases oj.dst<;>rfl
 rw[hHH,St.app_H]at hk
 rw[hHH]
 refine⟨hk.1,?_,?_⟩
 ·refine hy.sameL hlt ⟨fun t ht=>?_,fun t ht k p e=>?_,fun b hb=>by simp_all,fun d e1 e2 e3=>by cases oj.dst<;>exact e3⟩
  ·cases hd:oj.dst with
   | none=>rfl
   | some d =>
    have:t≠d:=fun e=>h3 t (by rw[hd,e]) ht
    simp[St.put,upd,this]
  ·cases hd:oj.dst<;>rfl
 simp_all[St.app_putH]

theorem zjh {P:Program} {cf:Cfg} {ops:Array Oper} {Lt:LtK} {i:Nat} {o:Oper} {K K':St->Prop} {s:St} (h:∀s,K s->K' s) (hh:r1 P cf ops Lt i o K s):r1 P cf ops Lt i o K' s:=by
 obtain⟨tv,ky,h1,h2⟩:=hh;exact⟨tv,ky,h1,h _ h2⟩
theorem zdG {P:Program} {cf:Cfg} {ops:Array Oper} {Lt:LtK} {i:Nat} {o:Oper} {K K':St->Prop} {s:St} (h:∀s,K s->K' s) (hh:r3 P cf ops Lt i o K s):r3 P cf ops Lt i o K' s:=by
 obtain⟨h1,h2,h3⟩:=hh
 exact⟨h1,h2,GX (fun s' hk=>by simp_all[ZN]) h3⟩

theorem zko {ops:Array Oper} {Lt:LtK} {i j:Nat} {listed:Array Bool} (hdc:DC ops listed) (hb:zma ops Lt j=true) (hj:j∈Region.ready .any ops listed) (hi:i∈Region.ready .any ops listed) (hij:i≠j):Lt.l.contains i=true:=by
 obtain⟨ui,oi,hoi,_⟩:=mem_ready.1 hi
 obtain⟨uj,oj,hoj,_⟩:=mem_ready.1 hj
 have h1:=List.all_eq_true.1 hb i (List.mem_range.2 (Array.getElem?_eq_some_iff.1 hoi).1)
 simp only[Bool.or_eq_true,beq_iff_eq]at h1
 grind [wY]

theorem zhq {P:Program} {cf:Cfg} {ops:Array Oper} {Lt:LtK} (hwk:wkB ops=true) {Q:St->Prop} {i:Nat} {oi:Oper} {tv:TV} {ky:Option (Nat × (TyD × AV))} (hi:ops[i]?=some oi) :
  ∀(fuel:Nat) (listed:Array Bool) (s:St),DC ops listed->
   (∀j oj,ops[j]?=some oj->j≠i->listed.getD j true=false->(∀e∈oj.after,Region.binds .any e=true->e.on≠i)->oi.apart ops oj=true)->
   i∈Region.ready .any ops listed->YJ P cf ops Lt i oi tv ky s->
   zhd P cf ops Lt Q fuel (listed.setIfInBounds i true) (s.app oi.dst tv ky)->zhd P cf ops Lt Q (fuel+1) listed s:=by
 have own:∀ {K:St->Prop} {s:St},YJ P cf ops Lt i oi tv ky s->K (s.app oi.dst tv ky)->qB P cf ops Lt i K s:=fun hy hk=>by
  unfold qB;simp only[hi];exact .inl ⟨tv,ky,hy,hk⟩
 intro fuel
 induction fuel with
 | zero =>
  intro listed s _ _ hr hy H
  refine⟨fun h=>(by simp_all),fun j hj=>?_⟩
  by_cases hji:j=i
  ·simp_all
  ·have:=ready_mono hj hji
   rw[H.1]at this
   cases this
 | succ fuel ih =>
  intro listed s hdc hfree hr hy H
  refine⟨fun h=>(by simp_all),fun j hj=>?_⟩
  by_cases hji:j=i
  ·simp_all
  ·have h1:=H.2 j (ready_mono hj hji)
   obtain⟨hjun,oj,hoj,hall⟩:=mem_ready.1 hj
   obtain⟨hiun,oi',hoi',halli⟩:=mem_ready.1 hr
   rw[hi]at hoi';cases hoi'
   have hnot:∀e∈oj.after,Region.binds .any e=true->e.on≠i:=fun e he hb heq=>by
    grind
   have hnot':∀e∈oi.after,Region.binds .any e=true->e.on≠j:=fun e he hb heq=>by
    grind
   have hap:=hfree j oj hoj hji hjun hnot
   have hfree':∀k ok,ops[k]?=some ok->k≠i->(listed.setIfInBounds j true).getD k true=false->
     (∀e∈ok.after,Region.binds .any e=true->e.on≠i)->oi.apart ops ok=true:=fun k ok hk hki hun hno=>by
    refine hfree k ok hk hki ?_ hno
    by_cases hjk:j=k
    ·simp_all
    simp_all
   have fin:∀s',YJ P cf ops Lt i oi tv ky s'/\zhd P cf ops Lt Q fuel ((listed.setIfInBounds i true).setIfInBounds j true) (s'.app oi.dst tv ky)->zhd P cf ops Lt Q (fuel+1) (listed.setIfInBounds j true) s':=by
    intro s' h3
    refine ih (listed.setIfInBounds j true) s' (hdc.list hj) hfree' (ready_mono hr (Ne.symm hji)) h3.1 ?_
    simp_all[Array.setIfInBounds_comm]
   unfold qB at h1 |-
   simp only[hoj]at h1 |-
   rcases h1 with h|⟨hb,_⟩|h
   ·exact .inl (zjh fin (zmJ hwk hi hoj (Ne.symm hji) hap (g9 hi hoj hnot' hnot) hy h))
   ·grind [K0]
   ·exact .inr (.inr (zdG fin (zrh hap (zko hdc h.1 hj hr (Ne.symm hji)) hy h)))

def zar (ops:Array Oper) (k:Nat) (r:List Nat):Bool:=r.all fun m=>(zbP ops k).contains m&&m != k
def lexB (P:Program) (cf:Cfg) (ops:Array Oper) (Lt:LtK) (Q:St->Prop):List Nat->St->Prop
 | [],s=>Q s
 | k::r,s=>match ops[k]? with
  | none=>False
  | some o=>r1 P cf ops Lt k o (lexB P cf ops Lt Q r) s\/q2 P cf ops k o (lexB P cf ops Lt Q r) s\/(zar ops k r=true/\r3 P cf ops Lt k o (lexB P cf ops Lt Q r) s)
def ZG (ops:Array Oper):List Nat->Array Bool->Bool
 | [],listed=>(Region.ready .any ops listed).isEmpty
 | k::r,listed=>(Region.ready .any ops listed).contains k&&Region.free .any ops listed k&&ZG ops r (listed.setIfInBounds k true)
def zb2 (ops:Array Oper) (l:List Nat):Bool:=l.length==ops.size&&ZG ops l (Array.replicate ops.size false)&&(List.range ops.size).all fun j=>l.contains j

theorem G0 {P:Program} {cf:Cfg} {ops:Array Oper} {Lt:LtK} (hwk:wkB ops=true) {Q:St->Prop}:∀(l:List Nat) (listed:Array Bool) (s:St),DC ops listed->(∀j,j<ops.size->listed.getD j true=false->j∈l)->
  ZG ops l listed=true->lexB P cf ops Lt Q l s->zhd P cf ops Lt Q l.length listed s
 | [],listed,s,_,_,hB,h=>⟨by simp_all[ZG],h⟩
 | k::l,listed,s,hdc,hun,hB,h=>by
  simp only[ZG,Bool.and_eq_true]at hB
  obtain⟨⟨hr,hf⟩,hB'⟩:=hB
  have hr':k∈Region.ready .any ops listed:=by simp_all
  have hun':∀j,j<ops.size->(listed.setIfInBounds k true).getD j true=false->j∈l:=by
   intro j hj hjl
   by_cases hkj:k=j
   ·simp_all
   ·rw[getD_set_ne true hkj]at hjl
    grind
  cases h0:ops[k]? with
  | none=>simp_all[lexB]
  | some o =>
  simp only[lexB,h0]at h
  rcases h with h|⟨hb,K1,hv,himp⟩|⟨hall,h⟩
  ·obtain⟨tv,ky,hy,hK⟩:=h
   exact zhq hwk h0 l.length listed s hdc (Region.free_spec h0 hf) (by omega) hy (G0 hwk l _ _ (hdc.list hr') hun' hB' hK)
  ·refine⟨fun h=>(by simp_all),fun j hj=>?_⟩
   obtain rfl:=K0 hdc hb hr' hj
   unfold qB
   simp only[h0]
   exact .inr (.inl ⟨hb,K1,hv,fun s' hs'=>G0 hwk l _ _ (hdc.list hr') hun' hB' (himp s' hs')⟩)
  ·refine⟨fun h=>(by simp_all),fun j hj=>?_⟩
   obtain⟨hjun,oj,hoj,_⟩:=mem_ready.1 hj
   obtain⟨hkun,_⟩:=mem_ready.1 hr'
   have hjk:j=k:=by
    rcases List.mem_cons.1 (hun j (Array.getElem?_eq_some_iff.1 hoj).1 hjun)with h|h
    ·exact h
    ·have h1:=List.all_eq_true.1 hall j h
     simp only[Bool.and_eq_true,bne_iff_ne,ne_eq]at h1
     grind [wY]
   subst hjk
   unfold qB
   simp only[h0]
   exact .inr (.inr (zdG (fun s' hs'=>G0 hwk l _ _ (hdc.list hr') hun' hB' hs') h))

theorem zeU {c:Ctx} (hl:laidOutB c.P=true) {cf:Cfg} {ops:Array Oper} {Lt:LtK} (hdst:∀o∈ops.toList,∀d,o.dst=some d->d<c.n) (hwk:wkB ops=true) {l:List Nat} (ho:zb2 ops l=true)
  {K:Exit->St->Prop} {s:St} {a:Act} {w:World} {g:Gh} {β:Nat->Nat} (hS:qX c s a w g β) (h:lexB c.P cf ops Lt (K .normal) l s):wpAnyIn (fen c.rd) 0 c.P .any ops (QK c K) ops.size (Array.replicate ops.size false) a { w with drawn:=w.drawn+1 }:=by
 simp only[zb2,Bool.and_eq_true,beq_iff_eq]at ho
 refine zb6 hl hdst (Q:=K .normal) (cf:=cf) (Lt:=Lt) (fun a w hg=>hg) _ _ _ _ ⟨s,g,β,?_,hS.drew _⟩
 have:=G0 (P:=c.P) (cf:=cf) (Lt:=Lt) hwk (Q:=K .normal) l (Array.replicate ops.size false) s (DC.start ops) (fun j hj _=>by simp_all) ho.1.2 h
 simp_all

def isLt (kb:List Nat) (s:St) (o:Oper):Bool:=match o.guard,o.op with
 | none,.assign x=>true
 | none,.move x=>true
 | none,.nilCheck x=>true
 | none,.indexAddr _ x _=>(match ev s x with|.av _ (.sl _ _)=>true|_=>false)
 | none,.fieldAddr _ x _=>(match ev s x with|.loc _ _=>true|.av .ptr (.ptr _ _ _)=>true|_=>false)
 | none,.load _ x=>(match ev s x with|.loc _ _=>true|.pel _ _=>true|.av .ptr (.ptr b _ _)=>kb.contains b|_=>false)
 | _,_=>false
theorem zjZ {P:Program} {s:St} {k:Nat} {p:List Nat} {K:TyD->AV->Prop} (h:wL P s (.loc k p) K):∃d x,K d x/\∀s',s'.loc k=s.loc k->∀K':TyD->AV->Prop,K' d x->wL P s' (.loc k p) K':=by
 unfold wL at h
 grind [wL]
theorem zbL {P:Program} {s:St} {T:TypeId} {f k:Nat} {p:List Nat} {K:TV->Prop} (h:jC P s T f (.loc k p) K):∃x,K x/\∀s',s'.loc k=s.loc k->∀K':TV->Prop,K' x->jC P s' T f (.loc k p) K':=by
 unfold jC at h
 split at h
 ·rename_i fs e1
  split at h
  ·grind [jC]
  simp_all
 simp_all

theorem zbM {P:Program} {s:St} {T:TypeId} {f b:Nat} {d:TyD} {p:List Nat} {K:TV->Prop} (h:jC P s T f (.av .ptr (.ptr b d p)) K):∃x,K x/\∀s',∀K':TV->Prop,K' x->jC P s' T f (.av .ptr (.ptr b d p)) K':=by
 unfold jC at h
 grind [jC]
theorem zjY {P:Program} {s:St} {b:Nat} {d:TyD} {p:List Nat} {K:TyD->AV->Prop} (h:wL P s (.av .ptr (.ptr b d p)) K):∃D x,K D x/\∀s',zU s'.H b=zU s.H b->∀K':TyD->AV->Prop,K' D x->wL P s' (.av .ptr (.ptr b d p)) K':=by
 unfold wL at h
 grind [wL]
theorem zbF {P:Program} {s:St} {T:TypeId} {d:TyD} {t:Tok} {xs:List AV} {i:TV} {K:TV->Prop} (h:jS P s T (.av d (.sl t xs)) i K):∃x,K x/\∀s',∀K':TV->Prop,K' x->jS P s' T (.av d (.sl t xs)) i K':=by
 unfold jS at h
 split at h
 ·exact h.elim
 ·rename_i k n e0
  split at h
  ·grind [co,jS]
  ·simp_all
  simp_all
theorem zcP {Lt:LtK} {P:Program} {cf:Cfg} {ops:Array Oper} {s:St} {o:Oper} {K:St->Prop} (hl:isLt Lt.kb s o=true) (h:z8 P s o.op (WV s o.dst K)):o.guard=none/\∃tv,YdL Lt P cf ops s o tv none/\K (s.app o.dst tv none):=by
 obtain⟨dst,op,type,pos,after,guard⟩:=o
 have look:∀ {x:Operand},x∈op.operands.toList->∀t,x=.tmp t->t∈(Oper.mk dst op type pos after guard).looksAt ops:=by
  intro x hx t e
  subst e
  unfold Oper.looksAt
  grind
 have hev:∀ {s':St},zbe Lt ops ⟨dst,op,type,pos,after,guard⟩ s s'->∀x∈op.operands.toList,ev s' x=ev s x:=by
  intro s' ha x hx
  cases x with
  | tmp t=>exact ha.env t (look hx t rfl)
  | _=>rfl
 have hloc:∀ {s':St},zbe Lt ops ⟨dst,op,type,pos,after,guard⟩ s s'->∀x∈op.operands.toList,∀k p,ev s x=.loc k p->s'.loc k=s.loc k:=by
  intro s' ha x hx k p e
  cases x with
  | tmp t=>exact ha.loc t (look hx t rfl) k p e
  | _=>cases e
 unfold isLt at hl
 simp only at hl h
 split at hl
 ·refine⟨rfl,ev s _,fun s' ha K' hk=>?_,by rw[St.app_put];exact h⟩
  rw[St.app_put]at hk
  unfold yD;simp only;unfold z8;simp only
  rw[hev ha _ (by simp[Op.operands])];exact hk
 ·refine⟨rfl,ev s _,fun s' ha K' hk=>?_,by rw[St.app_put];exact h⟩
  rw[St.app_put]at hk
  unfold yD;simp only;unfold z8;simp only
  rw[hev ha _ (by simp[Op.operands])];exact hk
 ·rename_i x
  have hx:=fun s' ha=>hev (s':=s') ha x (by simp[Op.operands])
  obtain⟨tx,htx⟩:∃tx,ev s x=tx:=⟨_,rfl⟩
  refine⟨rfl,tx,fun s' ha K' hk=>?_,?_⟩
  ·rw[St.app_put]at hk
   unfold yD;simp only;unfold z8;simp only
   rw[hx s' ha,htx]
   unfold z8 at h
   simp only[htx]at h
   split at h
   ·exact hk
   ·exact hk
   ·exact⟨h.1,hk⟩
  ·rw[St.app_put]
   unfold z8 at h
   simp only[htx]at h
   split at h
   ·exact h
   ·exact h
   ·exact h.2
 ·rename_i T x i
  split at hl
  ·rename_i d t xs e
   unfold z8 at h
   simp only[e]at h
   obtain⟨tv,h1,h2⟩:=zbF h
   refine⟨rfl,tv,fun s' ha K' hk=>?_,by rw[St.app_put];exact h1⟩
   rw[St.app_put]at hk
   unfold yD;simp only;unfold z8;simp only
   rw[hev ha x (by simp[Op.operands]),hev ha i (by simp[Op.operands]),e]
   exact h2 s' _ hk
  ·cases hl
 ·rename_i T x f
  split at hl
  ·rename_i k p e
   unfold z8 at h
   simp only[e]at h
   obtain⟨tv,h1,h2⟩:=zbL h
   refine⟨rfl,tv,fun s' ha K' hk=>?_,by rw[St.app_put];exact h1⟩
   rw[St.app_put]at hk
   unfold yD;simp only;unfold z8;simp only
   rw[hev ha _ (by simp[Op.operands]),e]
   exact h2 s' (hloc ha x (by simp[Op.operands]) k p e) _ hk
  ·rename_i b d p e
   unfold z8 at h
   simp only[e]at h
   obtain⟨tv,h1,h2⟩:=zbM h
   refine⟨rfl,tv,fun s' ha K' hk=>?_,by rw[St.app_put];exact h1⟩
   rw[St.app_put]at hk
   unfold yD;simp only;unfold z8;simp only
   rw[hev ha _ (by simp[Op.operands]),e]
   exact h2 s' _ hk
  ·cases hl
 ·rename_i T x
  split at hl
  ·rename_i k p e
   unfold z8 at h
   simp only[e]at h
   obtain⟨d,y,⟨hd,h1⟩,h2⟩:=zjZ h
   refine⟨rfl,.av d y,fun s' ha K' hk=>?_,by rw[St.app_put];exact h1⟩
   rw[St.app_put]at hk
   unfold yD;simp only;unfold z8;simp only
   rw[hev ha _ (by simp[Op.operands]),e]
   exact h2 s' (hloc ha x (by simp[Op.operands]) k p e) _ ⟨hd,hk⟩
  ·rename_i d y e
   unfold z8 at h
   simp only[e]at h
   unfold wL at h
   refine⟨rfl,.av d y,fun s' ha K' hk=>?_,by rw[St.app_put];exact h.2⟩
   rw[St.app_put]at hk
   unfold yD;simp only;unfold z8;simp only
   rw[hev ha _ (by simp[Op.operands]),e]
   unfold wL
   exact⟨h.1,hk⟩
  ·rename_i b d p e
   have hb:b∈Lt.kb:=by simp_all
   unfold z8 at h
   simp only[e]at h
   obtain⟨d',y,⟨hd,h1⟩,h2⟩:=zjY h
   refine⟨rfl,.av d' y,fun s' ha K' hk=>?_,by rw[St.app_put];exact h1⟩
   rw[St.app_put]at hk
   unfold yD;simp only;unfold z8;simp only
   rw[hev ha _ (by simp[Op.operands]),e]
   exact h2 s' (ha.kept b hb) _ ⟨hd,hk⟩
  ·cases hl
 ·cases hl

def znX (cf:Cfg):Option Nat->Bool
 | some d=>cf.mtb (2000000+d)
 | none=>false
def sft (cf:Cfg) (o:Oper):Bool:=match o.op with
 | .call { callee:=.value _,.. }=>znX cf o.dst
 | .call { callee:=.builtin .append,.. }=>znX cf o.dst
 | .makeMap _ none=>znX cf o.dst
 | .store _ (.tmp t) _=>cf.mtb (2000000+t)
 | .box _ _=>znX cf o.dst
 | _=>false
def zbh (P:Program) (cf:Cfg) (s:St) (o:Oper) (kb:List Nat) (K:St->Prop):Prop:=o.guard=none/\hop P cf s o.dst o.op (DF kb s.H K)
@[simp] def zpB:Op->Bool
 | .alloc _=>true
 | .build _ _=>true
 | .buildSlice _ _ _=>true
 | .binOp _ _ _ _ _=>true
 | _=>false
theorem zkK {Lt:LtK} {P:Program} {cf:Cfg} {ops:Array Oper} {s:St} {o:Oper} {K:St->Prop} (hl:zpB o.op=true) (h:vcD P cf s o K):∃tv ky,YdL Lt P cf ops s o tv ky/\(∀k x,ky=some (k,x)->V9 o=some k)/\K (s.app o.dst tv ky):=by
 obtain⟨dst,op,type,pos,after,guard⟩:=o
 cases op<;>simp only[zpB,Bool.false_eq_true]at hl
 ·rename_i T
  unfold vcD at h
  simp only at h
  cases dst with
  | none=>exact h.elim
  | some d =>
   simp only at h
   obtain⟨h1,h2,h3,h4⟩:=h
   refine⟨_,_,fun s' ha K' hk=>?_,?_,h4⟩
   ·unfold yD
    simp only[h2]
    exact⟨h1,by simpa using⟨ha.new d rfl rfl h3,hk⟩⟩
   ·rintro k x e;cases e;rfl
 ·rename_i T parts
  unfold vcD at h
  simp only at h
  obtain⟨hmt,hz,h⟩:=h
  split at h
  ·rename_i fs e1
   split at h
   ·rename_i ps e2
    refine⟨_,none,fun s' ha K' hk=>?_,by simp,by rw[St.app_put];exact h⟩
    unfold yD
    simp only[hmt,Bool.false_eq_true,if_false]
    unfold UJ
    have hc:=yW (P:=P) (f:=(fs[·]?)) parts.toList (Q1 (zT P T)) (s:=s) (s':=s') fun x hx=>by
     have hin:x.2∈(Op.build T parts).operands.toList:=by grind [Op.operands]
     cases hx2:x.2 with
     | tmp t =>
      rw[hx2]at hin
      refine ha.env t ?_
      unfold Oper.looksAt
      grind
     | _=>rfl
    simp only[e1,hc,e2]
    rw[St.app_put]at hk
    exact⟨hz,hk⟩
   simp_all
  ·rename_i n e e1
   obtain⟨h0,h⟩:=h
   split at h
   ·rename_i ps e2
    refine⟨_,none,fun s' ha K' hk=>?_,by simp,by rw[St.app_put];exact h⟩
    unfold yD
    simp only[hmt,Bool.false_eq_true,if_false]
    unfold UJ
    have hc:=yW (P:=P) (f:=fun _=>some e) parts.toList (Q1 (zT P T)) (s:=s) (s':=s') fun x hx=>by
     have hin:x.2∈(Op.build T parts).operands.toList:=by grind [Op.operands]
     cases hx2:x.2 with
     | tmp t =>
      rw[hx2]at hin
      refine ha.env t ?_
      unfold Oper.looksAt
      grind
     | _=>rfl
    simp only[e1,hc,e2]
    rw[St.app_put]at hk
    exact⟨hz,h0,hk⟩
   simp_all
  simp_all
 ·rename_i T n parts
  unfold vcD at h
  simp only at h
  obtain⟨hmt,h⟩:=h
  split at h
  ·rename_i e e1
   obtain⟨h1,h2,h3,h⟩:=h
   split at h
   ·rename_i xs e2
    refine⟨_,none,fun s' ha K' hk=>?_,by simp,by rw[St.app_put];exact h⟩
    unfold yD
    have hc:=yW (P:=P) (f:=fun _=>some e) parts.toList (List.replicate n (zT P e)) (s:=s) (s':=s') fun x hx=>by
     have hin:x.2∈(Op.buildSlice T n parts).operands.toList:=by grind [Op.operands]
     cases hx2:x.2 with
     | tmp t =>
      rw[hx2]at hin
      refine ha.env t ?_
      unfold Oper.looksAt
      grind
     | _=>rfl
    simp_all[St.app_put]
   simp_all
  simp_all
 ·rename_i bop T x y q
  unfold vcD at h
  simp only at h
  unfold z8 at h
  simp only at h
  have hn:=zcY h
  obtain⟨tv,h1,h2⟩:=zgN _ h
  refine⟨tv,none,fun s' ha K' hk=>?_,by simp,by rw[St.app_put];exact h1⟩
  have he:∀z∈(Op.binOp bop T x y q).operands.toList,ev s' z=ev s z:=by
   intro z hz
   cases z with
   | tmp t =>
    refine ha.env t ?_
    unfold Oper.looksAt
    grind
   | _=>rfl
  have ex:ev s' x=ev s x:=he x (by simp[Op.operands])
  have ey:ev s' y=ev s y:=he y (by simp[Op.operands])
  unfold yD
  simp only[ey,hn,Bool.false_eq_true,if_false]
  unfold z8
  simp only[ex,ey]
  refine h2 _ ?_
  rw[St.app_put]at hk
  exact hk
noncomputable def uR (P:Program) (cf:Cfg) (ops:Array Oper) (Lt:LtK) (K:St->Prop):List Nat->St->Prop
 | [],s=>K s
 | k::r,s=>match ops[k]? with
  | none=>False
  | some o=>if Lt.l.contains k=true then(if zpB o.op=true then o.guard=none/\xK ops k o s=true/\vcD P cf s o (uR P cf ops Lt K r) else isLt Lt.kb s o=true/\xK ops k o s=true/\z8 P s o.op (WV s o.dst (uR P cf ops Lt K r)))
   else if sft cf o=true then zar ops k r=true/\zma ops Lt k=true/\zbh P cf s o Lt.kb (uR P cf ops Lt K r)
   else if zhb o=true then VZ ops k=true/\vcG P cf ops s o (uR P cf ops Lt K r)
   else if mkd cf o=true then VZ ops k=true/\vcG P cf ops s o (uR P cf ops Lt K r)
   else xK ops k o s=true/\o.guard=none/\vcD P cf s o (uR P cf ops Lt K r)

theorem Y8 {P:Program} {cf:Cfg} {ops:Array Oper} {Lt:LtK} {K:St->Prop}:∀(l:List Nat) (s:St),uR P cf ops Lt K l s->lexB P cf ops Lt K l s
 | [],s,h=>h
 | k::r,s,h=>by
  simp only[uR]at h
  simp only[lexB]
  cases h0:ops[k]? with
  | none=>simp_all
  | some o =>
   rw[h0]at h
   simp only at h |-
   split at h
   ·rename_i hlt
    split at h
    ·rename_i hal
     obtain⟨hg,h2,h3⟩:=h
     obtain⟨tv,ky,h4,h6,h5⟩:=zkK (Lt:=Lt) (ops:=ops) hal h3
     exact .inl ⟨tv,ky,⟨⟨.inl ⟨by simp[y5,hg],fun s' ha=>h4 s' ha.light⟩,h6,h2⟩,fun _=>⟨hg,h4⟩⟩,Y8 r _ h5⟩
    obtain⟨h1,h2,h3⟩:=h
    obtain⟨hg,tv,h4,h5⟩:=zcP (cf:=cf) (ops:=ops) h1 h3
    refine .inl ⟨tv,none,⟨⟨.inl ⟨by simp[y5,hg],fun s' ha=>h4 s' ha.light⟩,by simp,h2⟩,fun _=>⟨hg,h4⟩⟩,Y8 r _ h5⟩
   rename_i hnl
   split at h
   ·obtain⟨h1,h2,h3⟩:=h
    exact .inr (.inr ⟨h1,zdG (fun s' hs'=>Y8 r s' hs') ⟨h2,h3.1,h3.2⟩⟩)
   split at h
   ·exact .inr (.inl ⟨h.1,_,h.2,fun s' hs'=>Y8 r s' hs'⟩)
   split at h
   ·exact .inr (.inl ⟨h.1,_,h.2,fun s' hs'=>Y8 r s' hs'⟩)
   ·obtain⟨h1,hg,h2⟩:=h
    obtain⟨tv,ky,h3,h4,h5⟩:=zi3 (ops:=ops) h2
    exact .inl ⟨tv,ky,⟨⟨.inl ⟨by simp[y5,hg],h3⟩,h4,h1⟩,fun hl=>absurd hl hnl⟩,Y8 r _ h5⟩
def j6 (P:Program) (cf:Cfg) (ops:Array Oper) (K:St->Prop) (s:St):Prop:=∃(l:List Nat) (Lt:LtK),zb2 ops l=true/\uR P cf ops Lt K l s
theorem j6.of {P:Program} {cf:Cfg} {ops:Array Oper} {K:St->Prop} {s:St} (l Lt:List Nat) (h:zb2 ops l=true) (h':uR P cf ops ⟨Lt,[]⟩ K l s):j6 P cf ops K s:=⟨l,⟨Lt,[]⟩,h,h'⟩
def AT (c:Ctx) (code:Code) (K:Exit->St->Prop) (s:St):Prop:=∀a w g β,qX c s a w g β->code.wpIn (fen c.rd) 0 c.P (QK c K) a w

def zdv (k:St->Prop) (K:Exit->St->Prop):Exit->St->Prop
 | .normal,s=>k s
 | e,s=>K e s
def gO (id:Nat) (K:Exit->St->Prop):Exit->St->Prop
 | .exit id',s=>if id'=id then K .normal s else K (.exit id') s
 | e,s=>K e s

def zb4 (K:Exit->St->Prop):Exit->St->Prop
 | .goto _,_=>False
 | e,s=>K e s

def zpm (k b:Nat) (d:TyD):TV->TV
 | .loc k' p=>if k'=k then .av .ptr (.ptr b d p) else .loc k' p
 | v=>v
def zs6 (k b:Nat) (d:TyD) (E:Nat->TV) (t:Nat):TV:=zpm k b d (E t)
def St.escL (s:St) (k b:Nat) (d:TyD) (x:AV):St:={ s with env:=zs6 k b d s.env,loc:=upd s.loc k none,H:=(b,.var d x)::s.H }
def zmB:List Nat->(St->Prop)->St->Prop
 | [],K,s=>K s
 | k::r,K,s=>match s.loc k with
  | some (d,x)=>∀b,b∉s.H.keys->zmB r K (s.escL k b d x)
  | none=>False
def zmU:List Oper->List Nat
 | []=>[]
 | o::r=>match o.op with
  | .alloc _=>(match o.dst with
   | some d=>d::zmU r
   | none=>zmU r)
  | _=>zmU r
def zga (cf:Cfg) (id:Nat) (ops:Array Oper) (K:St->Prop) (s:St):Prop:=if cf.mtb (3000000+id)=true then zmB (zmU ops.toList) K s else K s
noncomputable def vc (c:Ctx) (cf:Cfg):Code->(Exit->St->Prop)->St->Prop
 | .skip,K,s=>K .normal s
 | .label _,K,s=>K .normal s
 | .region id ops draw,K,s=>match draw with
  | false=>VI c.P cf ops (K .normal) ops.toList s
  | true=>if cf.mtb (1000000+id)=true then j6 c.P cf ops (K .normal) s else if ops.toList.all (fun o=>(V9 o).isNone&&!cE o) then pA c.P ops (K .normal) ops.toList s else uM c.P cf ops (zga cf id ops (K .normal)) 0 ops.toList s
 | .seq x y,K,s=>vc c cf x (zdv (vc c cf y K) K) s
 | .cond b x y,K,s=>match asB (ev s b)with
  | some v=>(v=true->vc c cf x K s)/\(v=false->vc c cf y K s)
  | none=>False
 | .block id x,K,s=>vc c cf x (gO id K) s
 | .exit id,K,s=>K (.exit id) s
 | .goto l,K,s=>K (.goto l) s
 | .ret,K,s=>K .ret s
 | .loop x,K,s=>AT c (.loop x) K s
 | .rangeFunc f ps x y,K,s=>AT c (.rangeFunc f ps x y) K s
 | .scope x,K,s=>vc c cf x (zb4 K) s
 | _,_,_=>False

def KY (cf:Cfg) (n:Nat):Code->Bool
 | .region id ops draw=>(ops.toList.all fun o=>match o.dst with|some d=>decide (d<n)|none=>true)&&cL ops&&(!draw||(Region.lexB .any ops&&wkB ops&&(cf.mtb (1000000+id)||zgd ops)))
 | .seq x y=>KY cf n x&&KY cf n y
 | .cond _ x y=>KY cf n x&&KY cf n y
 | .block _ x=>KY cf n x
 | .loop x=>KY cf n x
 | .scope x=>KY cf n x
 | _=>true
end Go.Ab
end
section
namespace Go.Ab
open Go
open Classical
variable [Sel]
mutual
def leA:AV->AV->Prop
 | .agg ps,y=>match y with
  | .agg qs=>JQ ps qs
  | _=>False
 | .sl t xs,y=>match y with
  | .sl t' ys=>(t'=t\/t'=.no\/t=.full)/\JQ xs ys
  | _=>False
 | .ifc T x,y=>match y with
  | .ifc T' y=>T'=T/\leA x y
  | _=>False
 | x,y=>y=x
def JQ:List AV->List AV->Prop
 | [],ys=>ys=[]
 | x::xs,ys=>match ys with
  | y::ys=>leA x y/\JQ xs ys
  | []=>False
end
mutual
theorem WU:∀x:AV,leA x x
 | .agg ps=>by simp only[leA];exact WR ps
 | .sl t xs=>by simp only[leA,true_or,true_and];exact WR xs
 | .ifc T x=>by simp only[leA,true_and];exact WU x
 | .b _|.i _ _|.s _|.msl _ _ _ _ _|.nsl|.ptr _ _ _|.nilptr|.fn _ _|.nilfn|.map _|.nilifc|.yl _|.bm _ _=>by simp only[leA]
theorem WR:∀xs:List AV,JQ xs xs
 | []=>by simp only[JQ]
 | x::xs=>by simp only[JQ];exact⟨WU x,WR xs⟩
end
theorem zae:∀ {xs ys:List AV},JQ xs ys->ys.length=xs.length
 | [],ys,h=>by simp_all[JQ]
 | x::xs,[],h=>by simp_all[JQ]
 | x::xs,y::ys,h=>by simp only[JQ]at h;simp[zae h.2]
theorem zlo {g:Gh} {t t':Tok} {a:Option Addr} {len cap:Nat} {e:TypeId} (h:xV g t a len cap e) (hl:t'=t\/t'=.no\/t=.full):xV g t' a len cap e:=by
 rcases hl with rfl|rfl|rfl
 ·exact h
 ·trivial
 ·cases t' with
  | no=>trivial
  | full=>exact h
  | own k v=>exact .inl h
section
variable {P:Program} {g:Gh} {w:World}
mutual
theorem P4:∀(x y:AV) (d:TyD) (cs:List Value),leA x y->VC P g w d x cs->VC P g w d y cs
 | .agg ps,y,d,cs,h,hv=>by
  cases y<;>simp only[leA]at h<;>try exact h.elim
  rename_i qs
  cases d with
  | struct fs=>simp only[VC]at hv |-;exact zjo ps qs fs cs h hv
  | arr n e=>simp only[VC]at hv |-;exact⟨by rw[zae h];exact hv.1,zem ps qs e cs h hv.2⟩
  | _=>assumption
 | .sl t xs,y,d,cs,h,hv=>by
  cases y<;>simp only[leA]at h<;>try exact h.elim
  rename_i t' ys
  simp only[VC]at hv |-
  obtain⟨e,a,cap,h1,h2,h3,h4,h5⟩:=hv
  have hlen:=zae h.2
  refine⟨e,a,cap,h1,by simp_all,by omega,?_,by grind [zlo]⟩
  rcases h4 with rfl|⟨b,off,ha,hb,hvl⟩
  ·simp_all
  ·right;exact⟨b,off,ha,by rw[hlen];exact hb,by rw[hlen];exact zem xs ys e _ h.2 hvl⟩
 | .ifc T x,y,d,cs,h,hv=>by
  cases y<;>simp only[leA]at h<;>try exact h.elim
  obtain⟨rfl,h⟩:=h
  simp only[VC]at hv |-
  obtain⟨h1,v,h2,hf,h3⟩:=hv
  exact⟨h1,v,h2,hf,P4 x _ _ _ h h3⟩
 | .b _,y,d,cs,h,hv=>by simp_all[leA]
 | .i _ _,y,d,cs,h,hv=>by simp_all[leA]
 | .s _,y,d,cs,h,hv=>by simp_all[leA]
 | .msl _ _ _ _ _,y,d,cs,h,hv=>by simp_all[leA]
 | .nsl,y,d,cs,h,hv=>by simp_all[leA]
 | .ptr _ _ _,y,d,cs,h,hv=>by simp_all[leA]
 | .nilptr,y,d,cs,h,hv=>by simp_all[leA]
 | .fn _ _,y,d,cs,h,hv=>by simp_all[leA]
 | .nilfn,y,d,cs,h,hv=>by simp_all[leA]
 | .map _,y,d,cs,h,hv=>by simp_all[leA]
 | .nilifc,y,d,cs,h,hv=>by simp_all[leA]
 | .yl _,y,d,cs,h,hv=>by simp_all[leA]
 | .bm _ _,y,d,cs,h,hv=>by simp_all[leA]
theorem zem:∀(xs ys:List AV) (e:TypeId) (cs:List Value),JQ xs ys->VL P g w e xs cs->VL P g w e ys cs
 | [],ys,e,cs,h,hv=>by simp_all[JQ]
 | x::xs,[],e,cs,h,hv=>by simp_all[JQ]
 | x::xs,y::ys,e,cs,h,hv=>by
  simp only[JQ]at h
  simp only[VL]at hv |-
  obtain⟨c1,c2,h1,h2,h3⟩:=hv
  exact⟨c1,c2,h1,P4 x y _ _ h.1 h2,zem xs ys e _ h.2 h3⟩
theorem zjo:∀(xs ys:List AV) (fs:List TypeId) (cs:List Value),JQ xs ys->VF P g w fs xs cs->VF P g w fs ys cs
 | [],ys,fs,cs,h,hv=>by simp_all[JQ]
 | x::xs,[],fs,cs,h,hv=>by simp_all[JQ]
 | x::xs,y::ys,fs,cs,h,hv=>by
  simp only[JQ]at h
  simp only[VF]at hv |-
  obtain⟨f,r,c1,c2,h0,h1,h2,h3⟩:=hv
  exact⟨f,r,c1,c2,h0,h1,P4 x y _ _ h.1 h2,zjo xs ys r _ h.2 h3⟩
end
end
/-! ### weaker heaps -/
def leO:HObj->HObj->Prop
 | .var d x,.var d' y=>d'=d/\leA x y
 | .map k e es,o=>o=.map k e es
 | .raw r i w,o=>o=.raw r i w
 | _,_=>False
theorem zm1:∀o:HObj,leO o o
 | .var d x=>⟨rfl,WU x⟩
 | .map _ _ _=>rfl
 | .raw _ _ _=>rfl
def leH:q7->q7->Prop
 | [],H=>H=[]
 | (b,o)::r,H=>match H with
  | (b',o')::r'=>b'=b/\leO o o'/\leH r r'
  | []=>False
theorem zfq:∀H:q7,leH H H
 | []=>rfl
 | (b,o)::r=>⟨rfl,zm1 o,zfq r⟩
theorem zbi:∀ {c a:q7},leH c a->a.keys=c.keys
 | [],a,h=>by simp_all[leH]
 | (b,o)::r,[],h=>by simp_all[leH]
 | (b,o)::r,(b',o')::r',h=>by
  simp only[leH]at h
  simp only[q7.keys,List.map_cons]at *
  rw[h.1];congr 1;exact zbi h.2.2
theorem zju:∀ {c a:q7},leH c a->∀ {b:Nat} {o:HObj},(b,o)∈a->∃o',(b,o')∈c/\leO o' o
 | [],a,h,b,o,hm=>by simp_all[leH]
 | (b1,o1)::r,[],h,_,_,_=>by simp_all
 | (b1,o1)::r,(b',o')::r',h,b,o,hm=>by
  simp only[leH]at h
  rcases List.mem_cons.1 hm with hm|hm
  ·cases hm;exact⟨o1,by rw[h.1];simp,h.2.1⟩
  ·obtain⟨o2,h1,h2⟩:=zju h.2.2 hm
   exact⟨o2,List.mem_cons_of_mem _ h1,h2⟩
def HLe (a b:q7):Prop:=∃c,HSub c b/\leH c a
theorem HLe.of_sub {a b:q7} (h:HSub a b):HLe a b:=⟨a,h,zfq a⟩
theorem HLe.keys {a b:q7} (h:HLe a b) {x:Nat} (hx:x∈a.keys):x∈b.keys:=by
 obtain⟨c,h1,h2⟩:=h
 rw[zbi h2]at hx
 exact h1.keys hx
theorem HLe.nodup {a b:q7} (h:HLe a b) (hb:b.keys.Nodup):a.keys.Nodup:=by
 obtain⟨c,h1,h2⟩:=h
 rw[zbi h2]
 exact h1.nodup hb
theorem zpR {P:Program} {g:Gh} {w:World} {b:Nat} {o o':HObj} (h:leO o o') (hr:xI P g w b o):xI P g w b o':=by
 cases o with
 | var d x =>
  cases o' with
  | var d' y =>
   obtain⟨rfl,h⟩:=h
   obtain⟨h1,cs,h2,h3⟩:=hr
   exact⟨h1,cs,h2,P4 _ _ _ _ h h3⟩
  | _=>exact h.elim
 | map k e es=>simp_all[leO]
 | raw r i w=>simp_all[leO]
theorem HLe.obj {P:Program} {g:Gh} {w:World} {a b:q7} (h:HLe a b) (hr:∀n o,(n,o)∈b->xI P g w n o) (n:Nat) (o:HObj) (ho:(n,o)∈a):xI P g w n o:=by
 obtain⟨c,h1,h2⟩:=h
 obtain⟨o',h3,h4⟩:=zju h2 ho
 exact zpR h4 (hr n o' (h1.subset h3))
end Go.Ab
end
section
namespace Go.Ab
open Go
open Classical
variable [Sel]
theorem zpd {c:Ctx} {K K':Exit->St->Prop} (h:∀e s,K e s->K' e s) {e:Exit} {a:Act} {w:World} (hq:QK c K e a w):QK c K' e a w:=by
 cases e<;>first|exact hq.elim|(obtain⟨s,g,β,hk,hS⟩:=hq;exact⟨s,g,β,h _ _ hk,hS⟩)

theorem AT.mono {c:Ctx} {code:Code} {K K':Exit->St->Prop} {s:St} (h:AT c code K s) (hk:∀e s,K e s->K' e s):AT c code K' s :=
 fun a w g β hS=>wpIn_mono (h a w g β hS) fun _ _ _ hq=>zpd hk hq

theorem znk (c:Ctx) (K:Exit->St->Prop):¬LetsOut (QK c K):=fun⟨_,_,h⟩=>h

theorem TVR.esc {P:Program} {s:St} {g:Gh} {w:World} {β:Nat->Nat} {k:Nat} {d:TyD} {x:AV} (hk:s.loc k=some (d,x)):∀ {tv:TV} {v:Value},TVR P s g w β tv v->TVR P (s.escL k (β k) d x) g w β (zpm k (β k) d tv) v
 | .av _ _,_,h=>h
 | .cst _,_,h=>h
 | .pel _ _,_,h=>h
 | .tup _,_,h=>h
 | .junk,_,h=>h
 | .loc k' p,v,⟨d1,x1,off,d2,h1,h2,h3⟩=>by
  simp only[zpm]
  split
  ·rename_i e
   subst e
   rw[hk]at h1
   cases h1
   subst h3
   exact⟨rfl,rfl,off,d2,h2,rfl⟩
  ·rename_i e
   exact⟨d1,x1,off,d2,by simp_all[St.escL,upd],h2,h3⟩
theorem qX.esc {c:Ctx} {s:St} {a:Act} {w:World} {g:Gh} {β:Nat->Nat} (h:qX c s a w g β) {k:Nat} {d:TyD} {x:AV} (hk:s.loc k=some (d,x)):qX c (s.escL k (β k) d x) a w g β/\β k∉s.H.keys:=by
 have L:=h.locs k d x hk
 have hloc:∀j d' y,(s.escL k (β k) d x).loc j=some (d',y)->j≠k/\s.loc j=some (d',y):=fun j d' y e=>by
  simp_all[St.escL,upd]
 have hloc':∀j,(s.escL k (β k) d x).loc j≠none->j≠k/\s.loc j≠none:=fun j e=>by
  simp_all[St.escL,upd]
 have hkn:s.loc k≠none:=by rw[hk];simp
 have hkeys:∀b,b∈q7.keys ((β k,HObj.var d x)::s.H)<->b=β k\/b∈s.H.keys:=fun b=>by simp[q7.keys]
 refine⟨{ h with env:=fun t=>?_,locs:=fun j d' y e=>?_,inj:=fun i j e1 e2 e3=>?_,rep:=⟨h.rep.imm,?_,fun b o hb=>?_,h.rep.tab⟩,toks:=fun j t e=>?_,step:=?_ },L.noH⟩
 ·exact TVR.esc hk (h.env t)
 ·obtain⟨h1,h2⟩:=hloc j d' y e
  have L':=h.locs j d' y h2
  refine⟨L'.base,fun hin=>?_,L'.imm,L'.block⟩
  rcases(hkeys _).1 hin with e1|e1
  ·exact h1 (h.inj j k (by rw[h2];simp) hkn e1)
  ·exact L'.noH e1
 ·obtain⟨_,h1⟩:=hloc' i e1
  obtain⟨_,h2⟩:=hloc' j e2
  exact h.inj i j h1 h2 e3
 ·show (q7.keys ((β k,HObj.var d x)::s.H)).Nodup
  simp only[q7.keys,List.map_cons,List.nodup_cons]
  exact⟨L.noH,h.rep.nodup⟩
 ·rcases List.mem_cons.1 hb with h1|h1
  ·cases h1
   exact⟨L.imm,L.block⟩
  ·exact h.rep.obj b o h1
 ·have T:=h.toks j t e
  refine⟨T.base,fun hin=>?_,fun i hi=>T.noLoc i (hloc' i hi).2,T.imm,T.block⟩
  rcases(hkeys _).1 hin with e1|e1
  ·exact T.noLoc k hkn e1.symm
  ·exact T.noH e1
 ·refine { h.step with dom:=fun b hb=>?_ }
  rcases(hkeys _).1 hb with h1|h1
  ·right;rw[h1];exact L.base
  ·exact h.step.dom b h1
theorem zbC {c:Ctx} {K:St->Prop} {a:Act} {w:World}:∀(l:List Nat) (s:St) (g:Gh) (β:Nat->Nat),zmB l K s->qX c s a w g β->W5 c K a w
 | [],s,g,β,h,hS=>⟨s,g,β,h,hS⟩
 | k::r,s,g,β,h,hS=>by
  simp only[zmB]at h
  cases hk:s.loc k with
  | none=>rw[hk]at h;exact h.elim
  | some dx =>
   obtain⟨d,x⟩:=dx
   rw[hk]at h
   obtain⟨h1,h2⟩:=hS.esc hk
   exact zbC r _ g β (h _ h2) h1
theorem zhf {c:Ctx} {cf:Cfg} {id:Nat} {ops:Array Oper} {K:St->Prop} {a:Act} {w:World}:W5 c (zga cf id ops K) a w->W5 c K a w:=by
 rintro⟨s,g,β,h,hS⟩
 unfold zga at h
 split at h
 ·grind [zbC]
 ·exact⟨s,g,β,h,hS⟩
theorem zf2 {c:Ctx} (hl:laidOutB c.P=true) (hm:c.P.follows .mixedOrders=true) {cf:Cfg} {id:Nat} {ops:Array Oper} (hdst:∀o∈ops.toList,∀d,o.dst=some d->d<c.n) (hB:Region.lexB .any ops=true) (hwk:wkB ops=true)
  {K:Exit->St->Prop} {s:St} {a:Act} {w:World} {g:Gh} {β:Nat->Nat} (hS:qX c s a w g β) (h:zjA c.P cf ops (zga cf id ops (K .normal)) 0 ops.toList s):wpAnyIn (fen c.rd) 0 c.P .any ops (QK c K) ops.size (Array.replicate ops.size false) a { w with drawn:=w.drawn+1 }:=by
 simp only[Region.lexB,Bool.and_eq_true]at hB
 refine zaB hl hdst (Q:=zga cf id ops (K .normal)) (cf:=cf) (fun a w hg=>zhf hg) _ _ _ _ ⟨s,g,β,?_,hS.drew _⟩
 have:=zaj (P:=c.P) (cf:=cf) hwk (Q:=zga cf id ops (K .normal)) ops.toList 0 (Array.replicate ops.size false) s (DC.start ops) (by simp) (by simp_all) h
 omega
theorem W2 {c:Ctx} (hl:laidOutB c.P=true) (hm:c.P.follows .mixedOrders=true) {cf:Cfg}:∀(code:Code) (K:Exit->St->Prop) (s:St),KY cf c.n code=true->vc c cf code K s->AT c code K s
 | .skip,K,s,_,h=>fun a w g β hS=>wpIn_skip ⟨s,g,β,h,hS⟩
 | .label _,K,s,_,h=>fun a w g β hS=>wpIn_label ⟨s,g,β,h,hS⟩
 | .region id ops draw,K,s,hd,h=>fun a w g β hS=>by
  simp only[KY,Bool.and_eq_true]at hd
  have hdst:∀o∈ops.toList,∀d,o.dst=some d->d<c.n:=by
   grind
  cases draw with
  | false =>
   simp only[vc]at h
   refine wpIn_region ?_
   rw[List.range_eq_range']
   exact dL hl hdst (Q:=QK c K) (fun a w hg=>hg) ops.size 0 a w (by omega) ⟨s,g,β,by simpa using h,hS⟩
  | true =>
   simp only[vc]at h
   have hd2:(Region.lexB .any ops=true/\wkB ops=true)/\(cf.mtb (1000000+id)||zgd ops)=true:=by
    simp_all
   refine wpIn_region_any hm ?_
   split at h
   ·obtain⟨l,Lt,ho,h⟩:=h
    exact zeU hl hdst hd2.1.2 ho hS (Y8 _ _ h)
   rename_i hmk
   have him:zgd ops=true:=by
    simp_all
   split at h
   ·refine zag hd.1.2 (znk c K) _ _ _ _ ?_
    have hB:=hd2.1.1
    simp only[Region.lexB,Bool.and_eq_true]at hB
    refine wpAny_of_still (Q:=fun a'=>QK c K .normal a' { w with drawn:=w.drawn+1 }) (fun _ h=>h) _ _ _ ?_
    have:=wpAnyS_lex (md:=.any) hB.1 ops.toList 0 (Array.replicate ops.size false) a (by simp) (by simp_all) (VU hl ops.toList s a hdst (hS.drew (w.drawn+1)) h)
    assumption
   grind [zf2,v8]
 | .seq x y,K,s,hd,h=>fun a w g β hS=>by
  simp only[KY,Bool.and_eq_true]at hd
  simp only[vc]at h
  refine wpIn_seq (wpIn_mono (W2 hl hm x _ s hd.1 h a w g β hS) ?_)
  intro e a' w' hq
  cases e with
  | normal =>
   obtain⟨s',g',β',hk,hS'⟩:=hq
   exact W2 hl hm y K s' hd.2 hk a' w' g' β' hS'
  | _=>exact hq
 | .cond b x y,K,s,hd,h=>fun a w g β hS=>by
  simp only[KY,Bool.and_eq_true]at hd
  simp only[vc]at h
  cases hb:asB (ev s b)with
  | none=>simp_all
  | some v =>
   rw[hb]at h
   have hv:=vV hb (qT hS b)
   refine wpIn_cond hv ?_
   cases v
   ·exact W2 hl hm y K s hd.2 (h.2 rfl) a w g β hS
   ·exact W2 hl hm x K s hd.1 (h.1 rfl) a w g β hS
 | .block id x,K,s,hd,h=>fun a w g β hS=>by
  simp only[KY]at hd
  simp only[vc]at h
  refine wpIn_block (wpIn_mono (W2 hl hm x _ s hd h a w g β hS) ?_)
  intro e a' w' hq
  cases e with
  | exit id' =>
   obtain⟨s',g',β',hk,hS'⟩:=hq
   simp only[gO]at hk
   simp only[Exit.inBlock]
   split at hk
   ·rename_i e;rw[if_pos e];exact⟨s',g',β',hk,hS'⟩
   ·rename_i e;rw[if_neg e];exact⟨s',g',β',hk,hS'⟩
  | _=>exact hq
 | .exit id,K,s,_,h=>fun a w g β hS=>wpIn_exit ⟨s,g,β,h,hS⟩
 | .goto l,K,s,_,h=>fun a w g β hS=>wpIn_goto ⟨s,g,β,h,hS⟩
 | .ret,K,s,_,h=>fun a w g β hS=>wpIn_ret ⟨s,g,β,h,hS⟩
 | .loop x,K,s,_,h=>h
 | .rangeFunc _ _ _ _,K,s,_,h=>h
 | .scope x,K,s,hd,h=>fun a w g β hS=>by
  simp only[KY]at hd
  simp only[vc]at h
  refine V8 (wpIn_mono (W2 hl hm x _ s hd h a w g β hS) ?_)
  intro e a' w' hq
  cases e with
  | goto l=>obtain⟨s',g',β',hk,hS'⟩:=hq;exact hk.elim
  | _=>exact hq

/-! ### weaker states -/
structure Le (s s':St):Prop where
 env:∀t,s'.env t=.junk\/s'.env t=s.env t\/(∃d k v xs,s'.env t=.av d (.sl (.own k v) xs)/\co d (s.env t)=some (.sl .full xs))\/∃d x y,s'.env t=.av d y/\co d (s.env t)=some x/\leA x y
 loc:∀k,(∃d x y,s.loc k=some (d,x)/\s'.loc k=some (d,y)/\leA x y)\/(s'.loc k=none/\∀t p,s'.env t≠.loc k p)
 ver:∀k,s.ver k<=s'.ver k
 H:HLe s'.H s.H
 dfs:s'.dfs=s.dfs


theorem qX.weaken {c:Ctx} {s s':St} {a:Act} {w:World} {g:Gh} {β:Nat->Nat} (h:qX c s a w g β) (hle:Le s s'):qX c s' a w g β:=by
 have hloc:∀k d x,s'.loc k=some (d,x)->∃y,s.loc k=some (d,y)/\leA y x:=fun k d x e=>by
  rcases hle.loc k with⟨d1,x1,y1,h1,h2,h3⟩|⟨h1,_⟩
  ·simp_all
  simp_all
 have hlocn:∀k,s'.loc k≠none->s.loc k≠none:=fun k hk=>by
  cases e:s'.loc k with
  | none=>simp_all
  | some dx=>grind
 have hkeys:∀b,b∈s'.H.keys->b∈s.H.keys:=fun b hb=>hle.H.keys hb
 have hsame:∀k t,g.γ k (s'.ver k)=some t->g.γ k (s.ver k)=some t:=fun k t e=>by
  rcases Nat.lt_or_ge (s.ver k) (s'.ver k)with h1|h1
  ·rw[h.toknew k _ h1]at e;cases e
  ·have:s'.ver k=s.ver k:=Nat.le_antisymm h1 (hle.ver k)
   simp_all
 exact {
  defers:=by rw[hle.dfs];exact h.defers
  size:=h.size
  env:=fun t=>by
   have ht:=h.env t
   rcases hle.env t with h1|h1|⟨d,k,v,xs,h1,h2⟩|⟨d,x,y,h1,h2,h3⟩
   ·rw[h1];trivial
   ·rw[h1]
    cases he:s.env t with
    | loc k path =>
     rw[he]at ht
     obtain⟨d,x,off,d',h2,h3,h4⟩:=ht
     rcases hle.loc k with⟨d1,x1,y1,h5,h6,_⟩|⟨_,h5⟩
     ·rw[h2]at h5;cases h5
      exact⟨d,y1,off,d',h6,h3,h4⟩
     simp_all
    | _=>rw[he]at ht;exact ht
   ·rw[h1]
    obtain⟨f,hv⟩:VV c.P g w d (.sl .full xs) _:=jQ h2 ht
    refine⟨f,?_⟩
    simp only[VC]at hv |-
    obtain⟨e,a',cap,h3,h4,h5,h6,h7⟩:=hv
    exact⟨e,a',cap,h3,h4,h5,h6,.inl h7⟩
   ·rw[h1]
    obtain⟨f,hv⟩:VV c.P g w d x _:=jQ h2 ht
    exact⟨f,P4 _ _ _ _ h3 hv⟩
  locs:=fun k d x e=>by
   obtain⟨y,e1,e2⟩:=hloc k d x e
   have L:=h.locs k d y e1
   obtain⟨cs,b1,b2⟩:=L.block
   exact⟨L.base,fun hin=>L.noH (hkeys _ hin),L.imm,cs,b1,P4 _ _ _ _ e2 b2⟩
  inj:=fun i j e1 e2=>h.inj i j (hlocn i e1) (hlocn j e2)
  rep:=⟨h.rep.imm,hle.H.nodup h.rep.nodup,fun b o ho=>hle.H.obj h.rep.obj b o ho,h.rep.tab⟩
  toks:=fun k t e=>by
   have T:=h.toks k t (hsame k t e)
   exact⟨T.base,fun hin=>T.noH (hkeys _ hin),fun j hj=>T.noLoc j (hlocn j hj),T.imm,T.block⟩
  tokd:=fun k k' t t' e e'=>h.tokd k k' t t' (hsame k t e) (hsame k' t' e')
  toknew:=fun k v hv=>h.toknew k v (Nat.lt_of_le_of_lt (hle.ver k) hv)
  step:={ h.step with dom:=fun b hb=>h.step.dom b (hkeys b hb) } }

theorem AT.weaken {c:Ctx} {code:Code} {K:Exit->St->Prop} {s s':St} (hle:Le s s') (h:AT c code K s'):AT c code K s :=
 fun a w g β hS=>h a w g β (hS.weaken hle)

/-! ### loops -/
def zsp {α:Type} (head:α->St) (inv:α->Prop) (μ:α->Nat) (x:α) (K:Exit->St->Prop):Exit->St->Prop
 | .normal,s=>∃x',Le s (head x')/\inv x'/\μ x'<μ x
 | e,s=>K e s

theorem AT.loop {c:Ctx} {body:Code} {K:Exit->St->Prop} {s:St} {α:Type} (head:α->St) (inv:α->Prop) (μ:α->Nat) (x0:α) (h0:Le s (head x0)) (hi:inv x0)
  (round:∀x,inv x->AT c body (zsp head inv μ x K) (head x)):AT c (.loop body) K s:=by
 refine AT.weaken h0 ?_
 intro a w g β hS b k cs hro hb hr
 have key:∀n x,μ x=n->inv x->∀a w g β,qX c (head x) a w g β->
   ∃e a' w',QK c K e a' w'/\ArrivesIn (Machine.fenced c.P (fen c.rd)) c.P (lone (b.atR a (.code body::.inLoop body::k)) cs w) b k cs e a' w':=by
  intro n
  induction n using Nat.strongRecOn with
  | _ n ih =>
   intro x hn hx a w g β hS
   obtain⟨e,a₁,w₁,hq,harr⟩:=round x hx a w g β hS b (.inLoop body::k) cs hro hb hr
   cases e with
   | normal =>
    obtain⟨s',g',β',⟨x',hle,hx',hlt⟩,hS'⟩:=hq
    obtain⟨e₂,a₂,w₂,hq₂,harr₂⟩:=ih (μ x') (hn▸hlt) x' rfl hx' a₁ w₁ g' β' (hS'.weaken hle)
    exact⟨e₂,a₂,w₂,hq₂,.of_steps (StepsIn.trans harr (.one (fenced_calm hb hr rfl) stepR_inLoop)) harr₂⟩
   | exit id=>exact⟨.exit id,a₁,w₁,hq,.pass (x:=.inLoop body) rfl (fun _ _=>.inl (by simp)) harr⟩
   | goto l=>exact⟨.goto l,a₁,w₁,hq,.pass (x:=.inLoop body) rfl (fun _ _=>.inl (by simp)) harr⟩
   | ret=>exact⟨.ret,a₁,w₁,hq,.pass (x:=.inLoop body) rfl (fun _ _=>.inl (by simp)) harr⟩
   | panic ch=>exact hq.elim
   | outgrown=>exact hq.elim
 obtain⟨e,a',w',hq,harr⟩:=key _ x0 rfl hi a w g β hS
 exact⟨e,a',w',hq,.of_steps (.one (fenced_calm hb hr rfl) stepR_loop) harr⟩

/-! ### functions -/
def YG (P:Program) (s:St):List ResultVar->List TypeId->(List (TyD × AV)->Prop)->Prop
 | [],_,K=>K []
 | .tmp t::r,T::ts,K=>match co (q8 P T) (s.env t)with
  | some x=>YG P s r ts fun xs=>K ((q8 P T,x)::xs)
  | none=>False
 | .cell t T'::r,_::ts,K=>wL P s (s.env t) fun d x=>d=q8 P T'/\YG P s r ts fun xs=>K ((d,x)::xs)
 | _,_,_=>False

def pI:List (TyD × AV)->TV
 | [(d,x)]=>.av d x
 | xs=>.tup xs

def zm2 (P:Program) (fn:Func) (R:TV->q7->Prop):Exit->St->Prop
 | .normal,s=>YG P s fn.results.toList fn.resultTypes.toList fun xs=>R (pI xs).er s.H.er
 | .ret,s=>YG P s fn.results.toList fn.resultTypes.toList fun xs=>R (pI xs).er s.H.er
 | _,_=>False

def zeu (a:Act):ResultVar->Sem Value
 | .tmp t=>pure (a.tmps.getD t undef)
 | .cell b t=>do loadVar t (<-asAddr (a.tmps.getD b undef))

theorem g5 {c:Ctx} (hl:laidOutB c.P=true) {s:St} {a:Act} {w:World} {g:Gh} {β:Nat->Nat} (h:qX c s a w g β):∀(l:List ResultVar) (ts:List TypeId) (K:List (TyD × AV)->Prop),YG c.P s l ts K->
  ∃vs xs,(l.mapM (zeu a)).run c.P w=.ok vs w/\K xs/\VVs c.P g w xs vs/\vs.length=l.length
 | [],ts,K,hk=>⟨[],[],rfl,by assumption,trivial,rfl⟩
 | .tmp t::r,[],K,hk=>by grind [YG]
 | .cell t T'::r,[],K,hk=>by grind [YG]
 | .tmp t::r,T::ts,K,hk=>by
  simp only[YG]at hk
  cases hc:co (q8 c.P T) (s.env t)with
  | none=>simp_all
  | some x =>
   rw[hc]at hk
   obtain⟨vs,xs,h1,h2,h3,h4⟩:=g5 hl h r ts _ hk
   refine⟨a.tmps.getD t undef::vs,(q8 c.P T,x)::xs,?_,h2,⟨jQ hc (h.env t),h3⟩,by simp[h4]⟩
   simp_all[zeu]
 | .cell t T'::r,T::ts,K,hk=>by
  simp only[YG]at hk
  obtain⟨b,off,cs,E,fz,d,x,hv,hb,hle,hvc,hd,hk⟩:=DI hl h (h.env t) hk
  subst hd
  obtain⟨u,hr,hvv⟩:=UY hl hb hle hvc
  obtain⟨vs,xs,h1,h2,h3,h4⟩:=g5 hl h r ts _ hk
  refine⟨u::vs,(q8 c.P T',x)::xs,?_,h2,⟨hvv,h3⟩,by simp[h4]⟩
  simp_all[zeu,asAddr]

theorem zmQ {P:Program} {g:Gh} {w:World} {d:TyD} {x:AV} {v:Value} (h:VV P g w d x v):VV P (g0 g.imm) w d x.er v:=⟨h.1,UP x d _ h.2⟩
theorem zm6 {P:Program} {g:Gh} {w:World}:∀ {xs:List (TyD × AV)} {vs:List Value},VVs P g w xs vs->VVs P (g0 g.imm) w (xs.map fun p=>(p.1,p.2.er)) vs
 | [],[],_=>trivial
 | (_,_)::_,_::_,h=>⟨zmQ h.1,zm6 h.2⟩
 | [],_::_,h=>h.elim
 | _::_,[],h=>h.elim
theorem za4 {P:Program} {g:Gh} {w:World}:∀ {xs:List (TyD × AV)} {vs:List Value},VVs P g w xs vs->xs.length=vs.length
 | [],[],_=>rfl
 | (_,_)::_,_::_,h=>by simp[za4 h.2]
 | [],_::_,h=>h.elim
 | _::_,[],h=>h.elim

theorem zbS {c:Ctx} (hl:laidOutB c.P=true) {s:St} {a:Act} {w:World} {g:Gh} {β:Nat->Nat} (h:qX c s a w g β) {fn:Func} {R:TV->q7->Prop}
  (hk:YG c.P s fn.results.toList fn.resultTypes.toList fun xs=>R (pI xs).er s.H.er) :
  ∃v r,(results fn a.tmps).run c.P w=.ok v w/\R r s.H.er/\AR c.P (g0 g.imm) w r v:=by
 obtain⟨vs,xs,h1,h2,h3,h4⟩:=g5 hl h _ _ _ hk
 refine⟨if h:vs.toArray.size=1 then vs.toArray[0] else .tuple vs.toArray,(pI xs).er,?_,h2,?_⟩
 ·have e0:results fn a.tmps=(do let vs <-fn.results.mapM (zeu a);pure (if h:vs.size=1 then vs[0] else .tuple vs)):=rfl
  simp_all[Array.mapM_eq_mapM_toList]
 ·have hlen:=za4 h3
  match xs,vs,h3,hlen with
  | [(d,x)],[v],h3,_=>exact zmQ h3.1
  | [],[],_,_=>exact⟨[],rfl,trivial⟩
  | x::y::xs,u::v::vs,h3,_ =>
   have:=zm6 h3
   exact⟨u::v::vs,by simp,this⟩

def entry (args:List TV) (H:q7):St:={ env:=fun t=>(args[t]?).getD .junk,loc:=fun _=>none,ver:=fun _=>0,H:=H }

theorem gV {P:Program} {g:Gh} {w:World}:∀ {args:List TV} {vs:List Value},ARs P g w args vs->args.length=vs.length/\∀(t:Nat) (tv:TV),args[t]?=some tv->∃v:Value,vs[t]?=some v/\AR P g w tv v
 | [],[],_=>⟨rfl,fun t tv h=>by simp at h⟩
 | x::xs,v::vs,h=>by
  obtain⟨h1,h2⟩:=gV h.2
  refine⟨by simp[h1],fun t tv ht=>?_⟩
  cases t with
  | zero=>simp at ht;subst ht;exact⟨v,rfl,h.1⟩
  | succ t=>simp_all
 | [],_::_,h=>h.elim
 | _::_,[],h=>h.elim

theorem qX.turn {c:Ctx} {s:St} {a:Act} {w:World} {g:Gh} {β:Nat->Nat} (h:qX c s a w g β) {D:Nat} {o o':Obj} (ho:w.heap[D]?=some o) (hnc:∀cs E fz,o≠.cells cs E fz) (hb:c.w0.heap.size<=D) (hH:D∉s.H.keys)
  {dfs':List Nat} {ds':List Deferred} (hdf:zff c.w0.heap.size (World.setM w D o') dfs' ds'):qX c { s with dfs:=dfs' } { a with defers:=ds' } (World.setM w D o') g β:=by
 have hi:=h.rep.imm
 have hcb:∀ {b':Nat} {cs:Array Value} {E:TypeId} {fz:Nat × Nat},w.heap[b']?=some (.cells cs E fz)->b'≠D:=fun h1 e=>by
  simp_all
 have hik:zS g w (World.setM w D o'):=fun b' cs E fz h1 h2=>⟨cs,E,fz,by grind [qZ],rfl,fun _ _=>rfl⟩
 have hcell:∀ {b':Nat} {cs:Array Value} {Q:TypeId->Prop} {F:Prop},jD w b' cs Q F->jD (World.setM w D o') b' cs Q F:=fun⟨E,fz,h1,h2⟩=>⟨E,fz,by grind [qZ],h2⟩
 exact {
  defers:=hdf
  size:=h.size
  env:=fun t=>wJ (Gh.le_refl g) hi hik (fun j d' z e=>⟨z,e,rfl⟩) (h.env t)
  locs:=fun j d' z e=>by
   have L':=h.locs j d' z e
   obtain⟨cs',h1,h2⟩:=L'.block
   exact⟨L'.base,L'.noH,L'.imm,cs',hcell h1,zP (Gh.le_refl g) hi hik _ _ _ h2⟩
  inj:=h.inj
  rep:=⟨fun b' hb'=>by
    obtain⟨cs',E,fz,h1,h2⟩:=hi b' hb'
    grind [qZ],h.rep.nodup,fun b' x hx=>by
   have hne:b'≠D:=fun e=>hH (e▸List.mem_map.2 ⟨_,hx,rfl⟩)
   have hx':=h.rep.obj b' x hx
   cases x with
   | var d y=>obtain⟨h1,cs',h2,h3⟩:=hx';exact⟨h1,cs',hcell h2,zP (Gh.le_refl g) hi hik _ _ _ h3⟩
   | map k' e' es2=>obtain⟨h1,en',ck',h2,h3⟩:=hx';exact⟨h1,en',ck',by simp_all[qZ],wV (Gh.le_refl g) hi hik h3⟩
   | raw r i0 w0=>obtain⟨h1,h2,h3⟩:=hx';exact⟨h1,by simp_all[qZ],kW h3 (Gh.le_refl g) hik⟩,h.rep.tab.keep (Gh.le_refl g) hi hik⟩
  toks:=fun j t e=>by
   have T:=h.toks j t e
   obtain⟨cs',h1,h2⟩:=T.block
   exact⟨T.base,T.noH,T.noLoc,T.imm,cs',hcell h1,h2⟩
  tokd:=h.tokd
  toknew:=h.toknew
  step:={
   os:=h.step.os,tape:=h.step.tape,output:=h.step.output,drawn:=h.step.drawn
   size:=by grind [vK]
   frame:=fun b' hb' hn=>by
    have hne:b'≠D:=fun e=>by omega
    rw[qZ w D b' _ hne];exact h.step.frame b' hb' hn
   imm:=h.step.imm
   kept:=fun b' cs' E fz h1 h2=>by
    obtain⟨cs2,E2,fz2,h3,h4⟩:=h.step.kept b' cs' E fz h1 h2
    grind [qZ]
   dom:=h.step.dom } }

theorem zpF {P:Program} {g:Gh} {w:World} {H:q7} (h:Rep P g w H) {D:Nat} {ds:Option (List Deferred)} (hD:w.heap[D]?=some (.deferred ds)):D∉H.keys:=fun hin=>by
 obtain⟨⟨b,o⟩,ho,e⟩:=List.mem_map.1 hin
 simp only at e;subst e
 have hr:=h.obj b o ho
 cases o with
 | var d x=>obtain⟨_,cs,⟨E,fz,h1,_⟩,_⟩:=hr;simp_all
 | map k e es=>obtain⟨_,en,ck,h1,_⟩:=hr;simp_all
 | raw r i0 w0=>obtain⟨_,h1,h2⟩:=hr;rw[hD]at h1;cases h1;exact absurd h2.2 (by simp[zi2])

theorem zbp {P:Program} {s:St} {d:List Nat}:∀(l:List ResultVar) (ts:List TypeId) (K:List (TyD × AV)->Prop),YG P { s with dfs:=d } l ts K=YG P s l ts K
 | [],ts,K=>by simp only[YG]
 | .tmp t::r,[],K=>by simp only[YG]
 | .cell t T'::r,[],K=>by simp only[YG]
 | .tmp t::r,T::ts,K=>by
  simp only[YG]
  cases hc:co (q8 P T) (s.env t)with
  | none=>rfl
  | some x=>exact zbp r ts _
 | .cell t T'::r,T::ts,K=>by
  simp only[YG]
  show wL P s (s.env t) _=wL P s (s.env t) _
  congr 1
  funext d' x
  rw[zbp r ts]

theorem GH {c:Ctx} (hl:laidOutB c.P=true) {fn:Func} {R:TV->q7->Prop} {Q:Ending->World->Prop}:∀(dfs:List Nat) (s:St) (a:Act) (w:World) (g:Gh) (β:Nat->Nat),s.dfs=dfs->qX c s a w g β->
  YG c.P s fn.results.toList fn.resultTypes.toList (fun xs=>R (pI xs).er s.H.er)->
  (∀(a:Act) (w:World) (g:Gh) (β:Nat->Nat) v r,qX c { s with dfs:=[] } a w g β->R r s.H.er->AR c.P (g0 g.imm) w r v->Q (.returned v) w)->
  LeavesInM (fen none) 0 c.P fn a.tmps Q a.defers .returning w
 | [],s,a,w,g,β,hd,h,hk,hQ=>by
  have he:a.defers=[]:=by have:=h.defers.1;simp_all
  rw[he]
  obtain⟨v,r,h1,h2,h3⟩:=zbS hl h hk
  refine⟨v,h1,hQ a w g β v r ?_ h2 h3⟩
  have:({ s with dfs:=[] }:St)=s:=by rw[<-hd]
  simp_all
 | D::rest,s,a,w,g,β,hd,h,hk,hQ=>by
  have hdf:=h.defers
  rw[hd]at hdf
  have he:a.defers={ target:=.collected D,args:=#[] }::rest.map (fun D=>({ target:=.collected D,args:=#[] }:Deferred)):=by simpa using hdf.1
  have hD:=hdf.2.2 D (by simp)
  rw[he]
  refine⟨by simp,.inl ⟨D,w.putObj D (.deferred none),rfl,run_takeDeferred hD.2,?_⟩⟩
  have hn:=(List.nodup_cons.1 hdf.2.1)
  have hS:=h.turn (o':=.deferred none) hD.2 (fun _ _ _ e=>by cases e) hD.1 (zpF h.rep hD.2) (dfs':=rest) (ds':=rest.map (fun D=>({ target:=.collected D,args:=#[] }:Deferred)))
   ⟨rfl,hn.2,fun D' hD'=>⟨(hdf.2.2 D' (by simp[hD'])).1,by
    rw[qZ w D D' _ (fun e=>hn.1 (e▸hD'))];exact(hdf.2.2 D' (by simp[hD'])).2⟩⟩
  have:=GH hl rest { s with dfs:=rest } _ _ g β rfl hS (by rw[zbp];exact hk) hQ
  exact this

theorem q6.of_vc {P:Program} (hl:laidOutB P=true) (hm:P.follows .mixedOrders=true) {f:FuncId} {fn:Func} {code:Code} (hf:P.funcs[f]?=some fn) (hb:fn.body=some code) (cf:Cfg) (hd:KY cf fn.ntmps code=true)
  {args:List TV} {H:q7} {R:TV->q7->Prop} (hn:args.length<=fn.ntmps) (h:∀imm0 w0,vc ⟨P,fn.ntmps,imm0,H,w0,none⟩ cf code (zm2 P fn R) (entry args H)):q6 P f args H R:=by
 intro imm w vs hrep hargs
 have hlen:=(gV hargs).1
 have hvs:vs.size<=fn.ntmps:=by simp_all
 have hS:qX ⟨P,fn.ntmps,imm,H,w,none⟩ (entry args H) { tmps:=vs++Array.replicate (fn.ntmps-vs.size) undef,defers:=[] } w (g0 imm) (fun _=>0):={
  defers:=⟨rfl,List.nodup_nil,fun D hD=>by grind [entry]⟩
  size:=by simp;omega
  env:=fun t=>by
   simp only[entry]
   cases ht:args[t]? with
   | none=>trivial
   | some tv =>
    obtain⟨v,h1,h2⟩:=(gV hargs).2 t tv ht
    have hv:(vs++Array.replicate (fn.ntmps-vs.size) undef).getD t undef=v:=by
     have hlt:t<vs.size:=by
      grind
     simp_all[Array.getElem?_append_left]
    simp only[Option.getD_some]
    rw[hv]
    cases tv with
    | av d x=>exact h2
    | cst u=>exact h2
    | tup xs=>exact h2
    | _=>exact h2.elim
  locs:=fun k d x e=>by grind [entry]
  inj:=fun k j e=>by simp[entry]
  rep:=hrep
  toks:=fun k t e=>by grind [g0]
  tokd:=fun k k' t t' e=>by simp[g0]
  toknew:=fun k v _=>rfl
  step:=W8.refl }
 have hcl:CallsIn (fen none) 0 P f vs w fun e w'=>∃v r imm' H',e=.returned v/\R r H'/\AR P (g0 imm') w' r v/\Rep P (g0 imm') w' H'/\W8 imm H w imm' H' w':=by
  refine callsIn_of_wp_marks hf hb trivial (wpIn_mono (W2 (c:=⟨P,fn.ntmps,imm,H,w,none⟩) hl hm code _ _ hd (h imm w) _ _ _ _ hS) ?_) rfl
  intro e a' w' hq
  have fin:W5 ⟨P,fn.ntmps,imm,H,w,none⟩ (fun s=>YG P s fn.results.toList fn.resultTypes.toList fun xs=>R (pI xs).er s.H.er) a' w'->
    LeavesInM (fen none) 0 P fn a'.tmps (fun e w'=>∃v r imm' H',e=.returned v/\R r H'/\AR P (g0 imm') w' r v/\Rep P (g0 imm') w' H'/\W8 imm H w imm' H' w') a'.defers .returning w':=by
   rintro⟨s,g,β,hk,hS'⟩
   refine GH (c:=⟨P,fn.ntmps,imm,H,w,none⟩) hl s.dfs s a' w' g β rfl hS' hk ?_
   intro a2 w2 g2 β2 v r hS2 h2 h3
   refine⟨v,r,g2.imm,s.H.er,rfl,h2,h3,uF (rest:=[]) hS2.rep (by simp),?_⟩
   exact { hS2.step with dom:=fun b hb=>hS2.step.dom b (by grind [q7.er_keys]) }
  cases e with
  | normal=>exact fin hq
  | ret=>exact fin hq
  | exit id=>obtain⟨s,g,β,hk,hS'⟩:=hq;exact hk.elim
  | goto l=>obtain⟨s,g,β,hk,hS'⟩:=hq;exact hk.elim
  | panic ch=>exact hq.elim
  | outgrown=>exact hq.elim
 grind [vB]
def lk {α:Type} (z:α):List (Nat × α)->Nat->α
 | [],_=>z
 | (k,v)::r,t=>if t=k then v else lk z r t

def St.of (l:List (Nat × TV)) (ls:List (Nat × (TyD × AV))) (ver:Nat->Nat) (H:q7) (dfs:List Nat:=[]):St :=
 { env:=lk .junk l,loc:=lk none (ls.map fun p=>(p.1,some p.2)),ver:=ver,H:=H,dfs:=dfs }

theorem zdw {α:Type} {z:α}:∀ {l:List (Nat × α)} {t:Nat},lk z l t=z\/(t,lk z l t)∈l
 | [],t=>.inl rfl
 | (k,v)::r,t=>by
  simp only[lk]
  split
  ·rename_i e;subst e;right;simp
  ·rcases zdw (z:=z) (l:=r) (t:=t)with h|h
   ·exact .inl h
   ·exact .inr (List.mem_cons_of_mem _ h)

theorem nr {α:Sort _} {a b:α} (h:a=b):a=b:=h
def X4 (y x:AV):Prop:=x=y\/(∃k v xs,x=.sl (.own k v) xs/\y=.sl .full xs)\/leA y x
def k8 (a b:TV):Prop :=
 match b with
 | .av d x=>match a with
  | .av d' y=>d'=d/\X4 y x
  | .cst v=>∃y,coC d v=some y/\X4 y x
  | _=>False
 | b=>b=a
@[simp] theorem zrA (y:AV):X4 y y:=.inl rfl
@[simp] theorem ztl (k k':IntKind) (n n':Int):X4 (.i k n) (.i k' n')<->k'=k/\n'=n:=by simp[X4,leA];try (intro h;exact h.symm▸⟨rfl,rfl⟩)
@[simp] theorem zsN (n n':List UInt8):X4 (.s n) (.s n')<->n'=n:=by simp[X4,leA];try (intro h;exact h.symm▸⟨rfl,rfl⟩)
@[simp] theorem zsW (n n':Bool):X4 (.b n) (.b n')<->n'=n:=by simp[X4,leA];try (intro h;exact h.symm▸⟨rfl,rfl⟩)
@[simp] theorem zrL (n n':List AV):X4 (.agg n) (.agg n')<->n'=n\/JQ n n':=by simp[X4,leA]
@[simp] theorem zsi (k v:Nat) (xs:List AV):X4 (.sl .full xs) (.sl (.own k v) xs):=.inr (.inl ⟨k,v,xs,rfl,rfl⟩)
@[simp] theorem zsA (t:Tok) (xs ys:List AV):X4 (.sl t xs) (.sl .no ys)<->ys=xs\/JQ xs ys:=by
 simp only[X4,leA,AV.sl.injEq,reduceCtorEq,false_and,exists_const,false_or,true_and]
 constructor
 ·rintro(⟨_,h⟩|⟨_,h⟩)
  ·exact .inl h
  ·exact .inr h
 ·rintro(rfl|h)
  ·exact .inr ⟨.inr (.inl trivial),WR _⟩
  ·exact .inr ⟨.inr (.inl trivial),h⟩

@[simp] theorem zsl (k v:Nat) (xs ys:List AV):X4 (.sl (.own k v) xs) (.sl (.own k v) ys)<->ys=xs\/JQ xs ys:=by
 simp only[X4,leA,AV.sl.injEq,reduceCtorEq,false_and,and_false,exists_const,false_or,true_and,true_or]
attribute [simp] WU WR
@[simp] theorem zsk (T T':TypeId) (x y:AV):X4 (.ifc T x) (.ifc T' y)<->T'=T/\leA x y:=by
 simp only[X4,leA,AV.ifc.injEq,reduceCtorEq,false_and,and_false,exists_const,false_or]
 constructor
 ·rintro(⟨rfl,rfl⟩|h)
  ·exact⟨rfl,WU _⟩
  ·exact h
 ·exact .inr

def z1 (ks:List Nat):List (Nat × TV)->Prop
 | []=>True
 | (_,.loc k _)::r=>k∈ks/\z1 ks r
 | _::r=>z1 ks r

theorem CR {ks:List Nat}:∀ {l:List (Nat × TV)},z1 ks l->∀t k p,(t,TV.loc k p)∈l->k∈ks
 | [],_,_,_,_,h=>by simp at h
 | (t',v)::r,hl,t,k,p,h=>by
  rcases List.mem_cons.1 h with h|h
  ·cases h;exact hl.1
  ·have hr:z1 ks r:=by
    cases v with
    | loc k' p'=>exact hl.2
    | _=>exact hl
   exact CR hr t k p h

def zd1 (a:Option (TyD × AV)) (b:TyD × AV):Prop:=match a with
 | some (d,x)=>d=b.1/\X4 x b.2
 | none=>False
theorem zfl {x y:AV} (h:X4 x y):leA x y:=by
 rcases h with rfl|⟨k,v,xs,rfl,rfl⟩|h
 ·simp
 ·simp[leA]
 ·exact h

theorem Le.ofH {s:St} {l:List (Nat × TV)} {ls:List (Nat × (TyD × AV))} {ver:Nat->Nat} {H:q7} {dfs:List Nat} (he:∀p∈l,k8 (s.env p.1) p.2) (hl:∀p∈ls,zd1 (s.loc p.1) p.2)
  (hp:z1 (ls.map (·.1)) l) (hv:∀k,s.ver k<=ver k) (hH:HLe H s.H) (hd:s.dfs=dfs:=by rfl):Le s (St.of l ls ver H dfs):=by
 refine⟨fun t=>?_,fun k=>?_,hv,hH,hd.symm⟩
 ·rcases zdw (z:=TV.junk) (l:=l) (t:=t)with h|h
  ·exact .inl h
  ·right
   have h':=he _ h
   show lk .junk l t=s.env t\/_
   simp only at h'
   unfold k8 at h'
   split at h'
   ·rename_i d x hb
    show lk .junk l t=s.env t\/(∃d k v xs,lk .junk l t=.av d (.sl (.own k v) xs)/\co d (s.env t)=some (.sl .full xs))\/∃d x y,lk .junk l t=.av d y/\co d (s.env t)=some x/\leA x y
    split at h'
    ·rename_i d' y ha
     obtain⟨rfl,h'⟩:=h'
     rcases h' with rfl|⟨k,v,xs,rfl,rfl⟩|h'
     ·simp_all
     ·simp_all[co]
     ·right;right;exact⟨d',y,x,hb,by simp_all[co],h'⟩
    ·rename_i v ha
     obtain⟨y,h1,h2⟩:=h'
     rcases h2 with rfl|⟨k,u,xs,rfl,rfl⟩|h2
     ·right;right;exact⟨d,x,x,hb,by rw[ha];exact h1,WU x⟩
     ·right;left;exact⟨d,k,u,xs,hb,by rw[ha];exact h1⟩
     ·right;right;exact⟨d,y,x,hb,by rw[ha];exact h1,h2⟩
    simp_all
   simp_all
 ·rcases zdw (z:=(none:Option (TyD × AV))) (l:=ls.map fun p=>(p.1,some p.2)) (t:=k)with h|h
  ·by_cases hk:k∈ls.map (·.1)
   ·-- then it is there
    exfalso
    have key:∀(ls:List (Nat × (TyD × AV))),k∈ls.map (·.1)->lk none (ls.map fun p=>(p.1,some p.2)) k≠none:=by
     intro ls
     induction ls with
     | nil=>simp
     | cons x r ih =>
      grind [lk]
    simp_all
   ·right
    refine⟨h,fun t p e=>hk ?_⟩
    rcases zdw (z:=TV.junk) (l:=l) (t:=t)with h1|h1
    ·simp_all[St.of]
    ·have h2:(St.of l ls ver H dfs).env t=lk .junk l t:=rfl
     grind [CR]
  ·left
   simp only[St.of]
   obtain⟨p,hp1,hp2⟩:=List.mem_map.1 h
   simp only[Prod.mk.injEq]at hp2
   have h1:=hl p hp1
   unfold zd1 at h1
   cases hs:s.loc p.1 with
   | none=>simp_all
   | some dx =>
    rw[hs]at h1
    obtain⟨h2,h3⟩:=h1
    refine⟨p.2.1,dx.2,p.2.2,?_,?_,zfl h3⟩
    ·grind
    simp_all

theorem Le.ofP {s:St} {l:List (Nat × TV)} {ls:List (Nat × (TyD × AV))} {ver:Nat->Nat} {H:q7} {dfs:List Nat} (he:∀p∈l,k8 (s.env p.1) p.2) (hl:∀p∈ls,zd1 (s.loc p.1) p.2)
  (hp:z1 (ls.map (·.1)) l) (hv:∀k,s.ver k<=ver k) (hH:HSub H s.H) (hd:s.dfs=dfs:=by rfl):Le s (St.of l ls ver H dfs):=Le.ofH he hl hp hv (HLe.of_sub hH) hd
theorem Le.ofW {s:St} {l:List (Nat × TV)} {ls:List (Nat × (TyD × AV))} {ver:Nat->Nat} {H:q7} {dfs:List Nat} (he:∀p∈l,k8 (s.env p.1) p.2) (hl:∀p∈ls,zd1 (s.loc p.1) p.2)
  (hp:z1 (ls.map (·.1)) l) (hv:∀k,s.ver k<=ver k) (hH:leH s.H H) (hd:s.dfs=dfs:=by rfl):Le s (St.of l ls ver H dfs):=Le.ofH he hl hp hv ⟨s.H,HSub.refl _,hH⟩ hd
theorem pC {H:q7}:leH [] H=(H=[]):=nr rfl
theorem UU {b b':Nat} {o o':HObj} {r r':q7}:leH ((b,o)::r) ((b',o')::r')=(b'=b/\leO o o'/\leH r r'):=nr rfl
theorem G7 {d d':TyD} {x y:AV}:leO (.var d x) (.var d' y)=(d'=d/\leA x y):=nr rfl
theorem GG {ps qs:List AV}:leA (.agg ps) (.agg qs)=JQ ps qs:=nr rfl
theorem zgx {k k':IntKind} {n n':Int}:leA (.i k n) (.i k' n')=(k'=k/\n'=n):=by simp[leA]
theorem zbz {t:Tok} {xs ys:List AV}:leA (.sl t xs) (.sl .no ys)=(ys=xs\/JQ xs ys):=by
 simp_all[leA]
theorem pN {k v:Nat} {xs ys:List AV}:leA (.sl (.own k v) xs) (.sl (.own k v) ys)=(ys=xs\/JQ xs ys):=by
 simp_all[leA]
theorem XC {x y:AV} {xs ys:List AV}:JQ (x::xs) (y::ys)=(leA x y/\JQ xs ys):=nr rfl
theorem uU {ys:List AV}:JQ [] ys=(ys=[]):=nr rfl

theorem Le.of {s:St} {l:List (Nat × TV)} {ls:List (Nat × (TyD × AV))} {ver:Nat->Nat} {H:q7} {dfs:List Nat} (he:∀p∈l,k8 (s.env p.1) p.2) (hl:∀p∈ls,zd1 (s.loc p.1) p.2)
  (hp:z1 (ls.map (·.1)) l) (hv:∀k,s.ver k<=ver k) (hH:H.Sublist s.H) (hd:s.dfs=dfs:=by rfl):Le s (St.of l ls ver H dfs):=Le.ofP he hl hp hv (HSub.of_sub hH) hd

theorem gK {P:Program} {s:St} {g:FuncId} {caps:List AV} {cs:List TV} {args:List TV} {dst:Option Nat} {K:St->Prop} {r:TV} (hc:caps.mapM QB=some cs) (ha:args.all qH=true) (hf:qL P g=true)
  (h:PC P g ((args++cs).map TV.er) r) (hk:K (s.put dst r)):kL P s (.av .func (.fn g caps)) args dst K:=by
 unfold kL
 simp only[hc]
 refine⟨ha,hf,[],s.H,_,by simp,h,?_⟩
 rintro r' H' ⟨rfl,rfl⟩ _
 exact⟨s.H,HSub.refl _,hk⟩

theorem q6.mono {P:Program} {f:FuncId} {args:List TV} {H:q7} {R R':TV->q7->Prop} (h:q6 P f args H R) (hr:∀r H',R r H'->R' r H'):q6 P f args H R' :=
 fun imm w vs h1 h2=>(h imm w vs h1 h2).mono fun e w' ⟨v,r,imm',H',a,b,c⟩=>⟨v,r,imm',H',a,hr _ _ b,c⟩

theorem q6.drop {P:Program} {f:FuncId} {args:List TV} {H:q7} {R R':TV->q7->Prop} (h:q6 P f args H R) (hr:∀r H',R r H'->∃H'':q7,H''.Sublist H'/\R' r H''):q6 P f args H R' :=
 fun imm w vs h1 h2=>(h imm w vs h1 h2).mono fun e w' ⟨v,r,imm',H',a,b,c,d,st⟩=>by
  obtain⟨H'',hs,hR⟩:=hr _ _ b
  have hk:∀b,b∈H''.keys->b∈H'.keys:=fun b hb=>(hs.map _).subset hb
  exact⟨v,r,imm',H'',a,hR,c,⟨d.imm,(hs.map _).nodup d.nodup,fun b o ho=>d.obj b o (hs.subset ho),d.tab⟩,⟨st.os,st.tape,st.output,st.size,st.frame,st.imm,st.kept,fun b hb=>st.dom b (hk b hb),st.drawn⟩⟩
theorem PC.of {P:Program} {f:FuncId} {args:List TV} {r:TV} (h:q6 P f args [] fun r' _=>r'=r):PC P f args r:=h.drop fun _ _ e=>⟨[],List.nil_sublist _,e,rfl⟩

def q9:List TV->List TV->Prop
 | [],[]=>True
 | a::r,b::r'=>(a=b\/match a with
  | .cst c=>match b with
   | .av d x=>∃y,coC d c=some y/\y.er=x
   | _=>False
  | _=>False)/\q9 r r'
 | _,_=>False
theorem zct {P:Program} {imm:Nat->Nat} {w:World}:∀ {as bs:List TV} {vs:List Value},q9 as bs->ARs P (g0 imm) w as vs->ARs P (g0 imm) w bs vs
 | [],[],_,_,h=>h
 | [],_::_,_,h,_=>h.elim
 | _::_,[],_,h,_=>h.elim
 | a::r,b::r',[],_,h=>h.elim
 | a::r,b::r',v::vs,hle,h=>by
  obtain⟨h1,h2⟩:=hle
  refine⟨?_,zct h2 h.2⟩
  rcases h1 with rfl|h1
  ·exact h.1
  ·cases a with
   | cst c =>
    cases b with
    | av d x =>
     obtain⟨y,e1,rfl⟩:=h1
     have hv:v=c:=h.1
     subst hv
     have:=zmQ (ziM (P:=P) (g:=g0 imm) (w:=w) e1)
     exact this
    | _=>exact h1.elim
   | _=>exact h1.elim
theorem q6.args {P:Program} {f:FuncId} {as bs:List TV} {H:q7} {R:TV->q7->Prop} (h:q6 P f bs H R) (hle:q9 as bs):q6 P f as H R :=
 fun imm w vs h1 h2=>h imm w vs h1 (zct hle h2)

theorem zhP {P:Program} {s:St} {g:FuncId} {caps:List AV} {cs:List TV} {args:List TV} {dst:Option Nat} {K:St->Prop} {r:TV} (hc:caps.mapM QB=some cs) (ha:args.all qH=true) (hf:qL P g=true)
  (h:PC P g ((args++cs).map TV.er) r) (hk:K (s.put dst r)):gS P s (.av .func (.fn g caps)) args dst K:=by
 unfold gS
 grind
theorem QQ {P:Program} {s:St} {g:FuncId} {caps:List AV} {cs:List TV} {args bs:List TV} {dst:Option Nat} {K:St->Prop} {r:TV} (Hs rest:q7) (hp:s.H.Perm (Hs++rest)) (h:q6 P g bs Hs.er fun r' H'=>r'=r/\H'=Hs) (hc:caps.mapM QB=some cs) (ha:args.all qH=true) (hf:qL P g=true)
  (hle:q9 ((args++cs).map TV.er) bs) (hk:K (s.put dst r)):gS P s (.av .func (.fn g caps)) args dst K:=by
 unfold gS
 simp only[hc]
 exact⟨ha,hf,r,.inr ⟨Hs,rest,hp,h.args hle⟩,hk⟩

theorem XF {P:Program} {s:St} {g:FuncId} {caps:List AV} {cs:List TV} {args bs:List TV} {dst:Option Nat} {K:St->Prop} {r:TV} (h:PC P g bs r) (hc:caps.mapM QB=some cs) (ha:args.all qH=true) (hf:qL P g=true)
  (hle:q9 ((args++cs).map TV.er) bs) (hk:K (s.put dst r)):gS P s (.av .func (.fn g caps)) args dst K:=zhP hc ha hf (h.args hle) hk
theorem YE {P:Program} {s:St} {g:FuncId} {caps:List AV} {cs:List TV} {args bs:List TV} {dst:Option Nat} {K:St->Prop} {r:TV} (h:PC P g bs r) (hc:caps.mapM QB=some cs) (ha:args.all qH=true) (hf:qL P g=true)
  (hle:q9 ((args++cs).map TV.er) bs) (hk:K (s.put dst r)):kL P s (.av .func (.fn g caps)) args dst K:=gK hc ha hf (h.args hle) hk

theorem zF {P:Program} {s:St} {g:FuncId} {caps:List AV} {cs:List TV} {args:List TV} {dst:Option Nat} {K:St->Prop} {R:TV->q7->Prop} (hc:caps.mapM QB=some cs) (ha:args.all qH=true) (hf:qL P g=true)
  (h:q6 P g ((args++cs).map TV.er) s.H.er R) (hk:∀r H',R r H'->K (({ s with H:=H' }:St).put dst r)):kL P s (.av .func (.fn g caps)) args dst K:=by
 unfold kL
 simp only[hc]
 exact⟨ha,hf,s.H,[],R,by simp,h,fun r H' hR _=>⟨H',by simp[HSub.refl],hk r H' hR⟩⟩

theorem qM {P:Program} {s:St} {g:FuncId} {caps:List AV} {cs:List TV} {args:List TV} {dst:Option Nat} {K:St->Prop} {R:TV->q7->Prop} (Hs rest:q7) (hp:s.H.Perm (Hs++rest)) (hc:caps.mapM QB=some cs) (ha:args.all qH=true) (hf:qL P g=true)
  (h:q6 P g ((args++cs).map TV.er) Hs.er R) (hk:∀r H',R r H'->(H'++rest).keys.Nodup->∃H'',HSub H'' (H'++rest)/\K (({ s with H:=H'' }:St).put dst r)):kL P s (.av .func (.fn g caps)) args dst K:=by
 unfold kL
 grind
theorem YA {P:Program} {s:St} {g:FuncId} {fs:List AV} {cs:List TV} {args:List TV} {dst:Option Nat} {K:St->Prop} {R:TV->q7->Prop} (Hs rest:q7) (hp:s.H.Perm (Hs++rest)) (hc:fs.mapM QB=some cs) (ha:args.all qH=true) (hf:qL P g=true)
  (h:q6 P g ((cs++args).map TV.er) Hs.er R) (hk:∀r H',R r H'->(H'++rest).keys.Nodup->∃H'',HSub H'' (H'++rest)/\K (({ s with H:=H'' }:St).put dst r)):kL P s (.av .func (.bm g fs)) args dst K:=by
 unfold kL
 grind
theorem q6.nodup {P:Program} {f:FuncId} {args:List TV} {H:q7} {R:TV->q7->Prop} (h:H.keys.Nodup->q6 P f args H R):q6 P f args H R :=
 fun imm w vs h1 h2=>h h1.nodup imm w vs h1 h2
theorem q6.sub {P:Program} {f:FuncId} {args:List TV} {H:q7} {R R':TV->q7->Prop} (h:q6 P f args H R) (hr:∀r H',R r H'->H'.keys.Nodup->∃H'':q7,HSub H'' H'/\R' r H''):q6 P f args H R' :=
 fun imm w vs h1 h2=>(h imm w vs h1 h2).mono fun e w' ⟨v,r,imm',H',a,b,c,d,st⟩=>by
  obtain⟨H'',hs,hR⟩:=hr _ _ b d.nodup
  exact⟨v,r,imm',H'',a,hR,c,⟨d.imm,hs.nodup d.nodup,fun b o ho=>d.obj b o (hs.subset ho),d.tab⟩,⟨st.os,st.tape,st.output,st.size,st.frame,st.imm,st.kept,fun b hb=>st.dom b (hs.keys hb),st.drawn⟩⟩

/-! ### loops, with what comes later out of sight -/
theorem AT.loop' {c:Ctx} {body:Code} {K:Exit->St->Prop} {s:St} {α:Type} (head:α->St) (inv:α->Prop) (μ:α->Nat) (x0:α) (h0:Le s (head x0)) (hi:inv x0)
  (round:∀x,inv x->∀KL:Exit->St->Prop,(∀s x',Le s (head x')->inv x'->μ x'<μ x->KL .normal s)->(∀e s,e≠.normal->K e s->KL e s)->AT c body KL (head x)):AT c (.loop body) K s :=
 AT.loop head inv μ x0 h0 hi fun x hx=>round x hx _ (fun s x' h1 h2 h3=>⟨x',h1,h2,h3⟩) (fun e s he hk=>by cases e<;>first|exact absurd rfl he|exact hk)

theorem AT.loopV {c:Ctx} {body:Code} {K:Exit->St->Prop} {s:St} {α:Type} (head:α->(Nat->Nat)->St) (inv:α->Prop) (μ:α->Nat) (x0:α) (h0:Le s (head x0 s.ver)) (hi:inv x0)
  (round:∀x ver,inv x->∀KL:Exit->St->Prop,(∀s x',Le s (head x' s.ver)->inv x'->μ x'<μ x->KL .normal s)->(∀e s,e≠.normal->K e s->KL e s)->AT c body KL (head x ver)):AT c (.loop body) K s :=
 AT.loop' (fun x:α × (Nat->Nat)=>head x.1 x.2) (fun x=>inv x.1) (fun x=>μ x.1) (x0,s.ver) h0 hi
  fun x hx KL hN hE=>round x.1 x.2 hx KL (fun s x' h1 h2 h3=>hN s (x',s.ver) h1 h2 h3) hE

theorem vc.loop {c:Ctx} {cf:Cfg} {body:Code} {K:Exit->St->Prop} {s:St} (h:AT c (.loop body) K s):vc c cf (.loop body) K s:=h

/-! ### the steps, as equations that look no further ahead than they must -/
theorem ztx {p:Prop} [Decidable p] {A B:Prop}:(if p then A else B)=((p->A)/\(¬p->B)):=by
 grind
theorem zkN {v:Bool} {A B:Prop}:((v=true->A)/\(v=false->B))=(if v=true then A else B):=by grind
theorem PL {v w:Option Bool} {A B:Prop}:((v=w->A)/\(v≠w->B))=(if v=w then A else B):=by grind
theorem znB {x y:AV}:gW x [] y=y:=by rfl
theorem zm5 {ps:List AV} {i:Nat} {y:AV}:gW (.agg ps) [i] y=.agg (ps.set i y):=by
 grind [gW,List.set_eq_of_length_le]
def zqe (x:Option AV) (p:List Nat) (y:AV):AV:=match x with
 | some x=>gW x p y
 | none=>.nilfn
theorem zgX {x:AV} {p:List Nat} {y:AV}:zqe (some x) p y=gW x p y:=nr rfl
theorem zoc {ps:List AV} {i j:Nat} {p:List Nat} {y:AV}:gW (.agg ps) (i::j::p) y=.agg (ps.set i (zqe ps[i]? (j::p) y)):=nr rfl
theorem jF {α:Type} {z:α} {t:Nat}:lk z [] t=z:=nr rfl
theorem zpw {α:Type} {z:α} {k t:Nat} {v:α} {r:List (Nat × α)}:lk z ((k,v)::r) t=if t=k then v else lk z r t:=nr rfl
theorem zly:gB (.cst (.tuple #[]))=some none:=nr rfl
theorem zsc {x:Bool}:gB (.av .bool (.b x))=some (some x):=nr rfl
theorem zqX {x:Bool}:gB (.cst (.bool x))=some (some x):=nr rfl
theorem zoU {c:Ctx} {cf:Cfg} {K:Exit->St->Prop} {s:St}:vc c cf .skip K s=K .normal s:=nr rfl
theorem zlk {c:Ctx} {cf:Cfg} {K:Exit->St->Prop} {s:St} {l:Nat}:vc c cf (.label l) K s=K .normal s:=nr rfl
theorem zkI {c:Ctx} {cf:Cfg} {K:Exit->St->Prop} {s:St} {id:Nat} {ops:Array Oper}:vc c cf (.region id ops false) K s=VI c.P cf ops (K .normal) ops.toList s:=nr rfl
theorem zls {c:Ctx} {cf:Cfg} {K:Exit->St->Prop} {s:St} {id:Nat} {ops:Array Oper}:vc c cf (.region id ops true) K s=if cf.mtb (1000000+id)=true then j6 c.P cf ops (K .normal) s else if ops.toList.all (fun o=>(V9 o).isNone&&!cE o) then pA c.P ops (K .normal) ops.toList s else uM c.P cf ops (zga cf id ops (K .normal)) 0 ops.toList s:=nr rfl
theorem zqO {c:Ctx} {cf:Cfg} {K:Exit->St->Prop} {s:St} {x y:Code}:vc c cf (.seq x y) K s=vc c cf x (zdv (vc c cf y K) K) s:=nr rfl
theorem zpn {c:Ctx} {cf:Cfg} {K:Exit->St->Prop} {s:St} {b:Operand} {x y:Code}:vc c cf (.cond b x y) K s=match asB (ev s b)with
  | some v=>if v=true then vc c cf x K s else vc c cf y K s
  | none=>False:=by
 show (match asB (ev s b)with|some v=>(v=true->vc c cf x K s)/\(v=false->vc c cf y K s)|none=>False)=_
 grind
theorem zmS {c:Ctx} {cf:Cfg} {K:Exit->St->Prop} {s:St} {id:Nat} {x:Code}:vc c cf (.block id x) K s=vc c cf x (gO id K) s:=nr rfl
theorem zpb {c:Ctx} {cf:Cfg} {K:Exit->St->Prop} {s:St} {id:Nat}:vc c cf (.exit id) K s=K (.exit id) s:=nr rfl
theorem zoM {c:Ctx} {cf:Cfg} {K:Exit->St->Prop} {s:St} {id:Nat}:vc c cf (.goto id) K s=K (.goto id) s:=nr rfl
theorem zqC {c:Ctx} {cf:Cfg} {K:Exit->St->Prop} {s:St}:vc c cf .ret K s=K .ret s:=nr rfl
theorem zpO {c:Ctx} {cf:Cfg} {K:Exit->St->Prop} {s:St} {x:Code}:vc c cf (.loop x) K s=AT c (.loop x) K s:=nr rfl
theorem zlO {c:Ctx} {cf:Cfg} {K:Exit->St->Prop} {s:St} {x:Code}:vc c cf (.scope x) K s=vc c cf x (zb4 K) s:=nr rfl
theorem zkQ {P:Program} {cf:Cfg} {ops:Array Oper} {K:St->Prop} {s:St}:VI P cf ops K [] s=K s:=nr rfl
theorem zhB {P:Program} {cf:Cfg} {ops:Array Oper} {K:St->Prop} {s:St} {o:Oper} {r:List Oper}:VI P cf ops K (o::r) s=vcG P cf ops s o (VI P cf ops K r):=nr rfl
theorem zqQ {P:Program} {cf:Cfg} {ops:Array Oper} {s:St} {o:Oper} {K:St->Prop}:vcG P cf ops s o K=match o.guard with
  | none=>yD P cf s o K
  | some (j,want)=>match (ops[j]?).bind (·.dst)with
   | some t=>match gB (s.env t)with
    | some b=>if b=some want then yD P cf s o K else K (s.put o.dst (.cst undef))
    | none=>False
   | none=>False:=by simp only[vcG,PL]<;>rfl
theorem zlw {P:Program} {c x y:TV} {K:TV->Prop}:zcX P c x y K=match asB c with
  | none=>False
  | some b=>match asB x,asB y with
   | some p,some q=>K (.av .bool (.b (if b then p else q)))
   | _,_=>if b=true then K x else K y:=by simp only[zcX,zkN]<;>rfl
theorem znv {P:Program} {ops:Array Oper} {K:St->Prop} {s:St}:pA P ops K [] s=K s:=nr rfl
theorem zjM {P:Program} {ops:Array Oper} {K:St->Prop} {s:St} {o:Oper} {r:List Oper}:pA P ops K (o::r) s=match o.guard with
  | none=>z8 P s o.op (WV s o.dst (pA P ops K r))
  | some (j,want)=>match (ops[j]?).bind (·.dst)with
   | some t=>match gB (s.env t)with
    | some b=>if b=some want then z8 P s o.op (WV s o.dst (pA P ops K r)) else pA P ops K r (s.put o.dst (.cst undef))
    | none=>False
   | none=>False:=by simp only[pA,PL]<;>rfl
def rdT (ops:Array Oper) (i:Nat):TV->Bool
 | .loc k _=>rdJ ops i k 0 ops.toList
 | _=>true
def rdL (ops:Array Oper) (i:Nat) (s:St):List Nat->Bool
 | []=>true
 | t::r=>rdT ops i (s.env t)&&rdL ops i s r
theorem zol {ops:Array Oper} {i:Nat} {s:St}:rdL ops i s []=true:=nr rfl
theorem zgi {ops:Array Oper} {i:Nat} {s:St} {t:Nat} {r:List Nat}:rdL ops i s (t::r)=(rdT ops i (s.env t)&&rdL ops i s r):=nr rfl
theorem zqY {ops:Array Oper} {i:Nat} {d:TyD} {x:AV}:rdT ops i (.av d x)=true:=nr rfl
theorem zoT {ops:Array Oper} {i:Nat} {v:Value}:rdT ops i (.cst v)=true:=nr rfl
theorem zoK {ops:Array Oper} {i:Nat} {d:TyD} {x:AV}:rdT ops i (.pel d x)=true:=nr rfl
theorem zoV {ops:Array Oper} {i:Nat} {xs:List (TyD × AV)}:rdT ops i (.tup xs)=true:=nr rfl
theorem zmi {ops:Array Oper} {i:Nat}:rdT ops i .junk=true:=nr rfl
theorem zq5 {ops:Array Oper} {i k:Nat} {p:List Nat}:rdT ops i (.loc k p)=rdJ ops i k 0 ops.toList:=nr rfl
def rdO (ops:Array Oper) (i:Nat) (s:St):List Operand->Bool
 | []=>true
 | .tmp t::r=>rdT ops i (s.env t)&&rdO ops i s r
 | _::r=>rdO ops i s r
theorem zpv {ops:Array Oper} {i:Nat} {s:St}:rdO ops i s []=true:=nr rfl
theorem ziT {ops:Array Oper} {i:Nat} {s:St} {t:Nat} {r:List Operand}:rdO ops i s (.tmp t::r)=(rdT ops i (s.env t)&&rdO ops i s r):=nr rfl
theorem zcA {ops:Array Oper} {i:Nat} {s:St} {v:Value} {r:List Operand}:rdO ops i s (.const v::r)=rdO ops i s r:=nr rfl
theorem zab {ops:Array Oper} {i:Nat} {s:St} {v:Nat} {r:List Operand}:rdO ops i s (.global v::r)=rdO ops i s r:=nr rfl
theorem zeW {ops:Array Oper} {i:Nat} {s:St} {v:FuncId} {r:List Operand}:rdO ops i s (.func v::r)=rdO ops i s r:=nr rfl
theorem zj2 {ops:Array Oper} {i:Nat} {s:St} {b:List Nat}:∀ {a:List Nat},rdL ops i s (a++b)=(rdL ops i s a&&rdL ops i s b)
 | []=>by simp[rdL]
 | t::r=>by simp[rdL,zj2,Bool.and_assoc]
theorem GN {ops:Array Oper} {i:Nat} {s:St}:∀ {a:List Operand},rdL ops i s (a.filterMap fun|.tmp t=>some t|_=>none)=rdO ops i s a
 | []=>rfl
 | .tmp t::r=>by rw[ziT,<-GN];rfl
 | .const _::r=>by simp[zcA,GN]
 | .global _::r=>by simp[zab,GN]
 | .func _::r=>by simp[zeW,GN]
theorem zp4 {ops:Array Oper} {i:Nat} {o:Oper} {s:St}:xK ops i o s=(rdO ops i s o.op.operands.toList&&rdL ops i s (match o.guard with
  | some (g,_)=>((ops[g]?).bind (·.dst)).toList
  | none=>[])):=by
 rw[<-GN,<-zj2]
 unfold xK
 show (o.looksAt ops).all _=rdL ops i s (o.looksAt ops)
 generalize o.looksAt ops=l
 induction l with
 | nil=>rfl
 | cons t r ih =>
  rw[List.all_cons,zgi,ih]
  congr 1
theorem zmA {P:Program} {cf:Cfg} {ops:Array Oper} {K:St->Prop} {k:Nat} {s:St}:uM P cf ops K k [] s=K s:=nr rfl
theorem zjF {P:Program} {cf:Cfg} {ops:Array Oper} {K:St->Prop} {k:Nat} {s:St} {o:Oper} {r:List Oper}:uM P cf ops K k (o::r) s=(if zhb o=true then vcG P cf ops s o (uM P cf ops K (k+1) r) else if mkd cf o=true then VZ ops k=true/\vcG P cf ops s o (uM P cf ops K (k+1) r) else xK ops k o s=true/\match o.guard with
  | none=>vcD P cf s o (uM P cf ops K (k+1) r)
  | some (j,want)=>match (ops[j]?).bind (·.dst)with
   | some t=>match gB (s.env t)with
    | some b=>if b=some want then vcD P cf s o (uM P cf ops K (k+1) r) else uM P cf ops K (k+1) r (s.put o.dst (.cst undef))
    | none=>False
   | none=>False):=by simp only[uM,PL]<;>rfl
theorem zlJ {P:Program} {cf:Cfg} {ops:Array Oper} {Lt:LtK} {K:St->Prop} {s:St}:uR P cf ops Lt K [] s=K s:=nr rfl
theorem zk1 {P:Program} {cf:Cfg} {ops:Array Oper} {Lt:LtK} {K:St->Prop} {k:Nat} {r:List Nat} {s:St}:uR P cf ops Lt K (k::r) s=match ops[k]? with
  | none=>False
  | some o=>if Lt.l.contains k=true then(if zpB o.op=true then o.guard=none/\xK ops k o s=true/\vcD P cf s o (uR P cf ops Lt K r) else isLt Lt.kb s o=true/\xK ops k o s=true/\z8 P s o.op (WV s o.dst (uR P cf ops Lt K r)))
   else if sft cf o=true then zar ops k r=true/\zma ops Lt k=true/\zbh P cf s o Lt.kb (uR P cf ops Lt K r)
   else if zhb o=true then VZ ops k=true/\vcG P cf ops s o (uR P cf ops Lt K r)
   else if mkd cf o=true then VZ ops k=true/\vcG P cf ops s o (uR P cf ops Lt K r)
   else xK ops k o s=true/\o.guard=none/\vcD P cf s o (uR P cf ops Lt K r):=nr rfl
theorem HObj.er_var {d:TyD} {x:AV}:(HObj.var d x).er=.var d x.erk:=nr rfl
theorem HObj.er_map {k e:TypeId} {es:List (AV × AV)}:(HObj.map k e es).er=.map k e (es.map fun p=>(p.1.er,p.2.er)):=nr rfl
theorem q7.er_nil:q7.er []=[]:=nr rfl
theorem q7.er_cons {b:Nat} {o:HObj} {H:q7}:q7.er ((b,o)::H)=(b,o.er)::H.er:=nr rfl
theorem q7.er_app {H K:q7}:q7.er (H++K)=H.er++K.er:=by simp[q7.er]
theorem q7.keys_nil:q7.keys []=[]:=nr rfl
theorem q7.keys_cons {b:Nat} {o:HObj} {H:q7}:q7.keys ((b,o)::H)=b::H.keys:=nr rfl
theorem q7.keys_app {H K:q7}:q7.keys (H++K)=H.keys++K.keys:=by simp[q7.keys]
theorem zpE {s:St} {dst:Option Nat} {K:St->Prop} {tv:TV}:WV s dst K tv=K (s.put dst tv):=nr rfl
theorem zqW {k:St->Prop} {K:Exit->St->Prop} {s:St}:zdv k K .normal s=k s:=nr rfl
theorem zrt {k:St->Prop} {K:Exit->St->Prop} {s:St} {i:Nat}:zdv k K (.exit i) s=K (.exit i) s:=nr rfl
theorem zrw {k:St->Prop} {K:Exit->St->Prop} {s:St} {i:Nat}:zdv k K (.goto i) s=K (.goto i) s:=nr rfl
theorem zqS {k:St->Prop} {K:Exit->St->Prop} {s:St}:zdv k K .ret s=K .ret s:=nr rfl
theorem zlV {i:Nat} {K:Exit->St->Prop} {s:St}:gO i K .normal s=K .normal s:=nr rfl
theorem zmG {i j:Nat} {K:Exit->St->Prop} {s:St}:gO i K (.exit j) s=if j=i then K .normal s else K (.exit j) s:=nr rfl
theorem znG {i j:Nat} {K:Exit->St->Prop} {s:St}:gO i K (.goto j) s=K (.goto j) s:=nr rfl
theorem zng {i:Nat} {K:Exit->St->Prop} {s:St}:gO i K .ret s=K .ret s:=nr rfl
theorem zn1 {K:Exit->St->Prop} {s:St}:zb4 K .normal s=K .normal s:=nr rfl
theorem zoh {j:Nat} {K:Exit->St->Prop} {s:St}:zb4 K (.exit j) s=K (.exit j) s:=nr rfl
theorem zlR {K:Exit->St->Prop} {s:St}:zb4 K .ret s=K .ret s:=nr rfl
theorem zra {P:Program} {fn:Func} {R:TV->q7->Prop} {s:St}:zm2 P fn R .ret s=YG P s fn.results.toList fn.resultTypes.toList fun xs=>R (pI xs).er s.H.er:=nr rfl
theorem zqB {P:Program} {fn:Func} {R:TV->q7->Prop} {s:St}:zm2 P fn R .normal s=YG P s fn.results.toList fn.resultTypes.toList fun xs=>R (pI xs).er s.H.er:=nr rfl
def DJ:TV->TV
 | .av d x=>.av d x.er
 | .cst v=>.cst v
 | _=>.junk
theorem zr3 {P:Program} {s s':St} {g:Gh} {w:World} {β β':Nat->Nat} {tv:TV} {v:Value} (h:TVR P s g w β tv v):TVR P s' (g0 g.imm) w β' (DJ tv) v:=by
 cases tv with
 | av d x=>exact⟨h.1,UP _ _ _ h.2⟩
 | cst c=>exact h
 | _=>trivial
theorem znK {P:Program} {s s':St} {i0 imm:Nat->Nat} {w0 w:World} {β β':Nat->Nat} {tv:TV} {v:Value} (hi:QA (g0 i0) w0) (hl:zj7 i0 w0 imm w) (h:TVR P s (g0 i0) w0 β (DJ tv) v):TVR P s' (g0 imm) w β' (DJ tv) v:=by
 have hle:(g0 i0).le (g0 imm):=⟨hl.1,fun _ _ _ e=>by cases e⟩
 have hk:zS (g0 i0) w0 w:=fun b cs E fz h0 hb=>hl.2 b cs E fz h0 hb
 cases tv with
 | av d x=>exact KN hle hi hk h
 | cst c=>exact h
 | _=>trivial

structure zmO (P:Program) (n:Nat) (E:Nat->TV) (r:Loop) (i0:Nat->Nat) (w0:World):Prop where
 size:r.tmps.size=n
 imm:QA (g0 i0) w0
 env:∀t s β,TVR P s (g0 i0) w0 β (DJ (E t)) (r.tmps.getD t undef)

def Z7 (E:Nat->TV):List (Nat × TV)->Nat->TV
 | []=>E
 | (p,x)::r=>Z7 (upd E p x) r

theorem GM {P:Program} {n:Nat} {s:St} {g:Gh} {w:World} {β:Nat->Nat}:∀(l:List (Nat × TV)) (vs:List Value) (E:Nat->TV) (tmps:Array Value),l.length=vs.length->(∀p∈l,p.1<n)->tmps.size=n->
  (∀t,TVR P s g w β (E t) (tmps.getD t undef))->(∀(i:Nat) p v,l[i]?=some p->vs[i]?=some v->TVR P s g w β p.2 v)->
  ((l.map (·.1)).zip vs |>.foldl (fun t p=>t.setIfInBounds p.1 p.2) tmps).size=n/\∀t,TVR P s g w β (Z7 E l t) (((l.map (·.1)).zip vs |>.foldl (fun t p=>t.setIfInBounds p.1 p.2) tmps).getD t undef)
 | [],vs,E,tmps,_,_,hn,hE,_=>by simp_all[Z7]
 | (p,x)::r,[],E,tmps,hl,_,_,_,_=>by simp at hl
 | (p,x)::r,v::vs,E,tmps,hl,hp,hn,hE,hx=>by
  have h0:=hx 0 (p,x) v rfl rfl
  have hpn:p<n:=hp (p,x) (by simp)
  have:=GM (P:=P) (n:=n) (s:=s) (g:=g) (w:=w) (β:=β) r vs (upd E p x) (tmps.setIfInBounds p v) (by simp_all) (fun q hq=>hp q (by simp[hq])) (by simp_all)
   (fun t=>by
    simp only[upd,Array.getD_eq_getD_getElem?]
    by_cases e:t=p
    ·simp_all
    simp_all[Ne.symm])
   (fun i q u h1 h2=>hx (i+1) q u (by simp_all) (by simp_all))
  assumption

def VB (l:Nat) (i0:Nat->Nat) (w0:World) (R:TV->q7->Prop) (jump:Option Code) (s:St):Prop :=
 ∃rb:Loop,zU s.H l=some (.lrec rb i0 w0)/\R (.av .bool (.b jump.isNone)) (q7.er (jZ s.H l (.lrec { rb with state:=if jump.isNone then .ready else .done,pending:=jump } i0 w0)))
def YS (l:Nat) (i0:Nat->Nat) (w0:World) (R:TV->q7->Prop):Exit->St->Prop
 | .normal,s=>VB l i0 w0 R none s
 | .ret,s=>VB l i0 w0 R (some .ret) s
 | .exit id,s=>VB l i0 w0 R (some (.exit id)) s
 | _,_=>False
def KNo:Exit->St->Prop:=fun _ _=>False

def J7 (E:Nat->TV) (ps:List Nat) (args:List TV) (H:q7):St :=
 { env:=Z7 (fun t=>DJ (E t)) (ps.zip args),loc:=fun _=>none,ver:=fun _=>0,H:=H }

theorem YC.of_round {P:Program} {n:Nat} {E:Nat->TV} {r:Loop} {i0:Nat->Nat} {w0:World} {l:Nat} (hrec:zmO P n E r i0 w0) (hready:r.state=.ready) {args:List TV} {H:q7} {R:TV->q7->Prop}
  (hps:r.params.size=args.length) (hpn:∀p∈r.params.toList,p<n)
  (hat:∀imm w,AT ⟨P,n,imm,(l,.lrec r i0 w0)::H,w,some l⟩ r.assign
   (zdv (fun s=>zU s.H l=some (.lrec r i0 w0)/\AT ⟨P,n,imm,(l,.lrec r i0 w0)::H,w,some l⟩ r.body (YS l i0 w0 R) { s with H:=jZ s.H l (.lrec { r with state:=.busy } i0 w0) }) KNo)
   (J7 E r.params.toList args ((l,.lrec r i0 w0)::H))):YC P l args ((l,.lrec r i0 w0)::H) R:=by
 intro imm w vs hrep hargs
 obtain⟨h0,hl,hlater⟩:=hrep.obj l (.lrec r i0 w0) (by simp)
 have hvs:=(gV hargs).1
 have hsz:vs.size=r.params.size:=by simp_all
 refine⟨r.fn,_,r.assign,r.body,run_yield hl hsz,roundIn_of_wpIn trivial ?_⟩
 have hfold:(r.params.zip vs).foldl (fun t (p,v)=>t.setIfInBounds p v) r.tmps=(((r.params.toList.zip args).map (·.1)).zip vs.toList).foldl (fun t p=>t.setIfInBounds p.1 p.2) r.tmps:=by
  grind [List.map_fst_zip,Array.toList_zip]
 have hW:=GM (P:=P) (n:=n) (s:=J7 E r.params.toList args ((l,.lrec r i0 w0)::H)) (g:=g0 imm) (w:=w) (β:=fun _=>0) (r.params.toList.zip args) vs.toList (fun t=>DJ (E t)) r.tmps
  (by simp_all) (fun p hp=>hpn p.1 (List.of_mem_zip hp).1) hrec.size
  (fun t=>znK (s:=J7 E r.params.toList args ((l,.lrec r i0 w0)::H)) (β:=fun _=>0) hrec.imm hlater.1 (hrec.env t _ _))
  (fun i p v h1 h2=>by
   have h3:args[i]?=some p.2:=by
    grind
   obtain⟨v',h4,h5⟩:=(gV hargs).2 i p.2 h3
   rw[h2]at h4;cases h4
   cases hp:p.2 with
   | av d x=>rw[hp]at h5;exact h5
   | cst u=>rw[hp]at h5;exact h5
   | tup xs=>rw[hp]at h5;exact h5
   | _=>rw[hp]at h5;exact h5.elim)
 have hS:qX ⟨P,n,imm,(l,.lrec r i0 w0)::H,w,some l⟩ (J7 E r.params.toList args ((l,.lrec r i0 w0)::H)) { tmps:=(r.params.zip vs).foldl (fun t (p,v)=>t.setIfInBounds p v) r.tmps,defers:=[] } w (g0 imm) (fun _=>0):={
  defers:=⟨rfl,List.nodup_nil,fun D hD=>by grind [J7]⟩
  size:=by simp_all
  env:=fun t=>by rw[hfold];exact hW.2 t
  locs:=fun k d x e=>by grind [J7]
  inj:=fun k j e=>by simp[J7]
  rep:=hrep
  toks:=fun k t e=>by grind [g0]
  tokd:=fun k k' t t' e=>by simp[g0]
  toknew:=fun k v _=>rfl
  step:=W8.refl }
 refine wpIn_mono (show r.assign.wpIn (fen (some l)) 0 P _ _ _ from hat imm w _ _ _ _ hS) ?_
 intro e a1 w1 hq
 cases e with
 | normal =>
  obtain⟨s1,g1,β1,⟨hg1,hbody⟩,hS1⟩:=hq
  obtain⟨_,hl1,_⟩:=hS1.rep.obj l _ (zJ hg1)
  refine⟨_,run_beginRound hl1 hready,?_⟩
  refine wpIn_mono (show r.body.wpIn (fen (some l)) 0 P _ _ _ from hbody _ _ _ _ (hS1.setR (r':=.loop { r with state:=.busy }) hg1 rfl)) ?_
  intro e a2 w2 hq2
  have fin:∀jump:Option Code,W5 ⟨P,n,imm,(l,.lrec r i0 w0)::H,w,some l⟩ (VB l i0 w0 R jump) a2 w2->
    ∃v w',(Instr.endRound l jump).run P w2=.ok v w'/\∃v' r' imm' H',Ending.returned v=.returned v'/\R r' H'/\AR P (g0 imm') w' r' v'/\Rep P (g0 imm') w' H'/\W8 imm ((l,.lrec r i0 w0)::H) w imm' H' w':=by
   rintro jump ⟨s2,g2,β2,⟨rb,hg2,hR⟩,hS2⟩
   obtain⟨_,hl2,_⟩:=hS2.rep.obj l _ (zJ hg2)
   have hS3:=hS2.setR (r':=.loop { rb with state:=if jump.isNone then .ready else .done,pending:=jump }) hg2 rfl
   refine⟨_,_,run_endRound jump hl2,_,_,g2.imm,_,rfl,hR,⟨rfl,rfl,rfl⟩,uF (rest:=[]) hS3.rep (by simp),?_⟩
   exact { hS3.step with dom:=fun b hb=>hS3.step.dom b (by grind [q7.er_keys]) }
  cases e with
  | normal=>exact fin none hq2
  | ret=>exact fin (some .ret) hq2
  | exit id=>exact fin (some (.exit id)) hq2
  | goto t=>obtain⟨_,_,_,hk,_⟩:=hq2;exact hk.elim
  | panic ch=>assumption
  | outgrown=>assumption
 | panic ch=>exact hq.elim
 | outgrown=>exact hq.elim
 | ret=>obtain⟨_,_,_,hk,_⟩:=hq;exact hk.elim
 | exit id=>obtain⟨_,_,_,hk,_⟩:=hq;exact hk.elim
 | goto id=>obtain⟨_,_,_,hk,_⟩:=hq;exact hk.elim

def dQ (K:Exit->St->Prop):Option Code->St->Prop
 | none,s=>K .normal s
 | some .ret,s=>K .ret s
 | some (.exit id),s=>K (.exit id) s
 | _,_=>False

theorem AT.range {c:Ctx} {f:Operand} {ps:Array Nat} {assign body:Code} {K:Exit->St->Prop} {s:St} (hrd:c.rd=none) {gf:FuncId} {caps:List AV} {cs:List TV} (hev:ev s f=.av .func (.fn gf caps)) (hcm:caps.mapM QB=some cs) (hfn:qL c.P gf=true)
  (h:∀(l D:Nat) (r:Loop) (i0:Nat->Nat) (w0:World),l∉s.H.keys->zmO c.P c.n s.env r i0 w0->r.state=.ready->r.pending=none->r.params=ps->r.assign=assign->r.body=body->
   ∃(Hs rest:q7) (R:TV->q7->Prop),List.Perm ((l,HObj.lrec r i0 w0)::s.H) (Hs++rest)/\q6 c.P gf (.av .func (.yl l)::cs.map TV.er) Hs.er R/\
    ∀t H',R t H'->(H'++rest).keys.Nodup->∃(r':Loop) (H'':q7),HSub ((l,.lrec r' i0 w0)::H'') (H'++rest)/\r'.state≠.busy/\dQ K r'.pending { s with H:=H'',dfs:=D::s.dfs }) :
  AT c (.rangeFunc f ps assign body) K s:=by
 intro a w g β hS
 refine wpIn_rangeFunc fun fn _=>?_
  -- the blocks that are laid
 have h1:=hS.push (.deferred (some [])) 0 (by omega)
 have eg:({ g with imm:=upd g.imm w.heap.size 0 }:Gh)=g:=by
  have:upd g.imm w.heap.size 0=g.imm:=by
   funext b;simp only[upd];split
   ·rename_i e;rw[e,Q6 hS.rep.imm (Nat.le_refl _)]
   ·rfl
  rw[this]
 rw[eg]at h1
 obtain⟨r,hr⟩:∃r:Loop,r={ state:=.ready,pending:=none,fn,tmps:=a.tmps,params:=ps,assign,body,defers:=w.heap.size }:=⟨_,rfl⟩
 obtain⟨w1,hw1⟩:∃w1,w1=World.push' (World.push' w (.deferred (some []))) (.loop r):=⟨_,rfl⟩
 have hl:(World.push' w (.deferred (some []))).heap.size=w.heap.size+1:=by simp[World.push']
 have hnew:=h1.newO (o:=.loop r) (x:=.lrec r g.imm w1) (fun g' hg'=>⟨by rw[hg'];exact Q6 h1.rep.imm (Nat.le_refl _),Q9 _ _,by
  rw[hg',<-hw1]
  exact⟨⟨fun _=>Nat.le_refl _,fun b cs E fz _ hb=>⟨cs,E,fz,hb,rfl,fun _ _=>rfl⟩⟩,rfl⟩⟩)
 obtain⟨h2,hlH⟩:=hnew
 rw[hl,<-hw1]at h2
 rw[hl]at hlH
 have hDold:w1.heap[w.heap.size]?=some (.deferred (some [])):=by
  grind [World.push']
 have hDn:w.heap.size∉s.dfs:=fun hin=>by
  have:=(Array.getElem?_eq_some_iff.1 (hS.defers.2.2 _ hin).2).1
  omega
 have h3:qX c { s with H:=(w.heap.size+1,.lrec r g.imm w1)::s.H,dfs:=w.heap.size::s.dfs } { a with defers:={ target:=.collected w.heap.size,args:=#[] }::a.defers } w1 g β:={ h2 with
  env:=fun t=>wJ (Gh.le_refl g) h2.rep.imm (fun b cs E fz _ hb=>⟨cs,E,fz,hb,rfl,fun _ _=>rfl⟩) (fun k d x e=>⟨x,e,rfl⟩) (h2.env t)
  locs:=fun k d x e=>{ h2.locs k d x e with }
  toks:=fun k t e=>{ h2.toks k t e with }
  defers:=⟨by rw[h2.defers.1];rfl,List.nodup_cons.2 ⟨hDn,h2.defers.2.1⟩,fun D hD=>by
   rcases List.mem_cons.1 hD with rfl|hD
   ·exact⟨hS.step.size,hDold⟩
   ·exact h2.defers.2.2 D hD⟩ }
 have hrec:zmO c.P c.n s.env r g.imm w1:=⟨by rw[hr];exact hS.size,h2.rep.imm,fun t s' β'=>by
  have:r.tmps=a.tmps:=by rw[hr]
  rw[this]
  exact zr3 (h2.env t)⟩
 obtain⟨Hs,rest,R,hperm,hcall,hK⟩:=h (w.heap.size+1) w.heap.size r g.imm w1 hlH hrec (by rw[hr]) (by rw[hr]) (by rw[hr]) (by rw[hr]) (by rw[hr])
  -- the function
 have hf:=qT hS f
 rw[hev]at hf
 obtain⟨f',hf⟩:=hf
 simp only[VC]at hf
 obtain⟨_,vs,hf,hva⟩:=hf
 rw[qI rfl f']at hf
 simp only[List.cons.injEq,and_true]at hf
 have hik:zS g w w1:=fun b cs E fz h0 hb=>⟨cs,E,fz,by simp_all[WQ],rfl,fun _ _=>rfl⟩
 have hva':=cS (Gh.le_refl g) hS.rep.imm hik _ _ hva
 have hrep:=uF h3.rep hperm
 have hargs:ARs c.P (g0 g.imm) w1 (.av .func (.yl (w.heap.size+1))::cs.map TV.er) ((#[.func (.yield (w.heap.size+1)) #[] #[]]++vs.toArray:Array Value)).toList:=by
  simp only[Array.toList_append,List.cons_append,List.nil_append]
  exact⟨⟨rfl,rfl,rfl⟩,pK hcm hva'⟩
 have hC:=hcall g.imm w1 (#[.func (.yield (w.heap.size+1)) #[] #[]]++vs.toArray) hrep hargs
 have hbody:∃fnn,c.P.funcs[gf]?=some fnn/\(fnn.name != "runtime.NumGoroutine")=true/\fnn.body≠none:=by
  unfold qL at hfn
  grind
 obtain⟨fnn,hfs,hnm,hbd⟩:=hbody
 have hnm':fnn.name≠"runtime.NumGoroutine":=by simp_all
 refine⟨w.heap.size+1,[{ target:=.collected w.heap.size,args:=#[] }],w1,{ target:=.fn (.func gf) vs.toArray,args:=#[]++#[.func (.yield (w.heap.size+1)) #[] #[]] },w1,gf,#[.func (.yield (w.heap.size+1)) #[] #[]]++vs.toArray,w1,?_,?_,fun _ _=>trivial,?_,G6,?_⟩
 ·show (Instr.enterLoop fn a.tmps ps assign body c.rd).run c.P w=_
  rw[hrd,run_enterLoop_outer,hw1,hr];rfl
 ·simp_all[resolve,Deferred.ofValue,Act.eval]
 ·simp_all[invoke,callFunc]
 ·have hC':Calls c.P gf (#[.func (.yield (w.heap.size+1)) #[] #[]]++vs.toArray) w1 (rangePost (fen c.rd) 0 c.P (w.heap.size+1) (QK c K) { a with defers:=[{ target:=.collected w.heap.size,args:=#[] }]++a.defers }):=by
   refine hC.mono ?_
   rintro e w3 ⟨v,t,imm',H',rfl,hR,hAR,hRep,hStep⟩
   have h4:=h3.called hperm hRep hStep
   obtain⟨r',H'',hsub,hbz,hKJ⟩:=hK t H' hR h4.rep.nodup
   have h5:=h4.subH hsub
   obtain⟨_,hl3,_⟩:=h5.rep.obj (w.heap.size+1) (.lrec r' g.imm w1) (by simp)
   have hnd:=h5.rep.nodup
   have hlH2:w.heap.size+1∉H''.keys:=by
    simp_all[q7.keys]
   have h6:=h5.subH (H':=H'') (HSub.of_sub (List.sublist_cons_self _ _))
   have h7:=h6.turn (o':=.loop { r' with state:=.exhausted }) hl3 (fun _ _ _ e=>by cases e) (Nat.le_trans hS.step.size (Nat.le_succ _)) hlH2 (dfs':=w.heap.size::s.dfs) (ds':={ target:=.collected w.heap.size,args:=#[] }::a.defers)
    (h6.defers.of fun D hD=>by
     grind [qZ])
   have hrun:=run_endLoop (P:=c.P) hl3 hbz
   obtain⟨w4,hw4⟩:∃w4,w4=w3.putObj (w.heap.size+1) (.loop { r' with state:=.exhausted }):=⟨_,rfl⟩
   have h8:qX c { s with H:=H'',dfs:=w.heap.size::s.dfs } { a with defers:={ target:=.collected w.heap.size,args:=#[] }::a.defers } w4 { g with imm:=imm' } β:=by rw[hw4];exact h7
   rw[<-hw4]at hrun
   refine⟨r'.pending,w4,hrun,?_⟩
   have hgood:∀(k:St->Prop),k { s with H:=H'',dfs:=w.heap.size::s.dfs }->W5 c k { a with defers:=[{ target:=.collected w.heap.size,args:=#[] }]++a.defers } w4 :=
    fun k hk=>⟨_,_,_,hk,h8⟩
   cases hp:r'.pending with
   | none=>rw[hp]at hKJ;exact hgood (K .normal) hKJ
   | some j =>
    rw[hp]at hKJ
    cases j with
    | ret=>exact wpIn_ret (hgood (K .ret) hKJ)
    | exit id=>exact wpIn_exit (hgood (K (.exit id)) hKJ)
    | _=>exact hKJ.elim
  grind [vB]

theorem ZZ {P:Program} {s:St} {l:Nat} {args:List TV} {dst:Option Nat} {K:St->Prop} {R:TV->q7->Prop} (Hs rest:q7) (hp:s.H.Perm (Hs++rest)) (ha:args.all qH=true)
  (h:YC P l (args.map TV.er) Hs.er R) (hk:∀r H',R r H'->(H'++rest).keys.Nodup->∃H'',HSub H'' (H'++rest)/\K (({ s with H:=H'' }:St).put dst r)):kL P s (.av .func (.yl l)) args dst K:=by
 unfold kL
 grind
end Go.Ab
end
section
namespace Go.Ab
open Go
open Classical
variable [Sel]
mutual
noncomputable def fzA (b m:Nat) (e:TypeId) (xs:List AV):AV->AV
 | .msl b' e' off len cap=>if b'=b/\e'=e/\off+len<=m/\len<=cap then .sl .no ((xs.drop off).take len) else .msl b' e' off len cap
 | .agg ps=>.agg (xP b m e xs ps)
 | x=>x
noncomputable def xP (b m:Nat) (e:TypeId) (xs:List AV):List AV->List AV
 | []=>[]
 | x::r=>fzA b m e xs x::xP b m e xs r
end
theorem D1 {b m:Nat} {e:TypeId} {xs:List AV}:∀ps:List AV,(xP b m e xs ps).length=ps.length
 | []=>rfl
 | x::r=>by simp[xP,D1 r]
noncomputable def V2 (b m:Nat) (e:TypeId) (xs:List AV):TV->TV
 | .av d x=>.av d (fzA b m e xs x)
 | .tup l=>.tup (l.map fun p=>(p.1,fzA b m e xs p.2))
 | t=>t
section
variable {P:Program} (hl:laidOutB P=true) {g g':Gh} {w:World} {b m:Nat} {e:TypeId} {xs:List AV} (hle:g.le g') (hi:QA g w)
  (hb:m*P.cellsOf e<=g'.imm b) (hv:VL P g' w e xs (z6 w b 0 (m*P.cellsOf e))) (hm:xs.length=m)
include hl hle hi hb hv hm
mutual
theorem zbl (x:AV) (d:TyD) (cs:List Value) (h:VC P g w d x cs):VC P g' w d (fzA b m e xs x) cs:=by
 have hk:zS g w w:=fun b cs E fz _ hb=>⟨cs,E,fz,hb,rfl,fun _ _=>rfl⟩
 cases x with
 | msl b' e' off len cap =>
  simp only[fzA]
  split
  ·rename_i hc
   obtain⟨rfl,rfl,h1,h2⟩:=hc
   simp only[VC]at h |-
   obtain⟨rfl,rfl⟩:=h
   have hlen:((xs.drop off).take len).length=len:=by rw[List.length_take,List.length_drop];omega
   refine⟨e',some ⟨b',off*P.cellsOf e',none⟩,cap,rfl,by rw[hlen],by rw[hlen];exact h2,?_,trivial⟩
   right
   have hmul:(off+len)*P.cellsOf e'<=m*P.cellsOf e':=Nat.mul_le_mul_right _ h1
   rw[Nat.add_mul]at hmul
   refine⟨b',off*P.cellsOf e',rfl,by rw[hlen];omega,?_⟩
   rw[hlen]
   have:=ZP hl off len hv (by omega)
   rwa[W3 (by omega),Nat.zero_add]at this
  ·exact zP hle hi hk _ d cs h
 | agg ps =>
  simp only[fzA]
  cases d with
  | struct fs=>simp only[VC]at h |-;exact znl ps fs cs h
  | arr n e2=>simp only[VC]at h |-;exact⟨by rw[D1];exact h.1,zlL ps e2 cs h.2⟩
  | _=>simp[VC]at h
 | _=>exact zP hle hi hk _ d cs h
theorem zlL (ps:List AV) (e2:TypeId) (cs:List Value) (h:VL P g w e2 ps cs):VL P g' w e2 (xP b m e xs ps) cs:=by
 cases ps with
 | nil=>simpa[xP,VL]using h
 | cons x r =>
  simp only[xP,VL]at h |-
  obtain⟨c1,c2,h0,h1,h2⟩:=h
  exact⟨c1,c2,h0,zbl x _ _ h1,zlL r e2 _ h2⟩
theorem znl (ps:List AV) (fs:List TypeId) (cs:List Value) (h:VF P g w fs ps cs):VF P g' w fs (xP b m e xs ps) cs:=by
 cases ps with
 | nil=>simpa[xP,VF]using h
 | cons x r =>
  simp only[xP,VF]at h |-
  obtain⟨f,q,c1,c2,e0,h0,h1,h2⟩:=h
  exact⟨f,q,c1,c2,e0,h0,zbl x _ _ h1,znl r q _ h2⟩
end
end
theorem zeg {P:Program} {g g':Gh} {w:World} {b m:Nat} {e:TypeId} {ys:List AV} (hf:∀d x v,VV P g w d x v->VV P g' w d (fzA b m e ys x) v):∀ {xs:List (TyD × AV)} {vs:List Value},VVs P g w xs vs->VVs P g' w (xs.map fun p=>(p.1,fzA b m e ys p.2)) vs
 | [],[],_=>trivial
 | (_,_)::_,_::_,h=>⟨hf _ _ _ h.1,zeg hf h.2⟩
 | [],_::_,h=>h.elim
 | _::_,[],h=>h.elim
theorem q6.freeze {P:Program} (hl:laidOutB P=true) {f:FuncId} {args:List TV} {H:q7} {R R':TV->q7->Prop} (h:q6 P f args H R)
  (hr:∀r H',R r H'->H'.keys.Nodup->(∃b m e xs H'',H'.Perm ((b,.var (.arr m e) (.agg xs))::H'')/\R' (V2 b m e xs r) H'')\/R' r H'):q6 P f args H R':=by
 intro imm w vs h1 h2
 refine(h imm w vs h1 h2).mono ?_
 rintro e' w' ⟨v,r,imm',H',a,hR,hv,hrep,st⟩
 rcases hr _ _ hR hrep.nodup with⟨b,m,e,xs,H'',hp,hR'⟩|hR'
 ·have hin:(b,HObj.var (.arr m e) (.agg xs))∈H':=hp.mem_iff.2 (by simp)
  obtain⟨h0,cs,⟨E,fz,hc,_,_⟩,hvc⟩:=hrep.obj b _ hin
  simp only[VC]at hvc
  obtain⟨hm,hvl⟩:=hvc
  have hsz:=Q2 hl _ _ _ hvl
  rw[Array.length_toList,hm]at hsz
  have h00:imm' b=0:=h0
  have hle:(g0 imm').le (g0 (upd imm' b (m*P.cellsOf e))):=by
   refine⟨fun x=>?_,fun _ _ _ e=>by cases e⟩
   simp only[g0,upd];grind
  have hk:zS (g0 imm') w' w':=fun b cs E fz _ hb=>⟨cs,E,fz,hb,rfl,fun _ _=>rfl⟩
  have hi:QA (g0 imm') w':=hrep.imm
  have hcell:z6 w' b 0 (m*P.cellsOf e)=cs.toList:=by
   simp_all[z6,List.take_of_length_le]
  have hv2:VL P (g0 (upd imm' b (m*P.cellsOf e))) w' e xs (z6 w' b 0 (m*P.cellsOf e)):=by
   grind [QH]
  have hb2:m*P.cellsOf e<=(g0 (upd imm' b (m*P.cellsOf e))).imm b:=by simp[g0,upd]
  have hfz:∀d x v,VV P (g0 imm') w' d x v->VV P (g0 (upd imm' b (m*P.cellsOf e))) w' d (fzA b m e xs x) v:=fun d x v hx =>
   ⟨hx.1,zbl hl hle hi hb2 hv2 hm x d _ hx.2⟩
  have hnd:(q7.keys ((b,.var (.arr m e) (.agg xs))::H'')).Nodup:=(hp.map _).nodup_iff.1 hrep.nodup
  simp only[q7.keys,List.map_cons,List.nodup_cons]at hnd
  refine⟨v,V2 b m e xs r,upd imm' b (m*P.cellsOf e),H'',a,hR',?_,?_,?_⟩
  ·cases r with
   | av d x=>exact hfz d x v hv
   | cst c=>exact hv
   | tup l=>obtain⟨us,h3,h4⟩:=hv;exact⟨us,h3,zeg hfz h4⟩
   | _=>exact hv.elim
  ·refine⟨fun x hx=>?_,hnd.2,fun x o ho=>?_,hrep.tab.keep (g:=g0 imm') (g':=g0 (upd imm' b (m*P.cellsOf e))) hle hi hk⟩
   ·simp only[g0,upd]at hx |-
    split
    ·simp_all
    ·rename_i ee;rw[if_neg ee]at hx;exact hrep.imm x hx
   ·have hne:x≠b:=fun ee=>hnd.1 (by simp_all)
    have himm:upd imm' b (m*P.cellsOf e) x=imm' x:=by grind [upd]
    have hob:=hrep.obj x o (hp.mem_iff.2 (List.mem_cons_of_mem _ ho))
    cases o with
    | var d y=>obtain⟨q1,cs',q2,q3⟩:=hob;exact⟨himm.trans q1,cs',q2,zP hle hi hk _ _ _ q3⟩
    | map k e es=>obtain⟨q1,en,ck,q2,q3⟩:=hob;exact⟨himm.trans q1,en,ck,q2,wV hle hi hk q3⟩
    | raw o i0 w0=>obtain⟨q1,q2,q3⟩:=hob;exact⟨himm.trans q1,q2,kW q3 hle hk⟩
  ·have hbd:b∈H.keys\/w.heap.size<=b:=st.dom b (List.mem_map.2 ⟨_,hin,rfl⟩)
   exact {
    os:=st.os,tape:=st.tape,output:=st.output,drawn:=st.drawn,size:=st.size
    frame:=fun x hx hn=>by
     have hne:x≠b:=fun ee=>by
      grind
     obtain⟨q1,q2⟩:=st.frame x hx hn
     simp_all[upd]
    imm:=fun x=>Nat.le_trans (st.imm x) (hle.1 x)
    kept:=st.kept
    dom:=fun x hx=>st.dom x ((hp.map (·.1)).mem_iff.2 (List.mem_cons_of_mem _ hx)) }
 grind
end Go.Ab
end
section
namespace Go.Ab
open Go
open Classical
variable [Sel]
theorem Rep.openMap {P:Program} {imm:Nat->Nat} {w:World} {b:Nat} {k e:TypeId} {es:List (AV × AV)} {rest:q7} (h:Rep P (g0 imm) w ((b,.map k e es)::rest)) :
  ∃en ck,xS P k e es en ck imm w/\Rep P (g0 imm) w ((b,.raw (.map en ck) imm w)::rest):=by
 obtain⟨h0,en,ck,hb,hrel,hst⟩:=h.obj b (.map k e es) (by simp)
 refine⟨en,ck,⟨h.imm,hrel,hst⟩,⟨h.imm,h.nodup,fun x o ho=>?_,h.tab⟩⟩
 rcases List.mem_cons.1 ho with e|e
 ·cases e
  exact⟨h0,hb,⟨fun _=>Nat.le_refl _,fun b cs E fz _ hb=>⟨cs,E,fz,hb,rfl,fun _ _=>rfl⟩⟩,rfl⟩
 ·exact h.obj x o (List.mem_cons_of_mem _ e)

theorem Rep.shutMap {P:Program} {imm i0:Nat->Nat} {w w0:World} {b:Nat} {k e:TypeId} {es:List (AV × AV)} {en:Array MapEntry} {ck:Nat} {rest:q7} (ho:xS P k e es en ck i0 w0) (h:Rep P (g0 imm) w ((b,.raw (.map en ck) i0 w0)::rest)) :
  Rep P (g0 imm) w ((b,.map k e es)::rest):=by
 obtain⟨h0,hb,hlat⟩:=h.obj b (.raw (.map en ck) i0 w0) (by simp)
 have hle:(g0 i0).le (g0 imm):=⟨hlat.1.1,fun _ _ _ e=>by cases e⟩
 have hk:zS (g0 i0) w0 w:=fun b cs E fz h0 hb=>hlat.1.2 b cs E fz h0 hb
 refine⟨h.imm,h.nodup,fun x o hx=>?_,h.tab⟩
 rcases List.mem_cons.1 hx with e|e
 ·cases e
  exact⟨h0,en,ck,hb,QY hle ho.imm hk ho.ents,ho.st⟩
 ·exact h.obj x o (List.mem_cons_of_mem _ e)

theorem W8.keys {imm imm':Nat->Nat} {H H1 H':q7} {w w':World} (h:W8 imm H w imm' H' w') (hk:∀b,b∈H.keys<->b∈H1.keys):W8 imm H1 w imm' H' w' :=
 ⟨h.os,h.tape,h.output,h.size,fun b hb hn=>h.frame b hb fun h1=>hn ((hk b).1 h1),h.imm,h.kept,fun b hb=>(h.dom b hb).imp_left (hk b).1,h.drawn⟩
theorem W8.keys' {imm imm':Nat->Nat} {H H1 H':q7} {w w':World} (h:W8 imm H w imm' H' w') (hk:∀b,b∈H1.keys->b∈H'.keys):W8 imm H w imm' H1 w' :=
 ⟨h.os,h.tape,h.output,h.size,h.frame,h.imm,h.kept,fun b hb=>h.dom b (hk b hb),h.drawn⟩

theorem q6.openMap {P:Program} {f:FuncId} {args:List TV} {b:Nat} {k e:TypeId} {es:List (AV × AV)} {rest:q7} {R:TV->q7->Prop}
  (h:∀en ck i0 w0,xS P k e es en ck i0 w0->q6 P f args ((b,.raw (.map en ck) i0 w0)::rest) R):q6 P f args ((b,.map k e es)::rest) R:=by
 intro imm w vs hrep hargs
 obtain⟨en,ck,ho,hr⟩:=hrep.openMap
 refine(h en ck imm w ho imm w vs hr hargs).mono ?_
 rintro x w' ⟨v,r,imm',H',a,b,c,d,st⟩
 exact⟨v,r,imm',H',a,b,c,d,st.keys fun _=>Iff.rfl⟩
theorem q6.conv {P:Program} {f:FuncId} {args:List TV} {H:q7} {R R':TV->q7->Prop} (h:q6 P f args H R)
  (hr:∀r H',R r H'->∃H'':q7,(∀b,b∈H''.keys->b∈H'.keys)/\(∀imm w,Rep P (g0 imm) w H'->Rep P (g0 imm) w H'')/\R' r H''):q6 P f args H R' :=
 fun imm w vs h1 h2=>(h imm w vs h1 h2).mono fun e w' ⟨v,r,imm',H',a,b,c,d,st⟩=>by
  obtain⟨H'',hk,hrep,hR⟩:=hr _ _ b
  exact⟨v,r,imm',H'',a,hR,c,hrep _ _ d,st.keys' hk⟩
theorem q6.perm {P:Program} {f:FuncId} {args:List TV} {H H1:q7} {R:TV->q7->Prop} (hp:H1.Perm H) (h:q6 P f args H R):q6 P f args H1 R:=by
 intro imm w vs hrep hargs
 have hr:Rep P (g0 imm) w H:=⟨hrep.imm,(hp.map _).nodup_iff.1 hrep.nodup,fun b o ho=>hrep.obj b o (hp.mem_iff.2 ho),hrep.tab⟩
 refine(h imm w vs hr hargs).mono ?_
 rintro x w' ⟨v,r,imm',H',a,b,c,d,st⟩
 exact⟨v,r,imm',H',a,b,c,d,st.keys fun b=>((hp.map (·.1)).mem_iff).symm⟩
theorem q6.frame {P:Program} {f:FuncId} {args:List TV} {Hs:q7} {R:TV->q7->Prop} (rest:q7) (h:q6 P f args Hs R):q6 P f args (Hs++rest) fun r H'=>∃H1,R r H1/\H'=H1++rest:=by
 intro imm w vs hrep hargs
 have hnd:(Hs.keys++rest.keys).Nodup:=by
  have:=hrep.nodup
  simp_all[q7.keys]
 have hr0:Rep P (g0 imm) w Hs:=⟨hrep.imm,(List.nodup_append.1 hnd).1,fun b o ho=>hrep.obj b o (List.mem_append_left _ ho),hrep.tab⟩
 refine(h imm w vs hr0 hargs).mono ?_
 rintro e w' ⟨v,r,imm',H',a,b,c,d,st⟩
 have hS:qX ⟨P,0,imm,Hs++rest,w,none⟩ { env:=fun _=>.junk,loc:=fun _=>none,ver:=fun _=>0,H:=Hs++rest } { tmps:=#[],defers:=[] } w (g0 imm) (fun _=>0):={
  defers:=⟨rfl,List.nodup_nil,fun D hD=>by simp at hD⟩
  size:=rfl
  env:=fun t=>trivial
  locs:=fun k d x e=>by simp at e
  inj:=fun k j e=>by simp at e
  rep:=hrep
  toks:=fun k t e=>by grind [g0]
  tokd:=fun k k' t t' e=>by simp[g0]
  toknew:=fun k v _=>rfl
  step:=W8.refl }
 have h2:=hS.called (List.Perm.refl _) d (st.keys fun b=>by rw[q7.er_keys])
 exact⟨v,r,imm',H'++rest,a,⟨H',b,rfl⟩,c,h2.rep,h2.step⟩
theorem q6.use {P:Program} {f:FuncId} {args:List TV} {H Hs rest:q7} {R R':TV->q7->Prop} (hp:H.Perm (Hs++rest)) (h:q6 P f args Hs R)
  (hk:∀r H1,R r H1->(H1++rest).keys.Nodup->∃H'',HSub H'' (H1++rest)/\R' r H''):q6 P f args H R':=by
 refine((h.frame rest).perm hp).sub ?_
 simp_all
theorem XD.off {P:Program} {imm:Nat->Nat} {w:World} (h:∀n,Sel.on n=false):XD P imm w:=by
 refine⟨fun n d x hx=>?_,fun n hn=>?_,fun n hn=>?_⟩
 ·grind [zdM]
 ·grind [JD]
 grind [cZ]
def zkW (ops:Array Oper) (Lt:LtK) (pr:List Nat) (j:Nat):Bool:=(List.range ops.size).all fun i=>i==j||(zbP ops i).contains j||(zbP ops j).contains i||Lt.l.contains i||(pr.contains i&&pr.contains j)
def r3c (pr:List Nat) (P:Program) (cf:Cfg) (ops:Array Oper) (Lt:LtK) (i:Nat) (o:Oper) (K:St->Prop) (s:St):Prop:=zkW ops Lt pr i=true/\o.guard=none/\hop P cf s o.dst o.op (DF Lt.kb s.H K)
def qC (pr:List Nat) (P:Program) (cf:Cfg) (ops:Array Oper) (Lt:LtK) (i:Nat) (K:St->Prop) (s:St):Prop :=
 match ops[i]? with
 | none=>K s
 | some o=>r1 P cf ops Lt i o K s\/q2 P cf ops i o K s\/r3c pr P cf ops Lt i o K s
def zfQ (pr:List Nat) (P:Program) (cf:Cfg) (ops:Array Oper) (Lt:LtK) (Q:St->Prop):Nat->Array Bool->St->Prop
 | 0,listed,s=>Region.ready .any ops listed=[]/\Q s
 | fuel+1,listed,s=>(Region.ready .any ops listed=[]->Q s)/\∀i∈Region.ready .any ops listed,qC pr P cf ops Lt i (zfQ pr P cf ops Lt Q fuel (listed.setIfInBounds i true)) s

theorem zlU {c:Ctx} (hl:laidOutB c.P=true) {cf:Cfg} {ops:Array Oper} {Lt:LtK} {pr:List Nat} (hdst:∀o∈ops.toList,∀d,o.dst=some d->d<c.n) {i:Nat} {K:St->Prop} {s:St} {a:Act} {w:World} {g:Gh} {β:Nat->Nat} (hS:qX c s a w g β)
  (h:qC pr c.P cf ops Lt i K s) {K':Act->World->Prop} (hK:∀a w,W5 c K a w->K' a w) {Q:Exit->Act->World->Prop}:wpOpIn (fen c.rd) 0 c.P ops Q i K' a w:=by
 have old:qA c.P cf ops i K s->wpOpIn (fen c.rd) 0 c.P ops Q i K' a w:=fun h=>CI hl hdst hS h hK
 unfold qC at h
 cases ho:ops[i]? with
 | none=>simp_all[qA]
 | some o =>
  rw[ho]at h
  rcases h with⟨tv,ky,h1,h2⟩|h|⟨_,hg,hc⟩
  ·exact old (by unfold qA;rw[ho];exact .inl ⟨tv,ky,h1.yi,h2⟩)
  ·simp_all[qA]
  ·have hmem:o∈ops.toList:=by
    grind
   have hv:yD c.P cf s o K:=zfF (GX (fun s' hk=>(ZN.1 hk).2) hc)
   unfold wpOpIn
   simp only[ho]
   rw[if_pos (by simp[Region.wanted,hg])]
   exact Oper.wpIn_mono (fun a w hg=>hK a w hg) (Y6 hl hS (hdst o hmem) (K:=K) hv)

theorem zbD {c:Ctx} (hl:laidOutB c.P=true) {cf:Cfg} {ops:Array Oper} {Lt:LtK} {pr:List Nat} (hdst:∀o∈ops.toList,∀d,o.dst=some d->d<c.n) {Q:St->Prop} {Q':Exit->Act->World->Prop} (hQ:∀a w,W5 c Q a w->Q' .normal a w) :
  ∀(fuel:Nat) (listed:Array Bool) (a:Act) (w:World),W5 c (zfQ pr c.P cf ops Lt Q fuel listed) a w->wpAnyIn (fen c.rd) 0 c.P .any ops Q' fuel listed a w
 | 0,_,a,w,⟨s,g,β,h,hS⟩=>⟨h.1,hQ a w ⟨s,g,β,h.2,hS⟩⟩
 | fuel+1,_,a,w,⟨s,g,β,h,hS⟩=>⟨fun h0=>hQ a w ⟨s,g,β,h.1 h0,hS⟩,fun i hi=>zlU hl hdst hS (h.2 i hi) (fun a' w' hg=>zbD hl hdst hQ fuel _ a' w' hg)⟩

theorem zq3 {P:Program} {cf:Cfg} {ops:Array Oper} {Lt:LtK} {pr:List Nat} {i j:Nat} {oi oj:Oper} (hap:oi.apart ops oj=true) (hlt:Lt.l.contains i=true)
  {tv:TV} {ky:Option (Nat × (TyD × AV))} {K:St->Prop} {s:St} (hy:YJ P cf ops Lt i oi tv ky s) (h:r3c pr P cf ops Lt j oj K (s.app oi.dst tv ky)) :
  r3c pr P cf ops Lt j oj (fun s'=>YJ P cf ops Lt i oi tv ky s'/\K (s'.app oi.dst tv ky)) s:=by
 obtain⟨h1,h2,h3⟩:=Oper.apart_spec hap
 obtain⟨hg,hyl⟩:=hy.lt hlt
 obtain⟨hs,hgj,hc⟩:=h
 have hev:∀x∈oj.op.operands.toList,ev s x=ev (s.app oi.dst tv ky) x:=by
  intro x hx
  cases x with
  | tmp t =>
   refine(St.app_env fun e=>h1 t e ?_).symm
   unfold Oper.looksAt
   grind
  | _=>rfl
 refine⟨hs,hgj,PM (s:=s.app oi.dst tv ky) St.app_H.symm St.app_ver.symm hev (fun f args tys hop=>⟨hev f (by simp[hop,Op.operands,Call.operands]),List.map_congr_left fun x hx=>hev x (by simp_all[Op.operands,Call.operands])⟩) (fun H'' v'' r hk=>?_) hc⟩
 rw[ZN]at hk |-
 have hHH:∀(s:St) (r:TV),(({ s with H:=H'',ver:=v'' }:St).put oj.dst r).H=H'':=fun s r=>by cases oj.dst<;>rfl
 rw[hHH,St.app_H]at hk
 rw[hHH]
 refine⟨hk.1,?_,?_⟩
 ·refine hy.sameL hlt ⟨fun t ht=>?_,fun t ht k p e=>?_,fun b hb=>by simp_all,fun d e1 e2 e3=>by cases oj.dst<;>exact e3⟩
  ·cases hd:oj.dst with
   | none=>rfl
   | some d =>
    have:t≠d:=fun e=>h3 t (by rw[hd,e]) ht
    simp[St.put,upd,this]
  ·cases hd:oj.dst<;>rfl
 simp_all[St.app_putH]

theorem KS {P:Program} {cf:Cfg} {ops:Array Oper} {Lt:LtK} {pr:List Nat} {i:Nat} {o:Oper} {K K':St->Prop} {s:St} (h:∀s,K s->K' s) (hh:r3c pr P cf ops Lt i o K s):r3c pr P cf ops Lt i o K' s:=by
 obtain⟨h1,h2,h3⟩:=hh
 exact⟨h1,h2,GX (fun s' hk=>by simp_all[ZN]) h3⟩

theorem zil {ops:Array Oper} {Lt:LtK} {pr:List Nat} {i j:Nat} {listed:Array Bool} (hdc:DC ops listed) (hb:zkW ops Lt pr j=true) (hj:j∈Region.ready .any ops listed) (hi:i∈Region.ready .any ops listed) (hij:i≠j) (hip:pr.contains i=false):Lt.l.contains i=true:=by
 obtain⟨ui,oi,hoi,_⟩:=mem_ready.1 hi
 obtain⟨uj,oj,hoj,_⟩:=mem_ready.1 hj
 have h1:=List.all_eq_true.1 hb i (List.mem_range.2 (Array.getElem?_eq_some_iff.1 hoi).1)
 simp only[Bool.or_eq_true,beq_iff_eq,Bool.and_eq_true]at h1
 grind [wY]

theorem zaf {P:Program} {cf:Cfg} {ops:Array Oper} {Lt:LtK} {pr:List Nat} (hwk:wkB ops=true) {Q:St->Prop} {i:Nat} {oi:Oper} {tv:TV} {ky:Option (Nat × (TyD × AV))} (hi:ops[i]?=some oi) (hip:pr.contains i=false) :
  ∀(fuel:Nat) (listed:Array Bool) (s:St),DC ops listed->
   (∀j oj,ops[j]?=some oj->j≠i->listed.getD j true=false->(∀e∈oj.after,Region.binds .any e=true->e.on≠i)->oi.apart ops oj=true)->
   i∈Region.ready .any ops listed->YJ P cf ops Lt i oi tv ky s->
   zfQ pr P cf ops Lt Q fuel (listed.setIfInBounds i true) (s.app oi.dst tv ky)->zfQ pr P cf ops Lt Q (fuel+1) listed s:=by
 have own:∀ {K:St->Prop} {s:St},YJ P cf ops Lt i oi tv ky s->K (s.app oi.dst tv ky)->qC pr P cf ops Lt i K s:=fun hy hk=>by
  unfold qC;simp only[hi];exact .inl ⟨tv,ky,hy,hk⟩
 intro fuel
 induction fuel with
 | zero =>
  intro listed s _ _ hr hy H
  refine⟨fun h=>(by simp_all),fun j hj=>?_⟩
  by_cases hji:j=i
  ·simp_all
  ·have:=ready_mono hj hji
   rw[H.1]at this
   cases this
 | succ fuel ih =>
  intro listed s hdc hfree hr hy H
  refine⟨fun h=>(by simp_all),fun j hj=>?_⟩
  by_cases hji:j=i
  ·simp_all
  ·have h1:=H.2 j (ready_mono hj hji)
   obtain⟨hjun,oj,hoj,hall⟩:=mem_ready.1 hj
   obtain⟨hiun,oi',hoi',halli⟩:=mem_ready.1 hr
   rw[hi]at hoi';cases hoi'
   have hnot:∀e∈oj.after,Region.binds .any e=true->e.on≠i:=fun e he hb heq=>by
    grind
   have hnot':∀e∈oi.after,Region.binds .any e=true->e.on≠j:=fun e he hb heq=>by
    grind
   have hap:=hfree j oj hoj hji hjun hnot
   have hfree':∀k ok,ops[k]?=some ok->k≠i->(listed.setIfInBounds j true).getD k true=false->
     (∀e∈ok.after,Region.binds .any e=true->e.on≠i)->oi.apart ops ok=true:=fun k ok hk hki hun hno=>by
    refine hfree k ok hk hki ?_ hno
    by_cases hjk:j=k
    ·simp_all
    simp_all
   have fin:∀s',YJ P cf ops Lt i oi tv ky s'/\zfQ pr P cf ops Lt Q fuel ((listed.setIfInBounds i true).setIfInBounds j true) (s'.app oi.dst tv ky)->zfQ pr P cf ops Lt Q (fuel+1) (listed.setIfInBounds j true) s':=by
    intro s' h3
    refine ih (listed.setIfInBounds j true) s' (hdc.list hj) hfree' (ready_mono hr (Ne.symm hji)) h3.1 ?_
    simp_all[Array.setIfInBounds_comm]
   unfold qC at h1 |-
   simp only[hoj]at h1 |-
   rcases h1 with h|⟨hb,_⟩|h
   ·exact .inl (zjh fin (zmJ hwk hi hoj (Ne.symm hji) hap (g9 hi hoj hnot' hnot) hy h))
   ·grind [K0]
   ·exact .inr (.inr (KS fin (zq3 hap (zil hdc h.1 hj hr (Ne.symm hji) hip) hy h)))

def zc1 (pr:List Nat) (P:Program) (cf:Cfg) (ops:Array Oper) (Lt:LtK) (Q:St->Prop):List Nat->St->Prop
 | [],s=>Q s
 | k::r,s=>match ops[k]? with
  | none=>False
  | some o=>(pr.contains k=false/\r1 P cf ops Lt k o (zc1 pr P cf ops Lt Q r) s)\/q2 P cf ops k o (zc1 pr P cf ops Lt Q r) s\/(zar ops k r=true/\r3c pr P cf ops Lt k o (zc1 pr P cf ops Lt Q r) s)
theorem UM {P:Program} {cf:Cfg} {ops:Array Oper} {Lt:LtK} {pr:List Nat} (hwk:wkB ops=true) {Q:St->Prop}:∀(l:List Nat) (listed:Array Bool) (s:St),DC ops listed->(∀j,j<ops.size->listed.getD j true=false->j∈l)->
  ZG ops l listed=true->zc1 pr P cf ops Lt Q l s->zfQ pr P cf ops Lt Q l.length listed s
 | [],listed,s,_,_,hB,h=>⟨by simp_all[ZG],h⟩
 | k::l,listed,s,hdc,hun,hB,h=>by
  simp only[ZG,Bool.and_eq_true]at hB
  obtain⟨⟨hr,hf⟩,hB'⟩:=hB
  have hr':k∈Region.ready .any ops listed:=by simp_all
  have hun':∀j,j<ops.size->(listed.setIfInBounds k true).getD j true=false->j∈l:=by
   intro j hj hjl
   by_cases hkj:k=j
   ·simp_all
   ·rw[getD_set_ne true hkj]at hjl
    grind
  cases h0:ops[k]? with
  | none=>simp_all[zc1]
  | some o =>
  simp only[zc1,h0]at h
  rcases h with⟨hpr,h⟩|⟨hb,K1,hv,himp⟩|⟨hall,h⟩
  ·obtain⟨tv,ky,hy,hK⟩:=h
   exact zaf hwk h0 hpr l.length listed s hdc (Region.free_spec h0 hf) (by omega) hy (UM hwk l _ _ (hdc.list hr') hun' hB' hK)
  ·refine⟨fun h=>(by simp_all),fun j hj=>?_⟩
   obtain rfl:=K0 hdc hb hr' hj
   unfold qC
   simp only[h0]
   exact .inr (.inl ⟨hb,K1,hv,fun s' hs'=>UM hwk l _ _ (hdc.list hr') hun' hB' (himp s' hs')⟩)
  ·refine⟨fun h=>(by simp_all),fun j hj=>?_⟩
   obtain⟨hjun,oj,hoj,_⟩:=mem_ready.1 hj
   obtain⟨hkun,_⟩:=mem_ready.1 hr'
   have hjk:j=k:=by
    rcases List.mem_cons.1 (hun j (Array.getElem?_eq_some_iff.1 hoj).1 hjun)with h|h
    ·exact h
    ·have h1:=List.all_eq_true.1 hall j h
     simp only[Bool.and_eq_true,bne_iff_ne,ne_eq]at h1
     grind [wY]
   subst hjk
   unfold qC
   simp only[h0]
   exact .inr (.inr (KS (fun s' hs'=>UM hwk l _ _ (hdc.list hr') hun' hB' hs') h))

def zq9 (ops:Array Oper) (k m:Nat) (r:List Nat):Bool:=r.all fun j=>j==m||((zbP ops k).contains j&&j != k)||((zbP ops m).contains j&&j != m)
def zeK (pr:List Nat) (P:Program) (cf:Cfg) (ops:Array Oper) (Lt:LtK) (Q:St->Prop) (k m:Nat) (ra rb:List Nat):List Nat->St->Prop
 | [],s=>match ops[k]?,ops[m]? with
  | some ok,some om=>zq9 ops k m ra=true/\r3c pr P cf ops Lt k ok (zc1 pr P cf ops Lt Q ra) s/\r3c pr P cf ops Lt m om (zc1 pr P cf ops Lt Q rb) s
  | _,_=>False
 | j::r,s=>match ops[j]? with
  | none=>False
  | some o=>(pr.contains j=false/\r1 P cf ops Lt j o (zeK pr P cf ops Lt Q k m ra rb r) s)\/q2 P cf ops j o (zeK pr P cf ops Lt Q k m ra rb r) s
theorem GI {ops:Array Oper} {l:List Nat} {listed:Array Bool} {k:Nat} (hun:∀j,j<ops.size->listed.getD j true=false->j∈k::l):∀j,j<ops.size->(listed.setIfInBounds k true).getD j true=false->j∈l:=by
 intro j hj hjl
 by_cases hkj:k=j
 ·simp_all
 ·rw[getD_set_ne true hkj]at hjl
  grind
theorem PV {P:Program} {cf:Cfg} {ops:Array Oper} {Lt:LtK} {pr:List Nat} (hwk:wkB ops=true) {Q:St->Prop} {k m:Nat} {ra rb:List Nat} (hlen:ra.length=rb.length):∀(l:List Nat) (listed:Array Bool) (s:St),DC ops listed->
  (∀j,j<ops.size->listed.getD j true=false->j∈l++k::ra)->(∀j,j<ops.size->listed.getD j true=false->j∈l++m::rb)->
  ZG ops (l++k::ra) listed=true->ZG ops (l++m::rb) listed=true->zeK pr P cf ops Lt Q k m ra rb l s->zfQ pr P cf ops Lt Q (l.length+(ra.length+1)) listed s
 | [],listed,s,hdc,hua,hub,ha,hb,h=>by
  simp only[List.nil_append,ZG,Bool.and_eq_true]at ha hb
  have hrk:k∈Region.ready .any ops listed:=by simp_all
  have hrm:m∈Region.ready .any ops listed:=by simp_all
  simp only[zeK]at h
  cases hk0:ops[k]? with
  | none=>simp_all
  | some ok =>
  cases hm0:ops[m]? with
  | none=>simp_all
  | some om =>
  rw[hk0,hm0]at h
  obtain⟨ht,h1,h2⟩:=h
  have key:([]:List Nat).length+(ra.length+1)=ra.length+1:=by simp
  rw[key]
  refine⟨fun h=>(by simp_all),fun j hj=>?_⟩
  obtain⟨hjun,oj,hoj,_⟩:=mem_ready.1 hj
  obtain⟨hkun,_⟩:=mem_ready.1 hrk
  obtain⟨hmun,_⟩:=mem_ready.1 hrm
  have hjk:j=k\/j=m:=by
   rcases List.mem_cons.1 (hua j (Array.getElem?_eq_some_iff.1 hoj).1 hjun)with h|h
   ·exact .inl h
   ·have h3:=List.all_eq_true.1 ht j h
    simp only[Bool.or_eq_true,Bool.and_eq_true,beq_iff_eq,bne_iff_ne,ne_eq]at h3
    grind [wY]
  rcases hjk with rfl|rfl
  ·unfold qC
   simp only[hk0]
   exact .inr (.inr (KS (fun s' hs'=>UM hwk ra _ _ (hdc.list hrk) (GI hua) ha.2 hs') h1))
  ·unfold qC
   simp only[hm0]
   rw[hlen]
   exact .inr (.inr (KS (fun s' hs'=>UM hwk rb _ _ (hdc.list hrm) (GI hub) hb.2 hs') h2))
 | j::l,listed,s,hdc,hua,hub,ha,hb,h=>by
  simp only[List.cons_append,ZG,Bool.and_eq_true]at ha hb
  obtain⟨⟨hr,hf⟩,ha'⟩:=ha
  obtain⟨_,hb'⟩:=hb
  have hr':j∈Region.ready .any ops listed:=by simp_all
  have hua':=GI (l:=l++k::ra) hua
  have hub':=GI (l:=l++m::rb) hub
  have e:(j::l).length+(ra.length+1)=(l.length+(ra.length+1))+1:=by grind
  cases h0:ops[j]? with
  | none=>simp_all[zeK]
  | some o =>
  simp only[zeK,h0]at h
  rw[e]
  rcases h with⟨hpr,h⟩|⟨hb2,K1,hv,himp⟩
  ·obtain⟨tv,ky,hy,hK⟩:=h
   exact zaf hwk h0 hpr _ listed s hdc (Region.free_spec h0 hf) hr' hy (PV hwk hlen l _ _ (hdc.list hr') hua' hub' ha' hb' hK)
  ·refine⟨fun h=>(by simp_all),fun j' hj=>?_⟩
   obtain rfl:=K0 hdc hb2 hr' hj
   unfold qC
   simp only[h0]
   exact .inr (.inl ⟨hb2,K1,hv,fun s' hs'=>PV hwk hlen l _ _ (hdc.list hr') hua' hub' ha' hb' (himp s' hs')⟩)
def zns (P:Program) (s:St) (o:Oper) (K:St->Prop):Prop:=match o.op with
 | .call { callee:=.value f,args,.. }=>qN P f=false/\match ev s f with
  | .av .func (.fn g caps)=>match caps.mapM QB with
   | some cs=>(args.toList.map (ev s)).all qH=true/\qL P g=true/\∃r,PC P g ((args.toList.map (ev s)++cs).map TV.er) r/\K (s.put o.dst r)
   | none=>False
  | _=>False
 | _=>False
theorem zjQ {Lt:LtK} {P:Program} {cf:Cfg} {ops:Array Oper} {s:St} {o:Oper} {K:St->Prop} (h:zns P s o K):∃tv,YdL Lt P cf ops s o tv none/\K (s.app o.dst tv none):=by
 obtain⟨dst,op,type,pos,after,guard⟩:=o
 unfold zns at h
 simp only at h
 split at h
 ·rename_i f args _
  obtain⟨h1,h⟩:=h
  split at h
  ·rename_i g caps hev
   split at h
   ·rename_i cs hcs
    obtain⟨h2,h3,r,h4,h5⟩:=h
    refine⟨r,fun s' ha K' hk=>?_,by cases dst<;>exact h5⟩
    have hop:∀x:Operand,(x=f\/x∈args.toList)->ev s' x=ev s x:=by
     intro x hx
     cases x with
     | tmp t =>
      refine ha.env t ?_
      unfold Oper.looksAt
      refine List.mem_append_left _ (List.mem_filterMap.2 ⟨.tmp t,?_,rfl⟩)
      simp_all[Op.operands,Call.operands]
     | _=>rfl
    have e1:ev s' f=ev s f:=hop f (.inl rfl)
    have e2:args.toList.map (ev s')=args.toList.map (ev s):=List.map_congr_left fun x hx=>hop x (.inr hx)
    unfold yD
    simp only
    rw[if_neg (by simp_all),e1,e2,hev]
    exact gK hcs h2 h3 h4 (by cases dst<;>exact hk)
   simp_all
  simp_all
 simp_all
def zsM (cf:Cfg) (o:Oper):Bool:=match o.op with
 | .build _ _=>zgD cf o.dst
 | _=>false
noncomputable def zf3 (pr:List Nat) (P:Program) (cf:Cfg) (ops:Array Oper) (Lt:LtK) (K:St->Prop):List Nat->St->Prop
 | [],s=>K s
 | k::r,s=>match ops[k]? with
  | none=>False
  | some o=>if pr.contains k=true then zar ops k r=true/\zkW ops Lt pr k=true/\zbh P cf s o Lt.kb (zf3 pr P cf ops Lt K r)
   else if sft cf o=true then zar ops k r=true/\zkW ops Lt pr k=true/\zbh P cf s o Lt.kb (zf3 pr P cf ops Lt K r)
   else if zsM cf o=true then VZ ops k=true/\vcG P cf ops s o (zf3 pr P cf ops Lt K r)
   else xK ops k o s=true/\o.guard=none/\Lt.l.contains k=false/\vcD P cf s o (zf3 pr P cf ops Lt K r)
theorem X3 {pr:List Nat} {P:Program} {cf:Cfg} {ops:Array Oper} {Lt:LtK} {K:St->Prop}:∀(l:List Nat) (s:St),zf3 pr P cf ops Lt K l s->zc1 pr P cf ops Lt K l s
 | [],s,h=>h
 | k::r,s,h=>by
  simp only[zf3]at h
  simp only[zc1]
  cases h0:ops[k]? with
  | none=>simp_all
  | some o =>
   rw[h0]at h
   simp only at h |-
   split at h
   ·obtain⟨h1,h2,h3⟩:=h
    exact .inr (.inr ⟨h1,KS (fun s' hs'=>X3 r s' hs') ⟨h2,h3.1,h3.2⟩⟩)
   rename_i hnp
   split at h
   ·obtain⟨h1,h2,h3⟩:=h
    exact .inr (.inr ⟨h1,KS (fun s' hs'=>X3 r s' hs') ⟨h2,h3.1,h3.2⟩⟩)
   split at h
   ·exact .inr (.inl ⟨h.1,_,h.2,fun s' hs'=>X3 r s' hs'⟩)
   ·obtain⟨h1,hg,hnl,h2⟩:=h
    obtain⟨tv,ky,h3,h4,h5⟩:=zi3 (ops:=ops) h2
    exact .inl ⟨by simp_all,tv,ky,⟨⟨.inl ⟨by simp[y5,hg],h3⟩,h4,h1⟩,fun hl=>by simp_all⟩,X3 r _ h5⟩
noncomputable def zkr (pr:List Nat) (P:Program) (cf:Cfg) (ops:Array Oper) (Lt:LtK) (K:St->Prop) (k m:Nat) (ra rb:List Nat):List Nat->St->Prop
 | [],s=>match ops[k]?,ops[m]? with
  | some ok,some om=>zq9 ops k m ra=true/\(zkW ops Lt pr k=true/\zbh P cf s ok Lt.kb (zf3 pr P cf ops Lt K ra))/\(zkW ops Lt pr m=true/\zbh P cf s om Lt.kb (zf3 pr P cf ops Lt K rb))
  | _,_=>False
 | j::r,s=>match ops[j]? with
  | none=>False
  | some o=>pr.contains j=false/\xK ops j o s=true/\o.guard=none/\((isLt Lt.kb s o=true/\z8 P s o.op (WV s o.dst (zkr pr P cf ops Lt K k m ra rb r)))\/zns P s o (zkr pr P cf ops Lt K k m ra rb r))
theorem zb7 {pr:List Nat} {P:Program} {cf:Cfg} {ops:Array Oper} {Lt:LtK} {K:St->Prop} {k m:Nat} {ra rb:List Nat}:∀(l:List Nat) (s:St),zkr pr P cf ops Lt K k m ra rb l s->zeK pr P cf ops Lt K k m ra rb l s
 | [],s,h=>by
  simp only[zkr]at h
  simp only[zeK]
  cases hk0:ops[k]? with
  | none=>simp_all
  | some ok =>
  cases hm0:ops[m]? with
  | none=>simp_all
  | some om =>
  rw[hk0,hm0]at h
  simp only at h |-
  obtain⟨h1,⟨h2,h3⟩,h4,h5⟩:=h
  exact⟨h1,KS (fun s' hs'=>X3 ra s' hs') ⟨h2,h3.1,h3.2⟩,KS (fun s' hs'=>X3 rb s' hs') ⟨h4,h5.1,h5.2⟩⟩
 | j::r,s,h=>by
  simp only[zkr]at h
  simp only[zeK]
  cases h0:ops[j]? with
  | none=>simp_all
  | some o =>
   rw[h0]at h
   simp only at h |-
   obtain⟨h1,h2,hg,h⟩:=h
   left
   refine⟨h1,?_⟩
   rcases h with⟨h3,h4⟩|h3
   ·obtain⟨_,tv,h5,h6⟩:=zcP (cf:=cf) (ops:=ops) h3 h4
    exact⟨tv,none,⟨⟨.inl ⟨by simp[y5,hg],fun s' ha=>h5 s' ha.light⟩,by simp,h2⟩,fun _=>⟨hg,h5⟩⟩,zb7 r _ h6⟩
   ·obtain⟨tv,h5,h6⟩:=zjQ (Lt:=Lt) (cf:=cf) (ops:=ops) h3
    exact⟨tv,none,⟨⟨.inl ⟨by simp[y5,hg],fun s' ha=>h5 s' ha.light⟩,by simp,h2⟩,fun _=>⟨hg,h5⟩⟩,zb7 r _ h6⟩
theorem AT.two {c:Ctx} (hl:laidOutB c.P=true) (hm:c.P.follows .mixedOrders=true) {cf:Cfg} {id:Nat} {ops:Array Oper} {K:Exit->St->Prop} {s:St} (l:List Nat) (k m:Nat) (ra rb lt:List Nat)
  (hdst:(ops.toList.all fun o=>match o.dst with|some d=>decide (d<c.n)|none=>true)=true) (hwk:wkB ops=true) (hlen:ra.length=rb.length) (ha:zb2 ops (l++k::ra)=true) (hb:zb2 ops (l++m::rb)=true)
  (h:zkr [k,m] c.P cf ops ⟨lt,[]⟩ (K .normal) k m ra rb l s):AT c (.region id ops true) K s:=by
 intro a w g β hS
 refine wpIn_region_any hm ?_
 have hd:∀o∈ops.toList,∀d,o.dst=some d->d<c.n:=by
  grind
 simp only[zb2,Bool.and_eq_true,beq_iff_eq]at ha hb
 refine zbD hl hd (Q:=K .normal) (cf:=cf) (Lt:=⟨lt,[]⟩) (pr:=[k,m]) (fun a w hg=>hg) _ _ _ _ ⟨s,g,β,?_,hS.drew _⟩
 have:=PV (P:=c.P) (cf:=cf) (Lt:=⟨lt,[]⟩) (pr:=[k,m]) hwk (Q:=K .normal) hlen l (Array.replicate ops.size false) s (DC.start ops) (fun j hj _=>by simp_all) (fun j hj _=>by simp_all) ha.1.2 hb.1.2 (zb7 l s h)
 simp_all
theorem AT.seq {c:Ctx} {x y:Code} {K:Exit->St->Prop} {s:St} (h:AT c x (zdv (fun s'=>AT c y K s') K) s):AT c (.seq x y) K s:=by
 intro a w g β hS
 refine wpIn_seq (wpIn_mono (h a w g β hS) ?_)
 intro e a' w' hq
 cases e with
 | normal =>
  obtain⟨s',g',β',hk,hS'⟩:=hq
  exact hk a' w' g' β' hS'
 | _=>exact hq
theorem AT.nsl {c:Ctx} {code:Code} {K:Exit->St->Prop} {s:St} (n:Nat) (e:TypeId) (h0:s.env n=.cst (.slice none 0 0)) (h:AT c code K { s with env:=upd s.env n (.av (.slice e) .nsl) }):AT c code K s:=by
 intro a w g β hS
 refine h a w g β { hS with
  env:=fun t=>?_
  locs:=fun k d x e=>{ hS.locs k d x e with }
  toks:=fun k t e=>{ hS.toks k t e with } }
 have ht:=hS.env t
 by_cases hn:t=n
 ·subst hn
  rw[h0]at ht
  have hv:a.tmps.getD t undef=.slice none 0 0:=ht
  rw[hv]
  simp only[upd,if_true]
  exact⟨by rfl,e,rfl,rfl⟩
 ·simp only[upd,hn,if_false]
  assumption
theorem zmc {P:Program} {s:St} {H:q7} {g:Gh} {w:World} {β:Nat->Nat} {tv:TV} {v:Value} (h:TVR P s g w β tv v):TVR P { s with H:=H } g w β tv v:=by
 assumption
theorem qX.heap {c:Ctx} {s:St} {a:Act} {w:World} {g:Gh} {β:Nat->Nat} {H:q7} (h:qX c s a w g β) (hk:∀b,b∈H.keys<->b∈s.H.keys) (hr:Rep c.P g w H):qX c { s with H:=H } a w g β :=
 { h with
  env:=fun t=>zmc (h.env t)
  locs:=fun k d x e=>{ h.locs k d x e with noH:=fun hb=>(h.locs k d x e).noH ((hk _).1 hb) }
  rep:=hr
  toks:=fun k t e=>{ h.toks k t e with noH:=fun hb=>(h.toks k t e).noH ((hk _).1 hb) }
  step:=h.step.keys' fun b hb=>(hk b).1 hb }
theorem AT.openMap {c:Ctx} {code:Code} {K:Exit->St->Prop} {s:St} {b:Nat} {k e:TypeId} {es:List (AV × AV)} {rest:q7} (hH:s.H=(b,.map k e es)::rest) (her:(HObj.map k e es).er=.map k e es)
  (h:∀en ck i0 w0,xS c.P k e es en ck i0 w0->AT c code K { s with H:=(b,.raw (.map en ck) i0 w0)::rest }):AT c code K s:=by
 intro a w g β hS
 have hr:=hS.rep
 rw[hH]at hr
 have h1:=uF hr (Hs:=[(b,.map k e es)]) (rest:=rest) (List.Perm.refl _)
 simp only[q7.er_cons,q7.er_nil,her]at h1
 obtain⟨h0,en,ck,hb,hrel,hst⟩:=h1.obj b (.map k e es) (by simp)
 refine h en ck g.imm w ⟨h1.imm,hrel,hst⟩ a w g β (hS.heap (fun x=>by rw[hH];exact Iff.rfl) ⟨hr.imm,hr.nodup,fun x o ho=>?_,hr.tab⟩)
 rcases List.mem_cons.1 ho with e|e
 ·cases e
  exact⟨h0,hb,⟨fun _=>Nat.le_refl _,fun b cs E fz _ hb=>⟨cs,E,fz,hb,rfl,fun _ _=>rfl⟩⟩,rfl⟩
 ·exact hr.obj x o (List.mem_cons_of_mem _ e)
theorem AT.shutMap {c:Ctx} {code:Code} {K:Exit->St->Prop} {s:St} {b:Nat} {k e:TypeId} {es:List (AV × AV)} {en:Array MapEntry} {ck:Nat} {i0:Nat->Nat} {w0:World} {rest:q7} (ho:xS c.P k e es en ck i0 w0)
  (hH:s.H=(b,.raw (.map en ck) i0 w0)::rest) (h:AT c code K { s with H:=(b,.map k e es)::rest }):AT c code K s:=by
 intro a w g β hS
 have hr:=hS.rep
 rw[hH]at hr
 obtain⟨h0,hb,hlat⟩:=hr.obj b (.raw (.map en ck) i0 w0) (by simp)
 have hle:(g0 i0).le g:=⟨hlat.1.1,fun _ _ _ e=>by cases e⟩
 have hk:zS (g0 i0) w0 w:=fun b cs E fz h0 hb=>hlat.1.2 b cs E fz h0 hb
 refine h a w g β (hS.heap (fun x=>by rw[hH];exact Iff.rfl) ⟨hr.imm,hr.nodup,fun x o hx=>?_,hr.tab⟩)
 rcases List.mem_cons.1 hx with e|e
 ·cases e
  exact⟨h0,en,ck,hb,QY hle ho.imm hk ho.ents,ho.st⟩
 ·exact hr.obj x o (List.mem_cons_of_mem _ e)
noncomputable def fzO (b m:Nat) (e:TypeId) (xs:List AV):HObj->HObj
 | .var d x=>.var d (fzA b m e xs x)
 | o=>o
noncomputable def fzS (b m:Nat) (e:TypeId) (xs:List AV) (rest:q7) (s:St):St :=
 { s with env:=fun t=>V2 b m e xs (s.env t),loc:=fun k=>(s.loc k).map fun p=>(p.1,fzA b m e xs p.2),H:=rest.map fun p=>(p.1,fzO b m e xs p.2) }
theorem AT.freeze {c:Ctx} {code:Code} {K:Exit->St->Prop} {s:St} {b m:Nat} {e:TypeId} {xs:List AV} {rest:q7} (hl:laidOutB c.P=true)
  (hH:s.H.Perm ((b,.var (.arr m e) (.agg xs))::rest)) (h:AT c code K (fzS b m e xs rest s)):AT c code K s:=by
 intro a w g β hS
 have hrep:Rep c.P g w ((b,.var (.arr m e) (.agg xs))::rest):=⟨hS.rep.imm,(hH.map _).nodup_iff.1 hS.rep.nodup,fun x o ho=>hS.rep.obj x o (hH.mem_iff.2 ho),hS.rep.tab⟩
 obtain⟨h0,cs,⟨E,fz,hc,_,_⟩,hvc⟩:=hrep.obj b (.var (.arr m e) (.agg xs)) (by simp)
 simp only[VC]at hvc
 obtain⟨hm,hvl⟩:=hvc
 have hsz:=Q2 hl _ _ _ hvl
 rw[Array.length_toList,hm]at hsz
 have h00:g.imm b=0:=h0
 obtain⟨g',hg'⟩:∃g':Gh,g'={ g with imm:=upd g.imm b (m*c.P.cellsOf e) }:=⟨_,rfl⟩
 have hgi:g'.imm=upd g.imm b (m*c.P.cellsOf e):=by rw[hg']
 have hgg:g'.γ=g.γ:=by rw[hg']
 have hle:g.le g':=by
  refine⟨fun x=>?_,fun _ _ _ e=>by rw[hgg];exact e⟩
  rw[hgi];simp only[upd];split
  ·rename_i ee;rw[ee,h00];exact Nat.zero_le _
  ·exact Nat.le_refl _
 have hk:zS g w w:=fun b cs E fz _ hb=>⟨cs,E,fz,hb,rfl,fun _ _=>rfl⟩
 have hi:QA g w:=hrep.imm
 have hcell:z6 w b 0 (m*c.P.cellsOf e)=cs.toList:=by
  unfold z6
  rw[hc]
  simp only[List.drop_zero]
  rw[List.take_of_length_le (by simp[hsz])]
 have hv2:VL c.P g' w e xs (z6 w b 0 (m*c.P.cellsOf e)):=by
  rw[hcell];exact QH hle hi hk _ _ _ hvl
 have hb2:m*c.P.cellsOf e<=g'.imm b:=by rw[hgi];simp[upd]
 have hfc:∀d x l,VC c.P g w d x l->VC c.P g' w d (fzA b m e xs x) l:=fun d x l hx=>zbl hl hle hi hb2 hv2 hm x d _ hx
 have hfz:∀d x v,VV c.P g w d x v->VV c.P g' w d (fzA b m e xs x) v:=fun d x v hx=>⟨hx.1,hfc _ _ _ hx.2⟩
 have hnd:=hrep.nodup
 simp only[q7.keys,List.map_cons,List.nodup_cons]at hnd
 have hbH:b∈s.H.keys:=List.mem_map.2 ⟨_,hH.mem_iff.2 (List.mem_cons_self ..),rfl⟩
 have hkeys:∀x,x∈(fzS b m e xs rest s).H.keys->x∈s.H.keys:=by
  intro x hx
  simp only[fzS,q7.keys,List.map_map,Function.comp_def]at hx
  obtain⟨p,hp,rfl⟩:=List.mem_map.1 hx
  exact List.mem_map.2 ⟨p,hH.mem_iff.2 (List.mem_cons_of_mem _ hp),rfl⟩
 have himm:∀x,x≠b->g'.imm x=g.imm x:=fun x hx=>by rw[hgi];simp[upd,hx]
 refine h a w g' β ?_
 exact {
  defers:=hS.defers
  size:=hS.size
  env:=fun t=>by
   have ht:=hS.env t
   show TVR c.P _ g' w β (V2 b m e xs (s.env t)) _
   cases he:s.env t with
   | av d x=>rw[he]at ht;exact hfz _ _ _ ht
   | cst cc=>rw[he]at ht;exact ht
   | loc k path =>
    rw[he]at ht
    obtain⟨d,x,off,d',h1,h2,h3⟩:=ht
    exact⟨d,fzA b m e xs x,off,d',by simp[fzS,h1],h2,h3⟩
   | pel d x =>
    rw[he]at ht
    obtain⟨h0,b',off,h1,h2,h3⟩:=ht
    exact⟨h0,b',off,h1,Nat.le_trans h2 (hle.1 b'),zP hle hi hk _ _ _ h3⟩
   | tup l=>rw[he]at ht;obtain⟨us,h3,h4⟩:=ht;exact⟨us,h3,zeg hfz h4⟩
   | junk=>trivial
  locs:=fun k d x hx=>by
   simp only[fzS,Option.map_eq_some_iff]at hx
   obtain⟨⟨d',x'⟩,h1,h2⟩:=hx
   simp only[Prod.mk.injEq]at h2
   obtain⟨rfl,rfl⟩:=h2
   have hL:=hS.locs k d' x' h1
   obtain⟨cs',hc',hv'⟩:=hL.block
   exact⟨hL.base,fun hb=>hL.noH (hkeys _ hb),by rw[himm _ (fun ee=>hL.noH (by rw[ee];exact hbH))];exact hL.imm,cs',hc',hfc _ _ _ hv'⟩
  inj:=fun k j h1 h2=>hS.inj k j (by intro h3;apply h1;simp[fzS,h3]) (by intro h3;apply h2;simp[fzS,h3])
  rep:=by
   refine⟨fun x hx=>?_,?_,fun x o ho=>?_,hrep.tab.keep hle hi hk⟩
   ·rw[hgi]at hx |-
    simp only[upd]at hx |-
    split
    ·rename_i ee;rw[ee];exact⟨cs,E,fz,hc,by rw[hsz];exact Nat.le_refl _⟩
    ·rename_i ee;rw[if_neg ee]at hx;exact hrep.imm x hx
   ·simp only[fzS,q7.keys,List.map_map,Function.comp_def];exact hnd.2
   ·simp only[fzS,List.mem_map]at ho
    obtain⟨⟨x',o'⟩,ho',h2⟩:=ho
    simp only[Prod.mk.injEq]at h2
    obtain⟨rfl,rfl⟩:=h2
    have hne:x'≠b:=fun ee=>hnd.1 (by rw[<-ee];exact List.mem_map.2 ⟨(x',o'),ho',rfl⟩)
    have hob:=hrep.obj x' o' (List.mem_cons_of_mem _ ho')
    cases o' with
    | var d y=>obtain⟨q1,cs',q2,q3⟩:=hob;exact⟨(himm _ hne).trans q1,cs',q2,hfc _ _ _ q3⟩
    | map k e es=>obtain⟨q1,en,ck,q2,q3⟩:=hob;exact⟨(himm _ hne).trans q1,en,ck,q2,QY hle hi hk q3.1,q3.2⟩
    | raw o i0 w0=>obtain⟨q1,q2,q3⟩:=hob;exact⟨(himm _ hne).trans q1,q2,kW q3 hle hk⟩
  toks:=fun k t hx=>by
   rw[hgg]at hx
   have hT:=hS.toks k t hx
   exact⟨hT.base,fun hb=>hT.noH (hkeys _ hb),fun j hj=>hT.noLoc j (by intro h3;apply hj;simp[fzS,h3]),by rw[himm _ (fun ee=>hT.noH (by rw[ee];exact hbH))];exact hT.imm,hT.block⟩
  tokd:=fun k k' t t' h1 h2=>by rw[hgg]at h1 h2;exact hS.tokd k k' t t' h1 h2
  toknew:=fun k v hv=>by rw[hgg];exact hS.toknew k v hv
  step:=by
   have st:=hS.step
   exact {
    os:=st.os,tape:=st.tape,output:=st.output,size:=st.size,drawn:=st.drawn
    frame:=fun x hx hn=>by
     obtain⟨q1,q2⟩:=st.frame x hx hn
     have hne:x≠b:=fun ee=>by
      rcases st.dom b hbH with h1|h1
      ·exact hn (by rw[ee];exact h1)
      ·omega
     exact⟨q1,by rw[himm _ hne];exact q2⟩
    imm:=fun x=>Nat.le_trans (st.imm x) (hle.1 x)
    kept:=st.kept
    dom:=fun x hx=>st.dom x (hkeys _ hx) } }
theorem AT.fzLe {c:Ctx} {code:Code} {K:Exit->St->Prop} {s s':St} {b m:Nat} {e:TypeId} {xs:List AV} {rest:q7} (hl:laidOutB c.P=true)
  (hH:s.H.Perm ((b,.var (.arr m e) (.agg xs))::rest)) (hle:Le (fzS b m e xs rest s) s') (h:AT c code K s'):AT c code K s :=
 AT.freeze hl hH fun a w g β hS=>h a w g β (hS.weaken hle)
end Go.Ab
end
