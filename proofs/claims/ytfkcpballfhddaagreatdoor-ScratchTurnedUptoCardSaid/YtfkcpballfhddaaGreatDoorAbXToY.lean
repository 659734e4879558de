/- ### what a claim's reading tells, as values. No condition. -/
import Derived.Test.YtfkcpballfhddaaGreatDoorAbSToSm
import Derived.OpenShut
import Derived.ProofKit
set_option linter.unusedSimpArgs false
set_option linter.unusedVariables false
set_option linter.unusedSectionVars false
section
namespace Go.Ab
open Go
open Classical
variable [Sel]
def WA (P:Program):Nat->TypeId->Bool
 | 0,_=>false
 | n+1,t=>match q9 P t with
  | .bool=>true
  | .int _=>true
  | .str=>true
  | .struct fs=>fs.all (WA P n)
  | .arr _ e=>WA P n e
  | .slice e=>k7 P e&&WA P n e
  | _=>false

mutual
def W2 {H:Type}:DataW H->AV
 | .lit (.bool b)=>.b b
 | .lit (.int k n)=>.i k n
 | .lit (.string s)=>.s s
 | .nil=>.sl .no []
 | .slice es _=>.sl .no (Y5 es)
 | .agg ps=>.agg (Y5 ps)
 | _=>.nilfn
def Y5 {H:Type}:List (DataW H)->List AV
 | []=>[]
 | d::r=>W2 d::Y5 r
end
theorem YZ {H:Type}:∀l:List (DataW H),Y5 l=l.map W2
 | []=>rfl
 | d::r=>by simp[Y5,YZ r]
def WTy (P:Program):Nat->TypeId->AV->Prop
 | 0,_,_=>False
 | n+1,t,x=>match q9 P t with
  | .bool=>∃b,x=.b b
  | .int k=>∃m,x=.i k m/\(Lit.int k m).wf=true
  | .str=>∃s,x=.s s/\s.length<=maxLen
  | .struct fs=>∃xs,x=.agg xs/\xs.length=fs.length/\∀(i:Nat) f y,fs[i]?=some f->xs[i]?=some y->WTy P n f y
  | .arr m e=>∃xs,x=.agg xs/\xs.length=m/\∀y∈xs,WTy P n e y
  | .slice e=>∃xs,x=.sl .no xs/\xs.length<=maxLen/\∀y∈xs,WTy P n e y
  | _=>False
def J8 (w:World) (b:Nat):Nat:=match w.heap[b]? with
 | some (.cells cs _ _)=>cs.size
 | _=>0
theorem zn0 (w:World):ZI (g0 (J8 w)) w:=by
 intro b hb
 simp only[g0,J8]at hb |-
 grind
theorem znm {P:Program} {g:Gh} {w:World} {e:TypeId}:∀(xs:List AV) (cs:List Value),cs.length=xs.length*P.cellsOf e->
  (∀(i:Nat) x,xs[i]?=some x->VC P g w (q9 P e) x ((cs.drop (i*P.cellsOf e)).take (P.cellsOf e)))->VL P g w e xs cs
 | [],cs,h,_=>by simp_all[VL]
 | x::xs,cs,h,hp=>by
  simp only[VL]
  refine⟨cs.take (P.cellsOf e),cs.drop (P.cellsOf e),(List.take_append_drop _ _).symm,by simpa using hp 0 x rfl,znm xs _ ?_ ?_⟩
  ·simp[h,Nat.succ_mul]
  ·intro i y hy
   have:=hp (i+1) y (by simp_all)
   simp_all[Nat.succ_mul,Nat.add_comm]
theorem vS {α β:Type} {f:α->Option β}:∀ {l:List α} {ys:List β},l.mapM f=some ys->ys.length=l.length/\∀(i:Nat) x,l[i]?=some x->∃y,ys[i]?=some y/\f x=some y
 | [],ys,h=>by simp_all
 | a::l,ys,h=>by
  simp only[List.mapM_cons,Option.pure_def,Option.bind_eq_bind,Option.bind_eq_some_iff,Option.some.injEq]at h
  obtain⟨b,h1,bs,h2,rfl⟩:=h
  have ih:=vS h2
  grind
theorem zqU {P:Program} {g:Gh} {w:World}:∀(fs:List TypeId) (xs:List AV) (cs:List Value),xs.length=fs.length->cs.length=(fs.map P.cellsOf).sum->
  (∀(i:Nat) f x,fs[i]?=some f->xs[i]?=some x->VC P g w (q9 P f) x ((cs.drop ((fs.take i).map P.cellsOf).sum).take (P.cellsOf f)))->VF P g w fs xs cs
 | [],[],cs,_,h,_=>by simp_all[VF]
 | [],_::_,_,h,_,_=>by simp at h
 | _::_,[],_,h,_,_=>by simp at h
 | f::fs,x::xs,cs,hn,h,hp=>by
  simp only[VF]
  refine⟨f,fs,cs.take (P.cellsOf f),cs.drop (P.cellsOf f),rfl,(List.take_append_drop _ _).symm,by simpa using hp 0 f x rfl rfl,zqU fs xs _ (by simp_all) ?_ ?_⟩
  ·simp[h]
  ·intro i f' y hf hy
   have:=hp (i+1) f' y (by simp_all) (by simp_all)
   simp_all
theorem zjn {w:World} {a:Addr} {i:Nat} {y:Value} (h:w.cell? (a.add i)=some y):(i=0->a.spot=none)/\∃c E fz,w.heap[a.block]?=some (.cells c E fz)/\c[a.off+i]?=some y:=by
 unfold World.cell? Addr.add at h
 by_cases hi:i=0
 ·subst hi
  simp only[if_true]at h
  split at h
  ·simp_all
  ·cases h
 grind
theorem zan {w:World} {a:Addr} {n:Nat} {cs:List Value} (h:w.cells? 0 a n=some cs):cs.length=n/\(0<n->a.spot=none/\a.off+n<=J8 w a.block/\cs=zU w a.block a.off n):=by
 unfold World.cells? at h
 rw[if_pos (Nat.zero_le _)]at h
 have hm:=vS h
 have hlen:cs.length=n:=by simp_all
 refine⟨hlen,fun hn=>?_⟩
 have get:∀i,i<n->∃y,cs[i]?=some y/\w.cell? (a.add i)=some y:=fun i hi=>hm.2 i i (by simp[hi])
 obtain⟨y0,_,h0⟩:=get 0 hn
 obtain⟨hs,c,E,fz,hb,_⟩:=zjn h0
 have all:∀i,i<n->cs[i]?=c[a.off+i]?/\a.off+i<c.size:=by
  grind [zjn]
 refine⟨hs rfl,?_,?_⟩
 ·have:=(all (n-1) (by omega)).2
  grind [J8]
 ·simp only[zU,hb]
  apply List.ext_getElem?
  grind
theorem zaq {H:Type} {enc:TypeId × Value->H} {P:Program} (hl:laidOutB P=true) {w:World} {spare:Nat->Bool} {held:Bool}:∀(fuel n:Nat) (t:TypeId) (cs:List Value) (d:DataW H) (ps:List MemPlace),
  DataW.trod enc P w 0 spare held fuel t cs=some (d,ps)->WA P n t=true->VC P (g0 (J8 w)) w (q9 P t) (W2 d) cs/\WTy P n t (W2 d)
 | 0,_,_,_,_,_,h,_=>by simp[DataW.trod]at h
 | fuel+1,0,_,_,_,_,_,hp=>by simp[WA]at hp
 | fuel+1,n+1,t,cs,d,ps,h,hp=>by
  have ih:=fun n t cs d ps h hp=>zaq (enc:=enc) hl (w:=w) (spare:=spare) (held:=held) fuel n t cs d ps h hp
  have hne:q9 P t≠.other:=by intro e;simp[WA,e]at hp
  have hlt:=J3 hne
  have hsz:=jG hl hne
  obtain⟨u,hu,hm⟩:=qO (d:=q9 P t) rfl hne
  unfold DataW.trod at h
  rw[hu]at h
  simp only[WTy]
  cases hT:q9 P t<;>rw[hT]at hm hsz<;>simp only[zP]at hm<;>simp only[WA,hT]at hp
  case bool =>
   subst hm
   split at h
   all_goals first|(rename_i heq _;cases heq;done)|(rename_i heq;cases heq;done)|(rename_i heq _ _;cases heq;done)|(cases h;done)|skip
   cases h
   simp[VC,W2]
  case int k =>
   subst hm
   split at h
   all_goals first|(rename_i heq _;cases heq;done)|(rename_i heq;cases heq;done)|(rename_i heq _ _;cases heq;done)|(cases h;done)|skip
   rename_i heq
   cases heq
   split at h
   ·rename_i hk
    obtain⟨rfl,hk⟩:=hk
    cases h
    simp[VC,W2,hk]
   ·cases h
  case str =>
   subst hm
   split at h
   all_goals first|(rename_i heq _;cases heq;done)|(rename_i heq;cases heq;done)|(rename_i heq _ _;cases heq;done)|(cases h;done)|skip
   split at h
   ·rename_i s hk
    cases h
    simp[VC,W2]
    exact hk
   ·cases h
  case struct fs =>
   obtain⟨F,rfl,rfl,hnm⟩:=hm
   split at h
   all_goals first|(rename_i heq _;cases heq;done)|(rename_i heq;cases heq;done)|(rename_i heq _ _;cases heq;done)|(cases h;done)|(exfalso;clear ih;simp_all;done)|skip
   rename_i cs q1 q2 q3 heq
   cases heq
   split at h
   ·rename_i hlen
    simp only[Option.map_eq_some_iff,Prod.mk.injEq]at h
    obtain⟨xs,hx,rfl,rfl⟩:=h
    have hm:=vS hx
    have pt:∀(i:Nat) f x,(F.toList.map (·.type))[i]?=some f->(Y5 (xs.map (·.1)))[i]?=some x->VC P (g0 (J8 w)) w (q9 P f) x ((cs.drop (((F.toList.map (·.type)).take i).map P.cellsOf).sum).take (P.cellsOf f))/\WTy P n f x:=by
     intro i f x hf hx'
     rw[List.getElem?_map,Option.map_eq_some_iff]at hf
     obtain⟨fd,hfd,rfl⟩:=hf
     obtain⟨y,hy,hz⟩:=hm.2 i fd hfd
     rw[YZ,List.getElem?_map,List.getElem?_map,hy]at hx'
     simp only[Option.map_some,Option.some.injEq]at hx'
     subst hx'
     have:=ih n fd.type _ y.1 y.2 (by rw[hz]) (List.all_eq_true.1 hp _ (List.mem_map.2 ⟨fd,List.mem_of_getElem? hfd,rfl⟩))
     rw[uC hl hlt hu (i:=i) (by simpa using hfd)]at this
     exact this
    have hl1:(Y5 (xs.map (·.1))).length=(F.toList.map (·.type)).length:=by simp[YZ,hm.1]
    refine⟨?_,_,rfl,hl1,fun i f y h1 h2=>(pt i f y h1 h2).2⟩
    simp only[W2,VC]
    exact zqU _ _ _ hl1 (by rw[hlen,hsz];rfl) fun i f x h1 h2=>(pt i f x h1 h2).1
   ·cases h
  case arr m e =>
   subst hm
   split at h
   all_goals first|(rename_i heq _;cases heq;done)|(rename_i heq;cases heq;done)|(rename_i heq _ _;cases heq;done)|(cases h;done)|(exfalso;clear ih;simp_all;done)|skip
   rename_i cs q1 q2 q3 q4 heq
   cases heq
   split at h
   ·rename_i hlen
    simp only[Option.map_eq_some_iff,Prod.mk.injEq]at h
    obtain⟨xs,hx,rfl,rfl⟩:=h
    have hm:=vS hx
    have hl1:(Y5 (xs.map (·.1))).length=m:=by simpa[YZ]using hm.1
    have pt:∀(i:Nat) x,(Y5 (xs.map (·.1)))[i]?=some x->VC P (g0 (J8 w)) w (q9 P e) x ((cs.drop (i*P.cellsOf e)).take (P.cellsOf e))/\WTy P n e x:=by
     intro i x hx'
     have hi:i<m:=by have:=(List.getElem?_eq_some_iff.1 hx').1;omega
     obtain⟨y,hy,hz⟩:=hm.2 i i (by simp[hi])
     rw[YZ,List.getElem?_map,List.getElem?_map,hy]at hx'
     simp only[Option.map_some,Option.some.injEq]at hx'
     subst hx'
     exact ih n e _ y.1 y.2 (by rw[hz]) hp
    refine⟨?_,_,rfl,hl1,fun y hy=>?_⟩
    ·simp only[W2,VC]
     exact⟨hl1,znm _ _ (by rw[hl1,hlen,hsz];rfl) fun i x h1=>(pt i x h1).1⟩
    ·obtain⟨i,hi⟩:=List.getElem?_of_mem hy
     exact(pt i y hi).2
   ·cases h
  case slice e =>
   subst hm
   simp only[Bool.and_eq_true]at hp
   split at h
   all_goals first|(rename_i heq _;cases heq;done)|(rename_i heq;cases heq;done)|(rename_i heq _ _;cases heq;done)|(cases h;done)|skip
   ·rename_i heq
    cases heq
    cases h
    refine⟨?_,[],rfl,by simp,by simp⟩
    simp only[W2,VC]
    exact⟨e,none,0,rfl,rfl,by simp,.inl trivial,trivial⟩
   ·rename_i a len cap heq
    cases heq
    split at h
    ·rename_i hc
     simp only[Option.bind_eq_some_iff,Option.map_eq_some_iff,Prod.mk.injEq]at h
     obtain⟨elems,he,rest,hrest,rfl,rfl⟩:=h
     have hm:=vS he
     have hlen:(Y5 (elems.map (·.1))).length=len:=by simpa[YZ]using hm.1
     have hpos:0<P.cellsOf e:=by simpa[k7]using hp.1
     have pt:∀(i:Nat) x,(Y5 (elems.map (·.1)))[i]?=some x->∃ci,w.cells? 0 (a.add (i*P.cellsOf e)) (P.cellsOf e)=some ci/\VC P (g0 (J8 w)) w (q9 P e) x ci/\WTy P n e x:=by
      intro i x hx'
      have hi:i<len:=by have:=(List.getElem?_eq_some_iff.1 hx').1;omega
      obtain⟨y,hy,hz⟩:=hm.2 i i (by simp[hi])
      rw[YZ,List.getElem?_map,List.getElem?_map,hy]at hx'
      simp only[Option.map_some,Option.some.injEq]at hx'
      subst hx'
      rw[Option.bind_eq_some_iff]at hz
      obtain⟨ci,h1,h2⟩:=hz
      exact⟨ci,h1,ih n e _ y.1 y.2 (by rw[h2]) hp.2⟩
     refine⟨?_,_,rfl,by rw[hlen];omega,fun y hy=>?_⟩
     ·simp only[W2,VC]
      refine⟨e,some a,cap,rfl,by rw[hlen],by rw[hlen];exact hc.2.1,?_,trivial⟩
      by_cases h0:len=0
      ·left;exact List.eq_nil_of_length_eq_zero (by rw[hlen,h0])
      ·right
       have at_:∀i,i<len->∃x ci,(Y5 (elems.map (·.1)))[i]?=some x/\w.cells? 0 (a.add (i*P.cellsOf e)) (P.cellsOf e)=some ci/\VC P (g0 (J8 w)) w (q9 P e) x ci:=by
        intro i hi
        have hx:i<(Y5 (elems.map (·.1))).length:=by omega
        obtain⟨ci,h1,h2,_⟩:=pt i _ (List.getElem?_eq_getElem hx)
        exact⟨_,ci,List.getElem?_eq_getElem hx,h1,h2⟩
       have addr:∀i,(a.add (i*P.cellsOf e)).block=a.block/\(a.add (i*P.cellsOf e)).off=a.off+i*P.cellsOf e:=by
        intro i
        unfold Addr.add
        split
        ·rename_i h;simp[h]
        ·simp
       have hs:a.spot=none:=by
        obtain⟨x,ci,_,h1,_⟩:=at_ 0 (by omega)
        have:=((zan h1).2 hpos).1
        simpa[Addr.add]using this
       have himm:a.off+len*P.cellsOf e<=J8 w a.block:=by
        obtain⟨x,ci,_,h1,_⟩:=at_ (len-1) (by omega)
        have:=((zan h1).2 hpos).2.1
        rw[(addr _).1,(addr _).2]at this
        have e2:len*P.cellsOf e=(len-1)*P.cellsOf e+P.cellsOf e:=by
         conv=>lhs;rw[show len=(len-1)+1 by omega,Nat.succ_mul]
        omega
       refine⟨a.block,a.off,?_,by rw[hlen];exact himm,?_⟩
       ·cases a;simp only at hs;subst hs;rfl
       ·rw[hlen]
        refine znm _ _ ?_ fun i x hx=>?_
        ·have hb:0<J8 w a.block:=by
          have:0<len*P.cellsOf e:=Nat.mul_pos (by omega) hpos
          omega
         unfold J8 at hb himm
         split at hb
         ·rename_i c E fz hh
          rw[hh]at himm
          rw[zbn hh himm,hlen]
         ·omega
        ·obtain⟨ci,h1,h2,_⟩:=pt i x hx
         have hi:i<len:=by have:=(List.getElem?_eq_some_iff.1 hx).1;omega
         have h3:=((zan h1).2 hpos).2.2
         rw[(addr _).1,(addr _).2]at h3
         rw[h3]at h2
         have e4:((zU w a.block a.off (len*P.cellsOf e)).drop (i*P.cellsOf e)).take (P.cellsOf e)=zU w a.block (a.off+i*P.cellsOf e) (P.cellsOf e):=by
          have e5:(i+1)*P.cellsOf e<=len*P.cellsOf e:=Nat.mul_le_mul_right _ hi
          rw[Nat.succ_mul]at e5
          unfold zU
          split
          ·rw[List.drop_take,List.drop_drop,List.take_take]
           congr 1
           omega
          ·simp
         rw[e4];exact h2
     ·obtain⟨i,hi⟩:=List.getElem?_of_mem hy
      obtain⟨_,_,_,h3⟩:=pt i y hi
      exact h3
    ·cases h
  all_goals simp at hp
end Go.Ab
end
section
namespace Go.Ab
open Go Go.ChangeShapes Go.WideShapes Go.ChangeAt Go.RowKit
open Classical
variable [Sel]
theorem zjZ {P:Program} {w:World} {base n:Nat} {t:TypeId} {v:Value} (hp:WA P n t=true) (h:Value.okWide P w .any base t v):kK (q9 P t) v:=by
 cases n with
 | zero=>grind [WA]
 | succ n =>
  have hne:q9 P t≠.other:=by grind [WA]
  obtain⟨u,hu,hm⟩:=qO (d:=q9 P t) rfl hne
  unfold Value.okWide at h
  rw[hu]at h
  cases hT:q9 P t<;>rw[hT]at hm<;>simp only[zP]at hm<;>simp only[WA,hT]at hp
  case struct fs =>
   obtain⟨F,rfl,_,_⟩:=hm
   obtain⟨cs,rfl,_⟩:=h
   rfl
  case arr m e =>
   subst hm
   obtain⟨cs,rfl,_⟩:=h
   rfl
  case bool=>subst hm;cases v<;>simp_all[Cell.okWide,Cell.ok,kK,TyD.isAgg]
  case int=>subst hm;cases v<;>simp_all[Cell.okWide,Cell.ok,kK,TyD.isAgg]
  case str=>subst hm;cases v<;>simp_all[Cell.okWide,Cell.ok,kK,TyD.isAgg]
  case slice=>subst hm;cases v<;>simp_all[Cell.okWide,Cell.ok,kK,TyD.isAgg]
  all_goals simp at hp

def GJ {H:Type} (P:Program):List TypeId->List (DataW H)->List TV
 | t::ts,d::ds=>.av (q9 P t) (W2 d)::GJ P ts ds
 | _,_=>[]

theorem zbt {H:Type} {enc:TypeId × Value->H} {P:Program} (hl:laidOutB P=true) {W:World} {base n:Nat}:∀(ts:List TypeId) (vs:List Value) (ds:List (DataW H)) (ps:List MemPlace),
  DataW.TrodAll enc P W 0 (fun _=>true) true ts vs ds ps->(∀t∈ts,WA P n t=true)->(∀(j:Nat) t v,ts[j]?=some t->vs[j]?=some v->Value.okWide P W .any base t v)->
  ARs P (g0 (J8 W)) W (GJ P ts ds) vs/\ds.length=ts.length/\∀(j:Nat) t d,ts[j]?=some t->ds[j]?=some d->WTy P n t (W2 d)
 | [],[],[],_,_,_,_=>⟨trivial,rfl,by simp⟩
 | t::ts,v::vs,d::ds,ps,h,hp,hv=>by
  simp only[DataW.TrodAll]at h
  obtain⟨p,q,⟨fuel,h1⟩,h2,rfl⟩:=h
  obtain⟨r1,r2⟩:=zaq hl fuel n t _ d p h1 (hp t (by simp))
  obtain⟨i1,i2,i3⟩:=zbt hl ts vs ds q h2 (fun t ht=>hp t (by simp[ht])) (fun j t v a b=>hv (j+1) t v (by simpa using a) (by simpa using b))
  refine⟨⟨⟨zjZ (hp t (by simp)) (hv 0 t v rfl rfl),r1⟩,i1⟩,by simp[i2],fun j t' d' a b=>?_⟩
  grind
 | [],[],_::_,_,h,_,_=>by grind [DataW.TrodAll]
 | [],_::_,_,_,h,_,_=>by grind [DataW.TrodAll]
 | _::_,[],_,_,h,_,_=>by grind [DataW.TrodAll]
 | _::_,_::_,[],_,h,_,_=>by grind [DataW.TrodAll]

theorem gP {H:Type} {enc:TypeId × Value->H} {P:Program} (hl:laidOutB P=true) {W W':World} (hb:RowKit.Below W.heap.size W W') {sp:Nat->Bool}:∀(ts:List TypeId) (vs:List Value) (ds:List (DataW H)) (ps:List MemPlace),
  DataW.TrodAll enc P W 0 (fun _=>true) true ts vs ds ps->(∀t∈ts,P.readableRec t=true/\t<P.types.size)->(∀p∈ps,p.block<W.heap.size)->(∀p∈ps,sp p.block=true)->DataW.TrodAll enc P W' 0 sp true ts vs ds ps
 | [],[],[],_,h,_,_,_=>h
 | t::ts,v::vs,d::ds,ps,h,hp,hlt,hsp=>by
  simp only[DataW.TrodAll]at h |-
  obtain⟨p,q,h1,h2,rfl⟩:=h
  exact⟨p,q,WideElems.Trod_stays hl (hp t (by simp)).1 (hp t (by simp)).2 h1 (fun x hx=>hb.same (hlt x (by simp[hx]))) (fun x hx=>hsp x (by simp[hx])),
   gP hl hb ts vs ds q h2 (fun t ht=>hp t (by simp[ht])) (fun x hx=>hlt x (by simp[hx])) (fun x hx=>hsp x (by simp[hx])),rfl⟩
 | [],[],_::_,_,h,_,_,_=>by assumption
 | [],_::_,_,_,h,_,_,_=>by assumption
 | _::_,[],_,_,h,_,_,_=>by assumption
 | _::_,_::_,[],_,h,_,_,_=>by assumption

theorem JN.below {imm imm':Nat->Nat} {W W':World} {H':q8} (h:JN imm [] W imm' H' W'):RowKit.Below W.heap.size W W' :=
 ⟨h.os,h.tape,h.output,h.size,fun k hk=>(h.frame k hk (by simp[q8.keys])).1⟩

theorem P1 {H:Type} {enc:TypeId × Value->H} {P:Program} (hl:laidOutB P=true) {f:FuncId} {fn:Func} {s:ChangeSpec} (hv0:s.vars=[]) {tb:TypeId} (hres:fn.resultTypes=#[tb]) (hub:P.underlying tb=some .bool) {n:Nat}
  (hpl:fn.params.toList.all (fun t=>WA P n t&&P.readableRec t&&decide (t<P.types.size))=true) {apart fresh handsOn again:Bool} {W:World} {base:Nat} {args:Array Value} {ds gs:List (DataW H)} {before:List MemPlace}
  (hval:∀(j:Nat) t v,fn.params[j]?=some t->args[j]?=some v->Value.okWide P W .any base t v)
  (hW:DataW.Whole enc P fn.params.toList s.vars apart W args.toList ds gs before)
  (htab:UA P (J8 W) W)
  (hfn:ds.length=fn.params.size->s.fn H ds={ results:=[.lit (.bool true)],args:=ds })
  (hcall:ds.length=fn.params.size->(∀(j:Nat) t d,fn.params[j]?=some t->ds[j]?=some d->WTy P n t (W2 d))->PC P f (GJ P fn.params.toList ds) (.av .bool (.b true))) :
  Calls P f args W fun e W'=>∃v,e=.returned v/\s.post enc P fn apart fresh handsOn again W args v W':=by
 have hW0:=hW
 obtain⟨p,q,hA,hV,rfl,hz,hn⟩:=hW
 rw[hv0]at hV
 obtain⟨rfl,rfl⟩:=trodVars_none hV
 simp only[List.all_eq_true,Bool.and_eq_true,decide_eq_true_eq]at hpl
 obtain⟨h1,h2,h3⟩:=zbt hl (n:=n) (base:=base) fn.params.toList args.toList ds p hA (fun t ht=>(hpl t ht).1.1) (fun j t v a b=>hval j t v (by simpa using a) (by simpa using b))
 have h2':ds.length=fn.params.size:=by omega
 have hc:=hcall h2' (fun j t d a b=>h3 j t d (by simpa using a) b)
 have:=hc (J8 W) W args ⟨zn0 W,by simp[q8.keys],by simp,htab⟩ h1
 refine this.mono fun e W' ⟨v,r,imm',H',he,⟨hr,hH⟩,hv,_,hst⟩=>?_
 subst hr hH
 have hb:=hst.below
 have hvt:v=.bool true:=by
  have h4:VC P (g0 imm') W' .bool (.b true) v.cells.toList:=hv.2
  have h5:kK .bool v:=hv.1
  simp only[VC]at h4
  cases v<;>simp_all[Value.cells,kK,TyD.isAgg]
 subst hvt
 refine⟨_,he,?_⟩
 have hlt:∀x∈p,x.block<W.heap.size:=fun x hx=>hW0.lt x (by simp_all)
 have hfs:s.fn H (ds++[])={ results:=[.lit (.bool true)],args:=ds }:=by simp_all
 have res:∀(b:Nat) (sp:Nat->Bool) (hd:Bool),DataW.TrodAll enc P W' b sp hd fn.resultTypes.toList ((Value.bool true).resultList fn.resultTypes.size) [.lit (.bool true)] []:=by
  intro b sp hd
  rw[hres]
  exact trodAll_cons_mk (shut_bool hub true) trodAll_mk0
 have argsB:∀sp:Nat->Bool,(∀x∈p,sp x.block=true)->DataW.TrodAll enc P W' 0 sp true fn.params.toList args.toList ds p:=fun sp hsp =>
  gP hl hb _ _ _ _ hA (fun t ht=>⟨(hpl t ht).1.2,(hpl t ht).2⟩) hlt hsp
 have vars:∀sp:Nat->Bool,DataW.TrodVars enc P W' sp s.vars ([]:List (DataW H)) []:=fun sp=>by rw[hv0];rfl
 have old:∀x∈p,(fun b=>decide (b<W.heap.size)) x.block=true:=fun x hx=>by simp_all
 refine⟨ds,[],p++[],[],p,[],hW0,by grind,by simp_all,by simp_all,World.keptBut_mono (fun x hx=>⟨by simp_all,.inr (.inl hx)⟩) (hb.frame (·∈p)),fun _=>?_⟩
 refine⟨ok_one hres rfl (okWide_bool_mk hub true),[.lit (.bool true)]++ds,[],([]++p)++[],⟨[]++p,[],?_,vars _,rfl,?_,?_⟩,?_⟩
 ·rw[hres]
  exact trodAll_cons_mk (shut_bool hub true) (argsB _ (fun _ _=>rfl))
 ·intro b off hp
  have hin:MemPlace.cell b off∈p:=by simp_all
  rw[hb.frozen (hlt _ hin)]
  exact hz b off (by simp_all)
 ·simp_all
 simp_all
end Go.Ab
end
