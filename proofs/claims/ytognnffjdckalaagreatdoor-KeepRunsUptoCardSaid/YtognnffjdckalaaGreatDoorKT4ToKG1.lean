/- The sort of texts. No condition. -/
import Derived.Test.YtognnffjdckalaaGreatDoorKR4ToKD0
import Derived.Test.YtognnffjdckalaaGreatDoorShelf5
set_option linter.unusedSimpArgs false
set_option linter.unusedVariables false
set_option linter.unusedSectionVars false
set_option maxHeartbeats 64000000
section
set_option maxRecDepth 100000
namespace Go.Proofs.YtognnffjdckalaaGreatDoor
open Go Go.Ab
open Classical
open Go.Sort (grow mapBlock putCells putRow ahead Holds onCells)
section
variable [Sel]
theorem zcz {P:Program} {g:Gh} {w:World} {e:TypeId}:∀ {xs ys:List AV} {c:List Value},VL P g w e (xs++ys) c->∃c1 c2,c=c1++c2/\VL P g w e xs c1/\VL P g w e ys c2
 | [],ys,c,h=>⟨[],c,rfl,by simp[VL],h⟩
 | x::xs,ys,c,h=>by
  simp only[List.cons_append,VL]at h
  obtain⟨a,r,rfl,h1,h2⟩:=h
  obtain⟨c1,c2,rfl,h3,h4⟩:=zcz h2
  exact⟨a++c1,c2,by simp,by simp only[VL];exact⟨a,c1,rfl,h1,h3⟩,h4⟩
theorem pS {w:World} {b:Nat} {cs:Array Value} {E:TypeId} {fz:Nat × Nat} (hb:w.heap[b]?=some (.cells cs E fz)) (f:Array Value->Array Value):mapBlock w b f=w.setRow b (f cs):=by
 have hlt:=(Array.getElem?_eq_some_iff.1 hb).1
 unfold mapBlock World.setRow
 congr 1
 apply Array.ext_getElem?
 intro k
 simp only[Array.getElem?_modify]
 by_cases hk:b=k
 ·subst hk
  simp[hb,onCells]
 ·simp[hk]
theorem qX.grow2 {c:Ctx} {s:St} {a:Act} {w:World} {g:Gh} {β:Nat->Nat} (h:qX c s a w g β):∀(l:List Obj),qX c s a (Go.Sort.grow w l.toArray) g β:=by
 intro l
 induction l generalizing w with
 | nil=>simpa using h
 | cons o l ih =>
  have h1:=h.push o 0 (by omega)
  have eg:({ g with imm:=upd g.imm w.heap.size 0 }:Gh)=g:=by
   have:upd g.imm w.heap.size 0=g.imm:=by
    funext b;simp only[upd];split
    ·rename_i e;rw[e,Q6 h.rep.imm (Nat.le_refl _)]
    ·rfl
   rw[this]
  rw[eg]at h1
  have h2:=ih h1
  have e2:Go.Sort.grow (World.push' w o) l.toArray=Go.Sort.grow w (o::l).toArray:=by
   unfold Go.Sort.grow World.push'
   simp only[World.mk.injEq,and_true]
   apply Array.toList_inj.1
   simp only[Array.toList_append,Array.toList_push,List.append_assoc,List.cons_append,List.nil_append]
  rw[e2]at h2
  exact h2
abbrev enS:List UInt8->Value:=fun l=>Value.string ⟨l.toArray⟩
theorem zds {P:Program} {g:Gh} {w:World} {e:TypeId} (he:q8 P e=.str):∀(d:List Txt) (c:List Value),VL P g w e (strs d) c<->c=d.map enS
 | [],c=>by simp[strs,VL]
 | b::d,c=>by
  have ih:=zds (g:=g) (w:=w) he d
  simp only[strs,List.map_cons,VL]at ih |-
  constructor
  ·rintro⟨c1,c2,rfl,h1,h2⟩
   rw[he]at h1
   simp only[VC]at h1
   rw[h1.2,(ih c2).1 h2];rfl
  ·rintro rfl
   exact⟨[_],_,rfl,by rw[he];simp[VC],(ih _).2 rfl⟩
theorem zaI (F:Array (List UInt8)) (cs:Array Value) (h:F.size<=cs.size):(putCells enS 0 F cs).toList=F.toList.map enS++cs.toList.drop F.size:=by
 apply List.ext_getElem?
 intro t
 simp only[putCells,Array.getElem?_toList,Array.getElem?_mapIdx]
 by_cases ht:t<F.size
 ·rw[List.getElem?_append_left (by simpa using ht),Array.getElem?_eq_getElem (by omega),Option.map_some,if_pos ⟨Nat.zero_le _,by omega⟩]
  rw[List.getElem?_map,Array.getElem?_toList,Array.getElem?_eq_getElem ht]
  simp[getElem!_pos F t ht]
 ·rw[List.getElem?_append_right (by simp;omega),List.getElem?_drop]
  have e1:F.size+(t-(F.toList.map enS).length)=t:=by simp;omega
  rw[e1,Array.getElem?_toList]
  cases hc:cs[t]? with
  | none=>rfl
  | some y=>rw[Option.map_some,if_neg (by omega)]
theorem PI (l:List Txt):(yV l).length=l.length:=by unfold yV;exact List.length_mergeSort _
theorem zkY (ts:List Txt) (b cap:Nat) (j:List AV) (hcap:ts.length+j.length=cap) (hn:ts.length<=1000000000) :
  q6 Tryz.prog 139 [.av (.slice 9) (.msl b 9 0 ts.length cap)] [(b,.var (.arr cap 9) (.agg (strs ts++j)))]
   fun r H'=>r=.tup []/\H'=[(b,.var (.arr cap 9) (.agg (strs (yV ts)++j)))]:=by
 intro imm w vs hrep hargs
 obtain⟨vs⟩:=vs
 match vs,hargs with
 | [v1],⟨h1,_⟩ =>
  obtain⟨f1,h1⟩:=h1
  simp only[VC]at h1
  obtain⟨_,h1⟩:=h1
  rw[qI rfl f1,Nat.zero_mul]at h1
  have e1:v1=.slice (some ⟨b,0,none⟩) ts.length cap:=by simpa using h1
  subst e1
  obtain⟨h0,cs,hcs,hvc⟩:=hrep.obj b (.var (.arr cap 9) (.agg (strs ts++j))) (by simp)
  obtain⟨E,fz,hb,hfz⟩:=WE hcs (by rw[ty9];simp)
  simp only[VC]at hvc
  obtain⟨hm,hvl⟩:=hvc
  obtain⟨c1,c2,hcc,hv1,hv2⟩:=zcz hvl
  have hst:=ty9
  rw[zds hst]at hv1
  subst hv1
  have hle:ts.length<=cs.size:=by
   rw[<-Array.length_toList,hcc];simp
  have hlt:b<w.heap.size:=(Array.getElem?_eq_some_iff.1 hb).1
  have hH:Holds enS w b 0 ts.toArray:=by
   intro t ht
   rw[Nat.zero_add]
   have ht':t<ts.length:=by simpa using ht
   refine⟨?_,?_⟩
   ·rw[KM hb]
    have e3:cs[t]?=cs.toList[t]?:=by simp
    rw[e3,hcc,List.getElem?_append_left (by simpa using ht'),List.getElem?_map,List.getElem?_eq_getElem ht',getElem!_pos _ t ht]
    rfl
   ·simp only[World.frozen?,hb,Bool.and_eq_false_iff,decide_eq_false_iff_not]
    omega
  have hcall:=Tryz.slices_Sort_string b 0 cap ts w hH hlt (by omega)
  refine Calls.mono hcall ?_
  rintro e w' ⟨rfl,n,os,rfl⟩
  have hS:qX ⟨Tryz.prog,0,imm,[(b,.var (.arr cap 9) (.agg (strs ts++j)))],w,none⟩ { env:=fun _=>.junk,loc:=fun _=>none,ver:=fun _=>0,H:=[(b,.var (.arr cap 9) (.agg (strs ts++j)))] } { tmps:=#[],defers:=[] } w (g0 imm) (fun _=>0):={
   defers:=⟨rfl,List.nodup_nil,fun D hD=>by simp at hD⟩
   size:=rfl
   env:=fun t=>trivial
   locs:=fun k d x e=>by simp at e
   inj:=fun k j e=>by simp at e
   rep:=hrep
   toks:=fun k t e=>by simp[g0]at e
   tokd:=fun k k' t t' e=>by simp[g0]at e
   toknew:=fun k v _=>rfl
   step:=W8.refl }
  have hsl:=PI ts
  have hsz:(yV ts).toArray.size=ts.length:=by simpa using hsl
  have hS1:=hS.drew (w.drawn+n) (Nat.le_add_right _ _)
  have hS2:=hS1.setH (b:=b) (d:=.arr cap 9) (x:=.agg (strs ts++j)) (y:=.agg (strs (yV ts)++j)) (cs:=putCells enS 0 (yV ts).toArray cs) (by simp[zU]) hcs (by simp[putCells]) (by
   rw[zaI _ _ (by rw[hsz];exact hle),hsz,hcc]
   have e4:(ts.map enS++c2).drop ts.length=c2:=by
    rw[List.drop_append,List.drop_of_length_le (by simp)];simp
   rw[e4]
   simp only[VC]
   refine⟨by rw[List.length_append,GY,hsl];exact hcap,wU ((zds hst _ _).2 rfl) (QH (w':={ w with drawn:=w.drawn+n }) (Gh.le_refl _) hrep.imm (fun b cs E fz _ hb=>⟨cs,E,fz,hb,rfl,fun _ _=>rfl⟩) _ _ _ hv2)⟩)
  have hS3:=qX.grow2 hS2 os.toList
  have ew:Go.Sort.grow (World.setRow { w with drawn:=w.drawn+n } b (putCells enS 0 (yV ts).toArray cs)) os.toList.toArray=grow (putRow enS (Go.Sort.ahead w n) b 0 (yV ts).toArray) os:=by
   unfold putRow
   rw[pS (w:=Go.Sort.ahead w n) (b:=b) (cs:=cs) (E:=E) (fz:=fz) hb]
   simp[Go.Sort.ahead]
  rw[ew]at hS3
  have eh:jZ [(b,HObj.var (.arr cap 9) (.agg (strs ts++j)))] b (.var (.arr cap 9) (.agg (strs (yV ts)++j)))=[(b,.var (.arr cap 9) (.agg (strs (yV ts)++j)))]:=by simp[jZ]
  refine⟨.tuple #[],.tup [],imm,[(b,.var (.arr cap 9) (.agg (strs (yV ts)++j)))],rfl,⟨rfl,rfl⟩,⟨[],rfl,trivial⟩,?_,?_⟩
  ·have:=hS3.rep
   simp only[eh]at this
   exact this
  ·have:=hS3.step
   simp only[eh]at this
   exact this
theorem zir:q6 Tryz.prog 139 [.av (.slice 9) (.sl .no [])] [] fun r H'=>r=.tup []/\H'=[]:=by
 intro imm w vs hrep hargs
 obtain⟨vs⟩:=vs
 match vs,hargs with
 | [v1],⟨h1,_⟩ =>
  obtain⟨f1,h1⟩:=h1
  simp only[VC]at h1
  obtain⟨e,a,cap,_,h1,_⟩:=h1
  rw[qI rfl f1]at h1
  have e1:v1=.slice a 0 cap:=by simpa using h1
  subst e1
  refine Calls.mono (Tryz.slices_Sort_string_none a cap w) ?_
  rintro e w' ⟨rfl,rfl⟩
  exact⟨.tuple #[],.tup [],imm,[],rfl,⟨rfl,rfl⟩,⟨[],rfl,trivial⟩,hrep,W8.refl⟩
end
end Go.Proofs.YtognnffjdckalaaGreatDoor
end
section
set_option maxRecDepth 100000
namespace Go.Proofs.YtognnffjdckalaaGreatDoor
open Go Go.Ab
open Classical
section
variable [Sel]
theorem q6.argNsl {P:Program} {f:FuncId} {e:TypeId} {args:List TV} {H:q7} {R:TV->q7->Prop} (h:q6 P f (.av (.slice e) (.sl .no [])::args) H R):q6 P f (.av (.slice e) .nsl::args) H R:=by
 intro imm w vs h1 h2
 refine h imm w vs h1 ?_
 obtain⟨vs⟩:=vs
 match vs,h2 with
 | v::r,⟨⟨f1,hv⟩,e2⟩ =>
  simp only[VC]at hv
  obtain⟨_,_,hv⟩:=hv
  exact⟨⟨f1,by simp only[VC];exact⟨e,none,0,rfl,hv,by simp,by simp[xV]⟩⟩,e2⟩
theorem ziz (l:List Txt):JK (strs l):=by
 unfold JK;simp[AV.erks_eq,strs,Function.comp_def,AV.er,AV.erk]
theorem zqp (n:Nat):JK (List.replicate n (AV.s [])):=JK.rep rfl _
abbrev TxS:TyD:=.slice 9
def wG (y b2:Nat) (done:List Txt) (H:q7):Prop :=
 (done=[]/\H=[(b2,.var TxS .nsl)])\/∃b cap j,JK j/\b≠b2/\b≠y/\done.length+j.length=cap/\H=[(b2,.var TxS (.msl b 9 0 done.length cap)),(b,VW cap done j)]
def wR (ks:List Txt) (rest:q7) (r:TV) (H':q7):Prop :=
 ∃done,done.Perm ks/\((done=[]/\r=.av TxS .nsl/\H'=rest)\/∃b cap j,JK j/\done.length+j.length=cap/\r=.av TxS (.msl b 9 0 done.length cap)/\H'=(b,VW cap done j)::rest)
theorem zst {y b2:Nat} {done:List Txt} {H:q7} (h:wG y b2 done H):H.er=H:=by
 rcases h with⟨_,rfl⟩|⟨b,cap,j,hj,_,_,_,rfl⟩
 ·rfl
 ·rw[q7.er_cons,q7.er_cons,cF hj];rfl
def zpM (g c:Nat) (T:TyD) (HS:q7) (ks:List Txt):Prop:=qL Tryz.prog g=true/\HS.er=HS/\∀(G:List Txt->q7->Prop) (y:Nat),(∀done H,G done H->H.er=H)->
  (∀done (k:Txt) H,done.length<ks.length->G done H->YC Tryz.prog y [.av .str (.s k)] H fun r H'=>r=.av .bool (.b true)/\G (done++[k]) H')->
  ∀H,G [] H->q6 Tryz.prog g [.av .func (.yl y),.av .ptr (.ptr c T [])] (HS++H) fun r H'=>r=.tup []/\∃done H1,done.Perm ks/\G done H1/\H'=HS++H1
abbrev zqD:Cfg:=⟨fun n=>n==2,fun _=>false⟩
theorem zbR {g c:Nat} {T:TyD} {HS:q7} {ks:List Txt} (hs:zpM g c T HS ks) (hlen:ks.length<=1000000) :
  q6 Tryz.prog 176 [.av TxS .nsl,.av .func (.fn g [.ptr c T []])] HS (wR ks HS):=by
 obtain⟨hfo,hse,hsf⟩:=hs
 refine q6.sub (R:=fun r H'=>∃H2,Ab.HSub H2 H'/\wR ks HS r H2) ?_ fun r H' ⟨H2,h1,h2⟩ _=>⟨H2,h1,h2⟩
 refine zov Tryz.func176 zqD fun imm0 w0=>?_
 simp (disch:=omega) [zz]
 intro b2 hb2
 refine AT.range (gf:=g) rfl rfl rfl (by simp[hfo]) ?_
 intro y D r i0 w1 hy hrec hready hpend hpar has hbo
 simp at hy
 obtain⟨hy2,hyS⟩:=hy
 have hy2':¬b2=y:=fun e=>hy2 e.symm
 refine⟨HS++[(y,.lrec r i0 w1),(b2,.var TxS .nsl)],[],fun t H'=>t=.tup []/\∃done H1,done.Perm ks/\(∃H2,H1=(y,.lrec r i0 w1)::H2/\wG y b2 done H2)/\H'=HS++H1,?_,?_,?_⟩
 ·rw[List.append_nil]
  exact List.perm_append_comm (l₁:=[_,_])
 ·rw[q7.er_app,hse]
  refine hsf (fun done H=>∃H2,H=(y,.lrec r i0 w1)::H2/\wG y b2 done H2) y ?_ ?_ _ ⟨_,rfl,.inl ⟨rfl,rfl⟩⟩
  ·rintro done H ⟨H2,rfl,hg⟩
   rw[q7.er_cons,zst hg];rfl
  ·rintro done k H hdl ⟨H2,rfl,hg⟩
   have hrd:=YC.of_round (l:=y) hrec hready (args:=[.av .str (.s k)]) (H:=H2) (R:=fun rr H'=>rr=.av .bool (.b true)/\∃H3,Ab.HSub ((y,.lrec r i0 w1)::H3) H'/\wG y b2 (done++[k]) H3) (by rw[hpar];rfl) (by rw[hpar];simp) (fun imm w=>?_)
   ·exact zhA hrd fun rr H' ⟨e1,H3,e2,e3⟩ _=>⟨_,e2,e1,H3,rfl,e3⟩
   rw[has,hbo,hpar]
   refine zrd zqD ?_
   simp (disch:=omega) [zz,J7,Z7,DJ]
   refine zrd zqD ?_
   have hrl:∀(p:Array Nat) (a b:Code),p=r.params->a=r.assign->b=r.body->({ state:=.ready,pending:=none,fn:=r.fn,tmps:=r.tmps,params:=p,assign:=a,body:=b,defers:=r.defers }:Loop)=r:=by
    rintro _ _ _ rfl rfl rfl;exact vN hready hpend
   have her:∀r',(HObj.lrec r' i0 w1).er=HObj.lrec r' i0 w1:=fun _=>rfl
   rcases hg with⟨rfl,rfl⟩|⟨b,cap,j,hj,hbb,hby,hcap,rfl⟩
   ·simp (disch:=omega) [zz,hy2,hy2']
    intro b' cap' hb1 hb2 hc
    have hb1':¬y=b':=fun e=>hb1 e.symm
    have hb2':¬b2=b':=fun e=>hb2 e.symm
    simp (disch:=omega) [zz,hy2,hy2',hb1,hb2,hb1',hb2',YS,VB]
    rw[her,hrl _ _ _ hpar.symm has.symm hbo.symm]
    refine⟨[(b2,.var TxS (.msl b' 9 0 1 cap')),(b',VW cap' [k] (List.replicate (cap'-1) (AV.s [])))],HSub.of_perm ?_,.inr ⟨b',cap',_,JK.rep rfl _,hb2,hb1,by simp;omega,rfl⟩⟩
    have:=zqp (cap'-1)
    unfold JK at this
    rw[this]
    exact List.perm_append_comm (l₁:=[_]) (l₂:=[_,_])
   ·have hbb':¬b2=b:=fun e=>hbb e.symm
    have hby':¬y=b:=fun e=>hby e.symm
    simp (disch:=omega) [zz,hy2,hy2',hbb,hbb',hby,hby',VW]
    refine⟨by omega,⟨by omega,by omega⟩,fun hc=>?_,fun hc b' cap' hb1 hb2 hb3 hc'=>?_⟩
    ·simp (disch:=omega) [zz,hy2,hy2',hbb,hbb',hby,hby',YS,VB]
     rw[her,hrl _ _ _ hpar.symm has.symm hbo.symm]
     have h2:(strs done++j).take done.length++AV.s k::(strs done++j).drop (done.length+1)=strs (done++[k])++j.drop 1:=by
      have e1:(strs done++j).take done.length=strs done:=by rw[List.take_append_of_le_length (by simp)];exact List.take_of_length_le (by simp)
      have e2:(strs done++j).drop (done.length+1)=j.drop 1:=by
       rw[List.drop_append,List.drop_of_length_le (by simp)];simp
      rw[e1,e2];simp only[pB,List.append_assoc];rfl
     have h3:=(ziz (done++[k])).app (hj.drop 1)
     unfold JK at h3
     rw[h2,h3]
     refine⟨[(b2,.var TxS (.msl b 9 0 (done.length+1) cap)),(b,VW cap (done++[k]) (j.drop 1))],HSub.refl _,.inr ⟨b,cap,_,hj.drop 1,hbb,hby,by simp;omega,by simp⟩⟩
    ·have hb1':¬y=b':=fun e=>hb1 e.symm
     have hb2':¬b2=b':=fun e=>hb2 e.symm
     have hb3':¬b=b':=fun e=>hb3 e.symm
     simp (disch:=omega) [zz,hy2,hy2',hbb,hbb',hby,hby',hb1,hb2,hb3,hb1',hb2',hb3',YS,VB]
     rw[her,hrl _ _ _ hpar.symm has.symm hbo.symm]
     have h2:(strs done++j).take done.length++AV.s k::List.replicate (cap'-(done.length+1)) (AV.s [])=strs (done++[k])++List.replicate (cap'-(done.length+1)) (AV.s []):=by
      have e1:(strs done++j).take done.length=strs done:=by rw[List.take_append_of_le_length (by simp)];exact List.take_of_length_le (by simp)
      rw[e1];simp only[pB,List.append_assoc];rfl
     have h3:=(ziz (done++[k])).app (zqp (cap'-(done.length+1)))
     unfold JK at h3
     rw[h2,h3]
     refine⟨[(b2,.var TxS (.msl b' 9 0 (done.length+1) cap')),(b',VW cap' (done++[k]) (List.replicate (cap'-(done.length+1)) (AV.s [])))],⟨_,List.perm_append_comm (l₁:=[_]) (l₂:=[_,_,_]),?_⟩,.inr ⟨b',cap',List.replicate (cap'-(done.length+1)) (AV.s []),JK.rep rfl _,hb2,hb1,by simp;omega,by simp⟩⟩
     exact((((List.nil_sublist _).cons_cons _).cons _).cons_cons _).cons_cons _
 ·rintro t H' ⟨rfl,done,H1,hp,⟨H2,rfl,hg⟩,rfl⟩ hnd
  refine⟨r,H2++HS,HSub.of_perm (by rw[List.append_nil];exact List.perm_append_comm (l₂:=_::_)),by rw[hready];simp,?_⟩
  rw[hpend]
  rcases hg with⟨rfl,rfl⟩|⟨b,cap,j,hj,hbb,hby,hcap,rfl⟩
  ·simp (disch:=omega) [zz,dQ,hse,Tryz.f176]
   exact⟨HS,HSub.of_sub ((List.Sublist.refl _).cons _),[],hp,.inl ⟨rfl,rfl,rfl⟩⟩
  ·have hkr:=cF (cap:=cap) (ts:=done) hj
   simp (disch:=omega) [zz,dQ,hse,hkr,Tryz.f176]
   exact⟨(b,VW cap done j)::HS,HSub.of_sub ((List.Sublist.refl _).cons _),done,hp,.inr ⟨b,cap,j,hj,hcap,rfl,rfl⟩⟩
theorem zgC {g c:Nat} {T:TyD} {HS:q7} {ks:List Txt} (hs:zpM g c T HS ks) (hlen:ks.length<=1000000) :
  q6 Tryz.prog 138 [.av .func (.fn g [.ptr c T []])] HS (wR ks HS):=by
 have hse:=hs.2.1
 refine zov Tryz.func138 cf0 fun imm0 w0=>?_
 simp (disch:=omega) [zz]
 refine zF (R:=wR ks HS) rfl (by simp[qH]) (by simp) ?_ ?_
 ·have:=q6.argNil (zbR hs hlen)
  simpa[TV.er,AV.er,AV.ers,hse]using this
 rintro r' H' ⟨done,hp,⟨rfl,rfl,rfl⟩|⟨b,cap,j,hj,hcap,rfl,rfl⟩⟩
 ·simp (disch:=omega) [zz,hse,Tryz.f138]
  exact⟨[],hp,.inl ⟨rfl,rfl,rfl⟩⟩
 ·have hkr:=cF (cap:=cap) (ts:=done) hj
  simp (disch:=omega) [zz,hse,hkr,Tryz.f138]
  exact⟨done,hp,.inr ⟨b,cap,j,hj,hcap,rfl,rfl⟩⟩
def wS (ks:List Txt) (rest:q7) (r:TV) (H':q7):Prop:=∃v H1,r=.av TxS v/\zoa (yV ks) v H1/\H'=H1++rest
theorem KP {a b:List Txt} (h:a.Perm b):yV a=yV b:=by
 unfold yV
 have h1:=List.pairwise_mergeSort (le:=fun(a b:Txt)=>decide (a<=b)) (fun a b c h1 h2=>by simp only[decide_eq_true_eq]at *;exact List.le_trans h1 h2) (fun a b=>by simp only[Bool.or_eq_true,decide_eq_true_eq];exact List.le_total a b) a
 have h2:=List.pairwise_mergeSort (le:=fun(a b:Txt)=>decide (a<=b)) (fun a b c h1 h2=>by simp only[decide_eq_true_eq]at *;exact List.le_trans h1 h2) (fun a b=>by simp only[Bool.or_eq_true,decide_eq_true_eq];exact List.le_total a b) b
 refine List.Perm.eq_of_pairwise (fun x y _ _ h3 h4=>?_) h1 h2 ((List.mergeSort_perm _ _).trans (h.trans (List.mergeSort_perm _ _).symm))
 simp only[decide_eq_true_eq]at h3 h4
 exact List.le_antisymm h3 h4
theorem zii {g c:Nat} {T:TyD} {HS:q7} {ks:List Txt} (hs:zpM g c T HS ks) (hlen:ks.length<=1000000) :
  q6 Tryz.prog 82 [.av .func (.fn g [.ptr c T []])] HS (wS ks HS):=by
 have hse:=hs.2.1
 refine q6.nilR (R:=fun r H'=>(ks=[]/\r=.av TxS .nsl/\H'=HS)\/wS ks HS r H') ?_ ?_
 rotate_left
 ·rintro r H' (⟨e,rfl,rfl⟩|h)
  ·exact .inr ⟨_,rfl,_,[],rfl,.inl ⟨by rw[e];simp[yV],rfl,rfl⟩,rfl⟩
  ·exact .inl h
 refine zov Tryz.func82 cf0 fun imm0 w0=>?_
 simp (disch:=omega) [zz]
 refine zF (R:=wR ks HS) rfl (by simp[qH]) (by simp) ?_ ?_
 ·have:=zgC hs hlen
  simpa[TV.er,AV.er,AV.ers,hse]using this
 rintro r' H0 ⟨done,hp,⟨rfl,rfl,rfl⟩|⟨b,cap,j,hj,hcap,rfl,rfl⟩⟩
 ·simp (disch:=omega) [zz]
  refine qM (R:=fun r H'=>r=.tup []/\H'=[]) [] H0 (List.Perm.refl _) rfl (by simp[qH]) (by simp) ?_ ?_
  ·have:=q6.argNsl zir
   simpa[TV.er,AV.er,AV.ers,q7.er_nil]using this
  rintro r' H' ⟨rfl,rfl⟩ _
  refine⟨_,HSub.refl _,?_⟩
  simp (disch:=omega) [zz,hse,Tryz.f82]
  have hnl:ks=[]:=List.nil_perm.1 hp
  subst hnl
  first|exact .inl rfl|exact .inl ⟨rfl,rfl⟩
 ·have hkr:=fun ts=>cF (cap:=cap) (ts:=ts) hj
  have hdl:done.length<=1000000:=by rw[hp.length_eq];exact hlen
  simp (disch:=omega) [zz]
  refine qM (R:=fun r H'=>r=.tup []/\H'=[(b,VW cap (yV done) j)]) [(b,VW cap done j)] HS (List.Perm.refl _) rfl (by simp[qH]) (by simp) ?_ ?_
  ·have:=zkY done b cap j hcap (by omega)
   have e:q7.er [(b,VW cap done j)]=[(b,VW cap done j)]:=by rw[q7.er_cons,hkr];rfl
   rw[e]
   simpa[TV.er,AV.er,AV.ers,VW]using this
  rintro r' H' ⟨rfl,rfl⟩ _
  refine⟨_,HSub.refl _,?_⟩
  have hks:=hkr (yV done)
  simp (disch:=omega) [zz,hse,hks,Tryz.f82]
  refine⟨_,_,rfl,.inr ⟨b,cap,j,hj,?_,?_,rfl⟩,?_⟩
  ·rw[<-KP hp,PI]
  ·rw[<-KP hp,PI];exact hcap
  ·rw[KP hp];rfl
end
end Go.Proofs.YtognnffjdckalaaGreatDoor
end
