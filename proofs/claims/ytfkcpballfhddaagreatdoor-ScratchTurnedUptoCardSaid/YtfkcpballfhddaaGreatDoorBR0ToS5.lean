/- Actions; how much an action is, and what is known. No condition. -/
import Derived.Test.YtfkcpballfhddaaGreatDoorKTgToBX6
set_option linter.unusedSimpArgs false
set_option linter.unusedVariables false
set_option linter.unusedSectionVars false
set_option maxHeartbeats 64000000
set_option maxRecDepth 100000
namespace Go.Proofs.YtfkcpballfhddaaGreatDoor
open Go Go.Ab
open Classical
section
variable [Sel] [SelPow] [SelMax]
def zhw (l:List KnV):AV:=.sl .no (l.map kA)
@[simp] theorem zrS (l:List KnV):(zhw l).er=zhw l:=by simp[zhw,AV.er,AV.ers_eq,Function.comp_def,zbN]
def txW:List Txt->Nat
 | []=>0
 | x::l=>x.length+1+txW l
def enW:List (Txt × Txt)->Nat
 | []=>0
 | x::l=>x.1.length+x.2.length+1+enW l
def znq (a:wD):Nat:=a.tool.length+(txW a.ins+txW a.asks+txW a.outs)+enW a.env
theorem zei:∀l:List Txt,l.length<=txW l
 | []=>by simp[txW]
 | x::l=>by have:=zei l;simp only[List.length_cons,txW];omega
theorem zjC:∀l:List (Txt × Txt),l.length<=enW l
 | []=>by simp[enW]
 | x::l=>by have:=zjC l;simp only[List.length_cons,enW];omega
theorem za5 {l:List Txt} {x:Txt} (h:x∈l):x.length+1<=txW l:=by
 induction l with
 | nil=>cases h
 | cons y r ih =>
  simp only[txW]
  rcases List.mem_cons.1 h with rfl|h
  ·omega
  ·have:=ih h;omega
theorem zpW {l:List (Txt × Txt)} {x:Txt × Txt} (h:x∈l):x.1.length+x.2.length+1<=enW l:=by
 induction l with
 | nil=>cases h
 | cons y r ih =>
  simp only[enW]
  rcases List.mem_cons.1 h with rfl|h
  ·omega
  ·have:=ih h;omega
theorem X0 {a b:jM}:qS a=qS b<->a=b:=by
 cases a;cases b;simp[qS]
end
section
variable [Sel]
def uP (en:Array MapEntry) (ids:List Nat):Array Nat:=(ids.map fun i=>(en[i]?.map (·.born)).getD 0).toArray
theorem zc0 {en:Array MapEntry} {ck:Nat} (hst:QS en.toList ck) {ids:List Nat} (hids:∀i∈ids,i<en.size) {i:Nat} {me:MapEntry} (hi:en[i]?=some me):me.born∈uP en ids<->i∈ids:=by
 unfold uP
 rw[List.mem_toArray,List.mem_map]
 constructor
 ·rintro⟨j,hj,e⟩
  have hjs:=hids j hj
  rw[Array.getElem?_eq_getElem hjs]at e
  simp only[Option.map_some,Option.getD_some]at e
  obtain⟨his,rfl⟩:=Array.getElem?_eq_some_iff.1 hi
  have hnd:=hst.2
  have h1:(en.toList.map (·.born))[j]'(by simpa using hjs)=(en.toList.map (·.born))[i]'(by simpa using his):=by simpa using e
  have:=(List.getElem_inj hnd).1 h1
  rw[<-this];exact hj
 ·intro h
  exact⟨i,h,by rw[hi];rfl⟩
theorem zgX (en:Array MapEntry) (ids:List Nat) {i:Nat} {me:MapEntry} (hi:en[i]?=some me):(uP en ids).push me.born=uP en (ids++[i]):=by
 unfold uP
 apply Array.toList_inj.1
 simp[hi]
def UZ (ks:List (List UInt8)) (ids:List Nat):List (List UInt8):=ids.map fun i=>(ks[i]?).getD []
theorem zg7 {ks:List (List UInt8)} {ids:List Nat} (hn:ids.Nodup) (hlt:∀i∈ids,i<ks.length) (hall:∀i,i<ks.length->i∈ids):(UZ ks ids).Perm ks:=by
 have h1:ids.Perm (List.range ks.length):=by
  rw[List.perm_ext_iff_of_nodup hn List.nodup_range]
  intro i
  rw[List.mem_range]
  exact⟨hlt i,hall i⟩
 have h2:(List.range ks.length).map (fun i=>(ks[i]?).getD [])=ks:=by
  refine List.ext_getElem (by simp) fun t h1 h2=>?_
  simp only[List.getElem_map,List.getElem_range]
  rw[List.getElem?_eq_getElem h2];rfl
 have:=h1.map (fun i=>(ks[i]?).getD ([]:Dig))
 rw[h2]at this
 exact this
theorem dV:∀(n:Nat) (l:List Nat),l.Nodup->(∀i∈l,i<n)->l.length<=n
 | 0,l,_,h=>by
  cases l with
  | nil=>simp
  | cons x r=>exact absurd (h x (by simp)) (Nat.not_lt_zero _)
 | n+1,l,hn,h=>by
  by_cases hm:n∈l
  ·have:=dV n (l.erase n) (hn.erase n) (fun i hi=>by
    have h1:=(List.Nodup.mem_erase_iff hn).1 hi
    have:=h i h1.2
    have:=h1.1
    omega)
   rw[List.length_erase_of_mem hm]at this
   omega
  ·have:=dV n l hn (fun i hi=>by
    have h1:=h i hi
    have:i≠n:=fun e=>hm (e▸hi)
    omega)
   omega
end
section
variable [Sel] [SelPow] [SelMax]
abbrev WrT:TyD:=.map 9 9
noncomputable def wbO (M:Nat):HObj:=.var WrT (.map (some M))
abbrev ztc:Cfg:=⟨fun n=>n==1,fun _=>false⟩
theorem zob (M:Nat):q7 Tryz.prog 82 [.av WrT (.map (some M))] [] fun r H'=>∃c,r=.av .func (.fn 120 [.ptr c WrT []])/\H'=[(c,wbO M)]:=by
 refine zov Tryz.func82 ztc fun imm0 w0=>?_
 simp (disch:=omega) [zz]
 intro c
 simp (disch:=omega) [zz,Tryz.f82,wbO,AV.ers]
theorem zhU {G:List Txt->q8->Prop} (y c M:Nat) (hcM:c≠M) (l:List (Txt × Txt)) (en:Array MapEntry) (ck:Nat) (i0:Nat->Nat) (w1:World) (hop:UL Tryz.prog 9 9 (wrE l) en ck i0 w1)
  (hGe:∀done H,G done H->H.er=H)
  (hY:∀done (k:Txt) H,k∈l.map (·.1)->done.length<l.length->G done H->YC Tryz.prog y [.av .str (.s k)] H fun r H'=>r=.av .bool (.b true)/\G (done++[k]) H') :
  ∀H,G [] H->q7 Tryz.prog 120 [.av .func (.yl y),.av .ptr (.ptr c WrT [])] ((c,wbO M)::(M,.raw (.map en ck) i0 w1)::H)
   fun r H'=>r=.tup []/\∃done H1 it o,done.Perm (l.map (·.1))/\G done H1/\H'=(it,o)::(c,wbO M)::(M,.raw (.map en ck) i0 w1)::H1:=by
 intro H hG
 have hMc:¬M=c:=fun e=>hcM e.symm
 refine zov Tryz.func120 cf0 fun imm0 w0=>?_
 simp (disch:=omega) [zz,wbO,hcM,hMc]
 intro it hit hiM _
 have hit':¬c=it:=fun e=>hit e.symm
 have hiM':¬M=it:=fun e=>hiM e.symm
 have hsz:en.size=l.length:=by have:=cN hop.ents;simpa[wrE]using this.symm
 refine AT.loop' (α:=List Nat × q8) (fun p=>St.of [(0,.av .func (.yl y)),(1,.av .ptr (.ptr c WrT [])),(5,.av .ptr (.ptr it .other []))] [] (fun _=>0) ((it,.raw (.mapIter (some M) ck (uP en p.1) ck) (fun _=>0) default)::(c,wbO M)::(M,.raw (.map en ck) i0 w1)::p.2))
  (fun p=>p.1.Nodup/\(∀i∈p.1,i<en.size)/\G (UZ (l.map (·.1)) p.1) p.2) (fun p=>en.size-p.1.length) ([],H) ?_ ?_ ?_
 ·apply Le.of<;>simp[zA,qF,wbO,uP]<;>try omega
 ·exact⟨List.nodup_nil,by simp,hG⟩
 rintro⟨ids,H1⟩ ⟨hnd,hlt,hG1⟩ KL hN hE
 simp only at hnd hlt hG1
 refine zrd cf0 ?_
 simp (disch:=omega) [zz,wbO,hit,hiM,hit',hiM',hcM,hMc,zid]
 refine⟨9,9,wrE l,hop,fun hall=>?_,fun i me u v hi hns hes=>?_⟩
 ·refine hE _ _ (by simp) ?_
  have hperm:(UZ (l.map (·.1)) ids).Perm (l.map (·.1)):=by
   refine zg7 hnd (fun i hi=>by have:=hlt i hi;simpa[hsz]using this) fun i hi=>?_
   have hi':i<en.size:=by simpa[hsz]using hi
   exact(zc0 hop.st hlt (Array.getElem?_eq_getElem hi')).1 (hall i _ (Array.getElem?_eq_getElem hi'))
  have hH:=hGe _ _ hG1
  simp (disch:=omega) [zz,Tryz.f120,hH,HObj.er]
  exact⟨_,hperm,hG1⟩
 ·have hil:i<en.size:=(Array.getElem?_eq_some_iff.1 hi).1
  have hni:i∉ids:=fun h=>hns ((zc0 hop.st hlt hi).2 h)
  have hic:i<l.length:=by omega
  have hu:u=AV.s l[i].1:=by
   simp only[wrE]at hes
   rw[List.getElem?_map,List.getElem?_eq_getElem hic]at hes
   have:=Option.some.inj hes
   exact(congrArg Prod.fst this).symm
  subst hu
  rw[zgX en ids hi]
  refine⟨9,9,wrE l,hop,i,me,hi,AV.s l[i].1,v,hes,rfl,?_⟩
  simp (disch:=omega) [zz]
  have hkm:l[i].1∈l.map (·.1):=List.mem_map.2 ⟨l[i],List.getElem_mem hic,rfl⟩
  have hGn:UZ (l.map (·.1)) (ids++[i])=UZ (l.map (·.1)) ids++[l[i].1]:=by
   simp[UZ,List.getElem?_eq_getElem hic]
  have hnd2:(ids++[i]).Nodup:=List.nodup_append.2 ⟨hnd,by simp,fun a ha b hb e=>by simp only[List.mem_singleton]at hb;subst hb;exact hni (e▸ha)⟩
  have hlt2:∀k∈ids++[i],k<en.size:=fun k hk=>by
   rcases List.mem_append.1 hk with h|h
   ·exact hlt k h
   ·simp only[List.mem_singleton]at h;omega
  have hle2:=dV en.size _ hnd2 hlt2
  refine WK (R:=fun r H'=>r=.av .bool (.b true)/\G (UZ (l.map (·.1)) (ids++[i])) H') H1 [(it,.raw (.mapIter (some M) ck (uP en (ids++[i])) ck) (fun _=>0) default),(c,wbO M),(M,.raw (.map en ck) i0 w1)] (List.perm_append_comm (l₁:=[_,_,_])) (by simp[qI]) ?_ ?_
  ·rw[hGe _ _ hG1,hGn]
   have:=hY _ _ _ hkm (by simp only[UZ,List.length_map];simp at hle2;omega) hG1
   simpa[TV.er]using this
  rintro r H2 ⟨rfl,hG2⟩ _
  refine⟨(it,.raw (.mapIter (some M) ck (uP en (ids++[i])) ck) (fun _=>0) default)::(c,wbO M)::(M,.raw (.map en ck) i0 w1)::H2,HSub.of_perm (List.perm_append_comm (l₂:=[_,_,_])),?_⟩
  simp (disch:=omega) [zz]
  refine hN _ (ids++[i],H2) ?_ ⟨hnd2,hlt2,hG2⟩ (by simp at hle2 |-;omega)
  apply Le.of<;>simp[zA,qF,wbO]<;>try omega
theorem zlA {G:List Txt->q8->Prop} (y c M:Nat) (hcM:c≠M) (l:List (Txt × Txt)) (hGe:∀done H,G done H->H.er=H)
  (hY:∀done (k:Txt) H,k∈l.map (·.1)->done.length<l.length->G done H->YC Tryz.prog y [.av .str (.s k)] H fun r H'=>r=.av .bool (.b true)/\G (done++[k]) H') (H:q8) (hG:G [] H) :
  q7 Tryz.prog 120 [.av .func (.yl y),.av .ptr (.ptr c WrT [])] ((M,wrO l)::(c,wbO M)::H)
   fun r H'=>r=.tup []/\∃done H1,done.Perm (l.map (·.1))/\G done H1/\H'=(M,wrO l)::(c,wbO M)::H1:=by
 refine q7.openMap fun en ck i0 w1 hop=>?_
 refine q7.conv (R:=fun r H'=>r=.tup []/\∃done H1,done.Perm (l.map (·.1))/\G done H1/\H'=(M,.raw (.map en ck) i0 w1)::(c,wbO M)::H1) ?_ ?_
 ·refine q7.sub (((zhU y c M hcM l en ck i0 w1 hop hGe hY H hG)).perm (List.Perm.swap _ _ _)) ?_
  rintro r H' ⟨rfl,done,H1,it,o,hp,hg,rfl⟩ _
  exact⟨_,⟨_,List.Perm.cons _ (List.Perm.swap _ _ _),(List.Sublist.refl _).cons _⟩,rfl,done,H1,hp,hg,rfl⟩
 ·rintro r H' ⟨rfl,done,H1,hp,hg,rfl⟩
  exact⟨(M,wrO l)::(c,wbO M)::H1,fun b hb=>hb,fun imm w h=>h.shutMap hop,rfl,done,H1,hp,hg,rfl⟩
end
section
variable [Sel]
theorem q7.argNil {P:Program} {f:FuncId} {e:TypeId} {args:List TV} {H:q8} {R:TV->q8->Prop} (h:q7 P f (.av (.slice e) .nsl::args) H R):q7 P f (.cst (.slice none 0 0)::args) H R:=by
 intro imm w vs h1 h2
 refine h imm w vs h1 ?_
 obtain⟨vs⟩:=vs
 match vs,h2 with
 | v::r,⟨e1,e2⟩ =>
  have e1':v=.slice none 0 0:=e1
  subst e1'
  exact⟨⟨rfl,by simp[VC,Value.cells]⟩,e2⟩
theorem q7.nilR {P:Program} {f:FuncId} {args:List TV} {H:q8} {R R':TV->q8->Prop} (h:q7 P f args H R) (hr:∀r H',R r H'->R' r H'\/∃e,r=.av (.slice e) .nsl/\R' (.av (.slice e) (.sl .no [])) H'):q7 P f args H R' :=
 fun imm w vs h1 h2=>(h imm w vs h1 h2).mono fun e w' ⟨v,r,imm',H',a,b,c,d,st⟩=>by
  rcases hr _ _ b with h3|⟨e,rfl,h3⟩
  ·exact⟨v,r,imm',H',a,h3,c,d,st⟩
  ·obtain⟨f,hv⟩:=c
   simp only[VC]at hv
   obtain⟨_,_,hv⟩:=hv
   exact⟨v,_,imm',H',a,h3,⟨f,by simp only[VC];exact⟨e,none,0,rfl,hv,by simp,by simp[gR]⟩⟩,d,st⟩
theorem q7.argNsl {P:Program} {f:FuncId} {e:TypeId} {args:List TV} {H:q8} {R:TV->q8->Prop} (h:q7 P f (.av (.slice e) (.sl .no [])::args) H R):q7 P f (.av (.slice e) .nsl::args) H R:=by
 intro imm w vs h1 h2
 refine h imm w vs h1 ?_
 obtain⟨vs⟩:=vs
 match vs,h2 with
 | v::r,⟨⟨f1,hv⟩,e2⟩ =>
  simp only[VC]at hv
  obtain⟨_,_,hv⟩:=hv
  exact⟨⟨f1,by simp only[VC];exact⟨e,none,0,rfl,hv,by simp,by simp[gR]⟩⟩,e2⟩
theorem zj7 (l:List Txt):JK (strs l):=by
 unfold JK;simp[AV.erks_eq,strs,Function.comp_def,AV.er,AV.erk]
theorem zqT (n:Nat):JK (List.replicate n (AV.s [])):=JK.rep rfl _
abbrev TxS:TyD:=.slice 9
def wG (y b2:Nat) (done:List Txt) (H:q8):Prop :=
 (done=[]/\H=[(b2,.var TxS .nsl)])\/∃b cap j,JK j/\b≠b2/\b≠y/\done.length+j.length=cap/\H=[(b2,.var TxS (.msl b 9 0 done.length cap)),(b,yR cap done j)]
def wR (ks:List Txt) (rest:q8) (r:TV) (H':q8):Prop :=
 ∃done,done.Perm ks/\((done=[]/\r=.av TxS .nsl/\H'=rest)\/∃b cap j,JK j/\done.length+j.length=cap/\r=.av TxS (.msl b 9 0 done.length cap)/\H'=(b,yR cap done j)::rest)
theorem zs5 {y b2:Nat} {done:List Txt} {H:q8} (h:wG y b2 done H):H.er=H:=by
 rcases h with⟨_,rfl⟩|⟨b,cap,j,hj,_,_,_,rfl⟩
 ·rfl
 ·rw[q8.er_cons,q8.er_cons,YG hj];rfl
def zq8 (g c:Nat) (T:TyD) (HS:q8) (ks:List Txt):Prop:=qR Tryz.prog g=true/\HS.er=HS/\∀(G:List Txt->q8->Prop) (y:Nat),(∀done H,G done H->H.er=H)->
  (∀done (k:Txt) H,done.length<ks.length->G done H->YC Tryz.prog y [.av .str (.s k)] H fun r H'=>r=.av .bool (.b true)/\G (done++[k]) H')->
  ∀H,G [] H->q7 Tryz.prog g [.av .func (.yl y),.av .ptr (.ptr c T [])] (HS++H) fun r H'=>r=.tup []/\∃done H1,done.Perm ks/\G done H1/\H'=HS++H1
abbrev zr1:Cfg:=⟨fun n=>n==2,fun _=>false⟩
theorem zcC {g c:Nat} {T:TyD} {HS:q8} {ks:List Txt} (hs:zq8 g c T HS ks) (hlen:ks.length<=1000000) :
  q7 Tryz.prog 152 [.av TxS .nsl,.av .func (.fn g [.ptr c T []])] HS (wR ks HS):=by
 obtain⟨hfo,hse,hsf⟩:=hs
 refine q7.sub (R:=fun r H'=>∃H2,Ab.HSub H2 H'/\wR ks HS r H2) ?_ fun r H' ⟨H2,h1,h2⟩ _=>⟨H2,h1,h2⟩
 refine zov Tryz.func152 zr1 fun imm0 w0=>?_
 simp (disch:=omega) [zz]
 intro b2 hb2
 refine AT.range (gf:=g) rfl rfl rfl (by simp[hfo]) ?_
 intro y D r i0 w1 hy hrec hready hpend hpar has hbo
 simp at hy
 obtain⟨hy2,hyS⟩:=hy
 have hy2':¬b2=y:=fun e=>hy2 e.symm
 refine⟨HS++[(y,.lrec r i0 w1),(b2,.var TxS .nsl)],[],fun t H'=>t=.tup []/\∃done H1,done.Perm ks/\(∃H2,H1=(y,.lrec r i0 w1)::H2/\wG y b2 done H2)/\H'=HS++H1,?_,?_,?_⟩
 ·rw[List.append_nil]
  exact List.perm_append_comm (l₁:=[_,_])
 ·rw[q8.er_app,hse]
  refine hsf (fun done H=>∃H2,H=(y,.lrec r i0 w1)::H2/\wG y b2 done H2) y ?_ ?_ _ ⟨_,rfl,.inl ⟨rfl,rfl⟩⟩
  ·rintro done H ⟨H2,rfl,hg⟩
   rw[q8.er_cons,zs5 hg];rfl
  ·rintro done k H hdl ⟨H2,rfl,hg⟩
   have hrd:=YC.of_round (l:=y) hrec hready (args:=[.av .str (.s k)]) (H:=H2) (R:=fun rr H'=>rr=.av .bool (.b true)/\∃H3,Ab.HSub ((y,.lrec r i0 w1)::H3) H'/\wG y b2 (done++[k]) H3) (by rw[hpar];rfl) (by rw[hpar];simp) (fun imm w=>?_)
   ·exact zhg hrd fun rr H' ⟨e1,H3,e2,e3⟩ _=>⟨_,e2,e1,H3,rfl,e3⟩
   rw[has,hbo,hpar]
   refine zrd zr1 ?_
   simp (disch:=omega) [zz,JA,Z5,pD]
   refine zrd zr1 ?_
   have hrl:∀(p:Array Nat) (a b:Code),p=r.params->a=r.assign->b=r.body->({ state:=.ready,pending:=none,fn:=r.fn,tmps:=r.tmps,params:=p,assign:=a,body:=b,defers:=r.defers }:Loop)=r:=by
    rintro _ _ _ rfl rfl rfl;exact V7 hready hpend
   have her:∀r',(HObj.lrec r' i0 w1).er=HObj.lrec r' i0 w1:=fun _=>rfl
   rcases hg with⟨rfl,rfl⟩|⟨b,cap,j,hj,hbb,hby,hcap,rfl⟩
   ·simp (disch:=omega) [zz,hy2,hy2']
    intro b' cap' hb1 hb2 hc
    have hb1':¬y=b':=fun e=>hb1 e.symm
    have hb2':¬b2=b':=fun e=>hb2 e.symm
    simp (disch:=omega) [zz,hy2,hy2',hb1,hb2,hb1',hb2',X4,gJ]
    rw[her,hrl _ _ _ hpar.symm has.symm hbo.symm]
    refine⟨[(b2,.var TxS (.msl b' 9 0 1 cap')),(b',yR cap' [k] (List.replicate (cap'-1) (AV.s [])))],HSub.of_perm ?_,.inr ⟨b',cap',_,JK.rep rfl _,hb2,hb1,by simp;omega,rfl⟩⟩
    have:=zqT (cap'-1)
    unfold JK at this
    rw[this]
    exact List.perm_append_comm (l₁:=[_]) (l₂:=[_,_])
   ·have hbb':¬b2=b:=fun e=>hbb e.symm
    have hby':¬y=b:=fun e=>hby e.symm
    simp (disch:=omega) [zz,hy2,hy2',hbb,hbb',hby,hby',yR]
    refine⟨by omega,⟨by omega,by omega⟩,fun hc=>?_,fun hc b' cap' hb1 hb2 hb3 hc'=>?_⟩
    ·simp (disch:=omega) [zz,hy2,hy2',hbb,hbb',hby,hby',X4,gJ]
     rw[her,hrl _ _ _ hpar.symm has.symm hbo.symm]
     have h2:(strs done++j).take done.length++AV.s k::(strs done++j).drop (done.length+1)=strs (done++[k])++j.drop 1:=by
      have e1:(strs done++j).take done.length=strs done:=by rw[List.take_append_of_le_length (by simp)];exact List.take_of_length_le (by simp)
      have e2:(strs done++j).drop (done.length+1)=j.drop 1:=by
       rw[List.drop_append,List.drop_of_length_le (by simp)];simp
      rw[e1,e2];simp only[wX,List.append_assoc];rfl
     have h3:=(zj7 (done++[k])).app (hj.drop 1)
     unfold JK at h3
     rw[h2,h3]
     refine⟨[(b2,.var TxS (.msl b 9 0 (done.length+1) cap)),(b,yR cap (done++[k]) (j.drop 1))],HSub.refl _,.inr ⟨b,cap,_,hj.drop 1,hbb,hby,by simp;omega,by simp⟩⟩
    ·have hb1':¬y=b':=fun e=>hb1 e.symm
     have hb2':¬b2=b':=fun e=>hb2 e.symm
     have hb3':¬b=b':=fun e=>hb3 e.symm
     simp (disch:=omega) [zz,hy2,hy2',hbb,hbb',hby,hby',hb1,hb2,hb3,hb1',hb2',hb3',X4,gJ]
     rw[her,hrl _ _ _ hpar.symm has.symm hbo.symm]
     have h2:(strs done++j).take done.length++AV.s k::List.replicate (cap'-(done.length+1)) (AV.s [])=strs (done++[k])++List.replicate (cap'-(done.length+1)) (AV.s []):=by
      have e1:(strs done++j).take done.length=strs done:=by rw[List.take_append_of_le_length (by simp)];exact List.take_of_length_le (by simp)
      rw[e1];simp only[wX,List.append_assoc];rfl
     have h3:=(zj7 (done++[k])).app (zqT (cap'-(done.length+1)))
     unfold JK at h3
     rw[h2,h3]
     refine⟨[(b2,.var TxS (.msl b' 9 0 (done.length+1) cap')),(b',yR cap' (done++[k]) (List.replicate (cap'-(done.length+1)) (AV.s [])))],⟨_,List.perm_append_comm (l₁:=[_]) (l₂:=[_,_,_]),?_⟩,.inr ⟨b',cap',List.replicate (cap'-(done.length+1)) (AV.s []),JK.rep rfl _,hb2,hb1,by simp;omega,by simp⟩⟩
     exact((((List.nil_sublist _).cons_cons _).cons _).cons_cons _).cons_cons _
 ·rintro t H' ⟨rfl,done,H1,hp,⟨H2,rfl,hg⟩,rfl⟩ hnd
  refine⟨r,H2++HS,HSub.of_perm (by rw[List.append_nil];exact List.perm_append_comm (l₂:=_::_)),by rw[hready];simp,?_⟩
  rw[hpend]
  rcases hg with⟨rfl,rfl⟩|⟨b,cap,j,hj,hbb,hby,hcap,rfl⟩
  ·simp (disch:=omega) [zz,zbk,hse,Tryz.f152]
   exact⟨HS,HSub.of_sub ((List.Sublist.refl _).cons _),[],hp,.inl ⟨rfl,rfl,rfl⟩⟩
  ·have hkr:=YG (cap:=cap) (ts:=done) hj
   simp (disch:=omega) [zz,zbk,hse,hkr,Tryz.f152]
   exact⟨(b,yR cap done j)::HS,HSub.of_sub ((List.Sublist.refl _).cons _),done,hp,.inr ⟨b,cap,j,hj,hcap,rfl,rfl⟩⟩
theorem zgE {g c:Nat} {T:TyD} {HS:q8} {ks:List Txt} (hs:zq8 g c T HS ks) (hlen:ks.length<=1000000) :
  q7 Tryz.prog 119 [.av .func (.fn g [.ptr c T []])] HS (wR ks HS):=by
 have hse:=hs.2.1
 refine zov Tryz.func119 cf0 fun imm0 w0=>?_
 simp (disch:=omega) [zz]
 refine wZ (R:=wR ks HS) rfl (by simp[qI]) (by simp) ?_ ?_
 ·have:=q7.argNil (zcC hs hlen)
  simpa[TV.er,AV.er,AV.ers,hse]using this
 rintro r' H' ⟨done,hp,⟨rfl,rfl,rfl⟩|⟨b,cap,j,hj,hcap,rfl,rfl⟩⟩
 ·simp (disch:=omega) [zz,hse,Tryz.f119]
  exact⟨[],hp,.inl ⟨rfl,rfl,rfl⟩⟩
 ·have hkr:=YG (cap:=cap) (ts:=done) hj
  simp (disch:=omega) [zz,hse,hkr,Tryz.f119]
  exact⟨done,hp,.inr ⟨b,cap,j,hj,hcap,rfl,rfl⟩⟩
def wS (ks:List Txt) (rest:q8) (r:TV) (H':q8):Prop:=∃v H1,r=.av TxS v/\KM (kU ks) v H1/\H'=H1++rest
theorem XH {a b:List Txt} (h:a.Perm b):kU a=kU b:=by
 unfold kU
 have h1:=List.pairwise_mergeSort (le:=fun(a b:Txt)=>decide (a<=b)) (fun a b c h1 h2=>by simp only[decide_eq_true_eq]at *;exact List.le_trans h1 h2) (fun a b=>by simp only[Bool.or_eq_true,decide_eq_true_eq];exact List.le_total a b) a
 have h2:=List.pairwise_mergeSort (le:=fun(a b:Txt)=>decide (a<=b)) (fun a b c h1 h2=>by simp only[decide_eq_true_eq]at *;exact List.le_trans h1 h2) (fun a b=>by simp only[Bool.or_eq_true,decide_eq_true_eq];exact List.le_total a b) b
 refine List.Perm.eq_of_pairwise (fun x y _ _ h3 h4=>?_) h1 h2 ((List.mergeSort_perm _ _).trans (h.trans (List.mergeSort_perm _ _).symm))
 simp only[decide_eq_true_eq]at h3 h4
 exact List.le_antisymm h3 h4
theorem zhO {g c:Nat} {T:TyD} {HS:q8} {ks:List Txt} (hs:zq8 g c T HS ks) (hlen:ks.length<=1000000) :
  q7 Tryz.prog 81 [.av .func (.fn g [.ptr c T []])] HS (wS ks HS):=by
 have hse:=hs.2.1
 refine q7.nilR (R:=fun r H'=>(ks=[]/\r=.av TxS .nsl/\H'=HS)\/wS ks HS r H') ?_ ?_
 rotate_left
 ·rintro r H' (⟨e,rfl,rfl⟩|h)
  ·exact .inr ⟨_,rfl,_,[],rfl,.inl ⟨by rw[e];simp[kU],rfl,rfl⟩,rfl⟩
  ·exact .inl h
 refine zov Tryz.func81 cf0 fun imm0 w0=>?_
 simp (disch:=omega) [zz]
 refine wZ (R:=wR ks HS) rfl (by simp[qI]) (by simp) ?_ ?_
 ·have:=zgE hs hlen
  simpa[TV.er,AV.er,AV.ers,hse]using this
 rintro r' H0 ⟨done,hp,⟨rfl,rfl,rfl⟩|⟨b,cap,j,hj,hcap,rfl,rfl⟩⟩
 ·simp (disch:=omega) [zz]
  refine qD (R:=fun r H'=>r=.tup []/\H'=[]) [] H0 (List.Perm.refl _) rfl (by simp[qI]) (by simp) ?_ ?_
  ·have:=q7.argNsl zaE
   simpa[TV.er,AV.er,AV.ers,q8.er_nil]using this
  rintro r' H' ⟨rfl,rfl⟩ _
  refine⟨_,HSub.refl _,?_⟩
  simp (disch:=omega) [zz,hse,Tryz.f81]
  have hnl:ks=[]:=List.nil_perm.1 hp
  subst hnl
  first|exact .inl rfl|exact .inl ⟨rfl,rfl⟩
 ·have hkr:=fun ts=>YG (cap:=cap) (ts:=ts) hj
  have hdl:done.length<=1000000:=by rw[hp.length_eq];exact hlen
  simp (disch:=omega) [zz]
  refine qD (R:=fun r H'=>r=.tup []/\H'=[(b,yR cap (kU done) j)]) [(b,yR cap done j)] HS (List.Perm.refl _) rfl (by simp[qI]) (by simp) ?_ ?_
  ·have:=zcY done b cap j hcap (by omega)
   have e:q8.er [(b,yR cap done j)]=[(b,yR cap done j)]:=by rw[q8.er_cons,hkr];rfl
   rw[e]
   simpa[TV.er,AV.er,AV.ers,yR]using this
  rintro r' H' ⟨rfl,rfl⟩ _
  refine⟨_,HSub.refl _,?_⟩
  have hks:=hkr (kU done)
  simp (disch:=omega) [zz,hse,hks,Tryz.f81]
  refine⟨_,_,rfl,.inr ⟨b,cap,j,hj,?_,?_,rfl⟩,?_⟩
  ·rw[<-XH hp,ZA]
  ·rw[<-XH hp,ZA];exact hcap
  ·rw[XH hp];rfl
end
section
variable [Sel] [SelPow] [SelMax]
theorem zk2 (c M:Nat) (hcM:c≠M) (l:List (Txt × Txt)):zq8 120 c WrT [(M,wrO l),(c,wbO M)] (l.map (·.1)) :=
 ⟨by simp,by have:=W3 l;simp only[q8.er_cons,q8.er_nil,this];rfl,fun G y hGe hY H hG=>zlA y c M hcM l hGe (fun done k H _ h2 h3=>hY done k H (by simpa using h2) h3) H hG⟩
end
section
variable [Sel]
def yL (b:List UInt8) (k:Nat):List UInt32:=QZ b (k / 4)++(if k % 4=0 then [] else [match k % 4 with
 | 1=>b.getD (4*(k/4)) 0 |>.toUInt32
 | 2=>((b.getD (4*(k/4)) 0).toUInt32 <<< 8) ||| (b.getD (4*(k/4)+1) 0).toUInt32
 | _=>(((b.getD (4*(k/4)) 0).toUInt32 <<< 8) ||| (b.getD (4*(k/4)+1) 0).toUInt32) <<< 8 ||| (b.getD (4*(k/4)+2) 0).toUInt32])
def ZX (w:List UInt32):List UInt32:=w++List.replicate (64-w.length) 0
theorem zdc {w:List UInt32} (h:w.length<=64):(ZX w).length=64:=by simp[ZX];omega
theorem zcf (b:List UInt8):ZX (yL b 0)=List.replicate 64 0:=by simp[yL,QZ,ZX]
theorem zcg (b:List UInt8) (k:Nat) (h:k<64):ZX (yL b (k+1))=(ZX (yL b k)).set (k/4) (((ZX (yL b k)).getD (k/4) 0 <<< 8) ||| (b.getD k 0).toUInt32):=by
 obtain⟨q,r,rfl,hr⟩:∃q r,k=4*q+r/\r<4:=⟨k/4,k%4,by omega,by omega⟩
 have hq:(4*q+r)/4=q:=by omega
 have hm:(4*q+r)%4=r:=by omega
 have hlen:=u9 b q
 have hrep:List.replicate (64-q) (0:UInt32)=0::List.replicate (64-(q+1)) 0:=by
  rw[show 64-q=(64-(q+1))+1 by omega,List.replicate_succ]
 rcases(by omega:r=0\/r=1\/r=2\/r=3)with rfl|rfl|rfl|rfl
 ·have h1:(4*q+0+1)/4=q:=by omega
  have h2:(4*q+0+1)%4=1:=by omega
  simp only[yL,hq,hm,h1,h2,ZX,hlen,if_true,List.append_nil]
  simp[hlen,hrep,List.getElem?_append_right,List.set_append_right]
 ·have h1:(4*q+1+1)/4=q:=by omega
  have h2:(4*q+1+1)%4=2:=by omega
  simp only[yL,hq,hm,h1,h2,ZX,hlen]
  simp[hlen,List.getElem?_append_right,List.set_append_right]
 ·have h1:(4*q+2+1)/4=q:=by omega
  have h2:(4*q+2+1)%4=3:=by omega
  simp only[yL,hq,hm,h1,h2,ZX,hlen]
  simp[hlen,List.getElem?_append_right,List.set_append_right]
 ·have h1:(4*q+3+1)/4=q+1:=by omega
  have h2:(4*q+3+1)%4=0:=by omega
  have hw:=zeP (b.getD (4*q) 0) (b.getD (4*q+1) 0) (b.getD (4*q+2) 0) (b.getD (4*q+3) 0)
  simp only[UInt32.zero_shiftLeft,UInt32.zero_or]at hw
  simp only[yL,hq,hm,h1,h2,ZX,hlen,QZ,if_pos (show q<16 by omega),zmL]
  simp[hlen,List.getElem?_append_right,List.set_append_right]
  simp only[List.getD_eq_getElem?_getD]at hw
  exact hw.symm
theorem zew (b:List UInt8):yL b 64=QZ b 16:=by simp[yL]
theorem zfA (b:List UInt8) (k:Nat) (h:k<64) (h16:16<=k):ZX (QZ b (k+1))=(ZX (QZ b k)).set k (zjo (QZ b k)):=by
 have hlen:=u9 b k
 have hrep:List.replicate (64-k) (0:UInt32)=0::List.replicate (64-(k+1)) 0:=by
  rw[show 64-k=(64-(k+1))+1 by omega,List.replicate_succ]
 simp only[ZX,QZ,hlen,if_neg (show ¬k<16 by omega)]
 simp[hlen,hrep,List.set_append_right]
abbrev zr9:Cfg:=⟨fun _=>false,fun n=>n==72⟩
theorem zrt:wW 0=.i .u32 0:=rfl
theorem zdj (b:List UInt8) (hb:b.length=64) :
  PC Tryz.prog 177 [.av (.slice 5) (yY b)] (.av (.arr 64 126) (.agg ((QZ b 64).map wW))):=by
 have hbe:yY b=.sl .no (b.map fun b=>.i .u8 b.toNat):=rfl
 refine zow Tryz.func177 zr9 fun imm0 w0=>?_
 simp (disch:=omega) [zz,hbe,hb]
 refine AT.loopV (α:=Nat) (fun k ver=>St.of [(2,.loc 2 []),(3,.loc 3 []),(11,.av (.slice 5) (yY b)),(12,.av (.int .i64) (.i .i64 64)),(13,.av (.int .i64) (.i .i64 k))] [(2,(.arr 64 126,.agg (List.replicate 64 (.i .u32 0)))),(3,(.arr 64 126,.agg ((ZX (yL b k)).map wW)))] ver [])
  (fun k=>k<=64) (fun k=>64-k) 0 ?_ ?_ ?_
 ·apply Le.of<;>simp[le9,zcf,zrt,hbe]<;>try omega
 ·simp
 ·rintro k ver hk KL hN hE
  refine zrd zr9 ?_
  by_cases hlt:k<64
  ·have hlt':(k:Int)<64:=by omega
   obtain⟨q,hq⟩:∃q:Nat,k / 4=q:=⟨_,rfl⟩
   have hq':(k:Int).tdiv 4=(q:Int):=by rw[Int.tdiv_eq_ediv_of_nonneg (by omega)];omega
   have hst:=zcg b k hlt
   obtain⟨W,hW⟩:∃W,ZX (yL b k)=W:=⟨_,rfl⟩
   have hWl:W.length=64:=by rw[<-hW];exact zdc (by simp[yL];split<;>simp<;>omega)
   obtain⟨x,hx⟩:∃x,W[q]?=some x:=⟨_,List.getElem?_eq_getElem (by omega)⟩
   obtain⟨y,hy⟩:∃x,b[k]?=some x:=⟨_,List.getElem?_eq_getElem (by omega)⟩
   have gx:∀g:q<W.length,W[q]=x:=fun g=>by rw[List.getElem?_eq_getElem g]at hx;simpa using hx
   have gy:∀g:k<b.length,b[k]=y:=fun g=>by rw[List.getElem?_eq_getElem g]at hy;simpa using hy
   rw[hW,hq,List.getD_eq_getElem?_getD,List.getD_eq_getElem?_getD,hx,hy]at hst
   have hs8:=zsV x (show 8<32 by omega)
   have hst':(ZX (yL b (k+1))).map wW=(W.map wW).set q (wW (x <<< UInt32.ofNat 8 ||| y.toUInt32)):=by rw[hst,List.map_set];rfl
   simp (disch:=omega) [zz,hlt',hq',hbe,hW,gx,gy,hs8,zsx,wor,-BitVec.toNat_or]
   (repeat with_reducible refine om ?_)
   refine hN _ (k+1) ?_ (by first|omega|(simp;done)|(simp;omega)) (by first|omega|(simp;done)|(simp;omega));apply Le.of<;>simp[le9,hst',hbe]<;>try omega
  ·obtain rfl:k=64:=by omega
   simp (disch:=omega) [zz]
   refine hE _ _ (by simp) ?_
   simp (disch:=omega) [zz]
   refine AT.loopV (α:=Nat) (fun k ver=>St.of [(2,.loc 2 []),(3,.loc 3 []),(6,.av (.int .i64) (.i .i64 k))] [(2,(.arr 64 126,.agg (List.replicate 64 (.i .u32 0)))),(3,(.arr 64 126,.agg ((ZX (QZ b k)).map wW)))] ver [])
    (fun k=>16<=k/\k<=64) (fun k=>64-k) 16 ?_ ?_ ?_
   ·apply Le.of<;>simp[le9,zew]<;>try omega
   ·simp
   ·rintro k ver2 ⟨h16,hk⟩ KL2 hN2 hE2
    refine zrd zr9 ?_
    by_cases hkt:k<64
    ·obtain⟨m,rfl⟩:∃m,k=m+16:=⟨k-16,by omega⟩
     have hfs:=zfA b (m+16) hkt h16
     have hWl:=u9 b (m+16)
     have hk':(m:Int)+16<64:=by omega
     obtain⟨W,hW⟩:∃W,QZ b (m+16)=W:=⟨_,rfl⟩
     rw[hW]at hfs hWl
     obtain⟨F,hF⟩:∃F,ZX W=F:=⟨_,rfl⟩
     have hFl:F.length=64:=by rw[<-hF];exact zdc (by omega)
     have k8:∀i,i<m+16->F[i]?=W[i]?:=fun i hi=>by rw[<-hF,ZX,List.getElem?_append_left (by omega)]
     obtain⟨x16,h16e⟩:∃x,W[m]?=some x:=⟨_,List.getElem?_eq_getElem (by omega)⟩
     obtain⟨x15,h15e⟩:∃x,W[m+1]?=some x:=⟨_,List.getElem?_eq_getElem (by omega)⟩
     obtain⟨x7,h7e⟩:∃x,W[m+9]?=some x:=⟨_,List.getElem?_eq_getElem (by omega)⟩
     obtain⟨x2,h2e⟩:∃x,W[m+14]?=some x:=⟨_,List.getElem?_eq_getElem (by omega)⟩
     have g16:∀h:m<F.length,F[m]=x16:=fun h=>by have:=(k8 m (by omega)).trans h16e;rw[List.getElem?_eq_getElem h]at this;simpa using this
     have g15:∀h:m+1<F.length,F[m+1]=x15:=fun h=>by have:=(k8 (m+1) (by omega)).trans h15e;rw[List.getElem?_eq_getElem h]at this;simpa using this
     have g7:∀h:m+9<F.length,F[m+9]=x7:=fun h=>by have:=(k8 (m+9) (by omega)).trans h7e;rw[List.getElem?_eq_getElem h]at this;simpa using this
     have g2:∀h:m+14<F.length,F[m+14]=x2:=fun h=>by have:=(k8 (m+14) (by omega)).trans h2e;rw[List.getElem?_eq_getElem h]at this;simpa using this
     have w16:∀h:m<W.length,W[m]=x16:=fun h=>by rw[List.getElem?_eq_getElem h]at h16e;simpa using h16e
     have w15:∀h:m+1<W.length,W[m+1]=x15:=fun h=>by rw[List.getElem?_eq_getElem h]at h15e;simpa using h15e
     have w7:∀h:m+9<W.length,W[m+9]=x7:=fun h=>by rw[List.getElem?_eq_getElem h]at h7e;simpa using h7e
     have w2:∀h:m+14<W.length,W[m+14]=x2:=fun h=>by rw[List.getElem?_eq_getElem h]at h2e;simpa using h2e
     have hX:zjo W=x16+lo x15+x7+hi x2:=by simp[zjo,hWl,w16,w15,w7,w2]
     have hfs':(ZX (QZ b (m+17))).map wW=(F.map wW).set (m+16) (wW (x16+lo x15+x7+hi x2)):=by rw[<-hX,<-hF,show m+17=m+16+1 by omega,hfs,List.map_set]
     simp (disch:=omega) [zz,hk',hW,hF,g15,g2]
     (repeat with_reducible refine om ?_)
     refine qG (wC x15 7 (by decide) (by decide)) rfl rfl (by simp) (by simp[qM,coC,TV.er,AV.er]) ?_
     simp (disch:=omega) [zz]
     refine qG (wC x15 18 (by decide) (by decide)) rfl rfl (by simp) (by simp[qM,coC,TV.er,AV.er]) ?_
     simp (disch:=omega) [zz,PD,VZ,-BitVec.toNat_xor]
     refine qG (wC x2 17 (by decide) (by decide)) rfl rfl (by simp) (by simp[qM,coC,TV.er,AV.er]) ?_
     simp (disch:=omega) [zz]
     refine qG (wC x2 19 (by decide) (by decide)) rfl rfl (by simp) (by simp[qM,coC,TV.er,AV.er]) ?_
     simp (disch:=omega) [zz,PD,VZ,GU,g16,g7,-BitVec.toNat_xor]
     (repeat with_reducible refine om ?_)
     refine hN2 _ (m+17) ?_ (by omega) (by omega)
     apply Le.of<;>simp[le9,hfs',lo,hi]<;>try omega
    ·obtain rfl:k=64:=by omega
     simp (disch:=omega) [zz]
     refine hE2 _ _ (by simp) ?_
     have hf64:ZX (QZ b 64)=QZ b 64:=by simp[ZX]
     simp (disch:=omega) [zz,Tryz.f177,hf64]
     simp[AV.ers_eq,Function.comp_def,AV.er]
end
end Go.Proofs.YtfkcpballfhddaaGreatDoor
