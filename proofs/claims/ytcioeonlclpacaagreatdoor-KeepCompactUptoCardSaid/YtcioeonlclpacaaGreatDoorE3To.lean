/- A map's keys, in a row. No condition beyond each theorem's own. -/
import Derived.Test.YtcioeonlclpacaaGreatDoorE1
import Derived.Test.YtcioeonlclpacaaGreatDoorP8ToE4a
import Derived.Test.YtcioeonlclpacaaGreatDoorD4ToD6
import Derived.Test.YtcioeonlclpacaaGreatDoorP1ToP7
set_option linter.unusedSimpArgs false
set_option linter.unusedVariables false
set_option linter.unusedSectionVars false
section
set_option maxRecDepth 100000
namespace Go.Proofs.YtcioeonlclpacaaGreatDoor
open Go Go.Ab
open Classical
variable [Sel]
@[simp] theorem zAe:qZ Tryz.prog 173=true:=by kernel_rfl
@[simp] theorem zAY:z8 Tryz.prog (.func 173)=false:=q9 zAe
@[simp] theorem zmo:qZ Tryz.prog 129=true:=by kernel_rfl
@[simp] theorem zq0:z8 Tryz.prog (.func 129)=false:=q9 zmo
abbrev DgS:TyD:=.slice 46
noncomputable def zKw (cap:Nat) (ks:List Dig) (j:List AV):HObj:=.var (.arr cap 46) (.agg (ks.map KW++j))
def kG (y b2:Nat) (done:List Dig) (H:q8):Prop :=
 (done=[]∧H=[(b2,.var DgS .nsl)])∨∃b cap j,JK j∧b≠b2∧b≠y∧done.length+j.length=cap∧H=[(b2,.var DgS (.msl b 46 0 done.length cap)),(b,zKw cap done j)]
def kR (ks:List Dig) (rest:q8) (r:TV) (H':q8):Prop :=
 ∃done,done.Perm ks∧((done=[]∧r=.av DgS .nsl∧H'=rest)∨∃b cap j,JK j∧done.length+j.length=cap∧r=.av DgS (.msl b 46 0 done.length cap)∧H'=(b,zKw cap done j)::rest)
theorem zLo {cap:Nat} {ks:List Dig} {j:List AV} (h:JK j):(zKw cap ks j).er=zKw cap ks j:=by
 simp only[zKw,HObj.er_var,AV.erk,uC]
 rw[show AV.erks j=j from h]
 congr 3
 simp[AV.erks_eq,Function.comp_def]
theorem zSO {y b2:Nat} {done:List Dig} {H:q8} (h:kG y b2 done H):H.er=H:=by
 rcases h with⟨_,rfl⟩|⟨b,cap,j,hj,_,_,_,rfl⟩
 ·rfl
 ·rw[q8.er_cons,q8.er_cons,zLo hj];rfl
def zD:AV:=.agg (List.replicate 32 (.i .u8 0))
theorem zP6 (n:Nat):JK (List.replicate n zD):=by
 unfold JK;rw[AV.erks_eq,List.map_replicate];congr 1
theorem zOU (l:List Dig):JK (l.map KW):=by
 unfold JK;simp[AV.erks_eq,Function.comp_def]
def zRp (g c:Nat) (T:TyD) (HS:q8) (ks:List Dig):Prop:=qZ Tryz.prog g=true∧HS.er=HS∧∀(G:List Dig→q8→Prop) (y:Nat),(∀done H,G done H→H.er=H)→
  (∀done (k:Dig) H,done.length<ks.length→G done H→YC Tryz.prog y [.av (.arr 32 5) (KW k)] H fun r H'=>r=.av .bool (.b true)∧G (done++[k]) H')→
  ∀H,G [] H→q7 Tryz.prog g [.av .func (.yl y),.av .ptr (.ptr c T [])] (HS++H) fun r H'=>r=.tup []∧∃done H1,done.Perm ks∧G done H1∧H'=HS++H1
abbrev zSv:Cfg:=⟨fun n=>n==2,fun _=>false⟩
set_option maxHeartbeats 8000000 in
theorem zNk {g c:Nat} {T:TyD} {HS:q8} {ks:List Dig} (hs:zRp g c T HS ks) (hlen:ks.length≤1000000) :
  q7 Tryz.prog 173 [.av DgS .nsl,.av .func (.fn g [.ptr c T []])] HS (kR ks HS):=by
 obtain⟨hfo,hse,hsf⟩:=hs
 refine q7.sub (R:=fun r H'=>∃H2,Ab.HSub H2 H'∧kR ks HS r H2) ?_ fun r H' ⟨H2,h1,h2⟩ _=>⟨H2,h1,h2⟩
 refine zov Tryz.func173 zSv fun imm0 w0=>?_
 simp (disch:=omega) [zz,-List.reduceReplicate]
 intro b2 hb2
 refine AT.range (gf:=g) rfl rfl rfl (by simp[hfo]) ?_
 intro y D r i0 w1 hy hrec hready hpend hpar has hbo
 simp at hy
 obtain⟨hy2,hyS⟩:=hy
 have hy2':¬b2=y:=fun e=>hy2 e.symm
 refine⟨HS++[(y,.lrec r i0 w1),(b2,.var DgS .nsl)],[],fun t H'=>t=.tup []∧∃done H1,done.Perm ks∧(∃H2,H1=(y,.lrec r i0 w1)::H2∧kG y b2 done H2)∧H'=HS++H1,?_,?_,?_⟩
 ·rw[List.append_nil]
  exact List.perm_append_comm (l₁:=[_,_])
 ·rw[q8.er_app,hse]
  refine hsf (fun done H=>∃H2,H=(y,.lrec r i0 w1)::H2∧kG y b2 done H2) y ?_ ?_ _ ⟨_,rfl,.inl ⟨rfl,rfl⟩⟩
  ·rintro done H ⟨H2,rfl,hg⟩
   rw[q8.er_cons,zSO hg];rfl
  ·rintro done k H hdl ⟨H2,rfl,hg⟩
   have hrd:=YC.of_round (l:=y) hrec hready (args:=[.av (.arr 32 5) (KW k)]) (H:=H2) (R:=fun rr H'=>rr=.av .bool (.b true)∧∃H3,Ab.HSub ((y,.lrec r i0 w1)::H3) H'∧kG y b2 (done++[k]) H3) (by rw[hpar];rfl) (by rw[hpar];simp) (fun imm w=>?_)
   ·exact zeS hrd fun rr H' ⟨e1,H3,e2,e3⟩ _=>⟨_,e2,e1,H3,rfl,e3⟩
   rw[has,hbo,hpar]
   refine qM (cf:=zSv) laid mixed _ _ _ (by kernel_rfl) ?_
   simp (disch:=omega) [zz,-List.reduceReplicate,QW,yL,vS]
   refine qM (cf:=zSv) laid mixed _ _ _ (by kernel_rfl) ?_
   have hrl:∀(p:Array Nat) (a b:Code),p=r.params→a=r.assign→b=r.body→({ state:=.ready,pending:=none,fn:=r.fn,tmps:=r.tmps,params:=p,assign:=a,body:=b,defers:=r.defers }:Loop)=r:=by
    rintro _ _ _ rfl rfl rfl;exact u7 hready hpend
   have her:∀r',(HObj.lrec r' i0 w1).er=HObj.lrec r' i0 w1:=fun _=>rfl
   rcases hg with⟨rfl,rfl⟩|⟨b,cap,j,hj,hbb,hby,hcap,rfl⟩
   ·simp (disch:=omega) [zz,-List.reduceReplicate,hy2,hy2']
    intro b' cap' hb1 hb2 hc
    have hb1':¬y=b':=fun e=>hb1 e.symm
    have hb2':¬b2=b':=fun e=>hb2 e.symm
    simp (disch:=omega) [zz,-List.reduceReplicate,hy2,hy2',hb1,hb2,hb1',hb2',WR,uV]
    rw[her,hrl _ _ _ hpar.symm has.symm hbo.symm]
    refine⟨[(b2,.var DgS (.msl b' 46 0 1 cap')),(b',zKw cap' [k] (List.replicate (cap'-1) zD))],HSub.of_perm ?_,.inr ⟨b',cap',_,zP6 _,hb2,hb1,by simp;omega,rfl⟩⟩
    have:=zP6 (cap'-1)
    unfold JK zD at this
    rw[this]
    exact List.perm_append_comm (l₁:=[_]) (l₂:=[_,_])
   ·have hbb':¬b2=b:=fun e=>hbb e.symm
    have hby':¬y=b:=fun e=>hby e.symm
    simp (disch:=omega) [zz,-List.reduceReplicate,hy2,hy2',hbb,hbb',hby,hby',zKw]
    refine⟨by omega,⟨by omega,by omega⟩,fun hc=>?_,fun hc b' cap' hb1 hb2 hb3 hc'=>?_⟩
    ·simp (disch:=omega) [zz,-List.reduceReplicate,hy2,hy2',hbb,hbb',hby,hby',WR,uV]
     rw[her,hrl _ _ _ hpar.symm has.symm hbo.symm]
     have h2:(done.map KW++j).take done.length++KW k::(done.map KW++j).drop (done.length+1)=(done++[k]).map KW++j.drop 1:=by
      have e1:(done.map KW++j).take done.length=done.map KW:=by rw[List.take_append_of_le_length (by simp)];exact List.take_of_length_le (by simp)
      have e2:(done.map KW++j).drop (done.length+1)=j.drop 1:=by
       rw[List.drop_append,List.drop_of_length_le (by simp)];simp
      rw[e1,e2];simp
     have h3:=(zOU (done++[k])).app (hj.drop 1)
     unfold JK at h3
     rw[h2,h3]
     refine⟨[(b2,.var DgS (.msl b 46 0 (done.length+1) cap)),(b,zKw cap (done++[k]) (j.drop 1))],HSub.refl _,.inr ⟨b,cap,_,hj.drop 1,hbb,hby,by simp;omega,by simp⟩⟩
    ·have hb1':¬y=b':=fun e=>hb1 e.symm
     have hb2':¬b2=b':=fun e=>hb2 e.symm
     have hb3':¬b=b':=fun e=>hb3 e.symm
     simp (disch:=omega) [zz,-List.reduceReplicate,hy2,hy2',hbb,hbb',hby,hby',hb1,hb2,hb3,hb1',hb2',hb3',WR,uV]
     rw[her,hrl _ _ _ hpar.symm has.symm hbo.symm]
     have h2:(done.map KW++j).take done.length++KW k::List.replicate (cap'-(done.length+1)) zD=(done++[k]).map KW++List.replicate (cap'-(done.length+1)) zD:=by
      have e1:(done.map KW++j).take done.length=done.map KW:=by rw[List.take_append_of_le_length (by simp)];exact List.take_of_length_le (by simp)
      rw[e1];simp
     have h3:=(zOU (done++[k])).app (zP6 (cap'-(done.length+1)))
     unfold JK at h3
     unfold zD at h2 h3
     rw[h2,h3]
     refine⟨[(b2,.var DgS (.msl b' 46 0 (done.length+1) cap')),(b',zKw cap' (done++[k]) (List.replicate (cap'-(done.length+1)) zD))],⟨_,List.perm_append_comm (l₁:=[_]) (l₂:=[_,_,_]),?_⟩,.inr ⟨b',cap',List.replicate (cap'-(done.length+1)) zD,zP6 _,hb2,hb1,by simp;omega,by simp⟩⟩
     exact((((List.nil_sublist _).cons_cons _).cons _).cons_cons _).cons_cons _
 ·rintro t H' ⟨rfl,done,H1,hp,⟨H2,rfl,hg⟩,rfl⟩ hnd
  refine⟨r,H2++HS,HSub.of_perm (by rw[List.append_nil];exact List.perm_append_comm (l₂:=_::_)),by rw[hready];simp,?_⟩
  rw[hpend]
  rcases hg with⟨rfl,rfl⟩|⟨b,cap,j,hj,hbb,hby,hcap,rfl⟩
  ·simp (disch:=omega) [zz,-List.reduceReplicate,PR,hse,Tryz.f173]
   exact⟨HS,HSub.of_sub ((List.Sublist.refl _).cons _),[],hp,.inl ⟨rfl,rfl,rfl⟩⟩
  ·have hkr:=zLo (cap:=cap) (ks:=done) hj
   simp (disch:=omega) [zz,-List.reduceReplicate,PR,hse,hkr,Tryz.f173]
   exact⟨(b,zKw cap done j)::HS,HSub.of_sub ((List.Sublist.refl _).cons _),done,hp,.inr ⟨b,cap,j,hj,hcap,rfl,rfl⟩⟩
theorem zOd {g c:Nat} {T:TyD} {HS:q8} {ks:List Dig} (hs:zRp g c T HS ks) (hlen:ks.length≤1000000) :
  q7 Tryz.prog 129 [.av .func (.fn g [.ptr c T []])] HS (kR ks HS):=by
 have hse:=hs.2.1
 refine zov Tryz.func129 cf0 fun imm0 w0=>?_
 simp (disch:=omega) [zz,-List.reduceReplicate]
 refine jP (R:=kR ks HS) rfl (by simp[qQ]) (by simp) ?_ ?_
 ·have:=q7.argNil (zNk hs hlen)
  simpa[TV.er,AV.er,AV.ers,hse]using this
 rintro r' H' ⟨done,hp,⟨rfl,rfl,rfl⟩|⟨b,cap,j,hj,hcap,rfl,rfl⟩⟩
 ·simp (disch:=omega) [zz,-List.reduceReplicate,hse,Tryz.f129]
  exact⟨[],hp,.inl ⟨rfl,rfl,rfl⟩⟩
 ·have hkr:=zLo (cap:=cap) (ks:=done) hj
  simp (disch:=omega) [zz,-List.reduceReplicate,hse,hkr,Tryz.f129]
  exact⟨done,hp,.inr ⟨b,cap,j,hj,hcap,rfl,rfl⟩⟩
@[simp] theorem zx7:qZ Tryz.prog 66=true:=by kernel_rfl
@[simp] theorem zxg:z8 Tryz.prog (.func 66)=false:=q9 zx7
@[simp] theorem zke:qZ Tryz.prog 131=true:=by kernel_rfl
@[simp] theorem zqO:z8 Tryz.prog (.func 131)=false:=q9 zke
abbrev MpT:TyD:=.map 46 55
noncomputable def mbO (M:Nat):HObj:=.var MpT (.map (some M))
abbrev zrZ:Cfg:=⟨fun n=>n==1,fun _=>false⟩
theorem zR5 (M:Nat):q7 Tryz.prog 66 [.av MpT (.map (some M))] [] fun r H'=>∃c,r=.av .func (.fn 131 [.ptr c MpT []])∧H'=[(c,mbO M)]:=by
 refine zov Tryz.func66 zrZ fun imm0 w0=>?_
 (simp (maxSteps:=2000000) (disch:=first|omega|assumption) [zz,-List.reduceReplicate])
 intro c
 (simp (maxSteps:=2000000) (disch:=first|omega|assumption) [zz,-List.reduceReplicate,Tryz.f66,mbO,AV.ers])
set_option maxHeartbeats 4000000 in
theorem zPr {G:List Dig→q8→Prop} (y c M:Nat) (hcM:c≠M) (cs:List Cel) (en:Array MapEntry) (ck:Nat) (i0:Nat→Nat) (w1:World) (hop:gM Tryz.prog 46 55 (cs.map zt1) en ck i0 w1)
  (hGe:∀done H,G done H→H.er=H)
  (hY:∀done (k:Dig) H,k∈cs.map (·.key)→done.length<cs.length→G done H→YC Tryz.prog y [.av (.arr 32 5) (KW k)] H fun r H'=>r=.av .bool (.b true)∧G (done++[k]) H') :
  ∀H,G [] H→q7 Tryz.prog 131 [.av .func (.yl y),.av .ptr (.ptr c MpT [])] ((c,mbO M)::(M,.raw (.map en ck) i0 w1)::H)
   fun r H'=>r=.tup []∧∃done H1 it o,done.Perm (cs.map (·.key))∧G done H1∧H'=(it,o)::(c,mbO M)::(M,.raw (.map en ck) i0 w1)::H1:=by
 intro H hG
 have hMc:¬M=c:=fun e=>hcM e.symm
 refine zov Tryz.func131 cf0 fun imm0 w0=>?_
 (simp (maxSteps:=2000000) (disch:=first|omega|assumption) [zz,-List.reduceReplicate,mbO,hcM,hMc])
 intro it hit hiM _
 have hit':¬c=it:=fun e=>hit e.symm
 have hiM':¬M=it:=fun e=>hiM e.symm
 have hsz:en.size=cs.length:=by have:=p5 hop.ents;simpa using this.symm
 refine AT.loop' (α:=List Nat × q8) (fun p=>St.of [(0,.av .func (.yl y)),(1,.av .ptr (.ptr c MpT [])),(5,.av .ptr (.ptr it .other []))] [] (fun _=>0) ((it,.raw (.mapIter (some M) ck (xK en p.1) ck) (fun _=>0) default)::(c,mbO M)::(M,.raw (.map en ck) i0 w1)::p.2))
  (fun p=>p.1.Nodup∧(∀i∈p.1,i<en.size)∧G (XL (cs.map (·.key)) p.1) p.2) (fun p=>en.size-p.1.length) ([],H) ?_ ?_ ?_
 ·apply Le.of<;>simp[qU,qG,mbO,xK]<;>try omega
 ·exact⟨List.nodup_nil,by simp,hG⟩
 rintro⟨ids,H1⟩ ⟨hnd,hlt,hG1⟩ KL hN hE
 simp only at hnd hlt hG1
 refine qM (cf:=cf0) laid mixed _ _ _ (by kernel_rfl) ?_
 (simp (maxSteps:=2000000) (disch:=first|omega|assumption) [zz,-List.reduceReplicate,mbO,hit,hiM,hit',hiM',hcM,hMc,zeg])
 refine⟨46,55,cs.map zt1,hop,fun hall=>?_,fun i me u v hi hns hes=>?_⟩
 ·refine hE _ _ (by simp) ?_
  have hperm:(XL (cs.map (·.key)) ids).Perm (cs.map (·.key)):=by
   refine zdP hnd (fun i hi=>by have:=hlt i hi;simpa[hsz]using this) fun i hi=>?_
   have hi':i<en.size:=by simpa[hsz]using hi
   exact(cV hop.st hlt (Array.getElem?_eq_getElem hi')).1 (hall i _ (Array.getElem?_eq_getElem hi'))
  have hH:=hGe _ _ hG1
  (simp (maxSteps:=2000000) (disch:=first|omega|assumption) [zz,-List.reduceReplicate,Tryz.f131,hH,HObj.er])
  exact⟨_,hperm,hG1⟩
 ·have hil:i<en.size:=(Array.getElem?_eq_some_iff.1 hi).1
  have hni:i∉ids:=fun h=>hns ((cV hop.st hlt hi).2 h)
  have hic:i<cs.length:=by omega
  have hu:u=KW cs[i].key:=by
   rw[List.getElem?_map,List.getElem?_eq_getElem hic]at hes
   have:=Option.some.inj hes
   exact(congrArg Prod.fst this).symm
  subst hu
  rw[zdQ en ids hi]
  refine⟨46,55,cs.map zt1,hop,i,me,hi,KW cs[i].key,v,hes,rfl,?_⟩
  (simp (maxSteps:=2000000) (disch:=first|omega|assumption) [zz,-List.reduceReplicate])
  have hkm:cs[i].key∈cs.map (·.key):=List.mem_map.2 ⟨cs[i],List.getElem_mem hic,rfl⟩
  have hGn:XL (cs.map (·.key)) (ids++[i])=XL (cs.map (·.key)) ids++[cs[i].key]:=by
   simp[XL,List.getElem?_eq_getElem hic]
  have hnd2:(ids++[i]).Nodup:=List.nodup_append.2 ⟨hnd,by simp,fun a ha b hb e=>by simp only[List.mem_singleton]at hb;subst hb;exact hni (e▸ha)⟩
  have hlt2:∀k∈ids++[i],k<en.size:=fun k hk=>by
   rcases List.mem_append.1 hk with h|h
   ·exact hlt k h
   ·simp only[List.mem_singleton]at h;omega
  have hle2:=gK en.size _ hnd2 hlt2
  refine JY (R:=fun r H'=>r=.av .bool (.b true)∧G (XL (cs.map (·.key)) (ids++[i])) H') H1 [(it,.raw (.mapIter (some M) ck (xK en (ids++[i])) ck) (fun _=>0) default),(c,mbO M),(M,.raw (.map en ck) i0 w1)] (List.perm_append_comm (l₁:=[_,_,_])) (by simp[qQ]) ?_ ?_
  ·rw[hGe _ _ hG1,hGn]
   have:=hY _ _ _ hkm (by simp only[XL,List.length_map];simp at hle2;omega) hG1
   simpa[TV.er]using this
  rintro r H2 ⟨rfl,hG2⟩ _
  refine⟨(it,.raw (.mapIter (some M) ck (xK en (ids++[i])) ck) (fun _=>0) default)::(c,mbO M)::(M,.raw (.map en ck) i0 w1)::H2,HSub.of_perm (List.perm_append_comm (l₂:=[_,_,_])),?_⟩
  (simp (maxSteps:=2000000) (disch:=first|omega|assumption) [zz,-List.reduceReplicate])
  refine hN _ (ids++[i],H2) ?_ ⟨hnd2,hlt2,hG2⟩ (by simp at hle2 ⊢;omega)
  apply Le.of<;>simp[qU,qG,mbO]<;>try omega
theorem zQr {G:List Dig→q8→Prop} (y c M:Nat) (hcM:c≠M) (cs:List Cel) (hGe:∀done H,G done H→H.er=H)
  (hY:∀done (k:Dig) H,k∈cs.map (·.key)→done.length<cs.length→G done H→YC Tryz.prog y [.av (.arr 32 5) (KW k)] H fun r H'=>r=.av .bool (.b true)∧G (done++[k]) H') (H:q8) (hG:G [] H) :
  q7 Tryz.prog 131 [.av .func (.yl y),.av .ptr (.ptr c MpT [])] ((M,mpO (cs.map zt1))::(c,mbO M)::H)
   fun r H'=>r=.tup []∧∃done H1,done.Perm (cs.map (·.key))∧G done H1∧H'=(M,mpO (cs.map zt1))::(c,mbO M)::H1:=by
 refine q7.openMap fun en ck i0 w1 hop=>?_
 refine q7.conv (R:=fun r H'=>r=.tup []∧∃done H1,done.Perm (cs.map (·.key))∧G done H1∧H'=(M,.raw (.map en ck) i0 w1)::(c,mbO M)::H1) ?_ ?_
 ·refine q7.sub (((zPr y c M hcM cs en ck i0 w1 hop hGe hY H hG)).perm (List.Perm.swap _ _ _)) ?_
  rintro r H' ⟨rfl,done,H1,it,o,hp,hg,rfl⟩ _
  exact⟨_,⟨_,List.Perm.cons _ (List.Perm.swap _ _ _),(List.Sublist.refl _).cons _⟩,rfl,done,H1,hp,hg,rfl⟩
 ·rintro r H' ⟨rfl,done,H1,hp,hg,rfl⟩
  exact⟨(M,mpO (cs.map zt1))::(c,mbO M)::H1,fun b hb=>hb,fun imm w h=>h.shutMap hop,rfl,done,H1,hp,hg,rfl⟩
end Go.Proofs.YtcioeonlclpacaaGreatDoor
end
