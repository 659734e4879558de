/- A journal is opened: the program. No condition. -/
import Derived.Test.YtognnffjdckalaaGreatDoorKJ1ToKJ3
set_option linter.unusedSimpArgs false
set_option linter.unusedVariables false
set_option linter.unusedSectionVars false
set_option maxHeartbeats 64000000
set_option maxRecDepth 100000
namespace Go.Proofs.YtognnffjdckalaaGreatDoor
open Go Go.Ab
open Classical
section
variable [Sel] [SelPow] [SelErr]
abbrev StS:TyD:=.slice 9
def W6 (B M:Nat) (x:DV × Int × List (List UInt8)) (r:TV) (H':q7):Prop :=
 (x.2.1≠0/\r=.tup [(.ptr,.nilptr),(StS,.sl .no []),(.int .i64,.i .i64 x.2.1)]/\J2 B M x.1 H')\/
 (x.2.1=0/\∃J,J≠B/\J≠M/\r=.tup [(.ptr,.ptr J JnT []),(StS,.sl .no (qG x.2.2)),(.int .i64,.i .i64 0)]/\JnR J B M ⟨x.1,false⟩ H')
theorem W6.bad {B M:Nat} {x:DV × Int × List (List UInt8)} {r:TV} {H':q7} (h:x.2.1≠0) (hr:r=.tup [(.ptr,.nilptr),(StS,.sl .no []),(.int .i64,.i .i64 x.2.1)]) (hH:J2 B M x.1 H'):W6 B M x r H':=.inl ⟨h,hr,hH⟩
theorem W6.good {B M J:Nat} {o:Bool} {x:DV × Int × List (List UInt8)} {r:TV} {H':q7} (h:x.2.1=0) (h1:J≠B) (h2:J≠M) (hr:r=.tup [(.ptr,.ptr J JnT []),(StS,.sl .no (qG x.2.2)),(.int .i64,.i .i64 0)]) (hH:H'=jH J B M o ⟨x.1,false⟩):W6 B M x r H' :=
 .inr ⟨h,J,h1,h2,hr,o,hH⟩
abbrev ztj:Cfg:=⟨fun n=>n==23,fun _=>false⟩
theorem znd (B M:Nat) (hBM:M≠B) (o:Bool) (d:DV) (hd:DOK d) (hm:szF d.m<=1000000000) (hn:szF d.n<=10000000000) :
  q6 Tryz.prog 27 [.av .ptr (.ptr B QI []),.av .str (.s nmK)] (zA B M o d) (W6 B M (openJ d)):=by
 refine q6.sub (R:=fun r H'=>∃H2,Ab.HSub H2 H'/\W6 B M (openJ d) r H2) ?_ (fun r H' ⟨H2,h2,h3⟩ _=>⟨H2,h2,h3⟩)
 have hk0:¬nmK=[]:=by decide
 refine zov Tryz.func27 ztj fun imm0 w0=>?_
 simp (disch:=omega) [zz,hk0]
 intro J hJ0
 simp[zA]at hJ0
 obtain⟨hJ1,hJ2⟩:=hJ0
 have hJ:JOK J B M:=⟨hBM,hJ1,hJ2⟩
 refine CU [] J B M hJ o d hd (by simp[jH,jnO]) (by simp[qH]) (by simp[q9,TV.er,AV.er,AV.ers]) fun o1=>?_
 have hopen:openJ d=if (zL d).2=0 then xM (zL d).1 else((zL d).1,(zL d).2,[]):=rfl
 have hd1:=GU hd
 by_cases ht:(zL d).2=0
 ·rw[if_pos ht]at hopen
  obtain⟨tn,tm⟩:=WW ht
  obtain⟨d1,hd1e⟩:∃d1,d1=(zL d).1:=⟨_,rfl⟩
  rw[<-hd1e]at hopen tn tm hd1 |-
  simp (disch:=omega) [zz,ht]
  refine dC [] J B M hJ o1 false ⟨d1,false⟩ (by simp) (by simp[qH]) (by simp[q9,TV.er,AV.er,nmB]) ?_
  cases hmm:d1.m with
  | none =>
   have hg:(jO false d1).isSome=false:=by simp[jO,hmm]
   have h2:xM d1=(d1,0,[]):=by
    unfold xM
    simp only[hmm,JW,PS,qJ,List.flatMap_nil,List.length_nil,Nat.lt_irrefl,if_false]
   rw[h2]at hopen
   simp (disch:=omega) [zz,hg,Tryz.f27]
   exact⟨_,HSub.refl _,W6.good (by rw[hopen]) hJ1 hJ2 (by rw[hopen];rfl) (by rw[hopen])⟩
  | some f =>
   have hg:(jO false d1).isSome=true:=by simp[jO,hmm]
   have hgf:jO false d1=some f:=hmm
   rw[<-tm,hmm]at hm
   simp only[szF]at hm
   have hsc:=zoJ f.data hm
   obtain⟨l,hl⟩:∃l,l=jW f.data:=⟨_,rfl⟩
   obtain⟨sl1,sl2,sl3⟩:=GR _ (b:=f.data) (Nat.le_refl _)
   rw[<-hl]at hsc sl1 sl2 sl3
   have h2:xM d1=if (qJ l).length<f.data.length then((kC (f.data.take (qJ l).length) d1).1,(kC (f.data.take (qJ l).length) d1).2,if (kC (f.data.take (qJ l).length) d1).2=0 then l else []) else(d1,0,l):=by
    unfold xM
    simp only[hmm,JW,<-hl]
   rw[h2]at hopen
   simp (disch:=omega) [zz,hg]
   refine qM (zA B M o1 d1) [(J,jnO B false)] (by simp only[jH];exact List.perm_append_comm (l₁:=[_])) rfl (by simp[qH]) (by simp) (R:=fun r H'=>r=.tup [(.str,.s f.data),(.int .i64,.i .i64 0)]/\H'=zA B M o1 d1) ?_ ?_
   ·have:=zeO B M hBM o1 false d1
    rw[hgf]at this
    rw[cI]
    simpa[TV.er,AV.er,JW,nmB]using this
   rintro r' H' ⟨rfl,rfl⟩ _
   refine⟨jH J B M o1 ⟨d1,false⟩,HSub.of_perm (List.perm_append_comm (l₁:=zA B M o1 d1) (l₂:=[(J,jnO B false)])),?_⟩
   simp (disch:=omega) [zz]
   refine zcv hsc ?_
   by_cases hlt:(qJ l).length<f.data.length
   ·rw[if_pos hlt]at hopen
    have hlt':((qJ l).length:Int)<f.data.length:=by omega
    have hle':((qJ l).length:Int)<=f.data.length:=by omega
    simp (disch:=omega) [zz,hlt',hle']
    refine C3 [] J B M hJ o1 d1 hd1 (f.data.take (qJ l).length) (by rw[tn,List.length_take];simp only[szF];omega) (by simp) (by simp[qH]) (by simp[q9,TV.er,AV.er]) fun o2=>?_
    by_cases he:(kC (f.data.take (qJ l).length) d1).2=0
    ·rw[if_pos he]at hopen
     simp (disch:=omega) [zz,he,Tryz.f27]
     exact⟨_,HSub.refl _,W6.good (by rw[hopen];exact he) hJ1 hJ2 (by rw[hopen]) (by rw[hopen])⟩
    ·rw[if_neg he]at hopen
     simp (disch:=omega) [zz,he,Tryz.f27]
     exact⟨_,HSub.of_sub (List.sublist_cons_self _ _),W6.bad (by rw[hopen];exact he) (by rw[hopen]) (by rw[hopen];exact J2.of)⟩
   ·rw[if_neg hlt]at hopen
    have hlt':¬((qJ l).length:Int)<f.data.length:=by omega
    simp (disch:=omega) [zz,hlt',Tryz.f27]
    exact⟨_,HSub.refl _,W6.good (by rw[hopen]) hJ1 hJ2 (by rw[hopen]) (by rw[hopen])⟩
 ·rw[if_neg ht]at hopen
  simp (disch:=omega) [zz,ht,Tryz.f27]
  exact⟨_,HSub.of_sub (List.sublist_cons_self _ _),W6.bad (by rw[hopen];exact ht) (by rw[hopen]) (by rw[hopen];exact J2.of)⟩
end
section
variable [Sel]
noncomputable def bmO (l:List (Dig × List UInt8)):HObj:=.map 53 9 (stE l)
abbrev BmT:TyD:=.map 53 9
noncomputable def bbO (M:Nat):HObj:=.var BmT (.map (some M))
abbrev zt6:Cfg:=⟨fun n=>n==1,fun _=>false⟩
theorem zo5 (M:Nat):q6 Tryz.prog 116 [.av BmT (.map (some M))] [] fun r H'=>∃c,r=.av .func (.fn 167 [.ptr c BmT []])/\H'=[(c,bbO M)]:=by
 refine zov Tryz.func116 zt6 fun imm0 w0=>?_
 simp (disch:=omega) [zz]
 intro c
 simp (disch:=omega) [zz,Tryz.f116,bbO,AV.ers]
theorem zh3 {G:List Dig->q7->Prop} (y c M:Nat) (hcM:c≠M) (l:List (Dig × List UInt8)) (en:Array MapEntry) (ck:Nat) (i0:Nat->Nat) (w1:World) (hop:xS Tryz.prog 53 9 (stE l) en ck i0 w1)
  (hGe:∀done H,G done H->H.er=H)
  (hY:∀done (k:Dig) H,k∈l.map (·.1)->done.length<l.length->G done H->YC Tryz.prog y [.av (.arr 32 5) (qK k)] H fun r H'=>r=.av .bool (.b true)/\G (done++[k]) H') :
  ∀H,G [] H->q6 Tryz.prog 167 [.av .func (.yl y),.av .ptr (.ptr c BmT [])] ((c,bbO M)::(M,.raw (.map en ck) i0 w1)::H)
   fun r H'=>r=.tup []/\∃done H1 it o,done.Perm (l.map (·.1))/\G done H1/\H'=(it,o)::(c,bbO M)::(M,.raw (.map en ck) i0 w1)::H1:=by
 intro H hG
 have hMc:¬M=c:=fun e=>hcM e.symm
 refine zov Tryz.func167 cf0 fun imm0 w0=>?_
 simp (disch:=omega) [zz,bbO,hcM,hMc]
 intro it hit hiM _
 have hit':¬c=it:=fun e=>hit e.symm
 have hiM':¬M=it:=fun e=>hiM e.symm
 have hsz:en.size=l.length:=by have:=xD hop.ents;simpa[stE]using this.symm
 refine AT.loop' (α:=List Nat × q7) (fun p=>St.of [(0,.av .func (.yl y)),(1,.av .ptr (.ptr c BmT [])),(5,.av .ptr (.ptr it .other []))] [] (fun _=>0) ((it,.raw (.mapIter (some M) ck (QU en p.1) ck) (fun _=>0) default)::(c,bbO M)::(M,.raw (.map en ck) i0 w1)::p.2))
  (fun p=>p.1.Nodup/\(∀i∈p.1,i<en.size)/\G (y8 (l.map (·.1)) p.1) p.2) (fun p=>en.size-p.1.length) ([],H) ?_ ?_ ?_
 ·apply Le.of<;>simp[k8,z1,bbO,QU]<;>try omega
 ·exact⟨List.nodup_nil,by simp,hG⟩
 rintro⟨ids,H1⟩ ⟨hnd,hlt,hG1⟩ KL hN hE
 simp only at hnd hlt hG1
 refine zrd cf0 ?_
 simp (disch:=omega) [zz,bbO,hit,hiM,hit',hiM',hcM,hMc,zbw]
 refine⟨53,9,stE l,hop,fun hall=>?_,fun i me u v hi hns hes=>?_⟩
 ·refine hE _ _ (by simp) ?_
  have hperm:(y8 (l.map (·.1)) ids).Perm (l.map (·.1)):=by
   refine vC hnd (fun i hi=>by have:=hlt i hi;simpa[hsz]using this) fun i hi=>?_
   have hi':i<en.size:=by simpa[hsz]using hi
   exact(K6 hop.st hlt (Array.getElem?_eq_getElem hi')).1 (hall i _ (Array.getElem?_eq_getElem hi'))
  have hH:=hGe _ _ hG1
  simp (disch:=omega) [zz,Tryz.f167,hH,HObj.er]
  exact⟨_,hperm,hG1⟩
 ·have hil:i<en.size:=(Array.getElem?_eq_some_iff.1 hi).1
  have hni:i∉ids:=fun h=>hns ((K6 hop.st hlt hi).2 h)
  have hic:i<l.length:=by omega
  have hu:u=qK l[i].1:=by
   simp only[stE]at hes
   rw[List.getElem?_map,List.getElem?_eq_getElem hic]at hes
   have:=Option.some.inj hes
   exact(congrArg Prod.fst this).symm
  subst hu
  rw[U8 en ids hi]
  refine⟨53,9,stE l,hop,i,me,hi,qK l[i].1,v,hes,rfl,?_⟩
  simp (disch:=omega) [zz]
  have hkm:l[i].1∈l.map (·.1):=List.mem_map.2 ⟨l[i],List.getElem_mem hic,rfl⟩
  have hGn:y8 (l.map (·.1)) (ids++[i])=y8 (l.map (·.1)) ids++[l[i].1]:=by
   simp[y8,List.getElem?_eq_getElem hic]
  have hnd2:(ids++[i]).Nodup:=List.nodup_append.2 ⟨hnd,by simp,fun a ha b hb e=>by simp only[List.mem_singleton]at hb;subst hb;exact hni (e▸ha)⟩
  have hlt2:∀k∈ids++[i],k<en.size:=fun k hk=>by
   rcases List.mem_append.1 hk with h|h
   ·exact hlt k h
   ·simp only[List.mem_singleton]at h;omega
  have hle2:=xX en.size _ hnd2 hlt2
  refine ZZ (R:=fun r H'=>r=.av .bool (.b true)/\G (y8 (l.map (·.1)) (ids++[i])) H') H1 [(it,.raw (.mapIter (some M) ck (QU en (ids++[i])) ck) (fun _=>0) default),(c,bbO M),(M,.raw (.map en ck) i0 w1)] (List.perm_append_comm (l₁:=[_,_,_])) (by simp[qH]) ?_ ?_
  ·rw[hGe _ _ hG1,hGn]
   have:=hY _ _ _ hkm (by simp only[y8,List.length_map];simp at hle2;omega) hG1
   simpa[TV.er]using this
  rintro r H2 ⟨rfl,hG2⟩ _
  refine⟨(it,.raw (.mapIter (some M) ck (QU en (ids++[i])) ck) (fun _=>0) default)::(c,bbO M)::(M,.raw (.map en ck) i0 w1)::H2,HSub.of_perm (List.perm_append_comm (l₂:=[_,_,_])),?_⟩
  simp (disch:=omega) [zz]
  refine hN _ (ids++[i],H2) ?_ ⟨hnd2,hlt2,hG2⟩ (by simp at hle2 |-;omega)
  apply Le.of<;>simp[k8,z1,bbO]<;>try omega
theorem zkB {G:List Dig->q7->Prop} (y c M:Nat) (hcM:c≠M) (l:List (Dig × List UInt8)) (hGe:∀done H,G done H->H.er=H)
  (hY:∀done (k:Dig) H,k∈l.map (·.1)->done.length<l.length->G done H->YC Tryz.prog y [.av (.arr 32 5) (qK k)] H fun r H'=>r=.av .bool (.b true)/\G (done++[k]) H') (H:q7) (hG:G [] H) :
  q6 Tryz.prog 167 [.av .func (.yl y),.av .ptr (.ptr c BmT [])] ((M,bmO l)::(c,bbO M)::H)
   fun r H'=>r=.tup []/\∃done H1,done.Perm (l.map (·.1))/\G done H1/\H'=(M,bmO l)::(c,bbO M)::H1:=by
 refine q6.openMap fun en ck i0 w1 hop=>?_
 refine q6.conv (R:=fun r H'=>r=.tup []/\∃done H1,done.Perm (l.map (·.1))/\G done H1/\H'=(M,.raw (.map en ck) i0 w1)::(c,bbO M)::H1) ?_ ?_
 ·refine q6.sub (((zh3 y c M hcM l en ck i0 w1 hop hGe hY H hG)).perm (List.Perm.swap _ _ _)) ?_
  rintro r H' ⟨rfl,done,H1,it,o,hp,hg,rfl⟩ _
  exact⟨_,⟨_,List.Perm.cons _ (List.Perm.swap _ _ _),(List.Sublist.refl _).cons _⟩,rfl,done,H1,hp,hg,rfl⟩
 ·rintro r H' ⟨rfl,done,H1,hp,hg,rfl⟩
  exact⟨(M,bmO l)::(c,bbO M)::H1,fun b hb=>hb,fun imm w h=>h.shutMap hop,rfl,done,H1,hp,hg,rfl⟩
theorem zn9 (l:List (Dig × List UInt8)):(bmO l).er=bmO l:=by simp only[bmO,HObj.er_map,zrg]
theorem zkP (c M:Nat) (hcM:c≠M) (l:List (Dig × List UInt8)):znp 167 c BmT [(M,bmO l),(c,bbO M)] (l.map (·.1)) :=
 ⟨by simp,by simp only[q7.er_cons,q7.er_nil,zn9 l];rfl,fun G y hGe hY H hG=>zkB y c M hcM l hGe (fun done k H _ h2 h3=>hY done k H (by simpa using h2) h3) H hG⟩
abbrev zts:Cfg:=⟨fun n=>n==2||n==3,fun n=>n==1000001||n==2000007⟩
theorem zkS (a b:Dig) (ha:a.length=32) (hb:b.length=32) :
  PC Tryz.prog 117 [.av (.arr 32 5) (qK a),.av (.arr 32 5) (qK b)] (.av (.int .i64) (.i .i64 (Lib.compareBytes a b))):=by
 refine zow Tryz.func117 zts fun imm0 w0=>?_
 simp (disch:=omega) [zz]
 intro b2 b3 h23
 have h23':¬b2=b3:=fun e=>h23 e.symm
 refine j6.of [0,1,2,3] [] (by kernel_rfl) ?_
 simp (disch:=omega) [zz,h23,h23']
 (repeat with_reducible refine om ?_)
 refine qM (R:=fun r H'=>r=.av (.int .i64) (.i .i64 (Lib.compareBytes a b))/\H'=[(b2,dgO a),(b3,dgO b)]) [(b2,dgO a),(b3,dgO b)] [] (List.Perm.swap _ _ _) rfl (by simp[qH]) (by simp) ?_ ?_
 ·have:=ziF a b ha hb b2 b3 h23'
  simpa[TV.er,AV.er,dgO,HObj.er_var,q7.er_cons,q7.er_nil,AV.erk]using this
 rintro r' H' ⟨rfl,rfl⟩ _
 refine⟨_,HSub.refl _,?_⟩
 simp (disch:=omega) [zz,Tryz.f117]
theorem zmV:zoS 117:=⟨enters_of Tryz.func117 (by kernel_rfl) rfl,fun a b h1 h2=>zkS a b h1 h2⟩
end
section
variable [Sel] [SelPow] [SelErr]
noncomputable def stB (B M:Nat) (l:BlL):q7:=stO B M l (szB l)
@[simp] theorem zew (B M:Nat) (l:BlL):(stB B M l).er=stB B M l:=zqV B M l _
theorem zou {d:Dig} {x:List UInt8} {l:BlL} (h:l.find? (fun p=>decide (p.1=d))=none):szB (l++[(d,x)])=szB l+x.length:=by simp[szB]
theorem zl8 (s:List UInt8):s.length<=(wX s).length:=by
 grind [wX,ZR,List.length_cons]
theorem vR:∀l:BlL,szB l<=uP l
 | []=>Nat.le_refl _
 | p::l=>by
  have ih:=vR l
  have h:=zl8 p.2
  have e1:szB (p::l)=p.2.length+szB l:=rfl
  have e2:uP (p::l)=wtB p.2+uP l:=rfl
  grind [wtB]
theorem zfv (B M:Nat) (hBM:M≠B) (l:BlL) (hl:szB l<=1000000000000) (x:List UInt8) (hx:x.length<=1000000000) :
  q6 Tryz.prog 45 [.av .ptr (.ptr B QW []),.av .str (.s x)] (stB B M l) fun r H'=>r=.av (q8 Tryz.prog 53) (qK (sha x))/\H'=stB B M (kY (sha x) x l):=by
 have hBM':¬B=M:=fun e=>hBM e.symm
 have hfd:=GJ (sha x) l
 refine zov Tryz.func45 zsr fun imm0 w0=>?_
 simp (disch:=omega) [zz]
 refine YE (zmm x (by omega)) rfl rfl (by simp) (by simp[q9,TV.er,AV.er,AV.ers,ziX]) ?_
 cases hf:l.find? (fun p=>decide (p.1=sha x))with
 | some p =>
  rw[hf]at hfd
  simp only[Option.map_some]at hfd
  have hpl:kY (sha x) x l=l:=by simp_all[kY]
  simp (disch:=omega) [zz,-List.reduceReplicate,stB,stO,hBM,hBM',hfd]
  (repeat with_reducible refine om ?_)
  simp (disch:=omega) [zz,-List.reduceReplicate,Tryz.f45,hpl]
 | none =>
  have hpt:=ziJ (sha x) x l hf
  have hsz:=zou (x:=x) hf
  rw[hf]at hfd
  simp only[Option.map_none]at hfd
  have hpl:kY (sha x) x l=l++[(sha x,x)]:=by grind [kY]
  simp (disch:=omega) [zz,-List.reduceReplicate,stB,stO,hBM,hBM',hfd,hpt]
  (repeat with_reducible refine om ?_)
  refine j6.of [0,1,2,3,4,5,6] [] (by kernel_rfl) ?_
  simp (disch:=omega) [zz,-List.reduceReplicate,stO,hBM,hBM',hfd,hpt]
  (repeat with_reducible refine om ?_)
  simp (disch:=omega) [zz,-List.reduceReplicate,Tryz.f45,hpl,hsz]
theorem znD (B M:Nat) (l:BlL):q6 Tryz.prog 66 [.av .ptr (.ptr B QW [])] (stB B M l) fun r H'=>r=.av (.int .i64) (.i .i64 (szB l))/\H'=stB B M l:=by
 refine zov Tryz.func66 cf0 fun imm0 w0=>?_
 simp (disch:=omega) [zz,stB,stO,Tryz.f66]
theorem zjb (d:Dig):∀l:BlL,(l.map Prod.fst).Nodup->DO (qK d) (stE l)=stE (l.filter fun p=>decide (p.1≠d))
 | [],_=>rfl
 | (k,v)::l,h=>by
  simp only[List.map_cons,List.nodup_cons]at h
  have ih:=zjb d l h.2
  simp only[stE,List.map_cons,DO,J4]at ih |-
  by_cases hk:k=d
  ·subst hk
   have e:(l.filter fun p=>decide (p.1≠k))=l:=List.filter_eq_self.2 fun p hp=>by
    grind
   grind
  simp_all
theorem zjv {d:Dig}:∀ {l:BlL},(l.map Prod.fst).Nodup->∀ {p},l.find? (fun p=>decide (p.1=d))=some p->szB (l.filter fun p=>decide (p.1≠d))+p.2.length=szB l
 | [],_,p,h=>by cases h
 | q::l,hn,p,h=>by
  simp only[List.map_cons,List.nodup_cons]at hn
  rw[List.find?_cons]at h
  by_cases hq:q.1=d
  ·simp only[hq,decide_true]at h
   cases h
   have e:(l.filter fun p=>decide (p.1≠d))=l:=List.filter_eq_self.2 fun p hp=>by
    grind
   grind [szB]
  ·simp only[hq,decide_false]at h
   have ih:=zjv hn.2 h
   grind [szB]
abbrev KpT:TyD:=.struct [89,86,93]
structure KA where
 J:Nat
 D:Nat
 E:Nat
 S:Nat
 T:Nat
 o:Bool
 cs:List Cel
noncomputable def kpO (a:KA):HObj:=.var KpT (.agg [.ptr a.J JnT [],.ptr a.D DbT [],.ptr a.S QW []])
@[simp] theorem zr6 (a:KA):(kpO a).er=kpO a:=by simp[kpO,HObj.er_var,AV.erk,AV.erks]
noncomputable def kpH (K B M:Nat) (a:KA) (k:KV):q7:=(K,kpO a)::(jH a.J B M a.o k.j++(DbH a.D a.E k.mo a.cs++stB a.S a.T k.M.bl))
structure ZB (a:KA) (k:KV):Prop where
 cels:∀c∈a.cs,dN c
 abs:Z4 a.cs=k.M.L
def KpR (K B M:Nat) (k:KV) (H:q7):Prop:=∃a,ZB a k/\H=kpH K B M a k
theorem kA {K B M:Nat} {a:KA} {k:KV} (h:ZB a k):(kpH K B M a k).er=kpH K B M a k:=by
 simp only[kpH,q7.er_cons,q7.er_app,zr6,dA,zew,zdY h.cels]
theorem d9 (K B M:Nat) (a:KA) (k:KV):(kpH K B M a k).Perm (DbH a.D a.E k.mo a.cs++((K,kpO a)::(jH a.J B M a.o k.j++stB a.S a.T k.M.bl))):=by
 unfold kpH
 refine List.Perm.trans (List.Perm.cons _ ?_) List.perm_middle.symm
 exact(List.perm_append_comm_assoc _ _ _)
theorem CY (K B M:Nat) (a:KA) (k:KV):(kpH K B M a k).Perm (stB a.S a.T k.M.bl++((K,kpO a)::(jH a.J B M a.o k.j++DbH a.D a.E k.mo a.cs))):=by
 unfold kpH
 refine List.Perm.trans (List.Perm.cons _ ?_) List.perm_middle.symm
 rw[<-List.append_assoc]
 exact List.perm_append_comm
theorem zj4 (K B M:Nat) (a:KA) (k:KV):(kpH K B M a k).Perm (jH a.J B M a.o k.j++((K,kpO a)::(DbH a.D a.E k.mo a.cs++stB a.S a.T k.M.bl))):=List.perm_middle.symm
structure KNE (K B M:Nat) (a:KA):Prop where
 MB:M≠B
 JB:a.J≠B
 JM:a.J≠M
 TS:a.T≠a.S
 KJ:K≠a.J
theorem dP {K B M:Nat} {a:KA} {k:KV} (h:(kpH K B M a k).keys.Nodup):KNE K B M a:=by
 have e:(kpH K B M a k).keys=K::a.J::B::M::(a.D::a.E::(a.cs.map g6).map (fun p=>p.1))++[a.S,a.T]:=by
  simp[kpH,jH,zA,DbH,stB,stO,q7.keys]
 rw[e]at h
 simp only[List.cons_append,List.nodup_cons,List.mem_cons,List.mem_append,not_or,List.nodup_append,List.nodup_nil,List.not_mem_nil,not_false_eq_true,and_true]at h
 obtain⟨⟨h1,_⟩,⟨h2,h3,_⟩,⟨h4,_⟩,h5⟩:=h
 have h6:([a.S,a.T]:List Nat).Nodup:=by simp_all
 exact⟨fun e=>h4 e.symm,h2,h3,by simp at h6;exact fun e=>h6 e.symm,h1⟩
theorem U9 {s:St} {dst:Option Nat} {X:St->Prop} {args bs:List TV} {f:Nat} {R0:TV} {bl':BlL} (K B M:Nat) (a:KA) (k:KV) (rest:q7) (hH:s.H.Perm (kpH K B M a k++rest))
  (hc:q6 Tryz.prog f bs (stB a.S a.T k.M.bl) fun r H'=>r=R0/\H'=stB a.S a.T bl') (hf:qL Tryz.prog f=true) (ha:args.all qH=true) (hx:q9 (args.map TV.er) bs)
  (hk:X (({ s with H:=kpH K B M a ⟨k.j,k.mo,⟨k.M.L,bl'⟩⟩++rest }:St).put dst R0)):kL Tryz.prog s (.av .func (.fn f [])) args dst X:=by
 refine qM (stB a.S a.T k.M.bl) (((K,kpO a)::(jH a.J B M a.o k.j++DbH a.D a.E k.mo a.cs))++rest) (hH.trans (by rw[<-List.append_assoc];exact List.Perm.append_right rest (CY K B M a k))) rfl ha hf (R:=fun r H'=>r=R0/\H'=stB a.S a.T bl') ?_ ?_
 ·rw[zew]
  exact q6.args hc (by simpa using hx)
 rintro r' H' ⟨rfl,rfl⟩ _
 refine⟨_,HSub.of_perm ?_,hk⟩
 rw[<-List.append_assoc]
 exact List.Perm.append_right rest (CY K B M a ⟨k.j,k.mo,⟨k.M.L,bl'⟩⟩).symm
theorem zbm {s:St} {dst:Option Nat} {X:St->Prop} {args bs:List TV} {f:Nat} {R0:TV} {j':JV} (K B M:Nat) (a:KA) (k:KV) (rest:q7) (hH:s.H.Perm (kpH K B M a k++rest))
  (hc:q6 Tryz.prog f bs (jH a.J B M a.o k.j) fun r H'=>r=R0/\JnR a.J B M j' H') (hf:qL Tryz.prog f=true) (ha:args.all qH=true) (hx:q9 (args.map TV.er) bs)
  (hk:∀o',X (({ s with H:=kpH K B M { a with o:=o' } ⟨j',k.mo,k.M⟩++rest }:St).put dst R0)):kL Tryz.prog s (.av .func (.fn f [])) args dst X:=by
 refine qM (jH a.J B M a.o k.j) (((K,kpO a)::(DbH a.D a.E k.mo a.cs++stB a.S a.T k.M.bl))++rest) (hH.trans (by rw[<-List.append_assoc];exact List.Perm.append_right rest (zj4 K B M a k))) rfl ha hf (R:=fun r H'=>r=R0/\JnR a.J B M j' H') ?_ ?_
 ·rw[dA]
  exact q6.args hc (by simpa using hx)
 rintro r' H' ⟨rfl,o',rfl⟩ _
 refine⟨_,HSub.of_perm ?_,hk o'⟩
 rw[<-List.append_assoc]
 exact List.Perm.append_right rest (zj4 K B M { a with o:=o' } ⟨j',k.mo,k.M⟩).symm
theorem zdg {s:St} {dst:Option Nat} {X:St->Prop} {args bs:List TV} {f:Nat} {R0:TV} {L':DbL} (K B M:Nat) (a:KA) (k:KV) (hk0:ZB a k) (rest:q7) (hH:s.H.Perm (kpH K B M a k++rest))
  (hc:q6 Tryz.prog f bs (DbH a.D a.E k.mo a.cs) fun r H'=>r=R0/\∃cs',(∀c∈cs',dN c)/\Z4 cs'=L'/\H'=DbH a.D a.E k.mo cs') (hf:qL Tryz.prog f=true) (ha:args.all qH=true) (hx:q9 (args.map TV.er) bs)
  (hk:∀cs',ZB { a with cs:=cs' } ⟨k.j,k.mo,⟨L',k.M.bl⟩⟩->X (({ s with H:=kpH K B M { a with cs:=cs' } ⟨k.j,k.mo,⟨L',k.M.bl⟩⟩++rest }:St).put dst R0)):kL Tryz.prog s (.av .func (.fn f [])) args dst X:=by
 refine qM (DbH a.D a.E k.mo a.cs) (((K,kpO a)::(jH a.J B M a.o k.j++stB a.S a.T k.M.bl))++rest) (hH.trans (by rw[<-List.append_assoc];exact List.Perm.append_right rest (d9 K B M a k))) rfl ha hf (R:=fun r H'=>r=R0/\∃cs',(∀c∈cs',dN c)/\Z4 cs'=L'/\H'=DbH a.D a.E k.mo cs') ?_ ?_
 ·rw[zdY hk0.cels]
  exact q6.args hc (by simpa using hx)
 rintro r' H' ⟨rfl,cs',h1,h2,rfl⟩ _
 refine⟨_,HSub.of_perm ?_,hk cs' ⟨h1,h2⟩⟩
 rw[<-List.append_assoc]
 exact List.Perm.append_right rest (d9 K B M { a with cs:=cs' } ⟨k.j,k.mo,⟨L',k.M.bl⟩⟩).symm
theorem zjl (K B M:Nat) (a:KA) (k:KV) (rest:q7):zU (kpH K B M a k++rest) K=some (.var KpT (.agg [.ptr a.J JnT [],.ptr a.D DbT [],.ptr a.S QW []])):=by simp[kpH,zU,kpO]
theorem QM (K B M:Nat) (a:KA) (k:KV):zU (kpH K B M a k) K=some (.var KpT (.agg [.ptr a.J JnT [],.ptr a.D DbT [],.ptr a.S QW []])):=by simp[kpH,zU,kpO]
theorem KpR.of {K B M:Nat} {a:KA} {k:KV} (h:ZB a k):KpR K B M k (kpH K B M a k):=⟨a,h,rfl⟩
theorem zlX (K B M:Nat) (a:KA) (k:KV) (hk:ZB a k) (hs:szB k.M.bl<=1000000000000) (x:List UInt8) (hx:x.length<=1000000000) :
  q6 Tryz.prog 72 [.av .ptr (.ptr K KpT []),.av .str (.s x)] (kpH K B M a k) fun r H'=>r=.av (.int .i64) (.i .i64 0)/\KpR K B M ⟨k.j,k.mo,⟨k.M.L,kY (sha x) x k.M.bl⟩⟩ H':=by
 refine q6.nodup fun hnd=>?_
 have hne:=dP hnd
 have hg:=QM K B M a k
 refine zov Tryz.func72 cf0 fun imm0 w0=>?_
 simp (disch:=omega) [zz,hg]
 refine U9 K B M a k [] (by simp) (zfv a.S a.T hne.TS k.M.bl hs x hx) (by simp) (by simp[qH]) (by simp[q9,TV.er,AV.er]) ?_
 have hk2:ZB a ⟨k.j,k.mo,⟨k.M.L,kY (sha x) x k.M.bl⟩⟩:=⟨hk.cels,hk.abs⟩
 simp (disch:=omega) [zz,Tryz.f72,kA hk2,KpR.of hk2]
abbrev zt1:Cfg:=⟨fun _=>false,fun n=>n==1000004||n==2000020⟩
theorem zjB (K B M:Nat) (a:KA) (k:KV) (hk:ZB a k) (hm:1<=k.mo) (hm8:k.mo<=8) (x:List UInt8) (hx:x.length<=1000000000) :
  q6 Tryz.prog 73 [.av .ptr (.ptr K KpT []),.av .str (.s x)] (kpH K B M a k) fun r H'=>r=.av (.int .i64) (.i .i64 (jJ x).2)/\KpR K B M (if (jJ x).2=0 then⟨k.j,k.mo,⟨kU k.mo k.M.L (jJ x).1,k.M.bl⟩⟩ else k) H':=by
 have hg:=QM K B M a k
 have hrd:=zph x hx
 refine zov Tryz.func73 zt1 fun imm0 w0=>?_
 simp (disch:=omega) [zz]
 refine zcv hrd ?_
 have hch:(jJ x).2=0->TrP (jJ x).1/\qY (jJ x).1=0:=fun h=>by
  obtain⟨_,h2,_⟩:=gF (b:=x) (t:=(jJ x).1) (by rw[<-h])
  exact⟨zca h2,h2⟩
 rcases hq:jJ x with⟨t,e⟩
 simp only[yX]
 rw[hq]at hch
 simp only at hch
 by_cases he:e=0
 ·subst he
  obtain⟨htp,hc0⟩:=hch rfl
  simp (disch:=omega) [zz,hg]
  refine j6.of [0,1,2,3,4,5,6] [] (by kernel_rfl) ?_
  simp (disch:=omega) [zz,hg]
  (repeat with_reducible refine om ?_)
  have hda:=zfn t htp k.mo hm hm8 a.D a.E a.cs hk.cels
  rw[hk.abs,hc0]at hda
  refine zdg K B M a k hk [] (by simp) hda (by simp) (by simp[qH]) (by simp[q9,TV.er,AV.er]) fun cs' hk2=>?_
  simp (disch:=omega) [zz,Tryz.f73,kA hk2,KpR.of hk2]
 ·simp (disch:=omega) [zz,he,Tryz.f73,kA hk,KpR.of hk]
abbrev MdT:TyD:=.struct [9,53]
abbrev FiT:TyD:=.struct [9,9]
theorem zau (m:Made):(qS m).er=qS m:=by simp[qS,AV.er,AV.ers]
theorem XS (f:zV):(zC f).er=zC f:=by simp[zC,AV.er,AV.ers]
theorem zn5 (m:Made) (f:zV) (hf:f.data.length<=1000000000):PC Tryz.prog 90 [.av MdT (qS m),.av FiT (zC f)] (.av .bool (.b (decide (m=Q0 f)))):=by
 have hsm:=zmm f.data (by omega)
 have hst:ziX f.data=.sl .no [.s f.data]:=rfl
 rw[hst]at hsm
 have hmf:decide (m=Q0 f)=(decide (m.path=f.path)&&decide (m.sum=sha f.data)):=by
  obtain⟨p,s⟩:=m
  simp[Q0]
 obtain⟨p,sm⟩:=m
 obtain⟨q,x⟩:=f
 simp only at hsm hf hmf
 refine zow Tryz.func90 cf0 fun imm0 w0=>?_
 by_cases hp:p=q
 ·subst hp
  simp (disch:=omega) [zz,qS,zC]
  (repeat with_reducible refine om ?_)
  refine XF hsm rfl rfl (by simp) (by simp[q9,TV.er,AV.er,AV.ers]) ?_
  simp (disch:=omega) [zz,qK,j9,Tryz.f90,hmf]
 ·simp (disch:=omega) [zz,qS,zC,hp,Tryz.f90,hmf]
  (repeat' (refine And.intro ?_ ?_))<;>(show rdJ _ _ _ _ _=true;kernel_rfl)
theorem XJ (l:List Made) (k:Nat) (h:k<l.length):(l.map qS)[k]?=some (qS l[k]):=by simp[List.getElem?_eq_getElem h]
theorem WP (l:List zV) (k:Nat) (h:k<l.length):(l.map zC)[k]?=some (zC l[k]):=by simp[List.getElem?_eq_getElem h]
theorem ziw {l:List Made} {o:List zV} (hl:l.length=o.length) (h:∀k (h1:k<l.length) (h2:k<o.length),l[k]=Q0 o[k]):l=o.map Q0:=by
 refine List.ext_getElem (by simpa using hl) fun k h1 h2=>?_
 rw[List.getElem_map]
 exact h k h1 (by omega)
theorem zkn (l:List Made) (o:List zV) (hl:l.length<=1000000000) (ho:o.length<=1000000000) (hd:∀f∈o,f.data.length<=1000000000) :
  PC Tryz.prog 89 [.av (.slice 77) (qF l),.av (.slice 73) (zI o),.av .func (.fn 90 [])] (.av .bool (.b (decide (l=o.map Q0)))):=by
 have he1:qF l=.sl .no (l.map qS):=rfl
 have he2:zI o=.sl .no (o.map zC):=rfl
 rw[he1,he2]
 refine zow Tryz.func89 cf0 fun imm0 w0=>?_
 by_cases hn:l.length=o.length
 rotate_left
 ·have hn':¬(l.length:Int)=o.length:=by omega
  have hne:¬l=o.map Q0:=fun e=>hn (by rw[e];simp)
  simp (disch:=omega) [zz,hn',hn,hne,Tryz.f89]
 have hn':(l.length:Int)=o.length:=by omega
 simp (disch:=omega) [zz,hn',hn]
 refine AT.loop' (α:=Nat) (fun k=>St.of [(1,.av (.slice 73) (.sl .no (o.map zC))),(2,.av .func (.fn 90 [])),(15,.av (.slice 77) (.sl .no (l.map qS))),(16,.av (.int .i64) (.i .i64 o.length)),(17,.av (.int .i64) (.i .i64 k))] [] (fun _=>0) [])
  (fun k=>k<=o.length/\∀j (h1:j<l.length) (h2:j<o.length),j<k->l[j]=Q0 o[j]) (fun k=>o.length-k) 0 ?_ ?_ ?_
 ·apply Le.of<;>simp[k8,z1,hn]<;>try omega
 ·exact⟨by simp,fun j _ _ h=>absurd h (by omega)⟩
 rintro k ⟨hk,hp⟩ KL hN hE
 refine zrd cf0 ?_
 by_cases hlt:k<o.length
 ·have hlt':(k:Int)<o.length:=by omega
  have hlt2:k<l.length:=by omega
  have hg1:=XJ l k hlt2
  have hg2:=WP o k hlt
  have hm1:=zn5 l[k] o[k] (hd _ (List.getElem_mem hlt))
  obtain⟨m,hm⟩:∃m,m=l[k]:=⟨_,rfl⟩
  obtain⟨f,hf⟩:∃f,f=o[k]:=⟨_,rfl⟩
  rw[<-hm]at hg1 hm1
  rw[<-hf]at hg2 hm1
  have hme:=zau m
  have hfe:=XS f
  obtain⟨X,hX⟩:∃X,X=qS m:=⟨_,rfl⟩
  obtain⟨Y,hY⟩:∃Y,Y=zC f:=⟨_,rfl⟩
  rw[<-hX]at hg1 hm1 hme
  rw[<-hY]at hg2 hm1 hfe
  simp (disch:=omega) [zz,hlt',hg1,hg2,hn]
  refine YE hm1 rfl rfl (by simp) (by simp[q9,TV.er,hme,hfe]) ?_
  by_cases he:m=Q0 f
  ·simp (disch:=omega) [zz,he]
   refine hN _ (k+1) ?_ ⟨by omega,fun j h1 h2 h3=>?_⟩ (by omega)
   ·apply Le.of<;>simp[k8,z1,hn]<;>try omega
   ·by_cases hj:j=k
    ·subst hj;rw[<-hm,<-hf];exact he
    ·exact hp j h1 h2 (by omega)
  ·have hne:¬l=o.map Q0:=fun e=>he (by
    have:l[k]=(o.map Q0)[k]'(by simpa using hlt):=by simp only[e]
    rw[hm,hf,this,List.getElem_map])
   simp (disch:=omega) [zz,he]
   refine hE _ _ (by simp) ?_
   simp (disch:=omega) [zz,hne,Tryz.f89]
 ·have hlt':¬(k:Int)<o.length:=by omega
  have heq:l=o.map Q0:=ziw hn fun j h1 h2=>hp j h1 h2 (by omega)
  have hdt:decide (l=o.map Q0)=true:=decide_eq_true heq
  simp (disch:=omega) [zz,hlt']
  refine hE _ _ (by simp) ?_
  simp (disch:=omega) [zz,hdt,Tryz.f89]
theorem zpX (t:qD) (o:List zV) (hl:t.outs.length<=1000000000) (ho:o.length<=1000000000) (hd:∀f∈o,f.data.length<=1000000000) :
  PC Tryz.prog 41 [.av TrT (q5 t),.av (.slice 73) (zI o)] (.av .bool (.b (decide (t.outs=o.map Q0)))):=by
 have he:=zkn t.outs o hl ho hd
 have he2:(zI o).er=zI o:=by simp[zI,AV.er,AV.ers_eq,XS,Tok.k]
 have he3:(qF t.outs).er=qF t.outs:=by simp[qF,AV.er,AV.ers_eq,zau,Tok.k]
 refine zow Tryz.func41 cf0 fun imm0 w0=>?_
 simp (disch:=omega) [zz,q5]
 refine YE he rfl rfl (by simp) (by simp[q9,TV.er,AV.er,AV.ers,he2,he3]) ?_
 simp (disch:=omega) [zz,Tryz.f41]
end
end Go.Proofs.YtognnffjdckalaaGreatDoor
