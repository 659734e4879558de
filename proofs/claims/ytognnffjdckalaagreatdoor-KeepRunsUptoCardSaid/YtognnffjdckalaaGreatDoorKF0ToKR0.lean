/- A disk's names, one by one. No condition. -/
import Derived.Test.YtognnffjdckalaaGreatDoorKT4ToKG1
set_option linter.unusedSimpArgs false
set_option linter.unusedVariables false
set_option linter.unusedSectionVars false
set_option maxHeartbeats 64000000
set_option maxRecDepth 100000
namespace Go.Proofs.YtognnffjdckalaaGreatDoor
open Go Go.Ab
open Classical
section
variable [Sel] [SelPow]
abbrev FmT:TyD:=.map 9 135
noncomputable def fbO (M:Nat):HObj:=.var FmT (.map (some M))
abbrev zsV:Cfg:=⟨fun n=>n==1,fun _=>false⟩
theorem zmw (M:Nat):q6 Tryz.prog 83 [.av FmT (.map (some M))] [] fun r H'=>∃c,r=.av .func (.fn 140 [.ptr c FmT []])/\H'=[(c,fbO M)]:=by
 refine zov Tryz.func83 zsV fun imm0 w0=>?_
 simp (disch:=omega) [zz]
 intro c
 simp (disch:=omega) [zz,Tryz.f83,fbO,AV.ers]
theorem zgW {G:List Txt->q7->Prop} (y c M:Nat) (hcM:c≠M) (l:List (Txt × FV)) (en:Array MapEntry) (ck:Nat) (i0:Nat->Nat) (w1:World) (hop:xS Tryz.prog 9 135 (flE l) en ck i0 w1)
  (hGe:∀done H,G done H->H.er=H)
  (hY:∀done (k:Txt) H,k∈l.map (·.1)->done.length<l.length->G done H->YC Tryz.prog y [.av .str (.s k)] H fun r H'=>r=.av .bool (.b true)/\G (done++[k]) H') :
  ∀H,G [] H->q6 Tryz.prog 140 [.av .func (.yl y),.av .ptr (.ptr c FmT [])] ((c,fbO M)::(M,.raw (.map en ck) i0 w1)::H)
   fun r H'=>r=.tup []/\∃done H1 it o,done.Perm (l.map (·.1))/\G done H1/\H'=(it,o)::(c,fbO M)::(M,.raw (.map en ck) i0 w1)::H1:=by
 intro H hG
 have hMc:¬M=c:=fun e=>hcM e.symm
 refine zov Tryz.func140 cf0 fun imm0 w0=>?_
 simp (disch:=omega) [zz,fbO,hcM,hMc]
 intro it hit hiM _
 have hit':¬c=it:=fun e=>hit e.symm
 have hiM':¬M=it:=fun e=>hiM e.symm
 have hsz:en.size=l.length:=by have:=xD hop.ents;simp_all[flE]
 refine AT.loop' (α:=List Nat × q7) (fun p=>St.of [(0,.av .func (.yl y)),(1,.av .ptr (.ptr c FmT [])),(5,.av .ptr (.ptr it .other []))] [] (fun _=>0) ((it,.raw (.mapIter (some M) ck (QU en p.1) ck) (fun _=>0) default)::(c,fbO M)::(M,.raw (.map en ck) i0 w1)::p.2))
  (fun p=>p.1.Nodup/\(∀i∈p.1,i<en.size)/\G (y8 (l.map (·.1)) p.1) p.2) (fun p=>en.size-p.1.length) ([],H) ?_ ?_ ?_
 ·apply Le.of<;>simp[k8,z1,fbO,QU]<;>try omega
 ·exact⟨List.nodup_nil,by simp,hG⟩
 rintro⟨ids,H1⟩ ⟨hnd,hlt,hG1⟩ KL hN hE
 simp only at hnd hlt hG1
 refine zrd cf0 ?_
 simp (disch:=omega) [zz,fbO,hit,hiM,hit',hiM',hcM,hMc,zbw]
 refine⟨9,135,flE l,hop,fun hall=>?_,fun i me u v hi hns hes=>?_⟩
 ·refine hE _ _ (by simp) ?_
  have hperm:(y8 (l.map (·.1)) ids).Perm (l.map (·.1)):=by
   refine vC hnd (fun i hi=>by simp_all) fun i hi=>?_
   have hi':i<en.size:=by simp_all
   exact(K6 hop.st hlt (Array.getElem?_eq_getElem hi')).1 (hall i _ (Array.getElem?_eq_getElem hi'))
  have hH:=hGe _ _ hG1
  simp (disch:=omega) [zz,Tryz.f140,hH,HObj.er]
  grind
 ·have hil:i<en.size:=(Array.getElem?_eq_some_iff.1 hi).1
  have hni:i∉ids:=fun h=>hns ((K6 hop.st hlt hi).2 h)
  have hic:i<l.length:=by omega
  have hu:u=AV.s l[i].1:=by
   simp only[flE]at hes
   simp_all
  subst hu
  rw[U8 en ids hi]
  refine⟨9,135,flE l,hop,i,me,hi,AV.s l[i].1,v,hes,rfl,?_⟩
  simp (disch:=omega) [zz]
  have hkm:l[i].1∈l.map (·.1):=List.mem_map.2 ⟨l[i],List.getElem_mem hic,rfl⟩
  have hGn:y8 (l.map (·.1)) (ids++[i])=y8 (l.map (·.1)) ids++[l[i].1]:=by
   simp[y8,List.getElem?_eq_getElem hic]
  have hnd2:(ids++[i]).Nodup:=List.nodup_append.2 ⟨hnd,by simp,fun a ha b hb e=>by simp_all⟩
  have hlt2:∀k∈ids++[i],k<en.size:=fun k hk=>by
   grind
  have hle2:=xX en.size _ hnd2 hlt2
  refine ZZ (R:=fun r H'=>r=.av .bool (.b true)/\G (y8 (l.map (·.1)) (ids++[i])) H') H1 [(it,.raw (.mapIter (some M) ck (QU en (ids++[i])) ck) (fun _=>0) default),(c,fbO M),(M,.raw (.map en ck) i0 w1)] (List.perm_append_comm (l₁:=[_,_,_])) (by simp[qH]) ?_ ?_
  ·rw[hGe _ _ hG1,hGn]
   have:=hY _ _ _ hkm (by grind [y8]) hG1
   simp_all
  rintro r H2 ⟨rfl,hG2⟩ _
  refine⟨(it,.raw (.mapIter (some M) ck (QU en (ids++[i])) ck) (fun _=>0) default)::(c,fbO M)::(M,.raw (.map en ck) i0 w1)::H2,HSub.of_perm (List.perm_append_comm (l₂:=[_,_,_])),?_⟩
  simp (disch:=omega) [zz]
  refine hN _ (ids++[i],H2) ?_ ⟨hnd2,hlt2,hG2⟩ (by grind)
  apply Le.of<;>simp[k8,z1,fbO]<;>try omega
theorem zjC {G:List Txt->q7->Prop} (y c M:Nat) (hcM:c≠M) (l:List (Txt × FV)) (hGe:∀done H,G done H->H.er=H)
  (hY:∀done (k:Txt) H,k∈l.map (·.1)->done.length<l.length->G done H->YC Tryz.prog y [.av .str (.s k)] H fun r H'=>r=.av .bool (.b true)/\G (done++[k]) H') (H:q7) (hG:G [] H) :
  q6 Tryz.prog 140 [.av .func (.yl y),.av .ptr (.ptr c FmT [])] ((M,flO l)::(c,fbO M)::H)
   fun r H'=>r=.tup []/\∃done H1,done.Perm (l.map (·.1))/\G done H1/\H'=(M,flO l)::(c,fbO M)::H1:=by
 refine q6.openMap fun en ck i0 w1 hop=>?_
 refine q6.conv (R:=fun r H'=>r=.tup []/\∃done H1,done.Perm (l.map (·.1))/\G done H1/\H'=(M,.raw (.map en ck) i0 w1)::(c,fbO M)::H1) ?_ ?_
 ·refine q6.sub (((zgW y c M hcM l en ck i0 w1 hop hGe hY H hG)).perm (List.Perm.swap _ _ _)) ?_
  rintro r H' ⟨rfl,done,H1,it,o,hp,hg,rfl⟩ _
  exact⟨_,⟨_,List.Perm.cons _ (List.Perm.swap _ _ _),(List.Sublist.refl _).cons _⟩,rfl,done,H1,hp,hg,rfl⟩
 ·rintro r H' ⟨rfl,done,H1,hp,hg,rfl⟩
  exact⟨(M,flO l)::(c,fbO M)::H1,fun b hb=>hb,fun imm w h=>h.shutMap hop,rfl,done,H1,hp,hg,rfl⟩
theorem zro (l:List (Txt × FV)):(flO l).er=flO l:=by
 simp
theorem zjG (c M:Nat) (hcM:c≠M) (l:List (Txt × FV)):zpM 140 c FmT [(M,flO l),(c,fbO M)] (l.map (·.1)) :=
 ⟨by simp,by simp only[q7.er_cons,q7.er_nil,zro l];rfl,fun G y hGe hY H hG=>zjC y c M hcM l hGe (fun done k H _ h2 h3=>hY done k H (by simp_all) h3) H hG⟩
def kB (d:DV):List Txt:=(if d.m.isSome then [nmK] else [])++(if d.n.isSome then [nmN] else [])
theorem zcH:yV [nmK,nmN]=[nmK,nmN]:=by
 unfold yV
 refine List.mergeSort_of_pairwise ?_
 simp only[List.pairwise_cons,List.mem_singleton,List.not_mem_nil,false_implies,implies_true,List.Pairwise.nil,and_true,forall_eq,decide_eq_true_eq]
 decide
theorem zhi (o:Bool) (d:DV):yV ((ents o d).map (·.1))=kB d:=by
 obtain⟨m,n,l⟩:=d
 have h2:yV [nmN,nmK]=[nmK,nmN]:=by rw[KP (List.Perm.swap _ _ _)];exact zcH
 have h1:∀x:Txt,yV [x]=[x]:=fun x=>by simp[yV]
 have h0:yV []=[]:=by simp[yV]
 cases o<;>cases m<;>cases n<;>simp[ents,YL,kB,h0,h1,h2,zcH]
theorem UL (o:Bool) (d:DV):(ents o d).length<=2:=by
 obtain⟨m,n,l⟩:=d
 cases o<;>cases m<;>cases n<;>simp[ents,YL]
theorem zhm (B M:Nat) (hBM:M≠B) (o:Bool) (d:DV) :
  q6 Tryz.prog 36 [.av .ptr (.ptr B QI [])] (zA B M o d) fun r H'=>∃v H1,r=.av TxS v/\zoa (kB d) v H1/\Ab.HSub (H1++zA B M o d) H':=by
 have hBM':¬B=M:=fun e=>hBM e.symm
 refine zov Tryz.func36 cf0 fun imm0 w0=>?_
 simp (disch:=omega) [zz,zA]
 refine qM (R:=fun r H'=>∃c,r=.av .func (.fn 140 [.ptr c FmT []])/\H'=[(c,fbO M)]) [] (zA B M o d) (List.Perm.refl _) rfl (by simp[qH]) (by simp) ?_ ?_
 ·have:=zmw M
  simpa[TV.er,AV.er,AV.ers,q7.er_nil]using this
 rintro r' H' ⟨c,rfl,rfl⟩ hnd
 simp[q7.keys,zA]at hnd
 refine⟨(c,fbO M)::zA B M o d,HSub.refl _,?_⟩
 simp (disch:=omega) [zz]
 refine qM (R:=wS ((ents o d).map (·.1)) [(M,flO (ents o d)),(c,fbO M)]) [(M,flO (ents o d)),(c,fbO M)] [(B,.var QI (.agg [.map (some M),.i .i64 d.left]))] ?_ rfl (by simp[qH]) (by simp) ?_ ?_
 ·exact(List.perm_append_comm (l₁:=[_,_]) (l₂:=[_])).trans (List.Perm.refl _)
 ·have:=zii (zjG c M (by simp_all) (ents o d)) (by have:=UL o d;simp;omega)
  simpa[TV.er,AV.er,AV.ers,q7.er_cons,q7.er_nil,fbO,HObj.er_var,AV.erk]using this
 rintro r' H' ⟨v,H1,rfl,hrow,rfl⟩ _
 rw[zhi]at hrow
 have hre:=hrow.er
 refine⟨H1++zA B M o d,?_,?_⟩
 ·refine⟨(c,fbO M)::(H1++zA B M o d),?_,List.sublist_cons_self _ _⟩
  unfold zA
  rw[List.append_assoc]
  refine List.Perm.trans (List.Perm.append_left H1 (List.perm_append_comm (l₁:=[_,_]) (l₂:=[_]))) ?_
  exact(List.Perm.append_left H1 (List.perm_append_comm (l₁:=[_,_]) (l₂:=[_]))).trans List.perm_middle
 ·simp (disch:=omega) [zz,Tryz.f36,hre.2]
  refine⟨H1,hrow,?_⟩
  rw[hre.1]
  exact HSub.refl _
theorem zcy (B M:Nat) (hBM:M≠B) (o:Bool) (d:DV) :
  q6 Tryz.prog 36 [.av .ptr (.ptr B QI [])] (zA B M o d) fun r H'=>r=.av TxS (.sl .no (strs (kB d)))/\H'=zA B M o d:=by
 have g1:=q6.sub (R':=fun r H'=>∃v H1,r=.av TxS v/\zoa (kB d) v H1/\H'=H1++zA B M o d) (zhm B M hBM o d) (by
  rintro r H' ⟨v,H1,h1,h2,h3⟩ _
  exact⟨_,h3,v,H1,h1,h2,rfl⟩)
 refine g1.freeze laid ?_
 rintro r H' ⟨v,H1,rfl,⟨hn,rfl,rfl⟩|⟨b,cap,j,hj,rfl,hcap,rfl⟩,rfl⟩ _
 ·exact .inr ⟨by rw[hn];rfl,rfl⟩
 ·refine .inl ⟨b,cap,9,strs (kB d)++j,zA B M o d,List.Perm.refl _,?_,rfl⟩
  have htk:(strs (kB d)++j).take (kB d).length=strs (kB d):=by rw[List.take_append_of_le_length (by simp[strs])];exact List.take_of_length_le (by simp[strs])
  have hle:(kB d).length<=cap:=by omega
  simp[V2,fzA,hle,htk]
theorem dZ {s:St} {dst:Option Nat} {K:St->Prop} {args:List TV} (B M:Nat) (hBM:M≠B) (o:Bool) (d:DV) (rest:q7) (hH:s.H.Perm (zA B M o d++rest)) (ha:args=[.av .ptr (.ptr B QI [])])
  (hk:K (({ s with H:=s.H }:St).put dst (.av TxS (.sl .no (strs (kB d)))))) :
  kL Tryz.prog s (.av .func (.fn 36 [])) args dst K:=by
 subst ha
 refine qM (zA B M o d) rest hH rfl rfl (by simp) (R:=fun r H'=>r=.av TxS (.sl .no (strs (kB d)))/\H'=zA B M o d) ?_ ?_
 ·rw[cI]
  simpa[TV.er,AV.er]using zcy B M hBM o d
 rintro r' H' ⟨rfl,rfl⟩ _
 exact⟨s.H,HSub.of_perm hH.symm,hk⟩
theorem zda (b:Bool) (d:DV):nmB b∈kB d<->(jO b d).isSome=true:=by
 obtain⟨m,n,l⟩:=d
 cases b<;>cases m<;>cases n<;>simp[kB,nmB,jO,US,UZ]
theorem pU (d:DV):(kB d).length<=2:=by unfold kB;split<;>split<;>simp
theorem WL {s:St} {dst:Option Nat} {K:St->Prop} {args bs:List TV} {f:Nat} {R0:TV} {d':DV} (pre:q7) (B M:Nat) (o:Bool) (d:DV) (hH:s.H.Perm (pre++zA B M o d))
  (hc:q6 Tryz.prog f bs (zA B M o d) fun r H'=>r=R0/\J2 B M d' H') (hf:qL Tryz.prog f=true) (ha:args.all qH=true) (hx:q9 (args.map TV.er) bs)
  (hk:∀o',K (({ s with H:=pre++zA B M o' d' }:St).put dst R0)):kL Tryz.prog s (.av .func (.fn f [])) args dst K:=by
 refine qM (zA B M o d) pre (hH.trans List.perm_append_comm) rfl ha hf (R:=fun r H'=>r=R0/\J2 B M d' H') ?_ ?_
 ·rw[cI]
  exact q6.args hc (by simpa using hx)
 rintro r' H' ⟨rfl,o',rfl⟩ _
 exact⟨_,HSub.of_perm List.perm_append_comm,hk o'⟩
def JX (l:List Int):AV:=.sl .no (l.map fun n=>.i .i64 n)
theorem zen (p:Int) (u:Nat):(p.tmod ((u:Int)+1)+u+1).tmod ((u:Int)+1)=(X5 p u:Int)/\X5 p u<=u/\-((u:Int)+1)<p.tmod ((u:Int)+1)/\p.tmod ((u:Int)+1)<(u:Int)+1:=by
 have h0:=Int.tmod_lt_of_pos p (b:=(u:Int)+1) (by omega)
 have h2:-((u:Int)+1)<p.tmod ((u:Int)+1):=by
  have:=Int.tmod_lt_of_pos (-p) (b:=(u:Int)+1) (by omega)
  rw[Int.neg_tmod]at this
  omega
 have h3:0<=(p.tmod ((u:Int)+1)+u+1).tmod ((u:Int)+1):=Int.tmod_nonneg _ (by omega)
 have h4:=Int.tmod_lt_of_pos (p.tmod ((u:Int)+1)+u+1) (b:=(u:Int)+1) (by omega)
 have e:(p.tmod ((u:Int)+1)+u+1).tmod ((u:Int)+1)=(X5 p u:Int):=by unfold X5;omega
 exact⟨e,by omega,h2,h0⟩
theorem zqE (u:Nat):X5 0 u=0:=by
 have:=(zen 0 u).1
 simp at this
 omega
def CrR (B M:Nat) (o:Bool) (d d':DV) (r:TV) (H:q7):Prop:=∃B2 M2 o2,M2≠B2/\r=.av .ptr (.ptr B2 QI [])/\H=zA B2 M2 o2 d'++zA B M o d
theorem CrR.of {B M B2 M2:Nat} {o o2:Bool} {d d':DV} (h:M2≠B2):CrR B M o d d' (.av .ptr (.ptr B2 QI [])) (zA B2 M2 o2 d'++zA B M o d):=⟨_,_,_,h,rfl,rfl⟩
theorem JG (B M:Nat) (o:Bool) (d:DV):(zA B M o d).er=zA B M o d:=by simp
def YD (p:Int) (f:FV):FV:=if f.data.length<=f.sure then⟨f.data,f.data.length⟩ else⟨f.data.take (f.sure+X5 p (f.data.length-f.sure)),f.sure+X5 p (f.data.length-f.sure)⟩
def U1 (f:FV) (ps:List Int):List Int:=if f.data.length<=f.sure then ps else ps.drop 1
theorem xB (ps:List Int) (f:FV):ZI ps (some f)=(some (YD (ps.headD 0) f),U1 f ps):=by
 simp only[ZI,YD,U1]
 split<;>rfl
theorem YR (ps:List Int):ZI ps none=(none,ps):=rfl
def bsD (d:DV):List Bool:=(if d.m.isSome then [false] else [])++(if d.n.isSome then [true] else [])
theorem zlD (d:DV):kB d=(bsD d).map nmB:=by
 obtain⟨m,n,l⟩:=d
 cases m<;>cases n<;>rfl
def crS (d:DV) (x:DV × List Int) (b:Bool):DV × List Int:=match jO b d with
 | some f=>(QF b (some (YD (x.2.headD 0) f)) x.1,U1 f x.2)
 | none=>x
theorem zp7 (ps:List Int) (d:DV):((bsD d).foldl (crS d) (J0,ps)).1=kP ps d:=by
 obtain⟨m,n,l⟩:=d
 cases m<;>cases n<;>simp[bsD,crS,jO,QF,J0,kP,xB,YR]
theorem zlK (d:DV):∀b∈bsD d,∃f,jO b d=some f:=by
 obtain⟨m,n,l⟩:=d
 cases m<;>cases n<;>simp[bsD,jO]
theorem P9 (b:Bool) (o:Option FV) (d:DV):(QF b o d).left=d.left:=by cases b<;>rfl
theorem CP {α β:Type} (f:β->α->β) (x:β) (l:List α) (i:Nat) (h:i<l.length):(l.take (i+1)).foldl f x=f ((l.take i).foldl f x) l[i]:=by
 rw[List.take_succ_eq_append_getElem h,List.foldl_append];rfl
theorem zof (l:List Int) (k:Nat) (h:k<l.length):(l.map fun n=>AV.i .i64 n)[k]?=some (.i .i64 l[k]):=by simp[List.getElem?_eq_getElem h]
theorem zk7 (B M:Nat) (hBM:M≠B) (o:Bool) (d:DV) (hd:DOK d) (hz:szF d.m<=1000000000000/\szF d.n<=1000000000000) (ps:List Int) (hps:ps.length<=1000000000) :
  q6 Tryz.prog 21 [.av .ptr (.ptr B QI []),.av (.slice 3) (JX ps)] (zA B M o d) (CrR B M o d (kP ps d)):=by
 have hBM':¬B=M:=fun e=>hBM e.symm
 have hep:JX ps=.sl .no (ps.map fun n=>.i .i64 n):=rfl
 have hnl:=pU d
 have hnb:=zlD d
 refine zov Tryz.func21 cf0 fun imm0 w0=>?_
 simp (disch:=omega) [zz,hep]
 refine qM (R:=fun r H'=>∃B M,M≠B/\r=.av .ptr (.ptr B QI [])/\H'=zA B M false J0) [] (zA B M o d) (List.Perm.refl _) rfl (by simp[qH]) (by simp) ?_ ?_
 ·simpa[q7.er_nil]using zdr
 rintro r' H' ⟨B2,M2,hMB2,rfl,rfl⟩ hnd
 refine⟨_,HSub.refl _,?_⟩
 simp[zA,q7.keys]at hnd
 simp (disch:=omega) [zz]
 refine dZ B M hBM o d (zA B2 M2 false J0) List.perm_append_comm (by simp) ?_
 have hsl:(strs (kB d)).length=(bsD d).length:=by rw[GY,hnb,List.length_map]
 have hbl:(bsD d).length<=2:=by rw[<-hsl,GY];exact hnl
 have hnl2:(kB d).length=(bsD d).length:=by rw[<-hsl,GY]
 simp (disch:=omega) [zz,hsl]
 refine AT.loop' (α:=Nat × Bool) (fun x=>St.of [(0,.av .ptr (.ptr B QI [])),(1,.av (.slice 3) (.sl .no ((((bsD d).take x.1).foldl (crS d) (J0,ps)).2.map fun n=>.i .i64 n))),(5,.av .ptr (.ptr B2 QI [])),(14,.av TxS (.sl .no (strs (kB d)))),(15,.av (.int .i64) (.i .i64 (bsD d).length)),(16,.av (.int .i64) (.i .i64 x.1))] [] (fun _=>0) (zA B2 M2 x.2 (((bsD d).take x.1).foldl (crS d) (J0,ps)).1++zA B M o d))
  (fun x=>x.1<=(bsD d).length/\(((bsD d).take x.1).foldl (crS d) (J0,ps)).1.left=-1/\(((bsD d).take x.1).foldl (crS d) (J0,ps)).2.length<=1000000000) (fun x=>(bsD d).length-x.1) (0,false) ?_ ?_ ?_
 ·apply Le.of<;>simp[le9]<;>try omega
 ·exact⟨by simp,rfl,hps⟩
 rintro⟨i,o2⟩ ⟨hi,hlf,hpl⟩ KL hN hE
 simp only at hi hlf hpl hN
 refine zrd cf0 ?_
 by_cases hlt:i<(bsD d).length
 ·have hlt':(i:Int)<(bsD d).length:=by omega
  have hgn:(strs (kB d))[i]?=some (.s (nmB (bsD d)[i])):=by
   rw[zeN _ i (by rw[hnb,List.length_map];exact hlt)]
   simp[hnb]
  have hgl:i<(strs (kB d)).length:=by omega
  have hgn2:(strs (kB d))[i]'hgl=.s (nmB (bsD d)[i]):=by
   have:=hgn;rw[List.getElem?_eq_getElem hgl]at this;exact Option.some.inj this
  have hft:=CP (crS d) (J0,ps) (bsD d) i hlt
  obtain⟨x,hx⟩:∃x,x=((bsD d).take i).foldl (crS d) (J0,ps):=⟨_,rfl⟩
  rw[<-hx]at hft hlf hpl |-
  obtain⟨f,hf⟩:=zlK d _ (List.getElem_mem hlt)
  obtain⟨b,hb⟩:∃b,b=(bsD d)[i]:=⟨_,rfl⟩
  rw[<-hb]at hgn hgn2 hft hf
  have hfd:=QC o b d
  rw[hf]at hfd
  simp only[Option.map_some,flF]at hfd
  have hfo:=zdS hd hf
  unfold FOK at hfo
  have hfz:f.data.length<=1000000000000:=by
   cases b
   ·have:d.m=some f:=hf
    have h:=hz.1;rw[this]at h;exact h
   ·have:d.n=some f:=hf
    have h:=hz.2;rw[this]at h;exact h
  have hcs:crS d x b=(QF b (some (YD (x.2.headD 0) f)) x.1,U1 f x.2):=by unfold crS;rw[hf]
  obtain⟨xd,xp⟩:=x
  simp only at hlf hpl hcs
  by_cases hs:f.data.length<=f.sure
  ·have hs':¬(0:Int)<f.data.length-f.sure:=by omega
   have hlF:YD (xp.headD 0) f=⟨f.data,f.data.length⟩:=by unfold YD;rw[if_pos hs]
   have hrP:U1 f xp=xp:=by unfold U1;rw[if_pos hs]
   obtain⟨o3,hput⟩:=XH o2 b xd ⟨f.data,f.data.length⟩
   simp only[flF]at hput
   have htk:f.data.take f.data.length=f.data:=List.take_of_length_le (Nat.le_refl _)
   rw[hlF,hrP]at hcs
   rw[hcs]at hft
   have hle2:=P9 b (some (⟨f.data,f.data.length⟩:FV)) xd
   simp (disch:=omega) [zz,hlt',hgn,hgn2,hgl,zA,flO,hfd,hs',hnd,hBM,hBM',hnl2,hlt,hs,htk,hput]
   (repeat with_reducible refine om ?_)
   refine hN _ (i+1,o3) ?_ ⟨by omega,by simp only[hft];rw[hle2];exact hlf,by simp only[hft];exact hpl⟩ (by simp only;omega)
   simp only[hft]
   apply Le.of<;>simp[le9,zA,flO,htk,hput,hnd,hle2]<;>try omega
  ·obtain⟨u,hu⟩:∃u,u=f.data.length-f.sure:=⟨_,rfl⟩
   have hs':(0:Int)<f.data.length-f.sure:=by omega
   have hlu:(f.data.length:Int)-f.sure=u:=by omega
   have hu1:¬(u:Int)+1=0:=by omega
   have hu0:0<u:=by omega
   have hu2:u<=1000000000000:=by omega
   cases xp with
   | nil =>
    have hlF:YD (([]:List Int).headD 0) f=⟨f.data.take f.sure,f.sure⟩:=by unfold YD;rw[if_neg hs];simp[zqE]
    have hrP:U1 f []=[]:=by unfold U1;rw[if_neg hs];rfl
    obtain⟨o3,hput⟩:=XH o2 b xd ⟨f.data.take f.sure,f.sure⟩
    simp only[flF]at hput
    rw[hlF,hrP]at hcs
    rw[hcs]at hft
    have hle2:=P9 b (some (⟨f.data.take f.sure,f.sure⟩:FV)) xd
    simp (disch:=omega) [zz,hlt',hgn,hgn2,hgl,zA,flO,hfd,hs',hnd,hBM,hBM',hnl2,hlt,hs,hput,hlu,hu0,hu1]
    (repeat with_reducible refine om ?_)
    refine hN _ (i+1,o3) ?_ ⟨by omega,by simp only[hft];rw[hle2];exact hlf,by simp only[hft];exact hpl⟩ (by simp only;omega)
    simp only[hft]
    apply Le.of<;>simp[le9,zA,flO,hput,hnd,hle2]<;>try omega
   | cons p xp =>
    obtain⟨hp1,hnu,hp2,hp3⟩:=zen p u
    obtain⟨n,hn⟩:∃n,n=X5 p u:=⟨_,rfl⟩
    rw[<-hn]at hp1 hnu
    have hlF:YD ((p::xp).headD 0) f=⟨f.data.take (f.sure+n),f.sure+n⟩:=by unfold YD;rw[if_neg hs,hn,hu];rfl
    have hrP:U1 f (p::xp)=xp:=by unfold U1;rw[if_neg hs];rfl
    obtain⟨o3,hput⟩:=XH o2 b xd ⟨f.data.take (f.sure+n),f.sure+n⟩
    simp only[flF]at hput
    rw[hlF,hrP]at hcs
    rw[hcs]at hft
    have hle2:=P9 b (some (⟨f.data.take (f.sure+n),f.sure+n⟩:FV)) xd
    have hts:((f.sure:Int)+n).toNat=f.sure+n:=by omega
    simp only[List.length_cons]at hpl
    simp only[Int.natCast_add]at hput
    have htx:(xp.map fun n=>AV.i .i64 n).take xp.length=xp.map fun n=>AV.i .i64 n:=List.take_of_length_le (by simp)
    simp (disch:=omega) [zz,hlt',hgn,hgn2,hgl,zA,flO,hfd,hs',hnd,hBM,hBM',hnl2,hlt,hs,hput,hlu,hu0,hu1,hp1,hts,htx]
    (repeat with_reducible refine om ?_)
    refine hN _ (i+1,o3) ?_ ⟨by omega,by simp only[hft];rw[hle2];exact hlf,by simp only[hft];omega⟩ (by simp only;omega)
    simp only[hft]
    apply Le.of<;>simp[le9,zA,flO,hput,hnd,hle2]<;>try omega
 ·have hie:i=(bsD d).length:=by omega
  subst hie
  have hlt':¬((bsD d).length:Int)<(bsD d).length:=by omega
  simp (disch:=omega) [zz,hlt']
  refine hE _ _ (by simp) ?_
  rw[zp7]
  simp (disch:=omega) [zz,Tryz.f21,CrR.of hMB2,JG]
abbrev kJ:=Txt × FV
def zE (p:kJ):AV:=.agg [.s p.1,.s p.2.data,.i .i64 p.2.sure]
def QV (l:List kJ):AV:=.sl .no (l.map zE)
def jP (l:List kJ) (n:Int):AV:=.agg [QV l,.i .i64 n]
noncomputable abbrev RfT:TyD:=q8 Tryz.prog 110
noncomputable abbrev RdT:TyD:=q8 Tryz.prog 33
@[simp] theorem zfH (p:kJ):(zE p).er=zE p:=by simp[zE,AV.er,AV.ers]
@[simp] theorem QZ (l:List kJ):(QV l).er=QV l:=by simp[QV,AV.er,AV.ers_eq,Function.comp_def,Tok.k]
@[simp] theorem J3 (l:List kJ) (n:Int):(jP l n).er=jP l n:=by simp[jP,AV.er,AV.ers]
theorem XU (l:List kJ) (k:Nat) (h:k<l.length):(l.map zE)[k]?=some (zE l[k]):=by simp[List.getElem?_eq_getElem h]
theorem vF {α:Type} (p:α->Bool) (l:List α) (i:Nat) (h:i<l.length):(l.take (i+1)).filter p=(l.take i).filter p++(if p l[i]=true then [l[i]] else []):=by
 rw[List.take_succ_eq_append_getElem h,List.filter_append]
 congr 1
 by_cases hp:p l[i]=true<;>simp[hp]
def atF (l:List kJ) (nm:Txt):Int:=match l.findIdx? (fun p=>decide (p.1=nm))with
 | some i=>i
 | none=>-1
theorem zpy {l:List kJ} {nm:Txt} {i:Nat} (h:i<l.length) (hp:∀p∈l.take i,p.1≠nm) (he:l[i].1=nm):atF l nm=i:=by
 have:l.findIdx? (fun p=>decide (p.1=nm))=some i:=by
  rw[List.findIdx?_eq_some_iff_getElem]
  refine⟨h,by simpa using he,fun j hj=>?_⟩
  have:=hp l[j] (List.mem_take_iff_getElem.2 ⟨j,by omega,rfl⟩)
  simpa using this
 simp[atF,this]
theorem zlP {l:List kJ} {nm:Txt} (hp:∀p∈l,p.1≠nm):atF l nm=-1:=by
 have:l.findIdx? (fun p=>decide (p.1=nm))=none:=by
  rw[List.findIdx?_eq_none_iff]
  intro p h
  simpa using hp p h
 simp[atF,this]
theorem XG (l:List kJ) (n:Int) (nm:Txt) (hl:l.length<=1000000):PC Tryz.prog 61 [.av RdT (jP l n),.av .str (.s nm)] (.av (.int .i64) (.i .i64 (atF l nm))):=by
 refine zow Tryz.func61 cf0 fun imm0 w0=>?_
 have hle:QV l=.sl .no (l.map zE):=rfl
 simp (disch:=omega) [zz,jP,hle]
 refine AT.loop' (α:=Nat) (fun i=>St.of [(1,.av .str (.s nm)),(8,.av (.slice 110) (.sl .no (l.map zE))),(9,.av (.int .i64) (.i .i64 l.length)),(10,.av (.int .i64) (.i .i64 i))] [] (fun _=>0) [])
  (fun i=>i<=l.length/\∀p∈l.take i,p.1≠nm) (fun i=>l.length-i) 0 ?_ ?_ ?_
 ·apply Le.of<;>simp[le9,hle]<;>try omega
 ·simp
 rintro i ⟨hi,hp⟩ KL hN hE
 refine zrd cf0 ?_
 by_cases hlt:i<l.length
 ·have hlt':(i:Int)<l.length:=by omega
  have hg:=XU l i hlt
  have hhit:=zpy (nm:=nm) hlt hp
  have htk:l.take (i+1)=l.take i++[l[i]]:=List.take_succ_eq_append_getElem hlt
  obtain⟨p,hpe⟩:∃p,p=l[i]:=⟨_,rfl⟩
  rw[<-hpe]at hg hhit htk
  by_cases he:p.1=nm
  ·have hh:=hhit he
   simp (disch:=omega) [zz,hlt',hg,zE,he]
   refine hE _ _ (by simp) ?_
   simp (disch:=omega) [zz,hh,Tryz.f61]
  ·simp (disch:=omega) [zz,hlt',hg,zE,he]
   refine hN _ (i+1) ?_ ⟨by omega,fun x hx=>?_⟩ (by omega)
   ·apply Le.of<;>simp[le9]<;>try omega
   ·rw[htk]at hx
    rcases List.mem_append.1 hx with hx|hx
    ·exact hp x hx
    ·rw[List.mem_singleton.1 hx];exact he
 ·have hlt':¬(i:Int)<l.length:=by omega
  rw[List.take_of_length_le (by omega)]at hp
  have hh:=zlP hp
  simp (disch:=omega) [zz,hlt']
  refine hE _ _ (by simp) ?_
  simp (disch:=omega) [zz,hh,Tryz.f61]
theorem VH (l:List kJ) (n:Int) (nm:Txt) (hl:l.length<=1000000):PC Tryz.prog 175 [.av RdT (jP l n),.av .str (.s nm)] (.av (.slice 110) (QV (l.filter fun p=>decide (p.1≠nm)))):=by
 obtain⟨G,hG⟩:∃G:Nat->List kJ,G=fun i=>(l.take i).filter fun p=>decide (p.1≠nm):=⟨_,rfl⟩
 have hG0:G 0=[]:=by rw[hG];rfl
 have hGn:(l.filter fun p=>decide (p.1≠nm))=G l.length:=by rw[hG];simp
 have hGs:∀i (h:i<l.length),G (i+1)=G i++(if l[i].1≠nm then [l[i]] else []):=fun i h=>by rw[hG];simpa using vF (fun p:kJ=>decide (p.1≠nm)) l i h
 have hGl:∀i,(G i).length<=l.length:=fun i=>by rw[hG];exact Nat.le_trans (List.length_filter_le _ _) (by rw[List.length_take];omega)
 rw[hGn]
 refine zow Tryz.func175 cf0 fun imm0 w0=>?_
 have hle:QV l=.sl .no (l.map zE):=rfl
 simp (disch:=omega) [zz,jP,hle]
 refine AT.loopV (α:=Nat × Option Nat) (fun x ver=>St.of [(1,.av .str (.s nm)),(5,.av (.slice 110) (.sl (Z1 ver x.2) ((G x.1).map zE))),(10,.av (.slice 110) (.sl .no (l.map zE))),(11,.av (.int .i64) (.i .i64 l.length)),(12,.av (.int .i64) (.i .i64 x.1))] [] ver [])
  (fun x=>x.1<=l.length) (fun x=>l.length-x.1) (0,none) ?_ ?_ ?_
 ·apply Le.of<;>simp[le9,hle,hG0,Z1]<;>try omega
 ·simp
 rintro⟨i,o⟩ ver hi KL hN hE
 simp only at hi hN
 refine zrd cf0 ?_
 by_cases hlt:i<l.length
 ·have hlt':(i:Int)<l.length:=by omega
  have hg:=XU l i hlt
  have hGi:=hGs i hlt
  have hGl1:=hGl i
  obtain⟨p,hpe⟩:∃p,p=l[i]:=⟨_,rfl⟩
  rw[<-hpe]at hg hGi
  by_cases he:p.1=nm
  ·rw[if_neg (by simpa using he),List.append_nil]at hGi
   simp (disch:=omega) [zz,hlt',hg,zE,he]
   refine hN _ (i+1,o) ?_ (by simp only;omega) (by simp only;omega)
   apply Le.of<;>simp[le9,hGi]<;>try omega
  ·rw[if_pos he]at hGi
   have hmp:zE p=.agg [.s p.1,.s p.2.data,.i .i64 p.2.sure]:=rfl
   simp (disch:=omega) [zz,hlt',hg,hmp,he]
   refine jV (by simp;omega) (by simp;omega) (by kernel_rfl) (by kernel_rfl) fun ver'=>?_
   simp (disch:=omega) [zz]
   refine hN _ (i+1,some 23) ?_ (by simp only;omega) (by simp only;omega)
   apply Le.of<;>simp[le9,hGi,hmp,Z1]<;>try omega
 ·have hlt':¬(i:Int)<l.length:=by omega
  have hie:i=l.length:=by omega
  subst hie
  simp (disch:=omega) [zz,hlt']
  refine hE _ _ (by simp) ?_
  simp (disch:=omega) [zz,Tryz.f175,QV,AV.ers_eq,Function.comp_def,zfH]
def JU (l:List kJ) (f:kJ):List kJ:=(l.filter fun p=>Op.bytesLess p.1 f.1)++[f]++l.filter fun p=>!(Op.bytesLess p.1 f.1||decide (p.1=f.1))
theorem gE (l:List kJ) (n:Int) (f:kJ) (hl:l.length<=1000000):PC Tryz.prog 63 [.av RdT (jP l n),.av RfT (zE f)] (.av (.slice 110) (QV (JU l f))):=by
 obtain⟨G,hG⟩:∃G:Nat->List kJ,G=fun i=>(l.take i).filter fun p=>Op.bytesLess p.1 f.1:=⟨_,rfl⟩
 have hG0:G 0=[]:=by rw[hG];rfl
 have hGs:∀i (h:i<l.length),G (i+1)=G i++(if Op.bytesLess l[i].1 f.1=true then [l[i]] else []):=fun i h=>by rw[hG];exact vF (fun p:kJ=>Op.bytesLess p.1 f.1) l i h
 have hGl:∀i,(G i).length<=l.length:=fun i=>by rw[hG];exact Nat.le_trans (List.length_filter_le _ _) (by rw[List.length_take];omega)
 obtain⟨F,hF⟩:∃F:Nat->List kJ,F=fun i=>(G l.length++[f])++(l.take i).filter fun p=>!(Op.bytesLess p.1 f.1||decide (p.1=f.1)):=⟨_,rfl⟩
 have hF0:F 0=G l.length++[f]:=by rw[hF];simp
 have hFn:JU l f=F l.length:=by rw[hF,hG];simp[JU]
 have hFs:∀i (h:i<l.length),F (i+1)=F i++(if (!(Op.bytesLess l[i].1 f.1||decide (l[i].1=f.1)))=true then [l[i]] else []):=fun i h=>by
  rw[hF]
  show _++_=(_++_)++_
  rw[vF (fun p:kJ=>!(Op.bytesLess p.1 f.1||decide (p.1=f.1))) l i h]
  simp only[List.append_assoc]
 have hFl:∀i,(F i).length<=2*l.length+1:=fun i=>by
  have h1:=hGl l.length
  have h2:((l.take i).filter fun p=>!(Op.bytesLess p.1 f.1||decide (p.1=f.1))).length<=l.length:=Nat.le_trans (List.length_filter_le _ _) (by rw[List.length_take];omega)
  rw[hF]
  simp only[List.length_append,List.length_cons,List.length_nil]
  omega
 rw[hFn]
 have hfe:zE f=.agg [.s f.1,.s f.2.data,.i .i64 f.2.sure]:=rfl
 have hle:QV l=.sl .no (l.map zE):=rfl
 refine zow Tryz.func63 cf0 fun imm0 w0=>?_
 simp (disch:=omega) [zz,jP,hle]
 refine AT.loopV (α:=Nat × Option Nat) (fun x ver=>St.of [(2,.loc 2 []),(3,.loc 3 []),(5,.av (.slice 110) (.sl (Z1 ver x.2) ((G x.1).map zE))),(12,.av (.slice 110) (.sl .no (l.map zE))),(13,.av (.int .i64) (.i .i64 l.length)),(14,.av (.int .i64) (.i .i64 x.1))] [(2,(RdT,jP l n)),(3,(RfT,zE f))] ver [])
  (fun x=>x.1<=l.length) (fun x=>l.length-x.1) (0,none) ?_ ?_ ?_
 ·apply Le.of<;>simp[le9,hle,hG0,Z1,jP]<;>try omega
 ·simp
 rintro⟨i,o⟩ ver hi KL hN hE
 simp only at hi hN
 refine zrd cf0 ?_
 by_cases hlt:i<l.length
 ·have hlt':(i:Int)<l.length:=by omega
  have hg:=XU l i hlt
  have hGi:=hGs i hlt
  have hGl1:=hGl i
  obtain⟨p,hpe⟩:∃p,p=l[i]:=⟨_,rfl⟩
  rw[<-hpe]at hg hGi
  have hmp:zE p=.agg [.s p.1,.s p.2.data,.i .i64 p.2.sure]:=rfl
  cases hb:Op.bytesLess p.1 f.1 with
  | false =>
   rw[hb,if_neg (by simp),List.append_nil]at hGi
   simp (disch:=omega) [zz,hlt',hg,hmp,hfe,hb]
   refine hN _ (i+1,o) ?_ (by simp only;omega) (by simp only;omega)
   apply Le.of<;>simp[le9,hGi,hfe]<;>try omega
  | true =>
   rw[hb,if_pos rfl]at hGi
   simp (disch:=omega) [zz,hlt',hg,hmp,hfe,hb]
   refine jV (by simp;omega) (by simp;omega) (by kernel_rfl) (by kernel_rfl) fun ver'=>?_
   simp (disch:=omega) [zz]
   refine hN _ (i+1,some 26) ?_ (by simp only;omega) (by simp only;omega)
   apply Le.of<;>simp[le9,hGi,hmp,hfe,Z1]<;>try omega
 have hlt':¬(i:Int)<l.length:=by omega
 have hie:i=l.length:=by omega
 subst hie
 have hGl1:=hGl l.length
 simp (disch:=omega) [zz,hlt']
 refine hE _ _ (by simp) ?_
 clear hN hE
 simp (disch:=omega) [zz,hfe]
 refine jV (by simp;omega) (by simp;omega) (by kernel_rfl) (by kernel_rfl) fun ver'=>?_
 simp (disch:=omega) [zz,jP,hle]
 refine AT.loopV (α:=Nat × Option Nat) (fun x ver=>St.of [(3,.loc 3 []),(5,.av (.slice 110) (.sl (Z1 ver x.2) ((F x.1).map zE))),(33,.av (.slice 110) (.sl .no (l.map zE))),(34,.av (.int .i64) (.i .i64 l.length)),(35,.av (.int .i64) (.i .i64 x.1))] [(3,(RfT,zE f))] ver [])
  (fun x=>x.1<=l.length) (fun x=>l.length-x.1) (0,some 31) ?_ ?_ ?_
 ·apply Le.of<;>simp[le9,hle,hF0,Z1,hfe]<;>try omega
 ·simp
 rintro⟨i,o⟩ ver hi KL hN hE
 simp only at hi hN
 refine zrd cf0 ?_
 by_cases hlt:i<l.length
 ·have hlt':(i:Int)<l.length:=by omega
  have hg:=XU l i hlt
  have hFi:=hFs i hlt
  have hFl1:=hFl i
  obtain⟨p,hpe⟩:∃p,p=l[i]:=⟨_,rfl⟩
  rw[<-hpe]at hg hFi
  have hmp:zE p=.agg [.s p.1,.s p.2.data,.i .i64 p.2.sure]:=rfl
  cases hb:(!(Op.bytesLess p.1 f.1||decide (p.1=f.1)))with
  | false =>
   rw[hb,if_neg (by simp),List.append_nil]at hFi
   simp (disch:=omega) [zz,hlt',hg,hmp,hfe,hb]
   refine hN _ (i+1,o) ?_ (by simp only;omega) (by simp only;omega)
   apply Le.of<;>simp[le9,hFi,hfe]<;>try omega
  | true =>
   rw[hb,if_pos rfl]at hFi
   simp (disch:=omega) [zz,hlt',hg,hmp,hfe,hb]
   refine jV (by simp;omega) (by simp;omega) (by kernel_rfl) (by kernel_rfl) fun ver'=>?_
   simp (disch:=omega) [zz]
   refine hN _ (i+1,some 47) ?_ (by simp only;omega) (by simp only;omega)
   apply Le.of<;>simp[le9,hFi,hmp,hfe,Z1]<;>try omega
 have hlt':¬(i:Int)<l.length:=by omega
 have hie:i=l.length:=by omega
 subst hie
 simp (disch:=omega) [zz,hlt']
 refine hE _ _ (by simp) ?_
 simp (disch:=omega) [zz,Tryz.f63,QV,AV.ers_eq,Function.comp_def,zfH]
def GF (n:Int):Int:=if 0<n then n-1 else n
theorem XW (l l2:List kJ) (n:Int) (h1:-9223372036854775808<=n) (h2:n<=9223372036854775807):PC Tryz.prog 62 [.av RdT (jP l n),.av (.slice 110) (QV l2)] (.tup [(RdT,if n=0 then jP l n else jP l2 (GF n)),(.int .i64,.i .i64 (if n=0 then 18 else 0))]):=by
 refine zow Tryz.func62 cf0 fun imm0 w0=>?_
 have e1:=QZ l
 have e2:=QZ l2
 by_cases h0:n=0
 ·simp (disch:=omega) [zz,jP,h0,Tryz.f62,e1]
 ·by_cases hp:0<n
  ·have hw:IntKind.i64.wrap (n-1)=n-1:=i64_in (by omega) (by omega)
   simp (disch:=omega) [zz,jP,h0,hp,hw,Tryz.f62,e1,e2,GF]
  ·simp (disch:=omega) [zz,jP,h0,hp,Tryz.f62,e1,e2,GF]
theorem zcM:PC Tryz.prog 9 [] (.av RdT (jP [] (-1))):=by
 refine zow Tryz.func9 cf0 fun imm0 w0=>?_
 simp (disch:=omega) [zz,Tryz.f9,jP,QV]
end
end Go.Proofs.YtognnffjdckalaaGreatDoor
