/- Does a pattern match a path? The program, as a whole. No condition. -/
import Derived.Test.YtdkieabmeiojjaaGreatDoorP11ToGB3
import Derived.Test.YtdkieabmeiojjaaGreatDoorKT4ToKT3
set_option linter.unusedSimpArgs false
set_option linter.unusedVariables false
set_option linter.unusedSectionVars false
set_option maxHeartbeats 64000000
section
set_option maxRecDepth 100000
namespace Go.Proofs.YtdkieabmeiojjaaGreatDoor
open Go Go.Ab
open Classical
variable [Sel] [SelPow] [SelMax]
abbrev zqy:Cfg:=⟨fun n=>n==5||n==6||n==7||n==8,fun _=>false⟩
theorem zlI (p s:Txt) (hp:p.length<=1900000) (hs:s.length<=1900000):PC Tryz.prog 114 [.av .str (.s p),.av .str (.s s)] (.av .bool (.b (uF p s))):=by
 have hpl:=U0 47 p
 have hsl:=U0 47 s
 have hpe:∀x∈qK 47 p,x.length<=2000000:=fun x hx=>by have:=QN 47 p x hx;omega
 have hse:∀x∈qK 47 s,x.length<=2000000:=fun x hx=>by have:=QN 47 s x hx;omega
 refine zow Tryz.func114 zqy fun imm0 w0=>?_
 simp (disch:=omega) [zz]
 refine zcv (zgG p (by omega)) ?_
 cases h1:CK p
 ·simp (disch:=omega) [zz,Tryz.f114,uF,h1]
 simp (disch:=omega) [zz]
 refine zcv (YW s (by omega)) ?_
 cases h2:w5 s
 ·simp (disch:=omega) [zz,Tryz.f114,uF,h1,h2]
 simp (disch:=omega) [zz]
 refine qO (V4 p (by omega)) rfl rfl (by simp) (by simp[qR,coC,TV.er,AV.er]) ?_
 simp (disch:=omega) [zz]
 intro b5
 refine qO (V4 s (by omega)) rfl rfl (by simp) (by simp[qR,coC,TV.er,AV.er]) ?_
 simp (disch:=omega) [zz]
 intro b6 q1 N q2 q3 b7 r1 r2 r3 b8 u1 u2 u3 u4
 have hd:=zm4 b5 b6 b7 b8 N (qK 47 p) (qK 47 s) (by omega) (by omega) hpe hse _ 0 0 [] (Nat.lt_succ_self _) (by omega) (by omega) (by intro x hx;cases hx)
 rw[List.drop_zero,List.drop_zero]at hd
 refine qD (R:=fun r H'=>r=.av .bool (.b (kU (qK 47 p) (qK 47 s)))/\∃m',vA (qK 47 p) (qK 47 s) m'/\H'=yK b5 b6 b7 b8 N (qK 47 p) (qK 47 s) m') (yK b5 b6 b7 b8 N (qK 47 p) (qK 47 s) []) [] ?_ rfl (by simp[qE]) (by simp) ?_ ?_
 ·refine List.perm_iff_count.2 fun a=>?_
  simp only[yK,WR,zpn,znC,W4,TsT,VP,List.map_nil,List.count_append,List.count_cons,List.count_nil]
  omega
 ·rw[uL]
  refine q7.args (by simpa using hd) (by simp[qR,coC,TV.er,AV.er,AV.ers])
 rintro r H' ⟨rfl,m',hm',rfl⟩ _
 refine⟨_,by rw[List.append_nil];exact HSub.refl _,?_⟩
 simp (disch:=omega) [zz,Tryz.f114,uF,h1,h2]
def YS (l:List CmdV):List AV:=l.map zE
@[simp] theorem zbh (c:CmdV):(zE c).er=zE c:=by simp[zE,AV.er,AV.ers,AV.ers_eq,strs,Function.comp_def]
@[simp] theorem zpu (l:List CmdV):AV.ers (YS l)=YS l:=by simp[YS,AV.ers_eq,Function.comp_def]
abbrev zgg:TyD:=.slice 174
noncomputable def bcO (l:List CmdV):HObj:=.var zgg (.sl .no (YS l))
theorem zj5 (l:List CmdV):(bcO l).er=bcO l:=by simp[bcO,HObj.er_var,AV.erk]
abbrev zqr:Cfg:=⟨fun n=>n==1,fun _=>false⟩
theorem zkr (l:List CmdV):q7 Tryz.prog 109 [.av zgg (.sl .no (YS l))] [] fun r H'=>∃c,r=.av .func (.fn 142 [.ptr c zgg []])/\H'=[(c,bcO l)]:=by
 refine zov Tryz.func109 zqr fun imm0 w0=>?_
 simp (disch:=omega) [zz]
 intro c
 simp (disch:=omega) [zz,Tryz.f109,bcO,AV.ers]
theorem zhB {G:Nat->q8->Prop} (y c:Nat) (l:List CmdV) (hl:l.length<=1000000000) (hGe:∀k H,G k H->H.er=H)
  (hY:∀k (hk:k<l.length) H,G k H->YC Tryz.prog y [.av (.int .i64) (.i .i64 (l.length-1-k:Nat)),.av QQ (zE (l[l.length-1-k]'(by omega)))] H fun r H'=>r=.av .bool (.b true)/\G (k+1) H') :
  ∀H,G 0 H->q7 Tryz.prog 142 [.av .func (.yl y),.av .ptr (.ptr c zgg [])] ((c,bcO l)::H)
   fun r H'=>r=.tup []/\∃H1,G l.length H1/\H'=(c,bcO l)::H1:=by
 intro H hG
 have hbe:=zj5 l
 have hsl:∀x:List CmdV,(YS x).length=x.length:=fun x=>by simp[YS]
 refine zov Tryz.func142 cf0 fun imm0 w0=>?_
 simp (disch:=omega) [zz,bcO,hsl]
 refine AT.loop' (α:=Nat × q8) (fun p=>St.of [(0,.av .func (.yl y)),(1,.av .ptr (.ptr c zgg [])),(3,.av (.int .i64) (.i .i64 ((l.length:Int)-1-p.1)))] [] (fun _=>0) ((c,bcO l)::p.2))
  (fun p=>p.1<=l.length/\G p.1 p.2) (fun p=>l.length-p.1) (0,H) ?_ ?_ ?_
 ·apply Le.of<;>simp[zR,qI,bcO]<;>try omega
 ·exact⟨by omega,hG⟩
 rintro⟨k,H1⟩ ⟨hk,hG1⟩ KL hN hE
 simp only at hk hG1 hN
 refine zrd cf0 ?_
 by_cases hlt:k<l.length
 ·obtain⟨i,hi⟩:∃i:Nat,i=l.length-1-k:=⟨_,rfl⟩
  have hii:(l.length:Int)-1-k=i:=by omega
  have hil:i<l.length:=by omega
  have hgi:(YS l)[i]?=some (zE l[i]):=by simp[YS,List.getElem?_eq_getElem hil]
  rw[hii]
  have hge:(0:Int)<=i:=by omega
  simp (disch:=omega) [zz,hge,bcO,hgi,hsl,hil]
  refine KA (R:=fun r H'=>r=.av .bool (.b true)/\G (k+1) H') H1 [(c,bcO l)] (List.perm_append_comm (l₁:=[_])) (by simp[qE]) ?_ ?_
  ·rw[hGe _ _ hG1]
   have:=hY k hlt _ hG1
   simpa[TV.er,<-hi]using this
  rintro r H2 ⟨rfl,hG2⟩ _
  refine⟨(c,bcO l)::H2,HSub.of_perm (List.perm_append_comm (l₂:=[_])),?_⟩
  simp (disch:=omega) [zz]
  refine hN _ (k+1,H2) ?_ ⟨by omega,hG2⟩ (by simp only;omega)
  apply Le.of<;>simp[zR,qI,bcO]<;>try omega
 ·have hge:(l.length:Int)-1-k=-1:=by omega
  rw[hge]
  simp (disch:=omega) [zz]
  refine hE _ _ (by simp) ?_
  have hkl:k=l.length:=by omega
  subst hkl
  have hH:=hGe _ _ hG1
  simp (disch:=omega) [zz,Tryz.f142,hH,hbe]
  exact⟨hG1,by first|rfl|simp[bcO]⟩
end Go.Proofs.YtdkieabmeiojjaaGreatDoor
end
section
set_option maxRecDepth 100000
namespace Go.Proofs.YtdkieabmeiojjaaGreatDoor
open Go Go.Ab
open Classical
variable [Sel]
theorem W8 {l x:List UInt8} (h:x∈qU l):x.length<=l.length:=by
 unfold qU at h
 split at h
 ·cases h
 ·have h1:=QN 10 (KQ l [10]) x h
  have h2:=UH l [10]
  omega
end Go.Proofs.YtdkieabmeiojjaaGreatDoor
end
section
set_option maxRecDepth 100000
namespace Go.Proofs.YtdkieabmeiojjaaGreatDoor
open Go Go.Ab
open Classical
variable [Sel] [SelPow] [SelMax]
noncomputable def CO (t:Txt):TV:=match zL t with
 | .ok l=>.tup [(.slice 174,.sl .no (YS l)),(.int .i64,.i .i64 0),(.int .i64,.i .i64 0)]
 | .error (e,n)=>.tup [(.slice 174,.sl .no []),(.int .i64,.i .i64 e),(.int .i64,.i .i64 n)]
def tkC (n:Nat):Tok:=if n=0 then .full else .own 44 n
theorem GM:∀(ls:List Txt) (i:Nat) (l:List CmdV),yF i ls=.ok l->l.length<=ls.length
 | [],i,l,h=>by cases h;simp
 | s::r,i,l,h=>by
  unfold yF at h
  split at h
  ·cases h
  ·have:=GM r _ _ h;simp;omega
  ·split at h
   ·rename_i l' hl'
    cases h
    have:=GM r _ _ hl';simp;omega
   ·cases h
theorem ze0 (a b:List CmdV):YS (a++b)=YS a++YS b:=by simp[YS]
@[simp] theorem zp8 (a:List CmdV):(YS a).length=a.length:=by simp[YS]
@[simp] theorem zoT (l:List CmdV):AV.erks (YS l)=YS l:=by
 rw[AV.erks_eq]
 simp only[YS,List.map_map]
 exact List.map_congr_left fun c _=>k8 _ (zbh c)
def CmI (ls:List Txt) (k:Nat) (acc:List CmdV):Prop:=k<=ls.length/\acc.length<=k/\yF 0 ls=match yF k (ls.drop k)with
 | .ok l=>.ok (acc++l)
 | .error e=>.error e
theorem CmI.start (ls:List Txt):CmI ls 0 []:=⟨by omega,by simp,by rw[List.drop_zero];cases yF 0 ls<;>rfl⟩
theorem CmI.pass {ls:List Txt} {k:Nat} {acc:List CmdV} (h:CmI ls k acc) (hk:k<ls.length) (hr:ZA ls[k]=some none):CmI ls (k+1) acc:=by
 obtain⟨_,h1,h2⟩:=h
 refine⟨by omega,by omega,?_⟩
 rw[h2,List.drop_eq_getElem_cons hk,yF,hr]
theorem CmI.more {ls:List Txt} {k:Nat} {acc:List CmdV} (h:CmI ls k acc) (hk:k<ls.length) {c:CmdV} (hr:ZA ls[k]=some (some c)):CmI ls (k+1) (acc++[c]):=by
 obtain⟨_,h1,h2⟩:=h
 refine⟨by omega,by simp;omega,?_⟩
 rw[h2,List.drop_eq_getElem_cons hk,yF,hr]
 simp only
 cases yF (k+1) (ls.drop (k+1))<;>simp
theorem CmI.bad {ls:List Txt} {k:Nat} {acc:List CmdV} (h:CmI ls k acc) (hk:k<ls.length) (hr:ZA ls[k]=none):yF 0 ls=.error (k+1):=by
 obtain⟨_,h1,h2⟩:=h
 rw[h2,List.drop_eq_getElem_cons hk,yF,hr]
theorem CmI.end_ {ls:List Txt} {acc:List CmdV} (h:CmI ls ls.length acc):yF 0 ls=.ok acc:=by
 obtain⟨_,h1,h2⟩:=h
 rw[h2,List.drop_length,yF]
 simp
abbrev zpi:Cfg:=⟨fun _=>false,fun n=>n==44⟩
theorem pZ (t:Txt) (hl:t.length<=1000000):PC Tryz.prog 108 [.av .str (.s t)] (CO t):=by
 have hpc:=dU t hl
 have hll:=ZU t
 have heach:∀x∈qU t,x.length<=1000000:=fun x hx=>by have:=W8 hx;omega
 obtain⟨V,hV⟩:∃V,V=CO t:=⟨_,rfl⟩
 rw[<-hV]
 unfold CO zL at hV
 obtain⟨ls,hls⟩:∃ls,ls=qU t:=⟨_,rfl⟩
 rw[<-hls]at hpc hll heach hV
 refine zow Tryz.func108 zpi fun imm0 w0=>?_
 simp (disch:=omega) [zz]
 refine zcv hpc ?_
 by_cases hbig:65536<t.length
 ·have hbig':(65536:Int)<t.length:=by omega
  rw[if_pos (.inl hbig)]at hV
  simp (disch:=omega) [zz,hbig',Tryz.f108,hV]
 have hbig':¬(65536:Int)<t.length:=by omega
 by_cases hmany:400<ls.length
 ·have hmany':(400:Int)<ls.length:=by omega
  rw[if_pos (.inr hmany)]at hV
  simp (disch:=omega) [zz,hbig',hmany',strs,Tryz.f108,hV]
 have hmany':¬(400:Int)<ls.length:=by omega
 rw[if_neg (by omega)]at hV
 simp (disch:=omega) [zz,hbig',hmany',strs]
 refine AT.loop' (α:=Nat × List CmdV) (fun x=>St.of [(6,.av (.slice 174) (.sl (tkC x.2.length) (YS x.2))),(21,.av (.slice 9) (.sl .no (strs ls))),(22,.av (.int .i64) (.i .i64 ls.length)),(23,.av (.int .i64) (.i .i64 x.1))] [] (fun j=>if j=44 then x.2.length else 0) [])
  (fun x=>CmI ls x.1 x.2) (fun x=>ls.length-x.1) (0,[]) ?_ ?_ ?_
 ·apply Le.of<;>simp[zR,qI,tkC,YS,strs]<;>try omega
 ·exact CmI.start ls
 rintro⟨k,acc⟩ hI KL hN hE
 simp only at hI hN
 obtain⟨hk,hak,_⟩:=id hI
 refine zrd zpi ?_
 by_cases hlt:k<ls.length
 ·have hlt':(k:Int)<ls.length:=by omega
  have hg:(strs ls)[k]?=some (.s ls[k]):=by simp[strs,List.getElem?_eq_getElem hlt]
  have hxl:=heach _ (List.getElem_mem hlt)
  obtain⟨x,hx⟩:∃x,x=ls[k]:=⟨_,rfl⟩
  have hpass:=hI.pass hlt
  have hmore:=fun c=>hI.more hlt (c:=c)
  have hbad:=hI.bad hlt
  rw[<-hx]at hg hxl hpass hmore hbad
  simp (disch:=omega) [zz,hlt',hg]
  refine qD (R:=YX (ZA x)) [] [] (by simp) rfl (by simp[qE]) (by simp) ?_ ?_
  ·simpa[TV.er,AV.er]using zkO x hxl
  intro r H' hR hnd
  cases hrc:ZA x with
  | none =>
   rw[hrc]at hR
   obtain⟨rfl,rfl⟩:=hR
   rw[hbad hrc]at hV
   refine⟨[],HSub.refl _,?_⟩
   simp (disch:=omega) [zz]
   refine hE _ _ (by simp) ?_
   simp (disch:=omega) [zz,Tryz.f108,hV]
  | some oc =>
   cases oc with
   | none =>
    rw[hrc]at hR
    obtain⟨rfl,rfl⟩:=hR
    refine⟨[],HSub.refl _,?_⟩
    simp (disch:=omega) [zz]
    refine hN _ (k+1,acc) ?_ (hpass hrc) (by simp only;omega)
    apply Le.of<;>simp[zR,qI,z6]<;>try omega
   | some c =>
    rw[hrc]at hR
    obtain⟨b,rfl,rfl⟩:=hR
    refine⟨_,HSub.refl _,?_⟩
    have hby:Tryz.prog.bytesOf 174=40:=by kernel_rfl
    by_cases ha:acc.length=0
    ·simp (disch:=omega) [zz,kA,tkC,ha]
     simp (disch:=omega) [zz,yT,hby]
     (repeat with_reducible refine om ?_)
     refine hN _ (k+1,acc++[c]) ?_ (hmore c hrc) (by simp only;omega)
     refine Le.ofP ?_ ?_ ?_ ?_ (HSub.of_sub (List.nil_sublist _))<;>simp[zR,qI,tkC,ha,ze0]
     all_goals first|(left;rfl)|(intro j;by_cases hj:j=44<;>simp[hj])
    ·simp (disch:=omega) [zz,kA,tkC,ha]
     simp (disch:=omega) [zz,yT,hby]
     (repeat with_reducible refine om ?_)
     refine hN _ (k+1,acc++[c]) ?_ (hmore c hrc) (by simp only;omega)
     refine Le.ofP ?_ ?_ ?_ ?_ (HSub.of_sub (List.nil_sublist _))<;>simp[zR,qI,tkC,ha,ze0]
     all_goals first|(left;rfl)|(intro j;by_cases hj:j=44<;>simp[hj])
 have hkl:k=ls.length:=by omega
 subst hkl
 have hend:=hI.end_
 rw[hend]at hV
 simp (disch:=omega) [zz]
 refine hE _ _ (by simp) ?_
 simp (disch:=omega) [zz,Tryz.f108,hV]
end Go.Proofs.YtdkieabmeiojjaaGreatDoor
end
section
set_option maxRecDepth 100000
namespace Go.Proofs.YtdkieabmeiojjaaGreatDoor
open Go Go.Ab
open Classical
variable [Sel] [SelPow] [SelMax]
noncomputable def uG (t:Txt) (ta ea:AV) (K:Nat) (asks:Txt) (waits:Bool) (over:DoV):HObj:=if 65536<t.length then qJ ta ea [] K asks waits ⟨4,[],[],6⟩ else qJ ta ea t K asks waits over
theorem zcO {t:Txt} {ta ea:AV} {K:Nat} {asks:Txt} {waits:Bool} {over:DoV} (h1:ta.erk=ta) (h2:ea.erk=ea):(uG t ta ea K asks waits over).er=uG t ta ea K asks waits over:=by
 unfold uG;split<;>exact ZM h1 h2
abbrev zeX:Cfg:=⟨fun n=>n==6,fun n=>n==31⟩
section
variable (R:Nat) (arg:Txt) (ws:List Txt) (v:AV) (rowH:q8) (hrow:J1 ws v rowH) (hn:ws.length<=1000000000) (ta ea:AV) (buf:Txt) (K:Nat) (asks:Txt) (waits:Bool) (over:DoV) (h1:ta.erk=ta) (h2:ea.erk=ea)
include hrow hn h1 h2
theorem ziA (hl:(j8 (k7 ws)).length<=1000000000) :
  q7 Tryz.prog 153 [.av .ptr (.ptr R kO []),.av .str (.s wV),.av .str (.s arg),.av (.slice 9) v] ((R,qJ ta ea buf K asks waits over)::rowH) fun r H'=>r=.tup []/\H'=[(R,uG (j8 (k7 ws)) ta ea K asks waits over)]:=by
 obtain⟨hrer,hver⟩:=hrow.er
 have heo:=ZM (ta:=ta) (ea:=ea) (buf:=buf) (K:=K) (asks:=asks) (waits:=waits) (over:=over) h1 h2
 have hle:=zcO (t:=j8 (k7 ws)) (K:=K) (asks:=asks) (waits:=waits) (over:=over) h1 h2
 refine q7.sub (R:=fun y H'=>y=.tup []/\∃H2,Ab.HSub H2 H'/\H2=[(R,uG (j8 (k7 ws)) ta ea K asks waits over)]) ?_ fun y H' ⟨h1,H2,h2,h3⟩ _=>⟨H2,h2,h1,h3⟩
 refine zov Tryz.func153 zeX fun imm0 w0=>?_
 simp (disch:=omega) [zz,wV]
 intro b nb nb2
 refine qD (R:=fun y H'=>y=.tup []/\J1 (k7 ws) v H') rowH [(R,qJ ta ea buf K asks waits over),(b,.var .str (.s arg))] ?_ rfl (by simp[qE]) (by simp) ?_ ?_
 ·refine List.perm_iff_count.2 fun a=>?_
  simp only[List.count_append,List.count_cons,List.count_nil]
  omega
 ·rw[hrer]
  simpa[TV.er,AV.er,hver]using CR ws v rowH hrow hn
 rintro y H1 ⟨rfl,hrow1⟩ _
 refine⟨_,HSub.refl _,?_⟩
 simp (disch:=omega) [zz]
 obtain⟨hrer1,hver1⟩:=hrow1.er
 refine qD (R:=fun y H'=>y=.tup []/\H'=[(R,uG (j8 (k7 ws)) ta ea K asks waits over)]) ((R,qJ ta ea buf K asks waits over)::H1) [(b,.var .str (.s arg))] ?_ rfl (by simp[qE]) (by simp) ?_ ?_
 ·refine List.perm_iff_count.2 fun a=>?_
  simp only[List.count_append,List.count_cons,List.count_nil]
  omega
 ·rw[q8.er_cons,hrer1,heo]
  have:=u5 R (k7 ws) v H1 hrow1 hl (by rw[Q9];exact hn) ta ea buf K asks waits over h1 h2
  simpa[TV.er,AV.er,hver,uG]using this
 rintro y H' ⟨rfl,rfl⟩ _
 refine⟨_,HSub.refl _,?_⟩
 simp (disch:=omega) [zz,Tryz.f153,hle]
 exact HSub.of_sub (List.Sublist.cons_cons _ (List.nil_sublist _))
theorem ziN (hl:(j8 (jJ ws)).length<=1000000000) :
  q7 Tryz.prog 153 [.av .ptr (.ptr R kO []),.av .str (.s yG),.av .str (.s arg),.av (.slice 9) v] ((R,qJ ta ea buf K asks waits over)::rowH) fun r H'=>r=.tup []/\H'=[(R,uG (j8 (jJ ws)) ta ea K asks waits over)]:=by
 obtain⟨hrer,hver⟩:=hrow.er
 have heo:=ZM (ta:=ta) (ea:=ea) (buf:=buf) (K:=K) (asks:=asks) (waits:=waits) (over:=over) h1 h2
 have hle:=zcO (t:=j8 (jJ ws)) (K:=K) (asks:=asks) (waits:=waits) (over:=over) h1 h2
 refine q7.sub (R:=fun y H'=>y=.tup []/\∃H2,Ab.HSub H2 H'/\H2=[(R,uG (j8 (jJ ws)) ta ea K asks waits over)]) ?_ fun y H' ⟨h1,H2,h2,h3⟩ _=>⟨H2,h2,h1,h3⟩
 refine zov Tryz.func153 zeX fun imm0 w0=>?_
 simp (disch:=omega) [zz,yG]
 intro b nb nb2
 refine qD (R:=fun y H'=>∃v',y=.av (.slice 9) v'/\J1 (jJ ws) v' H') rowH [(R,qJ ta ea buf K asks waits over),(b,.var .str (.s arg))] ?_ rfl (by simp[qE]) (by simp) ?_ ?_
 ·refine List.perm_iff_count.2 fun a=>?_
  simp only[List.count_append,List.count_cons,List.count_nil]
  omega
 ·rw[hrer]
  simpa[TV.er,AV.er,hver]using cA ws v rowH hrow hn
 rintro y H1 ⟨v',rfl,hrow1⟩ _
 refine⟨_,HSub.refl _,?_⟩
 simp (disch:=omega) [zz]
 obtain⟨hrer1,hver1⟩:=hrow1.er
 refine qD (R:=fun y H'=>y=.tup []/\H'=[(R,uG (j8 (jJ ws)) ta ea K asks waits over)]) ((R,qJ ta ea buf K asks waits over)::H1) [(b,.var .str (.s arg))] ?_ rfl (by simp[qE]) (by simp) ?_ ?_
 ·refine List.perm_iff_count.2 fun a=>?_
  simp only[List.count_append,List.count_cons,List.count_nil]
  omega
 ·rw[q8.er_cons,hrer1,heo]
  have:=u5 R (jJ ws) v' H1 hrow1 hl (Nat.le_trans (GI _) hn) ta ea buf K asks waits over h1 h2
  simpa[TV.er,AV.er,hver1,uG]using this
 rintro y H' ⟨rfl,rfl⟩ _
 refine⟨_,HSub.refl _,?_⟩
 simp (disch:=omega) [zz,Tryz.f153,hle]
 exact HSub.of_sub (List.Sublist.cons_cons _ (List.nil_sublist _))
end
theorem zj8 (b:Nat) (arg x:Txt) (hx:x.length<=1000000000):q7 Tryz.prog 179 [.av .str (.s x),.av .ptr (.ptr b .str [])] [(b,qS arg)] fun r H'=>r=.av .bool (.b (!Lib.contains x arg))/\H'=[(b,qS arg)]:=by
 refine zov Tryz.func179 cf0 fun imm0 w0=>?_
 simp (disch:=omega) [zz,qS]
 refine zcv (pM x arg (by omega)) ?_
 simp (disch:=omega) [zz,Tryz.f179]
theorem zi3 (R:Nat) (arg:Txt) (ws:List Txt) (v:AV) (rowH:q8) (hrow:J1 ws v rowH) (hn:ws.length<=1000000000) (hx:∀x∈ws,x.length<=1000000000) (ta ea:AV) (buf:Txt) (K:Nat) (asks:Txt) (waits:Bool) (over:DoV) (h1:ta.erk=ta) (h2:ea.erk=ea)
  (hl:(j8 (ws.filter fun s=>Lib.contains s arg)).length<=1000000000) :
  q7 Tryz.prog 153 [.av .ptr (.ptr R kO []),.av .str (.s y3),.av .str (.s arg),.av (.slice 9) v] ((R,qJ ta ea buf K asks waits over)::rowH) fun r H'=>r=.tup []/\H'=[(R,uG (j8 (ws.filter fun s=>Lib.contains s arg)) ta ea K asks waits over)]:=by
 obtain⟨hrer,hver⟩:=hrow.er
 have heo:=ZM (ta:=ta) (ea:=ea) (buf:=buf) (K:=K) (asks:=asks) (waits:=waits) (over:=over) h1 h2
 have hle:=zcO (t:=j8 (ws.filter fun s=>Lib.contains s arg)) (K:=K) (asks:=asks) (waits:=waits) (over:=over) h1 h2
 have hkp:kpt (fun s=>!Lib.contains s arg) ws=ws.filter fun s=>Lib.contains s arg:=by simp[kpt]
 obtain⟨ks,hks⟩:∃ks,ks=ws.filter fun s=>Lib.contains s arg:=⟨_,rfl⟩
 have hkl:ks.length<=ws.length:=by rw[hks];exact List.length_filter_le _ _
 rw[<-hks]at hl hle hkp |-
 refine q7.sub (R:=fun y H'=>y=.tup []/\∃H2,Ab.HSub H2 H'/\H2=[(R,uG (j8 ks) ta ea K asks waits over)]) ?_ fun y H' ⟨h1,H2,h2,h3⟩ _=>⟨H2,h2,h1,h3⟩
 refine zov Tryz.func153 zeX fun imm0 w0=>?_
 simp (disch:=omega) [zz,y3]
 intro b nb nb2
 refine qD (R:=fun y H'=>∃v' H1,y=.av (.slice 9) v'/\J1 ks v' H1/\(∀b,b∈H1.keys->b∈rowH.keys)/\H'=H1++[(b,qS arg)]) (rowH++[(b,qS arg)]) [(R,qJ ta ea buf K asks waits over)] ?_ rfl (by simp[qE]) (by simp) ?_ ?_
 ·refine List.perm_iff_count.2 fun a=>?_
  simp only[List.count_append,List.count_cons,List.count_nil,qS]
  omega
 ·rw[q8.er_app,hrer]
  have hp:zbx (.fn 179 [.ptr b .str []]) b (qS arg) (fun s=>!Lib.contains s arg) ws:=⟨rfl,rfl,fun x hxm=>⟨_,rfl,by simp,by simpa[TV.er,AV.er]using zj8 b arg x (hx x hxm)⟩⟩
  have:=zi6 (fun s=>!Lib.contains s arg) _ b (qS arg) ws hp v rowH hrow (fun b' hb e=>nb2 (e▸hb)) hn
  rw[hkp]at this
  simpa[TV.er,AV.er,hver,q8.er_cons,qS,HObj.er_var,AV.erk]using this
 rintro y H0 ⟨v',H1,rfl,hrow1,_,rfl⟩ _
 refine⟨_,HSub.refl _,?_⟩
 simp (disch:=omega) [zz]
 obtain⟨hrer1,hver1⟩:=hrow1.er
 refine qD (R:=fun y H'=>y=.tup []/\H'=[(R,uG (j8 ks) ta ea K asks waits over)]) ((R,qJ ta ea buf K asks waits over)::H1) [(b,qS arg)] ?_ rfl (by simp[qE]) (by simp) ?_ ?_
 ·refine List.perm_iff_count.2 fun a=>?_
  simp only[List.count_append,List.count_cons,List.count_nil]
  omega
 ·rw[q8.er_cons,hrer1,heo]
  have:=u5 R ks v' H1 hrow1 hl (Nat.le_trans hkl hn) ta ea buf K asks waits over h1 h2
  simpa[TV.er,AV.er,hver1,uG]using this
 rintro y H' ⟨rfl,rfl⟩ _
 refine⟨_,HSub.refl _,?_⟩
 simp (disch:=omega) [zz,Tryz.f153,hle]
 exact HSub.of_sub (List.Sublist.cons_cons _ (List.nil_sublist _))
end Go.Proofs.YtdkieabmeiojjaaGreatDoor
end
