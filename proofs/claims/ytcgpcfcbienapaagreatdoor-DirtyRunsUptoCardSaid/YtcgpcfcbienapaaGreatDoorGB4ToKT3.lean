/- Does a pattern match a path? The program, as a whole. No condition beyond each theorem's own. -/
import Derived.Test.YtcgpcfcbienapaaGreatDoorK11ToGB3
import Derived.Test.YtcgpcfcbienapaaGreatDoorP18ToKBs
import Derived.Test.YtcgpcfcbienapaaGreatDoorP8ToK3
import Derived.Test.YtcgpcfcbienapaaGreatDoorKCToK10
set_option linter.unusedSimpArgs false
set_option linter.unusedVariables false
set_option linter.unusedSectionVars false
section
set_option maxRecDepth 100000
namespace Go.Proofs.YtcgpcfcbienapaaGreatDoor
open Go Go.Ab
open Classical
variable [Sel] [SelPow] [SelMax]
abbrev zs4:Cfg:=⟨fun n=>n==5||n==6||n==7||n==8,fun _=>false⟩
set_option maxHeartbeats 2000000 in
theorem zjl (p s:Txt) (hp:p.length≤900000) (hs:s.length≤900000):PC Tryz.prog 71 [.av .str (.s p),.av .str (.s s)] (.av .bool (.b (wL p s))):=by
 have hpl:=QQ 47 p
 have hsl:=QQ 47 s
 have hpe:∀x∈qT 47 p,x.length≤1000000:=fun x hx=>by have:=kU 47 p x hx;omega
 have hse:∀x∈qT 47 s,x.length≤1000000:=fun x hx=>by have:=kU 47 s x hx;omega
 refine zow Tryz.func71 zs4 fun imm0 w0=>?_
 simp (disch:=omega) [zz]
 refine zcv (zmv p (by omega)) ?_
 cases h1:PZ p
 ·simp (disch:=omega) [zz,Tryz.f71,wL,h1]
 simp (disch:=omega) [zz]
 refine zcv (DL s (by omega)) ?_
 cases h2:yV s
 ·simp (disch:=omega) [zz,Tryz.f71,wL,h1,h2]
 simp (disch:=omega) [zz]
 refine qL (UN p (by omega)) rfl rfl (by simp) (by simp[qS,coC,TV.er,AV.er]) ?_
 simp (disch:=omega) [zz]
 intro b5
 refine qL (UN s (by omega)) rfl rfl (by simp) (by simp[qS,coC,TV.er,AV.er]) ?_
 simp (disch:=omega) [zz]
 intro b6 q1 N q2 q3 b7 r1 r2 r3 b8 u1 u2 u3 u4
 have hd:=zks b5 b6 b7 b8 N (qT 47 p) (qT 47 s) (by omega) (by omega) hpe hse _ 0 0 [] (Nat.lt_succ_self _) (by omega) (by omega) (by intro x hx;cases hx)
 rw[List.drop_zero,List.drop_zero]at hd
 refine qE (R:=fun r H'=>r=.av .bool (.b (kE (qT 47 p) (qT 47 s)))∧∃m',U2 (qT 47 p) (qT 47 s) m'∧H'=yM b5 b6 b7 b8 N (qT 47 p) (qT 47 s) m') (yM b5 b6 b7 b8 N (qT 47 p) (qT 47 s) []) [] ?_ rfl (by simp[qQ]) (by simp) ?_ ?_
 ·refine List.perm_iff_count.2 fun a=>?_
  simp only[yM,zxJ,zph,zn4,KI,TsT,VM,List.map_nil,List.count_append,List.count_cons,List.count_nil]
  omega
 ·rw[XT]
  refine q7.args (by simpa using hd) (by simp[qS,coC,TV.er,AV.er,AV.ers])
 rintro r H' ⟨rfl,m',hm',rfl⟩ _
 refine⟨_,by rw[List.append_nil];exact HSub.refl _,?_⟩
 simp (disch:=omega) [zz,Tryz.f71,wL,h1,h2]
@[simp] theorem znB:qZ Tryz.prog 64=true:=by kernel_rfl
@[simp] theorem zsd:z8 Tryz.prog (.func 64)=false:=q9 znB
@[simp] theorem znC:qZ Tryz.prog 96=true:=by kernel_rfl
@[simp] theorem zrB:z8 Tryz.prog (.func 96)=false:=q9 znC
def Y0 (l:List CmdV):List AV:=l.map zK
@[simp] theorem zaV (c:CmdV):(zK c).er=zK c:=by simp[zK,AV.er,AV.ers,AV.ers_eq,strs,Function.comp_def]
@[simp] theorem zp3 (l:List CmdV):AV.ers (Y0 l)=Y0 l:=by simp[Y0,AV.ers_eq,Function.comp_def]
abbrev zf3:TyD:=.slice 147
noncomputable def bcO (l:List CmdV):HObj:=.var zf3 (.sl .no (Y0 l))
theorem zj0 (l:List CmdV):(bcO l).er=bcO l:=by simp[bcO,HObj.er_var,AV.erk]
abbrev zrS:Cfg:=⟨fun n=>n==1,fun _=>false⟩
theorem zhy (l:List CmdV):q7 Tryz.prog 64 [.av zf3 (.sl .no (Y0 l))] [] fun r H'=>∃c,r=.av .func (.fn 96 [.ptr c zf3 []])∧H'=[(c,bcO l)]:=by
 refine zov Tryz.func64 zrS fun imm0 w0=>?_
 simp (disch:=omega) [zz]
 intro c
 simp (disch:=omega) [zz,Tryz.f64,bcO,AV.ers]
set_option maxHeartbeats 4000000 in
theorem zgF {G:Nat→q8→Prop} (y c:Nat) (l:List CmdV) (hl:l.length≤1000000000) (hGe:∀k H,G k H→H.er=H)
  (hY:∀k (hk:k<l.length) H,G k H→YC Tryz.prog y [.av (.int .i64) (.i .i64 (l.length-1-k:Nat)),.av QE (zK (l[l.length-1-k]'(by omega)))] H fun r H'=>r=.av .bool (.b true)∧G (k+1) H') :
  ∀H,G 0 H→q7 Tryz.prog 96 [.av .func (.yl y),.av .ptr (.ptr c zf3 [])] ((c,bcO l)::H)
   fun r H'=>r=.tup []∧∃H1,G l.length H1∧H'=(c,bcO l)::H1:=by
 intro H hG
 have hbe:=zj0 l
 have hsl:∀x:List CmdV,(Y0 x).length=x.length:=fun x=>by simp[Y0]
 refine zov Tryz.func96 cf0 fun imm0 w0=>?_
 simp (disch:=omega) [zz,bcO,hsl]
 refine AT.loop' (α:=Nat × q8) (fun p=>St.of [(0,.av .func (.yl y)),(1,.av .ptr (.ptr c zf3 [])),(3,.av (.int .i64) (.i .i64 ((l.length:Int)-1-p.1)))] [] (fun _=>0) ((c,bcO l)::p.2))
  (fun p=>p.1≤l.length∧G p.1 p.2) (fun p=>l.length-p.1) (0,H) ?_ ?_ ?_
 ·apply Le.of<;>simp[qU,qG,bcO]<;>try omega
 ·exact⟨by omega,hG⟩
 rintro⟨k,H1⟩ ⟨hk,hG1⟩ KL hN hE
 simp only at hk hG1 hN
 refine qM (cf:=cf0) laid mixed _ _ _ (by kernel_rfl) ?_
 by_cases hlt:k<l.length
 ·obtain⟨i,hi⟩:∃i:Nat,i=l.length-1-k:=⟨_,rfl⟩
  have hii:(l.length:Int)-1-k=i:=by omega
  have hil:i<l.length:=by omega
  have hgi:(Y0 l)[i]?=some (zK l[i]):=by simp[Y0,List.getElem?_eq_getElem hil]
  rw[hii]
  have hge:(0:Int)≤i:=by omega
  simp (disch:=omega) [zz,hge,bcO,hgi,hsl,hil]
  refine JY (R:=fun r H'=>r=.av .bool (.b true)∧G (k+1) H') H1 [(c,bcO l)] (List.perm_append_comm (l₁:=[_])) (by simp[qQ]) ?_ ?_
  ·rw[hGe _ _ hG1]
   have:=hY k hlt _ hG1
   simpa[TV.er,←hi]using this
  rintro r H2 ⟨rfl,hG2⟩ _
  refine⟨(c,bcO l)::H2,HSub.of_perm (List.perm_append_comm (l₂:=[_])),?_⟩
  simp (disch:=omega) [zz]
  refine hN _ (k+1,H2) ?_ ⟨by omega,hG2⟩ (by simp only;omega)
  apply Le.of<;>simp[qU,qG,bcO]<;>try omega
 ·have hge:(l.length:Int)-1-k=-1:=by omega
  rw[hge]
  simp (disch:=omega) [zz]
  refine hE _ _ (by simp) ?_
  have hkl:k=l.length:=by omega
  subst hkl
  have hH:=hGe _ _ hG1
  simp (disch:=omega) [zz,Tryz.f96,hH,hbe]
  exact⟨hG1,by first|rfl|simp[bcO]⟩
end Go.Proofs.YtcgpcfcbienapaaGreatDoor
end
section
set_option maxRecDepth 100000
namespace Go.Proofs.YtcgpcfcbienapaaGreatDoor
open Go Go.Ab
open Classical
variable [Sel]
theorem W3 {l x:List UInt8} (h:x∈z7 l):x.length≤l.length:=by
 unfold z7 at h
 split at h
 ·cases h
 ·have h1:=kU 10 (K8 l [10]) x h
  have h2:=XY l [10]
  omega
end Go.Proofs.YtcgpcfcbienapaaGreatDoor
end
section
set_option maxRecDepth 100000
namespace Go.Proofs.YtcgpcfcbienapaaGreatDoor
open Go Go.Ab
open Classical
variable [Sel] [SelPow] [SelMax]
@[simp] theorem zwV:qZ Tryz.prog 36=true:=by kernel_rfl
@[simp] theorem zxu:z8 Tryz.prog (.func 36)=false:=q9 zwV
noncomputable def zbA (t:Txt):TV:=match j7 t with
 | .ok l=>.tup [(.slice 147,.sl .no (Y0 l)),(.int .i64,.i .i64 0),(.int .i64,.i .i64 0)]
 | .error (e,n)=>.tup [(.slice 147,.sl .no []),(.int .i64,.i .i64 e),(.int .i64,.i .i64 n)]
def tkC (n:Nat):Tok:=if n=0 then .full else .own 44 n
theorem gH:∀(ls:List Txt) (i:Nat) (l:List CmdV),yC i ls=.ok l→l.length≤ls.length
 | [],i,l,h=>by cases h;simp
 | s::r,i,l,h=>by
  unfold yC at h
  split at h
  ·cases h
  ·have:=gH r _ _ h;simp;omega
  ·split at h
   ·rename_i l' hl'
    cases h
    have:=gH r _ _ hl';simp;omega
   ·cases h
theorem zED (a b:List CmdV):Y0 (a++b)=Y0 a++Y0 b:=by simp[Y0]
@[simp] theorem zpm (a:List CmdV):(Y0 a).length=a.length:=by simp[Y0]
@[simp] theorem zoR (l:List CmdV):AV.erks (Y0 l)=Y0 l:=by
 rw[AV.erks_eq]
 simp only[Y0,List.map_map]
 exact List.map_congr_left fun c _=>kH _ (zaV c)
def CmI (ls:List Txt) (k:Nat) (acc:List CmdV):Prop:=k≤ls.length∧acc.length≤k∧yC 0 ls=match yC k (ls.drop k)with
 | .ok l=>.ok (acc++l)
 | .error e=>.error e
theorem CmI.start (ls:List Txt):CmI ls 0 []:=⟨by omega,by simp,by rw[List.drop_zero];cases yC 0 ls<;>rfl⟩
theorem CmI.pass {ls:List Txt} {k:Nat} {acc:List CmdV} (h:CmI ls k acc) (hk:k<ls.length) (hr:Z0 ls[k]=some none):CmI ls (k+1) acc:=by
 obtain⟨_,h1,h2⟩:=h
 refine⟨by omega,by omega,?_⟩
 rw[h2,List.drop_eq_getElem_cons hk,yC,hr]
theorem CmI.more {ls:List Txt} {k:Nat} {acc:List CmdV} (h:CmI ls k acc) (hk:k<ls.length) {c:CmdV} (hr:Z0 ls[k]=some (some c)):CmI ls (k+1) (acc++[c]):=by
 obtain⟨_,h1,h2⟩:=h
 refine⟨by omega,by simp;omega,?_⟩
 rw[h2,List.drop_eq_getElem_cons hk,yC,hr]
 simp only
 cases yC (k+1) (ls.drop (k+1))<;>simp
theorem CmI.bad {ls:List Txt} {k:Nat} {acc:List CmdV} (h:CmI ls k acc) (hk:k<ls.length) (hr:Z0 ls[k]=none):yC 0 ls=.error (k+1):=by
 obtain⟨_,h1,h2⟩:=h
 rw[h2,List.drop_eq_getElem_cons hk,yC,hr]
theorem CmI.end_ {ls:List Txt} {acc:List CmdV} (h:CmI ls ls.length acc):yC 0 ls=.ok acc:=by
 obtain⟨_,h1,h2⟩:=h
 rw[h2,List.drop_length,yC]
 simp
abbrev zpC:Cfg:=⟨fun _=>false,fun n=>n==44⟩
set_option maxHeartbeats 8000000 in
theorem zcp (t:Txt) (hl:t.length≤1000000):PC Tryz.prog 63 [.av .str (.s t)] (zbA t):=by
 have hpc:=PG t hl
 have hll:=ZE t
 have heach:∀x∈z7 t,x.length≤1000000:=fun x hx=>by have:=W3 hx;omega
 obtain⟨V,hV⟩:∃V,V=zbA t:=⟨_,rfl⟩
 rw[←hV]
 unfold zbA j7 at hV
 obtain⟨ls,hls⟩:∃ls,ls=z7 t:=⟨_,rfl⟩
 rw[←hls]at hpc hll heach hV
 refine zow Tryz.func63 zpC fun imm0 w0=>?_
 simp (disch:=omega) [zz]
 refine zcv hpc ?_
 by_cases hbig:65536<t.length
 ·have hbig':(65536:Int)<t.length:=by omega
  rw[if_pos (.inl hbig)]at hV
  simp (disch:=omega) [zz,hbig',Tryz.f63,hV]
 have hbig':¬(65536:Int)<t.length:=by omega
 by_cases hmany:400<ls.length
 ·have hmany':(400:Int)<ls.length:=by omega
  rw[if_pos (.inr hmany)]at hV
  simp (disch:=omega) [zz,hbig',hmany',strs,Tryz.f63,hV]
 have hmany':¬(400:Int)<ls.length:=by omega
 rw[if_neg (by omega)]at hV
 simp (disch:=omega) [zz,hbig',hmany',strs]
 refine AT.loop' (α:=Nat × List CmdV) (fun x=>St.of [(6,.av (.slice 147) (.sl (tkC x.2.length) (Y0 x.2))),(21,.av (.slice 9) (.sl .no (strs ls))),(22,.av (.int .i64) (.i .i64 ls.length)),(23,.av (.int .i64) (.i .i64 x.1))] [] (fun j=>if j=44 then x.2.length else 0) [])
  (fun x=>CmI ls x.1 x.2) (fun x=>ls.length-x.1) (0,[]) ?_ ?_ ?_
 ·apply Le.of<;>simp[qU,qG,tkC,Y0,strs]<;>try omega
 ·exact CmI.start ls
 rintro⟨k,acc⟩ hI KL hN hE
 simp only at hI hN
 obtain⟨hk,hak,_⟩:=id hI
 refine qM (cf:=zpC) laid mixed _ _ _ (by kernel_rfl) ?_
 by_cases hlt:k<ls.length
 ·have hlt':(k:Int)<ls.length:=by omega
  have hg:(strs ls)[k]?=some (.s ls[k]):=by simp[strs,List.getElem?_eq_getElem hlt]
  have hxl:=heach _ (List.getElem_mem hlt)
  obtain⟨x,hx⟩:∃x,x=ls[k]:=⟨_,rfl⟩
  have hpass:=hI.pass hlt
  have hmore:=fun c=>hI.more hlt (c:=c)
  have hbad:=hI.bad hlt
  rw[←hx]at hg hxl hpass hmore hbad
  simp (disch:=omega) [zz,hlt',hg]
  refine qE (R:=Y3 (Z0 x)) [] [] (by simp) rfl (by simp[qQ]) (by simp) ?_ ?_
  ·simpa[TV.er,AV.er]using zhN x hxl
  intro r H' hR hnd
  cases hrc:Z0 x with
  | none =>
   rw[hrc]at hR
   obtain⟨rfl,rfl⟩:=hR
   rw[hbad hrc]at hV
   refine⟨[],HSub.refl _,?_⟩
   simp (disch:=omega) [zz]
   refine hE _ _ (by simp) ?_
   simp (disch:=omega) [zz,Tryz.f63,hV]
  | some oc =>
   cases oc with
   | none =>
    rw[hrc]at hR
    obtain⟨rfl,rfl⟩:=hR
    refine⟨[],HSub.refl _,?_⟩
    simp (disch:=omega) [zz]
    refine hN _ (k+1,acc) ?_ (hpass hrc) (by simp only;omega)
    apply Le.of<;>simp[qU,qG,zX]<;>try omega
   | some c =>
    rw[hrc]at hR
    obtain⟨b,rfl,rfl⟩:=hR
    refine⟨_,HSub.refl _,?_⟩
    have hby:Tryz.prog.bytesOf 147=40:=by kernel_rfl
    by_cases ha:acc.length=0
    ·simp (disch:=omega) [zz,kJ,tkC,ha]
     simp (disch:=omega) [zz,wB,hby]
     (repeat with_reducible refine om ?_)
     refine hN _ (k+1,acc++[c]) ?_ (hmore c hrc) (by simp only;omega)
     refine Le.ofP ?_ ?_ ?_ ?_ (HSub.of_sub (List.nil_sublist _))<;>simp[qU,qG,tkC,ha,zED]
     all_goals first|(left;rfl)|(intro j;by_cases hj:j=44<;>simp[hj])
    ·simp (disch:=omega) [zz,kJ,tkC,ha]
     simp (disch:=omega) [zz,wB,hby]
     (repeat with_reducible refine om ?_)
     refine hN _ (k+1,acc++[c]) ?_ (hmore c hrc) (by simp only;omega)
     refine Le.ofP ?_ ?_ ?_ ?_ (HSub.of_sub (List.nil_sublist _))<;>simp[qU,qG,tkC,ha,zED]
     all_goals first|(left;rfl)|(intro j;by_cases hj:j=44<;>simp[hj])
 have hkl:k=ls.length:=by omega
 subst hkl
 have hend:=hI.end_
 rw[hend]at hV
 simp (disch:=omega) [zz]
 refine hE _ _ (by simp) ?_
 simp (disch:=omega) [zz,Tryz.f63,hV]
def kpt (g:Txt→Bool) (ts:List Txt):List Txt:=ts.filter fun x=>!g x
theorem zgf {g:Txt→Bool} {ts:List Txt} (h:∀x∈ts,g x=false):kpt g ts=ts:=by
 unfold kpt
 rw[List.filter_eq_self]
 intro x hx;simp[h x hx]
theorem UD {g:Txt→Bool} {ts:List Txt} {k:Nat} (h:k<ts.length):kpt g (ts.take (k+1))=if g ts[k]=true then kpt g (ts.take k) else kpt g (ts.take k)++[ts[k]]:=by
 unfold kpt
 rw[List.take_succ_eq_append_getElem h,List.filter_append]
 by_cases hs:g ts[k]=true<;>simp[hs]
set_option maxHeartbeats 8000000 in
theorem zhO (g:Txt→Bool) (f:AV) (bt:Nat) (o:HObj) (ts:List Txt) (hf:zaJ f bt o g ts) (b cap:Nat) (j:List AV) (hj:JK j) (hb:b≠bt) (hcap:ts.length+j.length=cap) (hn:ts.length≤1000000000) :
  q7 Tryz.prog 140 [.av (.slice 9) (.msl b 9 0 ts.length cap),.av .func f] [(b,wY cap ts j),(bt,o)]
   fun r H'=>∃j',JK j'∧(kpt g ts).length+j'.length=cap∧r=.av (.slice 9) (.msl b 9 0 (kpt g ts).length cap)∧H'=[(b,wY cap (kpt g ts) j'),(bt,o)]:=by
 have hb':¬bt=b:=fun e=>hb e.symm
 obtain⟨ho,hfe,hff⟩:=id hf
 have hre:=KE (cap:=cap) (ts:=ts) hj
 refine zov Tryz.func140 cf0 fun imm0 w0=>?_
 simp (disch:=omega) [zz]
 refine jP (R:=fun r' H'=>r'=.av (.int .i64) (.i .i64 (J7 g ts))∧H'=[(b,wY cap ts j),(bt,o)]) rfl (by simp[qQ]) (by simp) ?_ ?_
 ·have:=zdl g f bt o ts hf b cap j hj hb hcap hn
  rw[show q8.er [(b,wY cap ts j),(bt,o)]=[(b,wY cap ts j),(bt,o)] by rw[q8.er_cons,q8.er_cons,ho,hre];rfl]
  simpa[TV.er,AV.er,hfe]using this
 rintro r' H' ⟨rfl,rfl⟩
 rcases YV g ts with⟨he,hall⟩|⟨i,hi,he,hsame,hpre⟩
 ·simp (disch:=omega) [zz,he,Tryz.f140,hre,ho,zgf hall]
  exact⟨j,hj,hcap,rfl⟩
 ·have hk0:kpt g (ts.take i)=ts.take i:=zgf hpre
  have hk1:kpt g (ts.take (i+1))=ts.take i:=by rw[UD hi,if_pos hsame,hk0]
  have hne:¬(i:Int)=-1:=by omega
  have hsplit:strs ts++j=strs (ts.take i)++(.s ts[i]::([]++(strs (ts.drop (i+1))++j))):=by
   have:ts=ts.take i++ts[i]::ts.drop (i+1):=by simp
   conv=>lhs;rw[this]
   simp only[strs,List.map_append,List.map_cons,List.nil_append,List.append_assoc,List.cons_append]
  simp (disch:=omega) [zz,he,hne]
  refine AT.loop' (α:=Nat × AV × List AV) (fun p=>St.of [(0,.av (.slice 9) (.msl b 9 0 ts.length cap)),(1,.av .func f),(5,.av (.int .i64) (.i .i64 (kpt g (ts.take p.1)).length)),(6,.av (.int .i64) (.i .i64 p.1))] [] (fun _=>0)
    [(b,.var (.arr cap 9) (.agg (strs (kpt g (ts.take p.1))++(p.2.1::(p.2.2++(strs (ts.drop p.1)++j)))))),(bt,o)])
   (fun p=>p.1≤ts.length∧JK (p.2.1::p.2.2)∧(kpt g (ts.take p.1)).length+(p.2.2.length+1)=p.1) (fun p=>ts.length-p.1) (i+1,.s ts[i],[]) ?_ ?_ ?_
  ·have hli:(ts.take i).length=i:=by rw[List.length_take];omega
   apply Le.of<;>simp[qU,qG,hk1,hsplit,wY,hli]<;>try omega
  ·refine⟨by simp only;omega,by simp[JK,AV.erks_eq,AV.erk],?_⟩
   simp only[hk1,List.length_take,List.length_nil];omega
  rintro⟨k,m,mid⟩ ⟨hk,hjm,hlen⟩ KL hN hE
  simp only at hk hjm hlen
  obtain⟨F,hF⟩:∃F,F=kpt g (ts.take k):=⟨_,rfl⟩
  rw[←hF]at hlen
  have hnx:=fun h:k<ts.length=>UD (g:=g) h
  simp only[←hF]at hnx ⊢
  refine qM (cf:=cf0) laid mixed _ _ _ (by kernel_rfl) ?_
  by_cases hlt:k<ts.length
  ·have hlt':(k:Int)<ts.length:=by omega
   have hnx:=hnx hlt
   have hd:strs (ts.drop k)=.s ts[k]::strs (ts.drop (k+1)):=by
    rw[List.drop_eq_getElem_cons hlt];rfl
   have hg:(strs F++(m::(mid++(strs (ts.drop k)++j))))[k]?=some (.s ts[k]):=by
    rw[hd,List.getElem?_append_right (by rw[qX];omega)]
    have:k-(strs F).length=mid.length+1:=by rw[qX];omega
    rw[this,List.getElem?_cons_succ,List.getElem?_append_right (Nat.le_refl _)]
    simp
   have hgi:(strs F++(m::(mid++(strs (ts.drop k)++j))))[F.length]?=some m:=by
    rw[List.getElem?_append_right (by rw[qX];exact Nat.le_refl _)];simp[qX]
   have hst:=zgc (strs F) (mid++(strs (ts.drop k)++j)) m (.s ts[k])
   rw[qX]at hst
   have hmem:=List.getElem_mem hlt
   obtain⟨x,hx⟩:∃x,x=ts[k]:=⟨_,rfl⟩
   rw[←hx]at hg hst hd hnx hmem
   have hfx:=hff x hmem
   simp (disch:=omega) [zz,hlt',hlt,hg]
   (repeat with_reducible refine om ?_)
   refine ZG (R:=fun r' H'=>r'=.av .bool (.b (g x))∧H'=[(bt,o)]) [(bt,o)] _ (List.Perm.swap _ _ _) (by simp[q8.er_cons,ho]) (by simp[qQ]) hfx ?_
   rintro r' H' ⟨rfl,rfl⟩ _
   refine⟨_,HSub.of_perm (List.Perm.swap _ _ _),?_⟩
   by_cases hp:g x=true
   ·rw[if_pos hp]at hnx
    simp (disch:=omega) [zz,hp]
    refine hN _ (k+1,m,mid++[.s x]) ?_ ⟨by simp only;omega,?_,?_⟩ (by simp only;omega)
    ·apply Le.of<;>simp[qU,qG,hnx,hd]<;>try omega
    ·simp only;rw[←List.cons_append];exact hjm.app (by simp[JK,AV.erks_eq,AV.erk])
    ·simp only[hnx,List.length_append,List.length_cons,List.length_nil];omega
   ·rw[if_neg hp]at hnx
    simp (disch:=omega) [zz,hp,hgi,hst]
    (repeat with_reducible refine om ?_)
    obtain⟨m',mid',hmm⟩:∃m' mid',mid++[.s x]=m'::mid':=by cases mid with
     | nil=>exact⟨_,_,rfl⟩
     | cons a r=>exact⟨_,_,rfl⟩
    have hmm':mid++(.s x::(strs (ts.drop (k+1))++j))=m'::(mid'++(strs (ts.drop (k+1))++j)):=by
     have:=congrArg (·++(strs (ts.drop (k+1))++j)) hmm
     simpa using this
    have hml:mid'.length=mid.length:=by
     have:=congrArg List.length hmm
     simpa using this.symm
    have hjm':JK (m'::mid'):=by
     rw[←hmm]
     have h1:=hjm.drop 1
     exact JK.app (by simpa using h1) (by simp[JK,AV.erks_eq,AV.erk])
    have heq:strs F++(.s x::(mid++(strs (ts.drop k)++j)))=strs (F++[x])++(m'::(mid'++(strs (ts.drop (k+1))++j))):=by
     rw[hd,List.cons_append,hmm',Z6,List.append_assoc];rfl
    refine hN _ (k+1,m',mid') ?_ ⟨by simp only;omega,hjm',?_⟩ (by simp only;omega)
    ·apply Le.of<;>simp[qU,qG,hnx,heq]<;>try omega
    ·simp only[hnx,List.length_append,List.length_cons,List.length_nil];omega
  ·have hlt':¬(k:Int)<ts.length:=by omega
   have hkn:k=ts.length:=by omega
   have hFt:F=kpt g ts:=by rw[hF,hkn,List.take_length]
   subst hkn
   have hcf:¬cap=F.length:=by omega
   have hdr:ts.drop ts.length=[]:=by simp
   have h1:F.length≤ts.length:=by omega
   have h2:ts.length≤cap:=by omega
   have hclr:(strs F++(m::(mid++(strs []++j)))).take F.length++(List.replicate (ts.length-F.length) (.s [])++(strs F++(m::(mid++(strs []++j)))).drop ts.length)=strs F++(List.replicate (ts.length-F.length) (.s [])++j):=by
    have e1:(strs F++(m::(mid++(strs []++j)))).take F.length=strs F:=by
     rw[List.take_append_of_le_length (by rw[qX];exact Nat.le_refl _)];exact List.take_of_length_le (by rw[qX];exact Nat.le_refl _)
    have e2:(strs F++(m::(mid++(strs []++j)))).drop ts.length=j:=by
     have e3:ts.length=(strs F).length+(mid.length+1):=by rw[qX];omega
     rw[e3,List.drop_append]
     have:(strs F).length+(mid.length+1)-(strs F).length=mid.length+1:=by omega
     rw[this,List.drop_of_length_le (by omega),List.drop_succ_cons]
     simp[strs]
    rw[e1,e2]
   have hz:JK (List.replicate (ts.length-F.length) (.s [])):=JK.rep rfl _
   have hlr:(List.replicate (ts.length-F.length) (AV.s [])).length=ts.length-F.length:=List.length_replicate
   have her:=(JK.app (JK.strs F) (hz.app hj))
   unfold JK at her
   simp (disch:=omega) [zz,hlt',hdr,hcf]
   refine hE _ _ (by simp) ?_
   simp (disch:=omega) [zz,hcf,hclr,hdr]
   (repeat with_reducible refine om ?_)
   simp (disch:=omega) [zz,Tryz.f140,hclr,her,ho]
   exact⟨List.replicate (ts.length-F.length) (.s [])++j,hz.app hj,by rw[List.length_append,hlr,←hFt];omega,by rw[hFt],by rw[←hFt];rfl⟩
theorem zgy (g:Txt→Bool) (f:AV) (bt:Nat) (o:HObj) (ts:List Txt) (hf:zaJ f bt o g ts) (v:AV) (H:q8) (hrow:KF ts v H) (hb:∀b∈H.keys,b≠bt) (hn:ts.length≤1000000000) :
  q7 Tryz.prog 140 [.av (.slice 9) v,.av .func f] (H++[(bt,o)]) fun r H'=>∃v' H1,r=.av (.slice 9) v'∧KF (kpt g ts) v' H1∧(∀b,b∈H1.keys→b∈H.keys)∧H'=H1++[(bt,o)]:=by
 have ho:=hf.1
 have hfe:=hf.2.1
 rcases hrow with⟨rfl,rfl,rfl⟩|⟨b,cap,j,hj,rfl,hc,rfl⟩
 ·refine zov Tryz.func140 cf0 fun imm0 w0=>?_
  simp (disch:=omega) [zz]
  refine jP (R:=fun r' H'=>r'=.av (.int .i64) (.i .i64 (-1))∧H'=[(bt,o)]) rfl (by simp[qQ]) (by simp) ?_ ?_
  ·have:=zb2 f bt o ho
   simpa[TV.er,AV.er,q8.er_cons,ho,hfe]using this
  rintro r' H' ⟨rfl,rfl⟩
  simp (disch:=omega) [zz,Tryz.f140,ho]
  exact .inl ⟨rfl,rfl,rfl⟩
 ·have hbb:b≠bt:=hb b (by simp[q8.keys])
  refine q7.sub (zhO g f bt o ts hf b cap j hj hbb hc hn) ?_
  rintro r H' ⟨j',h1,h2,rfl,rfl⟩ _
  exact⟨_,HSub.refl _,_,[(b,wY cap (kpt g ts) j')],rfl,.inr ⟨b,cap,j',h1,rfl,h2,rfl⟩,by simp[q8.keys],rfl⟩
@[simp] theorem zlG:qZ Tryz.prog 118=true:=by kernel_rfl
@[simp] theorem zqW:z8 Tryz.prog (.func 118)=false:=q9 zlG
theorem UT:∀(l:List Txt) (y x:Txt),kF (l++[y,x])=if y=x then kF (l++[y]) else kF (l++[y])++[x]
 | [],y,x=>by
  by_cases h:y=x<;>simp[kF,h]
 | [a],y,x=>by
  have ih:=UT [] y x
  simp only[List.nil_append,List.cons_append,kF]at ih ⊢
  by_cases h:y=x
  ·subst h;by_cases h2:a=y<;>simp[h2]
  ·by_cases h2:a=y<;>simp[h,h2]
 | a::b::l,y,x=>by
  have ih:=UT (b::l) y x
  simp only[List.cons_append,kF]at ih ⊢
  rw[ih]
  by_cases h:y=x
  ·simp[h]
  ·by_cases h2:a=b<;>simp[h,h2]
theorem dB (ts:List Txt) (k:Nat) (h:k+1<ts.length):kF (ts.take (k+2))=if ts[k]=ts[k+1] then kF (ts.take (k+1)) else kF (ts.take (k+1))++[ts[k+1]]:=by
 have h0:k<ts.length:=by omega
 have e1:ts.take (k+2)=ts.take k++[ts[k],ts[k+1]]:=by
  rw[show k+2=(k+1)+1 from rfl,List.take_succ_eq_append_getElem h,List.take_succ_eq_append_getElem h0,List.append_assoc];rfl
 have e2:ts.take (k+1)=ts.take k++[ts[k]]:=List.take_succ_eq_append_getElem h0
 rw[e1,e2,UT]
theorem zaW:∀l:List Txt,(kF l).length≤l.length
 | []=>by simp[kF]
 | [x]=>by simp[kF]
 | x::y::r=>by
  have:=zaW (y::r)
  simp only[kF]
  split<;>simp only[List.length_cons]at this ⊢<;>omega
theorem zgH (ts:List Txt):kF (ts.take 1)=ts.take 1:=by
 cases ts<;>simp[kF]
set_option maxHeartbeats 16000000 in
theorem zet (ts:List Txt) (b cap:Nat) (j:List AV) (hj:JK j) (hcap:ts.length+j.length=cap) (hn:ts.length≤1000000000) :
  q7 Tryz.prog 118 [.av (.slice 9) (.msl b 9 0 ts.length cap)] [(b,wY cap ts j)]
   fun r H'=>∃j',JK j'∧(kF ts).length+j'.length=cap∧r=.av (.slice 9) (.msl b 9 0 (kF ts).length cap)∧H'=[(b,wY cap (kF ts) j')]:=by
 have hre:=KE (cap:=cap) (ts:=ts) hj
 refine zov Tryz.func118 cf0 fun imm0 w0=>?_
 by_cases h2:ts.length<2
 ·have h2':(ts.length:Int)<2:=by omega
  have hc:kF ts=ts:=by
   match ts,h2 with
   | [],_=>rfl
   | [x],_=>rfl
  simp (disch:=omega) [zz,h2',Tryz.f118,hre,hc]
  exact⟨j,hj,hcap,rfl⟩
 have h2':¬(ts.length:Int)<2:=by omega
 simp (disch:=omega) [zz,h2']
 refine AT.loop' (α:=Nat) (fun i=>St.of [(0,.av (.slice 9) (.msl b 9 0 ts.length cap)),(3,.av (.int .i64) (.i .i64 ((i:Int)+1)))] [] (fun _=>0) [(b,wY cap ts j)])
  (fun i=>i+1≤ts.length∧kF (ts.take (i+1))=ts.take (i+1)) (fun i=>ts.length-i) 0 ?_ ?_ ?_
 ·apply Le.of<;>simp[qU,qG,zX]<;>try omega
 ·exact⟨by omega,zgH ts⟩
 rintro i ⟨hi,hci⟩ KL hN hE
 refine qM (cf:=cf0) laid mixed _ _ _ (by kernel_rfl) ?_
 by_cases hlt:i+1<ts.length
 rotate_left
 ·have hlt':¬(i:Int)+1<ts.length:=by omega
  have hil:i+1=ts.length:=by omega
  rw[hil,List.take_length]at hci
  simp (disch:=omega) [zz,hlt']
  refine hE _ _ (by simp) ?_
  simp (disch:=omega) [zz,Tryz.f118,hre,hci]
  exact⟨j,hj,hcap,rfl⟩
 have hlt':(i:Int)+1<ts.length:=by omega
 have hg1:=YT ts j (i+1) hlt
 have hg0:=YT ts j i (by omega)
 have hct:=dB ts i hlt
 simp (disch:=omega) [zz,hlt',wY,hg1,hg0]
 refine⟨by omega,by omega,fun heq=>?_,fun hne=>?_⟩
 rotate_left
 ·refine hN _ (i+1) ?_ ⟨by omega,?_⟩ (by omega)
  ·apply Le.of<;>simp[qU,qG,zX,wY]<;>try omega
  ·have hne':¬ts[i]=ts[i+1]:=fun e=>hne e.symm
   rw[show i+1+1=i+2 from rfl,hct,if_neg hne',hci]
   exact(List.take_succ_eq_append_getElem hlt).symm
 rw[if_pos heq.symm,hci]at hct
 obtain⟨L,hL⟩:∃L,i+1+L=ts.length:=⟨ts.length-(i+1),by omega⟩
 obtain⟨C,hC⟩:∃C,i+1+C=cap:=⟨cap-(i+1),by omega⟩
 have eL:ts.length-(i+1)=L:=by omega
 have eC:cap-(i+1)=C:=by omega
 have hcc:¬cap=i+1:=by omega
 refine⟨by omega,by omega,by omega,?_⟩
 refine AT.loop' (α:=Nat × List AV) (fun p=>St.of [(0,.av (.slice 9) (.msl b 9 0 ts.length cap)),(3,.av (.int .i64) (.i .i64 (kF (ts.take (i+p.1+2))).length)),(4,.av (.slice 9) (.msl b 9 (i+1) L C)),(5,.av (.int .i64) (.i .i64 ((p.1:Int)+1)))] [] (fun _=>0)
   [(b,.var (.arr cap 9) (.agg (strs (kF (ts.take (i+p.1+2)))++(p.2++(strs (ts.drop (i+1+p.1))++j)))))])
  (fun p=>p.1+1≤L∧JK p.2∧(kF (ts.take (i+p.1+2))).length+p.2.length=i+1+p.1) (fun p=>L-p.1) (0,[]) ?_ ?_ ?_
 ·have hcl:(ts.take (i+1)).length=i+1:=by rw[List.length_take];omega
  have hsp:strs ts++j=strs (ts.take (i+1))++([]++(strs (ts.drop (i+1))++j)):=by
   conv=>lhs;rw[←List.take_append_drop (i+1) ts]
   simp only[strs,List.map_append,List.nil_append,List.append_assoc]
  have hmin:min (i+1) ts.length=i+1:=by omega
  apply Le.of<;>simp[qU,qG,hct,hcl,hmin,eL,eC,hsp,hcc]
 ·refine⟨by omega,JK.nil,?_⟩
  simp only[Nat.add_zero,hct,List.length_take,List.length_nil]
  omega
 rintro⟨q,mid⟩ ⟨hq,hjm,hlen⟩ KL2 hN2 hE2
 simp only at hq hjm hlen
 obtain⟨F,hF⟩:∃F,F=kF (ts.take (i+q+2)):=⟨_,rfl⟩
 rw[←hF]at hlen
 have hnx:=fun h:i+q+1+1<ts.length=>dB ts (i+q+1) h
 simp only[show i+q+1+1=i+q+2 from rfl,←hF]at hnx ⊢
 refine qM (cf:=cf0) laid mixed _ _ _ (by kernel_rfl) ?_
 by_cases hq2:q+1<L
 ·have hq2':(q:Int)+1<L:=by omega
  have hnx:=hnx (by omega)
  have hk:i+1+q<ts.length:=by omega
  have hk2:i+q+2<ts.length:=by omega
  obtain⟨y,hy⟩:∃y,y=ts[i+1+q]:=⟨_,rfl⟩
  obtain⟨x,hx⟩:∃x,x=ts[i+q+2]:=⟨_,rfl⟩
  have hd:strs (ts.drop (i+1+q))=.s y::strs (ts.drop (i+1+(q+1))):=by
   rw[List.drop_eq_getElem_cons hk,hy];rfl
  have hd2:(strs (ts.drop (i+1+(q+1)))++j)[0]?=some (.s x):=by
   have e:i+1+(q+1)=i+q+2:=by omega
   rw[e,List.drop_eq_getElem_cons hk2,hx];rfl
  have hy2:ts[i+q+1]=y:=by rw[hy];congr 1;omega
  rw[hy2,←hx]at hnx
  have hgy:(strs F++(mid++(strs (ts.drop (i+1+q))++j)))[i+1+q]?=some (.s y):=by
   rw[hd,List.getElem?_append_right (by rw[qX];omega),qX,List.getElem?_append_right (by omega)]
   have:i+1+q-F.length-mid.length=0:=by omega
   rw[this];rfl
  have hgx:(strs F++(mid++(strs (ts.drop (i+1+q))++j)))[i+1+(q+1)]?=some (.s x):=by
   rw[hd,List.getElem?_append_right (by rw[qX];omega),qX,List.getElem?_append_right (by omega)]
   have:i+1+(q+1)-F.length-mid.length=0+1:=by omega
   rw[this,List.cons_append,List.getElem?_cons_succ];exact hd2
  obtain⟨m',mid',hmm⟩:∃m' mid',mid++[.s y]=m'::mid':=by cases mid with
   | nil=>exact⟨_,_,rfl⟩
   | cons a r=>exact⟨_,_,rfl⟩
  have hmm':mid++(strs (ts.drop (i+1+q))++j)=m'::(mid'++(strs (ts.drop (i+1+(q+1)))++j)):=by
   rw[hd]
   have:=congrArg (·++(strs (ts.drop (i+1+(q+1)))++j)) hmm
   simpa using this
  have hml:mid'.length=mid.length:=by
   have:=congrArg List.length hmm
   simpa using this.symm
  have hjm0:JK (mid++[.s y]):=hjm.app (by simp[JK,AV.erks_eq,AV.erk])
  have hst:=zgc (strs F) (mid'++(strs (ts.drop (i+1+(q+1)))++j)) m' (.s x)
  rw[qX,←hmm']at hst
  have hgF:(strs F++(mid++(strs (ts.drop (i+1+q))++j)))[F.length]?=some m':=by
   rw[hmm',List.getElem?_append_right (by rw[qX];exact Nat.le_refl _)];simp[qX]
  have hFn:F.length<ts.length:=by omega
  simp (disch:=omega) [zz,hq2',hgx,hgy,hst,hgF,hFn]
  have hnx':kF (ts.take (i+(q+1)+2))=if y=x then F else F++[x]:=by
   rw[show i+(q+1)+2=i+q+1+2 by omega];exact hnx
  refine⟨by omega,by omega,fun hxy=>?_,fun hxy=>?_⟩
  ·rw[if_pos hxy.symm]at hnx'
   refine hN2 _ (q+1,mid++[.s y]) ?_ ⟨by simp only;omega,hjm0,?_⟩ (by simp only;omega)
   ·apply Le.of<;>simp[qU,qG,hnx',hd]
   ·simp only[hnx',List.length_append,List.length_cons,List.length_nil];omega
  ·have hyx:¬y=x:=fun e=>hxy e.symm
   rw[if_neg hyx]at hnx'
   have hjm':JK mid':=by
    have:=hjm0
    rw[hmm]at this
    exact this.drop 1
   refine⟨by omega,?_⟩
   refine hN2 _ (q+1,mid') ?_ ⟨by simp only;omega,hjm',?_⟩ (by simp only;omega)
   ·have heq2:strs F++(AV.s x::(mid'++(strs (ts.drop (i+1+(q+1)))++j)))=strs (F++[x])++(mid'++(strs (ts.drop (i+1+(q+1)))++j)):=by rw[Z6,List.append_assoc];rfl
    apply Le.of<;>simp[qU,qG,hnx',heq2]
   ·simp only[hnx',List.length_append,List.length_cons,List.length_nil];omega
 ·have hq2':¬(q:Int)+1<L:=by omega
  have hFt:F=kF ts:=by
   rw[hF,List.take_of_length_le (by omega)]
  simp (disch:=omega) [zz,hq2']
  refine hE2 _ _ (by simp) ?_
  have hz:JK (List.replicate (ts.length-F.length) (.s [])):=JK.rep rfl _
  have hlr:(List.replicate (ts.length-F.length) (AV.s [])).length=ts.length-F.length:=List.length_replicate
  have h1:F.length≤ts.length:=by omega
  have hcf:¬cap=F.length:=by omega
  have hclr:(strs F++(mid++(strs (ts.drop (i+1+q))++j))).take F.length++(List.replicate (ts.length-F.length) (.s [])++(strs F++(mid++(strs (ts.drop (i+1+q))++j))).drop ts.length)=strs F++(List.replicate (ts.length-F.length) (.s [])++j):=by
   have e1:(strs F++(mid++(strs (ts.drop (i+1+q))++j))).take F.length=strs F:=by
    rw[List.take_append_of_le_length (by rw[qX];exact Nat.le_refl _)];exact List.take_of_length_le (by rw[qX];exact Nat.le_refl _)
   have e2:(strs F++(mid++(strs (ts.drop (i+1+q))++j))).drop ts.length=j:=by
    have e3:strs F++(mid++(strs (ts.drop (i+1+q))++j))=(strs F++mid++strs (ts.drop (i+1+q)))++j:=by simp
    rw[e3]
    exact List.drop_left' (by simp[qX];omega)
   rw[e1,e2]
  have her:=(JK.app (JK.strs F) (hz.app hj))
  unfold JK at her
  simp (disch:=omega) [zz,hcf,hclr]
  (repeat with_reducible refine om ?_)
  refine hE _ _ (by simp) ?_
  simp (disch:=omega) [zz,Tryz.f118,her]
  exact⟨List.replicate (ts.length-F.length) (.s [])++j,hz.app hj,by rw[List.length_append,hlr,←hFt];omega,by rw[hFt],by rw[←hFt];rfl⟩
theorem zfv (ts:List Txt) (v:AV) (H:q8) (hrow:KF ts v H) (hn:ts.length≤1000000000) :
  q7 Tryz.prog 118 [.av (.slice 9) v] H fun r H'=>∃v',r=.av (.slice 9) v'∧KF (kF ts) v' H':=by
 rcases hrow with⟨rfl,rfl,rfl⟩|⟨b,cap,j,hj,rfl,hc,rfl⟩
 ·refine zov Tryz.func118 cf0 fun imm0 w0=>?_
  simp (disch:=omega) [zz,Tryz.f118]
  exact .inl ⟨rfl,rfl,rfl⟩
 ·refine q7.sub (zet ts b cap j hj hc hn) ?_
  rintro r H' ⟨j',h1,h2,rfl,rfl⟩ _
  exact⟨_,HSub.refl _,_,rfl,.inr ⟨b,cap,j',h1,rfl,h2,rfl⟩⟩
end Go.Proofs.YtcgpcfcbienapaaGreatDoor
end
