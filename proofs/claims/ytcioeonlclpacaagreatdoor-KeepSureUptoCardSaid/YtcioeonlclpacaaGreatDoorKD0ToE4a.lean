/- A disk of two files: the program. No condition beyond each theorem's own. -/
import Derived.Test.YtcioeonlclpacaaGreatDoorQ0ToP0
import Derived.Test.YtcioeonlclpacaaGreatDoorP8ToBSa
import Derived.Test.YtcioeonlclpacaaGreatDoorB0
import Derived.Test.YtcioeonlclpacaaGreatDoorAbSToSk
import Derived.Test.YtcioeonlclpacaaGreatDoorAbXToY
import Derived.Test.YtcioeonlclpacaaGreatDoorP1ToP7
set_option linter.unusedSimpArgs false
set_option linter.unusedVariables false
set_option linter.unusedSectionVars false
section
set_option maxRecDepth 100000
namespace Go.Proofs.YtcioeonlclpacaaGreatDoor
open Go Go.Ab
open Classical
variable [Sel] [SelPow]
@[simp] theorem zAx:qZ Tryz.prog 11=true:=by kernel_rfl
@[simp] theorem zBn:z8 Tryz.prog (.func 11)=false:=q9 zAx
@[simp] theorem zAy:qZ Tryz.prog 84=true:=by kernel_rfl
@[simp] theorem zBm:z8 Tryz.prog (.func 84)=false:=q9 zAy
@[simp] theorem zwL:qZ Tryz.prog 35=true:=by kernel_rfl
@[simp] theorem zxy:z8 Tryz.prog (.func 35)=false:=q9 zwL
@[simp] theorem zlF:qZ Tryz.prog 110=true:=by kernel_rfl
@[simp] theorem zqu:z8 Tryz.prog (.func 110)=false:=q9 zlF
@[simp] theorem zkI:qZ Tryz.prog 155=true:=by kernel_rfl
@[simp] theorem zqD:z8 Tryz.prog (.func 155)=false:=q9 zkI
@[simp] theorem zld:qZ Tryz.prog 150=true:=by kernel_rfl
@[simp] theorem zqk:z8 Tryz.prog (.func 150)=false:=q9 zld
@[simp] theorem zG9:qZ Tryz.prog 40=true:=by kernel_rfl
@[simp] theorem zGE:z8 Tryz.prog (.func 40)=false:=q9 zG9
@[simp] theorem zoF:qZ Tryz.prog 13=true:=by kernel_rfl
@[simp] theorem zrE:z8 Tryz.prog (.func 13)=false:=q9 zoF
abbrev zJB:TyD:=.struct [107,3]
def nmK:List UInt8:=[107,101,101,112]
def nmN:List UInt8:=[107,101,101,112,46,110,101,119]
def nmB (b:Bool):List UInt8:=if b then nmN else nmK
def flF (f:FV):AV:=.agg [.s f.data,.i .i64 f.sure]
def flE (l:List (List UInt8 × FV)):List (AV × AV):=l.map fun p=>(AV.s p.1,flF p.2)
noncomputable def flO (l:List (List UInt8 × FV)):HObj:=.map 9 125 (flE l)
def zMd (nm:List UInt8):Option FV→List (List UInt8 × FV)
 | none=>[]
 | some f=>[(nm,f)]
def ents (o:Bool) (d:DV):List (List UInt8 × FV):=if o then zMd nmN d.n++zMd nmK d.m else zMd nmK d.m++zMd nmN d.n
noncomputable def j4 (B M:Nat) (o:Bool) (d:DV):q8:=[(B,.var zJB (.agg [.map (some M),.i .i64 d.left])),(M,flO (ents o d))]
theorem zMs:¬nmK=nmN:=by decide
theorem zLv:¬nmN=nmK:=by decide
theorem zP0 (b:Bool):¬nmB b=[]:=by cases b<;>decide
theorem G6 (o b:Bool) (d:DV):yY (.s (nmB b)) (flE (ents o d))=(g5 b d).map flF:=by
 obtain⟨m,n,l⟩:=d
 cases o<;>cases b<;>cases m<;>cases n<;>simp[ents,zMd,flE,yY,nmB,g5,zMs,zLv]
theorem zKd (o b:Bool) (d:DV) (f:FV):∃o',xX (.s (nmB b)) (flF f) (flE (ents o d))=flE (ents o' (zJC b (some f) d)):=by
 obtain⟨m,n,l⟩:=d
 cases o<;>cases b<;>cases m<;>cases n<;>first
  | (refine⟨true,?_⟩;simp[ents,zMd,flE,xX,nmB,zJC,zMs,zLv];done)
  | (refine⟨false,?_⟩;simp[ents,zMd,flE,xX,nmB,zJC,zMs,zLv];done)
theorem zcW (o:Bool) (d:DV):zdc (.s nmN) (flE (ents o d))=flE (ents o ⟨d.m,none,d.left⟩):=by
 obtain⟨m,n,l⟩:=d
 cases o<;>cases m<;>cases n<;>simp[ents,zMd,flE,zdc,zMs,zLv]
theorem zJD (o:Bool) (d:DV) (c:Int):ents o { d with left:=c }=ents o d:=rfl
theorem zJi (l:List (List UInt8 × FV)):(flE l).map (fun p=>(p.1.er,p.2.er))=flE l:=by
 simp only[flE,List.map_map]
 refine List.map_congr_left fun p _=>?_
 simp[flF,AV.er,AV.ers]
@[simp] theorem zT3 (l:List (List UInt8 × FV)):(flO l).er=flO l:=by simp only[flO,HObj.er_map,zJi]
@[simp] theorem zLQ (B M:Nat) (o:Bool) (d:DV):(j4 B M o d).er=j4 B M o d:=by
 simp[j4,q8.er_cons,q8.er_nil,HObj.er_var,AV.erk,AV.erks]
abbrev zTz:Cfg:=⟨fun n=>n==3,fun _=>false⟩
theorem zNl:q7 Tryz.prog 11 [] [] fun r H'=>∃B M,M≠B∧r=.av .ptr (.ptr B zJB [])∧H'=j4 B M false zJe:=by
 refine zov Tryz.func11 zTz fun imm0 w0=>?_
 simp (disch:=omega) [zz]
 intro M B hB
 simp (disch:=omega) [zz,Tryz.f11]
 exact⟨B,M,fun e=>hB e.symm,rfl,by simp[j4,flO,flE,ents,zMd,zJe]⟩
def zJg (th:Bool) (b:Bool) (d:DV):Int:=if th=true∧g5 b d=none then 10 else if d.left=0 then 18 else 0
def nms (b:Bool) (o:Option Bool):List (List UInt8):=match o with
 | none=>[nmB b]
 | some c=>[nmB b,nmB c]
theorem zRL (b:Bool) (o:Option Bool):¬[]∈nms b o:=by
 cases o with
 | none=>simp[nms,zP0]
 | some c=>simp[nms,zP0]
set_option maxHeartbeats 4000000 in
theorem zPx (B M:Nat) (hBM:M≠B) (o:Bool) (d:DV) (hd:DOK d) (th b:Bool) (c:Option Bool) :
  q7 Tryz.prog 84 [.av .ptr (.ptr B zJB []),.av .bool (.b th),.av (.slice 9) (.sl .no (strs (nms b c)))] (j4 B M o d) fun r H'=>r=.av (.int .i64) (.i .i64 (zJg th b d))∧H'=j4 B M o (if zJg th b d=0 then c7 d else d):=by
 have hBM':¬B=M:=fun e=>hBM e.symm
 have hfd:=G6 o b d
 have hnl:=zRL b c
 obtain⟨rs,hrs,hlen⟩:∃rs,nms b c=nmB b::rs∧rs.length≤1:=by
  cases c with
  | none=>exact⟨[],rfl,by simp⟩
  | some c=>exact⟨[nmB c],rfl,by simp⟩
 rw[hrs]at hnl ⊢
 have hcn:=JP (nmB b::rs) [] (by simp;omega)
 rw[decide_eq_false hnl]at hcn
 have hst:strs (nmB b::rs)=.s (nmB b)::strs rs:=rfl
 rw[hst]at hcn ⊢
 obtain⟨_,_,hlo,hhi⟩:=hd
 refine zov Tryz.func84 cf0 fun imm0 w0=>?_
 cases hg:g5 b d with
 | none =>
  rw[hg]at hfd
  simp only[Option.map_none]at hfd
  simp (disch:=omega) [zz,j4,flO,hBM,hBM',hfd]
  (repeat with_reducible refine om ?_)
  refine zcv hcn ?_
  cases th
  ·by_cases hl0:d.left=0
   ·simp (disch:=omega) [zz,hl0,zJg,Tryz.f84,zJi,Tok.k]
   ·have hlt:¬(0:Int)=d.left:=fun e=>hl0 e.symm
    by_cases hp:0<d.left
    ·simp (disch:=omega) [zz,hl0,hp,hBM,hBM',zJg,c7,Tryz.f84,zJi,Tok.k,zJD]
    ·simp (disch:=omega) [zz,hl0,hp,hBM,hBM',zJg,c7,Tryz.f84,zJi,Tok.k,zJD]
  ·simp (disch:=omega) [zz,Tryz.f84,zJg,hg,zJi,Tok.k]
 | some f =>
  rw[hg]at hfd
  simp only[Option.map_some]at hfd
  simp (disch:=omega) [zz,j4,flO,hBM,hBM',hfd,flF]
  (repeat with_reducible refine om ?_)
  refine zcv hcn ?_
  by_cases hl0:d.left=0
  ·cases th
   ·simp (disch:=omega) [zz,hl0,zJg,hg,Tryz.f84,zJi,Tok.k]
   ·simp (disch:=omega) [zz,hl0,zJg,hg,Tryz.f84,zJi,Tok.k]
  ·by_cases hp:0<d.left
   ·cases th
    ·simp (disch:=omega) [zz,hl0,hp,hBM,hBM',zJg,hg,c7,Tryz.f84,zJi,Tok.k,zJD]
    ·simp (disch:=omega) [zz,hl0,hp,hBM,hBM',zJg,hg,c7,Tryz.f84,zJi,Tok.k,zJD]
   ·cases th
    ·simp (disch:=omega) [zz,hl0,hp,hBM,hBM',zJg,hg,c7,Tryz.f84,zJi,Tok.k,zJD]
    ·simp (disch:=omega) [zz,hl0,hp,hBM,hBM',zJg,hg,c7,Tryz.f84,zJi,Tok.k,zJD]
theorem zLr (b:Bool) (d:DV):g5 b (c7 d)=g5 b d:=by cases b<;>rfl
theorem zJZ (th b:Bool) (d:DV):(zJg th b d=0∧d.left≠0∧(th=true→g5 b d≠none))∨(zJg th b d=10∧th=true∧g5 b d=none)∨(zJg th b d=18∧d.left=0∧(th=true→g5 b d≠none)):=by
 unfold zJg
 by_cases h:th=true∧g5 b d=none
 ·rw[if_pos h];exact .inr (.inl ⟨rfl,h.1,h.2⟩)
 ·rw[if_neg h]
  by_cases hl:d.left=0
  ·rw[if_pos hl];exact .inr (.inr ⟨rfl,hl,fun h1 h2=>h ⟨h1,h2⟩⟩)
  ·rw[if_neg hl];exact .inl ⟨rfl,hl,fun h1 h2=>h ⟨h1,h2⟩⟩
def zJN (B M:Nat) (d:DV) (H:q8):Prop:=∃o,H=j4 B M o d
theorem zJN.of {B M:Nat} {o:Bool} {d:DV}:zJN B M d (j4 B M o d):=⟨o,rfl⟩
theorem zJN.ents {B M:Nat} {o:Bool} {d:DV}:zJN B M d [(B,.var zJB (.agg [.map (some M),.i .i64 d.left])),(M,.map 9 125 (flE (ents o d)))]:=⟨o,rfl⟩
theorem zK7 {s:St} {dst:Option Nat} {K:St→Prop} {args:List TV} (B M:Nat) (hBM:M≠B) (o:Bool) (d:DV) (hd:DOK d) (th b:Bool) (c:Option Bool) (hH:s.H=j4 B M o d) (ha:args.all qQ=true)
  (hx:qS (args.map TV.er) [.av .ptr (.ptr B zJB []),.av .bool (.b th),.av (.slice 9) (.sl .no (strs (nms b c)))])
  (hk:K (({ s with H:=j4 B M o (if zJg th b d=0 then c7 d else d) }:St).put dst (.av (.int .i64) (.i .i64 (zJg th b d))))) :
  ZP Tryz.prog s (.av .func (.fn 84 [])) args dst K:=by
 refine qE (j4 B M o d) [] (by rw[hH];simp) rfl ha (by simp) (R:=fun r H'=>r=.av (.int .i64) (.i .i64 (zJg th b d))∧H'=j4 B M o (if zJg th b d=0 then c7 d else d)) ?_ ?_
 ·rw[zLQ]
  exact q7.args (zPx B M hBM o d hd th b c) (by simpa using hx)
 rintro r' H' ⟨rfl,rfl⟩ _
 refine⟨_,HSub.refl _,?_⟩
 rw[List.append_nil]
 exact hk
set_option maxHeartbeats 4000000 in
theorem zM2 (B M:Nat) (hBM:M≠B) (o:Bool) (d:DV) (hd:DOK d) (b:Bool) (x:List UInt8) (hx:szF (g5 b d)+x.length≤1000000000000) :
  q7 Tryz.prog 35 [.av .ptr (.ptr B zJB []),.av .str (.s (nmB b)),.av .str (.s x)] (j4 B M o d) fun r H'=>r=.av (.int .i64) (.i .i64 (kW b x d).2)∧zJN B M (kW b x d).1 H':=by
 have hBM':¬B=M:=fun e=>hBM e.symm
 obtain⟨o',hput⟩:=zKd o b (c7 d) (zKf x (g5 b d))
 have hfd:=G6 o b (c7 d)
 rw[zLr]at hfd
 refine zov Tryz.func35 cf0 fun imm0 w0=>?_
 simp (disch:=omega) [zz]
 refine zK7 B M hBM o d hd false b none (by simp) (by simp[qQ]) (by simp[qS,coC,TV.er,AV.er,AV.ers,nms,strs]) ?_
 rcases zJZ false b d with⟨h1,h2,_⟩|⟨_,h2,_⟩|⟨h1,h2,_⟩
 ·have hap:kW b x d=(zJC b (some (zKf x (g5 b d))) (c7 d),0):=by unfold kW;rw[if_neg h2]
  have hr:=zJN.ents (B:=B) (M:=M) (o:=o') (d:=zJC b (some (zKf x (g5 b d))) (c7 d))
  have hlf:(zJC b (some (zKf x (g5 b d))) (c7 d)).left=(c7 d).left:=by cases b<;>rfl
  rw[hlf]at hr
  cases hg:g5 b d with
  | none =>
   rw[hg]at hfd hput hx hap hr
   simp only[Option.map_none]at hfd
   simp only[szF,zKf,flF]at hput hx hap hr
   rw[show ((0:Nat):Int)=0 from rfl]at hput
   simp (disch:=omega) [zz,h1,j4,flO,hBM,hBM',hfd,hput,hap]
   (repeat with_reducible refine om ?_)
   simp (disch:=omega) [zz,Tryz.f35,zJi,hap,hr]
  | some f =>
   rw[hg]at hfd hput hx hap hr
   simp only[Option.map_some,flF]at hfd
   simp only[szF,zKf,flF]at hput hx hap hr
   simp (disch:=omega) [zz,h1,j4,flO,hBM,hBM',hfd,hput,hap]
   (repeat with_reducible refine om ?_)
   simp (disch:=omega) [zz,Tryz.f35,zJi,hap,hr]
 ·cases h2
 ·have hap:kW b x d=(d,18):=by unfold kW;rw[if_pos h2]
  simp (disch:=omega) [zz,h1,hap,Tryz.f35,zJN.of]
set_option maxHeartbeats 4000000 in
theorem zNC (B M:Nat) (hBM:M≠B) (o:Bool) (d:DV) (hd:DOK d) (b:Bool) (hx:szF (g5 b d)≤1000000000000) :
  q7 Tryz.prog 110 [.av .ptr (.ptr B zJB []),.av .str (.s (nmB b))] (j4 B M o d) fun r H'=>r=.av (.int .i64) (.i .i64 (c8 b d).2)∧zJN B M (c8 b d).1 H':=by
 have hBM':¬B=M:=fun e=>hBM e.symm
 have hfd:=G6 o b (c7 d)
 rw[zLr]at hfd
 refine zov Tryz.func110 cf0 fun imm0 w0=>?_
 simp (disch:=omega) [zz]
 refine zK7 B M hBM o d hd true b none (by simp) (by simp[qQ]) (by simp[qS,coC,TV.er,AV.er,AV.ers,nms,strs]) ?_
 rcases zJZ true b d with⟨h1,h2,h3⟩|⟨h1,_,h3⟩|⟨h1,h2,h3⟩
 ·cases hg:g5 b d with
  | none=>exact absurd hg (h3 rfl)
  | some f =>
   have hap:c8 b d=(zJC b (some ⟨f.data,f.data.length⟩) (c7 d),0):=by unfold c8;rw[hg];simp only;rw[if_neg h2]
   obtain⟨o',hput⟩:=zKd o b (c7 d) ⟨f.data,f.data.length⟩
   have hr:=zJN.ents (B:=B) (M:=M) (o:=o') (d:=zJC b (some ⟨f.data,f.data.length⟩) (c7 d))
   have hlf:(zJC b (some ⟨f.data,f.data.length⟩) (c7 d)).left=(c7 d).left:=by cases b<;>rfl
   rw[hlf]at hr
   rw[hg]at hfd hx
   simp only[Option.map_some,flF]at hfd
   simp only[szF,flF]at hput hx
   simp (disch:=omega) [zz,h1,j4,flO,hBM,hBM',hfd,hput,hap]
   (repeat with_reducible refine om ?_)
   simp (disch:=omega) [zz,Tryz.f110,zJi,hap,hr]
 ·have hap:c8 b d=(d,10):=by unfold c8;rw[h3]
  simp (disch:=omega) [zz,h1,hap,Tryz.f110,zJN.of]
 ·cases hg:g5 b d with
  | none=>exact absurd hg (h3 rfl)
  | some f =>
   have hap:c8 b d=(d,18):=by unfold c8;rw[hg];simp only;rw[if_pos h2]
   simp (disch:=omega) [zz,h1,hap,Tryz.f110,zJN.of]
set_option maxHeartbeats 4000000 in
theorem zOo (B M:Nat) (hBM:M≠B) (o:Bool) (d:DV) (hd:DOK d) :
  q7 Tryz.prog 150 [.av .ptr (.ptr B zJB []),.av .str (.s nmN)] (j4 B M o d) fun r H'=>r=.av (.int .i64) (.i .i64 (zJd d).2)∧zJN B M (zJd d).1 H':=by
 have hBM':¬B=M:=fun e=>hBM e.symm
 have PV:=zcW o (c7 d)
 have hr:=zJN.ents (B:=B) (M:=M) (o:=o) (d:=⟨d.m,none,(c7 d).left⟩)
 refine zov Tryz.func150 cf0 fun imm0 w0=>?_
 simp (disch:=omega) [zz]
 refine zK7 B M hBM o d hd true true none (by simp) (by simp[qQ]) (by simp[qS,coC,TV.er,AV.er,AV.ers,nms,strs,nmB]) ?_
 rcases zJZ true true d with⟨h1,h2,h3⟩|⟨h1,_,h3⟩|⟨h1,h2,h3⟩
 ·have hap:zJd d=(⟨d.m,none,(c7 d).left⟩,0):=by
   unfold zJd
   cases hn:d.n with
   | none=>exact absurd hn (h3 rfl)
   | some f=>simp only;rw[if_neg h2]
  simp only[zSn]at PV
  simp (disch:=omega) [zz,h1,j4,flO,hBM,hBM',PV,hap,Tryz.f150,zJi,hr]
 ·have hap:zJd d=(d,10):=by unfold zJd;rw[show d.n=none from h3]
  simp (disch:=omega) [zz,h1,hap,Tryz.f150,zJN.of]
 ·have hap:zJd d=(d,18):=by
   unfold zJd
   cases hn:d.n with
   | none=>exact absurd hn (h3 rfl)
   | some f=>simp only;rw[if_pos h2]
  simp (disch:=omega) [zz,h1,hap,Tryz.f150,zJN.of]
set_option maxHeartbeats 4000000 in
theorem zOv (B M:Nat) (hBM:M≠B) (o:Bool) (d:DV) (hd:DOK d) :
  q7 Tryz.prog 155 [.av .ptr (.ptr B zJB []),.av .str (.s nmN),.av .str (.s nmK)] (j4 B M o d) fun r H'=>r=.av (.int .i64) (.i .i64 (zb1 d).2)∧zJN B M (zb1 d).1 H':=by
 have hBM':¬B=M:=fun e=>hBM e.symm
 have hfd:=G6 o true (c7 d)
 rw[zLr]at hfd
 refine zov Tryz.func155 cf0 fun imm0 w0=>?_
 simp (disch:=omega) [zz]
 refine zK7 B M hBM o d hd true true (some false) (by simp) (by simp[qQ]) (by simp[qS,coC,TV.er,AV.er,AV.ers,nms,strs,nmB]) ?_
 rcases zJZ true true d with⟨h1,h2,h3⟩|⟨h1,_,h3⟩|⟨h1,h2,h3⟩
 ·cases hn:d.n with
  | none=>exact absurd hn (h3 rfl)
  | some f =>
   have hap:zb1 d=(⟨some f,none,(c7 d).left⟩,0):=by
    unfold zb1;rw[hn];simp only;rw[if_neg h2]
   have hg:g5 true d=some f:=hn
   rw[hg]at hfd
   obtain⟨o',hput⟩:=zKd o false (c7 d) f
   have PV:=zcW o' (zJC false (some f) (c7 d))
   have hr:=zJN.ents (B:=B) (M:=M) (o:=o') (d:=⟨some f,none,(c7 d).left⟩)
   simp only[Option.map_some,flF,nmB,if_true,Bool.false_eq_true,if_false]at hfd hput
   simp only[zJC,Bool.false_eq_true,if_false]at PV hput
   simp (disch:=omega) [zz,h1,j4,flO,hBM,hBM',hfd,hput,hap,zLv]
   (repeat with_reducible refine om ?_)
   simp (disch:=omega) [zz,Tryz.f155,PV,zJi,hap,hr,hBM,hBM']
 ·have hap:zb1 d=(d,10):=by unfold zb1;rw[show d.n=none from h3]
  simp (disch:=omega) [zz,h1,hap,Tryz.f155,zJN.of]
 ·have hap:zb1 d=(d,18):=by
   unfold zb1
   cases hn:d.n with
   | none=>exact absurd hn (h3 rfl)
   | some f=>simp only;rw[if_pos h2]
  simp (disch:=omega) [zz,h1,hap,Tryz.f155,zJN.of]
theorem zR8 (B M:Nat) (hBM:M≠B) (o b:Bool) (d:DV) :
  q7 Tryz.prog 40 [.av .ptr (.ptr B zJB []),.av .str (.s (nmB b))] (j4 B M o d) fun r H'=>r=.tup [(.str,.s (zK6 (g5 b d))),(.int .i64,.i .i64 (if g5 b d=none then 10 else 0))]∧H'=j4 B M o d:=by
 have hBM':¬B=M:=fun e=>hBM e.symm
 have hfd:=G6 o b d
 refine zov Tryz.func40 cf0 fun imm0 w0=>?_
 cases hg:g5 b d with
 | none =>
  rw[hg]at hfd
  simp only[Option.map_none]at hfd
  simp (disch:=omega) [zz,j4,flO,hBM,hBM',hfd,Tryz.f40,zJi,zK6]
 | some f =>
  rw[hg]at hfd
  simp only[Option.map_some,flF]at hfd
  simp (disch:=omega) [zz,j4,flO,hBM,hBM',hfd,Tryz.f40,zJi,zK6]
theorem zOb (B M:Nat) (hBM:M≠B) (o:Bool) (d:DV) (n:Int) :
  q7 Tryz.prog 13 [.av .ptr (.ptr B zJB []),.av (.int .i64) (.i .i64 n)] (j4 B M o d) fun r H'=>r=.tup []∧H'=j4 B M o (zJs n d):=by
 have hBM':¬B=M:=fun e=>hBM e.symm
 refine zov Tryz.func13 cf0 fun imm0 w0=>?_
 by_cases h:n < -1
 ·have e:max n (-1)=-1:=by omega
  simp (disch:=omega) [zz,j4,flO,hBM,hBM',Tryz.f13,zJi,zJs,h,zJD,e]
 ·have e:max n (-1)=n:=by omega
  simp (disch:=omega) [zz,j4,flO,hBM,hBM',Tryz.f13,zJi,zJs,h,zJD,e]
end Go.Proofs.YtcioeonlclpacaaGreatDoor
end
section
set_option maxRecDepth 100000
namespace Go.Proofs.YtcioeonlclpacaaGreatDoor
open Go Go.Ab
open Classical
variable [Sel]
def xK (en:Array MapEntry) (ids:List Nat):Array Nat:=(ids.map fun i=>(en[i]?.map (·.born)).getD 0).toArray
theorem cV {en:Array MapEntry} {ck:Nat} (hst:yX en.toList ck) {ids:List Nat} (hids:∀i∈ids,i<en.size) {i:Nat} {me:MapEntry} (hi:en[i]?=some me):me.born∈xK en ids↔i∈ids:=by
 unfold xK
 rw[List.mem_toArray,List.mem_map]
 constructor
 ·rintro⟨j,hj,e⟩
  have hjs:=hids j hj
  rw[Array.getElem?_eq_getElem hjs]at e
  simp only[Option.map_some,Option.getD_some]at e
  obtain⟨his,rfl⟩:=Array.getElem?_eq_some_iff.1 hi
  have hnd:=hst.2
  have h1:(en.toList.map (·.born))[j]'(by simpa using hjs)=(en.toList.map (·.born))[i]'(by simpa using his):=by simpa using e
  have:=(List.getElem_inj hnd).1 h1
  rw[←this];exact hj
 ·intro h
  exact⟨i,h,by rw[hi];rfl⟩
theorem zdQ (en:Array MapEntry) (ids:List Nat) {i:Nat} {me:MapEntry} (hi:en[i]?=some me):(xK en ids).push me.born=xK en (ids++[i]):=by
 unfold xK
 apply Array.toList_inj.1
 simp[hi]
def XL (ks:List (List UInt8)) (ids:List Nat):List (List UInt8):=ids.map fun i=>(ks[i]?).getD []
theorem zdP {ks:List (List UInt8)} {ids:List Nat} (hn:ids.Nodup) (hlt:∀i∈ids,i<ks.length) (hall:∀i,i<ks.length→i∈ids):(XL ks ids).Perm ks:=by
 have h1:ids.Perm (List.range ks.length):=by
  rw[List.perm_ext_iff_of_nodup hn List.nodup_range]
  intro i
  rw[List.mem_range]
  exact⟨hlt i,hall i⟩
 have h2:(List.range ks.length).map (fun i=>(ks[i]?).getD [])=ks:=by
  refine List.ext_getElem (by simp) fun t h1 h2=>?_
  simp only[List.getElem_map,List.getElem_range]
  rw[List.getElem?_eq_getElem h2];rfl
 have:=h1.map (fun i=>(ks[i]?).getD ([]:Dig))
 rw[h2]at this
 exact this
theorem gK:∀(n:Nat) (l:List Nat),l.Nodup→(∀i∈l,i<n)→l.length≤n
 | 0,l,_,h=>by
  cases l with
  | nil=>simp
  | cons x r=>exact absurd (h x (by simp)) (Nat.not_lt_zero _)
 | n+1,l,hn,h=>by
  by_cases hm:n∈l
  ·have:=gK n (l.erase n) (hn.erase n) (fun i hi=>by
    have h1:=(List.Nodup.mem_erase_iff hn).1 hi
    have:=h i h1.2
    have:=h1.1
    omega)
   rw[List.length_erase_of_mem hm]at this
   omega
  ·have:=gK n l hn (fun i hi=>by
    have h1:=h i hi
    have:i≠n:=fun e=>hm (e▸hi)
    omega)
   omega
theorem q7.argNil {P:Program} {f:FuncId} {e:TypeId} {args:List TV} {H:q8} {R:TV→q8→Prop} (h:q7 P f (.av (.slice e) .nsl::args) H R):q7 P f (.cst (.slice none 0 0)::args) H R:=by
 intro imm w vs h1 h2
 refine h imm w vs h1 ?_
 obtain⟨vs⟩:=vs
 match vs,h2 with
 | v::r,⟨e1,e2⟩ =>
  have e1':v=.slice none 0 0:=e1
  subst e1'
  exact⟨⟨rfl,by simp[VC,Value.cells]⟩,e2⟩
theorem q7.nilR {P:Program} {f:FuncId} {args:List TV} {H:q8} {R R':TV→q8→Prop} (h:q7 P f args H R) (hr:∀r H',R r H'→R' r H'∨∃e,r=.av (.slice e) .nsl∧R' (.av (.slice e) (.sl .no [])) H'):q7 P f args H R' :=
 fun imm w vs h1 h2=>(h imm w vs h1 h2).mono fun e w' ⟨v,r,imm',H',a,b,c,d,st⟩=>by
  rcases hr _ _ b with h3|⟨e,rfl,h3⟩
  ·exact⟨v,r,imm',H',a,h3,c,d,st⟩
  ·obtain⟨f,hv⟩:=c
   simp only[VC]at hv
   obtain⟨_,_,hv⟩:=hv
   exact⟨v,_,imm',H',a,h3,⟨f,by simp only[VC];exact⟨e,none,0,rfl,hv,by simp,by simp[U9]⟩⟩,d,st⟩
theorem zeS {P:Program} {l:Nat} {args:List TV} {H:q8} {R R':TV→q8→Prop} (h:YC P l args H R) (hr:∀r H',R r H'→H'.keys.Nodup→∃H'':q8,Ab.HSub H'' H'∧R' r H''):YC P l args H R':=by
 intro imm w vs h1 h2
 obtain⟨f,tmps,as',bo,h3,h4⟩:=h imm w vs h1 h2
 refine⟨f,tmps,as',bo,h3,RoundIn.mono h4 ?_⟩
 rintro e w' ⟨v,r,imm',H',a,b,c,d,st⟩
 obtain⟨H'',hs,hR⟩:=hr _ _ b d.nodup
 exact⟨v,r,imm',H'',a,hR,c,⟨d.imm,hs.nodup d.nodup,fun b o ho=>d.obj b o (hs.subset ho),d.tab⟩,⟨st.os,st.tape,st.output,st.size,st.frame,st.imm,st.kept,fun b hb=>st.dom b (hs.keys hb),st.drawn⟩⟩
end Go.Proofs.YtcioeonlclpacaaGreatDoor
end
