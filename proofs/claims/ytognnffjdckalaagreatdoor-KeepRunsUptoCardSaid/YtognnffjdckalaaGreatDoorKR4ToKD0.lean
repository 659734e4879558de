/- The document's answer for what is stored: the program. No condition. -/
import Derived.Test.YtognnffjdckalaaGreatDoorP33aToTK1
set_option linter.unusedSimpArgs false
set_option linter.unusedVariables false
set_option linter.unusedSectionVars false
set_option maxHeartbeats 64000000
set_option maxRecDepth 100000
namespace Go.Proofs.YtognnffjdckalaaGreatDoor
open Go Go.Ab
open Classical
section
variable [Sel] [SelPow] [SelErr]
noncomputable abbrev RbT:TyD:=q8 Tryz.prog 105
abbrev Bl:=Dig × List UInt8
def yC (p:Bl):AV:=.agg [qK p.1,.s p.2]
def kN (l:BlL):AV:=.sl .no (l.map yC)
@[simp] theorem zf5 (p:Bl):(yC p).er=yC p:=by simp[yC,AV.er,AV.ers]
@[simp] theorem ZT (l:BlL):(kN l).er=kN l:=by simp[kN,AV.er,AV.ers_eq,Function.comp_def]
theorem zdL (l:BlL) (k:Nat) (h:k<l.length):(l.map yC)[k]?=some (yC l[k]):=by simp[List.getElem?_eq_getElem h]
def atB (l:BlL) (d:Dig):Int:=match l.findIdx? (fun p=>decide (p.1=d))with
 | some i=>i
 | none=>-1
theorem zpC {l:BlL} {d:Dig} {i:Nat} (h:i<l.length) (hp:∀p∈l.take i,p.1≠d) (he:l[i].1=d):atB l d=i:=by
 have:l.findIdx? (fun p=>decide (p.1=d))=some i:=by
  rw[List.findIdx?_eq_some_iff_getElem]
  refine⟨h,by simpa using he,fun j hj=>?_⟩
  have:=hp l[j] (List.mem_take_iff_getElem.2 ⟨j,by omega,rfl⟩)
  simpa using this
 simp[atB,this]
theorem zgn {l:BlL} {d:Dig} (hp:∀p∈l,p.1≠d):atB l d=-1:=by
 have:l.findIdx? (fun p=>decide (p.1=d))=none:=by
  rw[List.findIdx?_eq_none_iff]
  intro p h
  simpa using hp p h
 simp[atB,this]
theorem uA (l:BlL) (d:Dig) (hl:l.length<=100000000):PC Tryz.prog 48 [.av (.slice 105) (kN l),.av (q8 Tryz.prog 53) (qK d)] (.av (.int .i64) (.i .i64 (atB l d))):=by
 refine zow Tryz.func48 cf0 fun imm0 w0=>?_
 have hle:kN l=.sl .no (l.map yC):=rfl
 simp (disch:=omega) [zz,hle]
 refine AT.loop' (α:=Nat) (fun i=>St.of [(0,.av (.slice 105) (.sl .no (l.map yC))),(3,.loc 3 []),(5,.av (.int .i64) (.i .i64 i))] [(3,(q8 Tryz.prog 53,qK d))] (fun _=>0) [])
  (fun i=>i<=l.length/\∀p∈l.take i,p.1≠d) (fun i=>l.length-i) 0 ?_ ?_ ?_
 ·apply Le.of<;>simp[le9,hle]<;>try omega
 ·simp
 rintro i ⟨hi,hp⟩ KL hN hE
 refine zrd cf0 ?_
 by_cases hlt:i<l.length
 ·have hlt':(i:Int)<l.length:=by omega
  have hg:=zdL l i hlt
  have hhit:=zpC (d:=d) hlt hp
  have htk:l.take (i+1)=l.take i++[l[i]]:=List.take_succ_eq_append_getElem hlt
  obtain⟨p,hpe⟩:∃p,p=l[i]:=⟨_,rfl⟩
  rw[<-hpe]at hg hhit htk
  by_cases he:p.1=d
  ·have hh:=hhit he
   simp (disch:=omega) [zz,hlt',hg,yC,qK,j9,he]
   refine hE _ _ (by simp) ?_
   simp (disch:=omega) [zz,hh,Tryz.f48]
  ·simp (disch:=omega) [zz,hlt',hg,yC,qK,j9,he]
   (repeat with_reducible refine om ?_)
   refine hN _ (i+1) ?_ ⟨by omega,fun x hx=>?_⟩ (by omega)
   ·apply Le.of<;>simp[le9,qK]<;>try omega
   ·rw[htk]at hx
    rcases List.mem_append.1 hx with hx|hx
    ·exact hp x hx
    ·rw[List.mem_singleton.1 hx];exact he
 ·have hlt':¬(i:Int)<l.length:=by omega
  rw[List.take_of_length_le (by omega)]at hp
  have hh:=zgn hp
  simp (disch:=omega) [zz,hlt']
  refine hE _ _ (by simp) ?_
  simp (disch:=omega) [zz,hh,Tryz.f48]
theorem zhK (l:BlL) (hl:l.length<=100000000) (hs:szB l<=1000000000000):PC Tryz.prog 32 [.av (.slice 105) (kN l)] (.av (.int .i64) (.i .i64 (szB l))):=by
 have hle:kN l=.sl .no (l.map yC):=rfl
 have hsp:∀i,szB (l.take i)<=szB l:=fun i=>by
  have:szB l=szB (l.take i)+szB (l.drop i):=by
   simp only[szB]
   rw[<-List.sum_append,<-List.map_append,List.take_append_drop]
  omega
 have hss:∀i (h:i<l.length),szB (l.take (i+1))=szB (l.take i)+l[i].2.length:=fun i h=>by
  rw[List.take_succ_eq_append_getElem h];simp only[szB,List.map_append,List.sum_append,List.map_cons,List.map_nil,List.sum_cons,List.sum_nil,Nat.add_zero]
 refine zow Tryz.func32 cf0 fun imm0 w0=>?_
 simp (disch:=omega) [zz,hle]
 refine AT.loop' (α:=Nat) (fun i=>St.of [(0,.av (.slice 105) (.sl .no (l.map yC))),(3,.av (.int .i64) (.i .i64 (szB (l.take i)))),(4,.av (.int .i64) (.i .i64 i))] [] (fun _=>0) [])
  (fun i=>i<=l.length) (fun i=>l.length-i) 0 ?_ ?_ ?_
 ·apply Le.of<;>simp[le9,hle,szB]<;>try omega
 ·simp
 rintro i hi KL hN hE
 refine zrd cf0 ?_
 by_cases hlt:i<l.length
 ·have hlt':(i:Int)<l.length:=by omega
  have hg:=zdL l i hlt
  have h1:=hss i hlt
  have h2:=hsp (i+1)
  obtain⟨p,hpe⟩:∃p,p=l[i]:=⟨_,rfl⟩
  rw[<-hpe]at hg h1
  obtain⟨S,hS⟩:∃S,S=szB (l.take i):=⟨_,rfl⟩
  rw[<-hS]at h1 |-
  have hw:IntKind.i64.wrap ((S:Int)+p.2.length)=(S:Int)+p.2.length:=i64_in (by omega) (by omega)
  simp (disch:=omega) [zz,hlt',hg,yC,hw]
  refine hN _ (i+1) ?_ (by omega) (by omega)
  apply Le.of<;>simp[le9,h1]<;>try omega
 ·have hlt':¬(i:Int)<l.length:=by omega
  have htk:l.take i=l:=List.take_of_length_le (by omega)
  rw[htk]
  simp (disch:=omega) [zz,hlt']
  refine hE _ _ (by simp) ?_
  simp (disch:=omega) [zz,Tryz.f32]
def zfi (l:BlL) (p:Bl):BlL:=l.takeWhile (fun x=>!ltL p.1 x.1)++p::l.dropWhile (fun x=>!ltL p.1 x.1)
def GT (p:Bl) (d:Bool) (l:BlL):BlL:=if d then l else zfi l p
theorem zo2 {p x:Bl} {l:BlL} (h:ltL p.1 x.1=true):GT p false (x::l)=p::x::l:=by simp[GT,zfi,h]
theorem zpl {p x:Bl} {l:BlL} (h:ltL p.1 x.1=false):GT p false (x::l)=x::GT p false l:=by simp[GT,zfi,h]
def VM (l:BlL) (p:Bl):BlL:=if 0<=atB l p.1 then l else zfi l p
theorem znc (l:BlL) (p:Bl):(zfi l p).length=l.length+1:=by
 have h:=List.takeWhile_append_dropWhile (p:=fun x:Bl=>!ltL p.1 x.1) (l:=l)
 have h2:(l.takeWhile fun x:Bl=>!ltL p.1 x.1).length+(l.dropWhile fun x:Bl=>!ltL p.1 x.1).length=l.length:=by rw[<-List.length_append,h]
 unfold zfi
 rw[List.length_append,List.length_cons,<-Nat.add_assoc]
 exact congrArg (·+1) h2
theorem pT (l:BlL) (p:Bl) (hl:l.length<=100000000) (hp:p.1.length=32) (h32:∀x∈l,x.1.length=32):PC Tryz.prog 51 [.av (.slice 105) (kN l),.av RbT (yC p)] (.av (.slice 105) (kN (VM l p))):=by
 have hle:kN l=.sl .no (l.map yC):=rfl
 have hpe:yC p=.agg [qK p.1,.s p.2]:=rfl
 have hfd:=uA l p.1 hl
 have hee:=ZT l
 have hfl:=znc l p
 refine zow Tryz.func51 cf0 fun imm0 w0=>?_
 simp (disch:=omega) [zz,hpe]
 refine YE hfd rfl rfl (by simp) (by simp[q9,TV.er,hee]) ?_
 by_cases h0:0<=atB l p.1
 ·have hpb:VM l p=l:=by unfold VM;rw[if_pos h0]
  simp (disch:=omega) [zz,h0,Tryz.f51,hpb,hee]
 have hpb:VM l p=GT p false l:=by unfold VM;rw[if_neg h0];rfl
 rw[hpb]
 have hfb:(GT p false l).length=l.length+1:=hfl
 simp (disch:=omega) [zz,h0,hle]
 refine AT.loopV (α:=Nat × BlL × Bool × Option Nat) (fun x ver=>St.of [(0,.av (.slice 105) (.sl .no (l.map yC))),(3,.loc 3 []),(5,.av (.slice 105) (.sl (Z1 ver x.2.2.2) (x.2.1.map yC))),(6,.av .bool (.b x.2.2.1)),(7,.av (.int .i64) (.i .i64 x.1))] [(3,(RbT,.agg [qK p.1,.s p.2]))] ver [])
  (fun x=>x.1<=l.length/\x.2.1++GT p x.2.2.1 (l.drop x.1)=GT p false l) (fun x=>l.length-x.1) (0,[],false,none) ?_ ?_ ?_
 ·apply Le.of<;>simp[le9,Z1]<;>try omega
 ·simp
 rintro⟨q,out,d,o⟩ ver ⟨hq,hinv⟩ KL hN hE
 simp only at hq hinv hN
 have hol:out.length<=l.length+1:=by
  have:=congrArg List.length hinv
  rw[List.length_append,hfb]at this;omega
 refine zrd cf0 ?_
 by_cases hlt:q<l.length
 ·have hlt':(q:Int)<l.length:=by omega
  have hg:=zdL l q hlt
  have hdr:=List.drop_eq_getElem_cons hlt
  have hxk:=h32 _ (List.getElem_mem hlt)
  obtain⟨x,hx⟩:∃x,x=l[q]:=⟨_,rfl⟩
  rw[<-hx]at hg hdr hxk
  have hxe:yC x=.agg [qK x.1,.s x.2]:=rfl
  rw[hdr]at hinv
  cases d with
  | false =>
   have hls:=zeD p.1 x.1 hp hxk
   simp (disch:=omega) [zz,hlt',hg,hxe]
   (repeat with_reducible refine om ?_)
   refine XF hls rfl rfl (by simp) (by simp[q9,TV.er]) ?_
   cases hlt2:ltL p.1 x.1 with
   | true =>
    simp (disch:=omega) [zz,hg,hxe]
    (repeat with_reducible refine om ?_)
    refine jV (by simp;omega) (by simp;omega) (by kernel_rfl) (by kernel_rfl) fun ver'=>?_
    simp (disch:=omega) [zz,hlt',hg,hxe]
    refine jV (by simp;omega) (by simp;omega) (by kernel_rfl) (by kernel_rfl) fun ver''=>?_
    simp (disch:=omega) [zz]
    refine hN _ (q+1,out++[p,x],true,some 42) ?_ ⟨by simp only;omega,by simp only;rw[<-hinv,zo2 hlt2];simp[GT]⟩ (by simp only;omega)
    apply Le.of<;>simp[le9,hxe,hpe,Z1]<;>try omega
   | false =>
    simp (disch:=omega) [zz,hlt',hg,hxe]
    (repeat with_reducible refine om ?_)
    refine jV (by simp;omega) (by simp;omega) (by kernel_rfl) (by kernel_rfl) fun ver'=>?_
    simp (disch:=omega) [zz]
    refine hN _ (q+1,out++[x],false,some 42) ?_ ⟨by simp only;omega,by simp only;rw[<-hinv,zpl hlt2];simp⟩ (by simp only;omega)
    apply Le.of<;>simp[le9,hxe,Z1]<;>try omega
  | true =>
   simp (disch:=omega) [zz,hlt',hg,hxe]
   (repeat with_reducible refine om ?_)
   refine jV (by simp;omega) (by simp;omega) (by kernel_rfl) (by kernel_rfl) fun ver'=>?_
   simp (disch:=omega) [zz]
   refine hN _ (q+1,out++[x],true,some 42) ?_ ⟨by simp only;omega,by simp only;rw[<-hinv];simp[GT]⟩ (by simp only;omega)
   apply Le.of<;>simp[le9,hxe,Z1]<;>try omega
 have hlt':¬(q:Int)<l.length:=by omega
 rw[List.drop_of_length_le (by omega)]at hinv
 simp (disch:=omega) [zz,hlt']
 refine hE _ _ (by simp) ?_
 rw[<-hinv]
 cases d with
 | false =>
  have hf:GT p false []=[p]:=by simp[GT,zfi]
  rw[hf]
  simp (disch:=omega) [zz,hpe]
  refine jV (by simp;omega) (by simp;omega) (by kernel_rfl) (by kernel_rfl) fun ver'=>?_
  simp (disch:=omega) [zz,Tryz.f51,kN,AV.ers_eq,Function.comp_def,zf5,hpe]
 | true =>
  have hf:GT p true []=[]:=rfl
  rw[hf,List.append_nil]
  simp (disch:=omega) [zz,Tryz.f51,kN,AV.ers_eq,Function.comp_def,zf5]
end
section
variable [Sel]
abbrev Txt:=List UInt8
noncomputable def yV (l:List Txt):List Txt:=l.mergeSort fun a b=>decide (a<=b)
def zoa (ws:List Txt) (v:AV) (H:q7):Prop:=(ws=[]/\v=.sl .no []/\H=[])\/∃b cap j,JK j/\v=.msl b 9 0 ws.length cap/\ws.length+j.length=cap/\H=[(b,.var (.arr cap 9) (.agg (strs ws++j)))]
theorem vS (l:List Txt):AV.erks (strs l)=strs l:=by simp[strs,AV.erks_eq,AV.erk,Function.comp_def]
theorem GY (l:List Txt):(strs l).length=l.length:=by simp[strs]
theorem zeN (p:List Txt) (k:Nat) (h:k<p.length):(strs p)[k]?=some (.s p[k]):=by simp[strs,List.getElem?_eq_getElem h]
theorem zoa.er {ws:List Txt} {v:AV} {H:q7} (h:zoa ws v H):H.er=H/\v.er=v:=by
 rcases h with⟨_,rfl,rfl⟩|⟨b,cap,j,hj,rfl,_,rfl⟩
 ·exact⟨rfl,rfl⟩
 ·refine⟨?_,rfl⟩
  simp only[q7.er_cons,q7.er_nil,HObj.er_var,AV.erk,K8,vS]
  rw[show AV.erks j=j from hj]
theorem JK.strs (l:List Txt):JK (strs l):=vS l
noncomputable def VW (cap:Nat) (ts:List Txt) (j:List AV):HObj:=.var (.arr cap 9) (.agg (strs ts++j))
theorem cF {cap:Nat} {ts:List Txt} {j:List AV} (h:JK j):(VW cap ts j).er=VW cap ts j:=by
 simp only[VW,HObj.er_var,AV.erk,K8,vS]
 rw[show AV.erks j=j from h]
theorem zhW (ts:List Txt) (x:Txt) (hn:ts.length<=1000000000):PC Tryz.prog 169 [.av (.slice 9) (.sl .no (strs ts)),.av .str (.s x)] (.av (.int .i64) (.i .i64 (VG (fun y=>decide (y=x)) ts))):=by
 refine zow Tryz.func169 cf0 fun imm0 w0=>?_
 simp (disch:=omega) [zz]
 refine AT.loop' (α:=Nat) (fun k=>St.of [(0,.av (.slice 9) (.sl .no (strs ts))),(1,.av .str (.s x)),(7,.av (.int .i64) (.i .i64 ts.length)),(8,.av (.int .i64) (.i .i64 k))] [] (fun _=>0) [])
  (fun k=>k<=ts.length/\∀y∈ts.take k,(fun y=>decide (y=x)) y=false) (fun k=>ts.length-k) 0 ?_ ?_ ?_
 ·apply Le.of<;>simp[k8,z1]
 ·simp
 rintro k ⟨hk',hpk⟩ KL hN hE
 refine zrd cf0 ?_
 by_cases hlt:k<ts.length
 ·have hlt':(k:Int)<ts.length:=by omega
  have hg:=zeN ts k hlt
  by_cases hp:ts[k]=x
  ·have hp':x=ts[k]:=hp.symm
   have hi:=zcx (p:=fun y=>decide (y=x)) hlt hpk (by simpa using hp)
   generalize ts[k]=y at *
   subst hp
   simp (disch:=omega) [zz,hlt',hg]
   refine hE _ _ (by simp) ?_
   simp (disch:=omega) [zz,Tryz.f169,hi]
  ·have hp':¬x=ts[k]:=fun e=>hp e.symm
   simp (disch:=omega) [zz,hlt',hg,hp']
   refine hN _ (k+1) ?_ ⟨by omega,by rw[xJ hlt];exact⟨hpk,by simpa using hp⟩⟩ (by omega)
   apply Le.of<;>simp[k8,z1]
 ·have hlt':¬(k:Int)<ts.length:=by omega
  simp (disch:=omega) [zz,hlt']
  refine hE _ _ (by simp) ?_
  rw[List.take_of_length_le (by omega)]at hpk
  simp (disch:=omega) [zz,Tryz.f169,zaX (p:=fun y=>decide (y=x)) hpk]
theorem VE (ts:List Txt) (x:Txt) (hn:ts.length<=1000000000):PC Tryz.prog 120 [.av (.slice 9) (.sl .no (strs ts)),.av .str (.s x)] (.av .bool (.b (decide (x∈ts)))):=by
 refine zow Tryz.func120 cf0 fun imm0 w0=>?_
 simp (disch:=omega) [zz]
 refine zcv (zhW ts x hn) ?_
 rcases zaJ (fun y=>decide (y=x)) ts with⟨he,hall⟩|⟨i,hi,he,hs,_⟩
 ·have:¬x∈ts:=fun h=>by have:=hall x h;simp at this
  simp (disch:=omega) [zz,he,this,Tryz.f120]
 ·have h1:x∈ts:=by simp at hs;rw[<-hs];exact List.getElem_mem hi
  have h2:(0:Int)<=i:=by omega
  simp (disch:=omega) [zz,he,h1,h2,Tryz.f120]
end
section
variable [Sel] [SelPow]
abbrev QI:TyD:=.struct [83,3]
def nmK:List UInt8:=[107,101,101,112]
def nmN:List UInt8:=[107,101,101,112,46,110,101,119]
def nmB (b:Bool):List UInt8:=if b then nmN else nmK
def flF (f:FV):AV:=.agg [.s f.data,.i .i64 f.sure]
def flE (l:List (List UInt8 × FV)):List (AV × AV):=l.map fun p=>(AV.s p.1,flF p.2)
noncomputable def flO (l:List (List UInt8 × FV)):HObj:=.map 9 135 (flE l)
def YL (nm:List UInt8):Option FV->List (List UInt8 × FV)
 | none=>[]
 | some f=>[(nm,f)]
def ents (o:Bool) (d:DV):List (List UInt8 × FV):=if o then YL nmN d.n++YL nmK d.m else YL nmK d.m++YL nmN d.n
noncomputable def zA (B M:Nat) (o:Bool) (d:DV):q7:=[(B,.var QI (.agg [.map (some M),.i .i64 d.left])),(M,flO (ents o d))]
theorem US:¬nmK=nmN:=by decide
theorem UZ:¬nmN=nmK:=by decide
theorem zdI (b:Bool):¬nmB b=[]:=by cases b<;>decide
theorem QC (o b:Bool) (d:DV):yT (.s (nmB b)) (flE (ents o d))=(jO b d).map flF:=by
 obtain⟨m,n,l⟩:=d
 cases o<;>cases b<;>cases m<;>cases n<;>simp[ents,YL,flE,yT,nmB,jO,US,UZ]
theorem XH (o b:Bool) (d:DV) (f:FV):∃o',JL (.s (nmB b)) (flF f) (flE (ents o d))=flE (ents o' (QF b (some f) d)):=by
 obtain⟨m,n,l⟩:=d
 cases o<;>cases b<;>cases m<;>cases n<;>first
  | (refine⟨true,?_⟩;simp[ents,YL,flE,JL,nmB,QF,US,UZ];done)
  | (refine⟨false,?_⟩;simp[ents,YL,flE,JL,nmB,QF,US,UZ];done)
theorem UK (o:Bool) (d:DV):DO (.s nmN) (flE (ents o d))=flE (ents o ⟨d.m,none,d.left⟩):=by
 obtain⟨m,n,l⟩:=d
 cases o<;>cases m<;>cases n<;>simp[ents,YL,flE,DO,US,UZ]
theorem ZX (o:Bool) (d:DV) (c:Int):ents o { d with left:=c }=ents o d:=rfl
theorem yP (l:List (List UInt8 × FV)):(flE l).map (fun p=>(p.1.er,p.2.er))=flE l:=by
 simp only[flE,List.map_map]
 refine List.map_congr_left fun p _=>?_
 simp[flF,AV.er,AV.ers]
@[simp] theorem zsE (l:List (List UInt8 × FV)):(flO l).er=flO l:=by simp only[flO,HObj.er_map,yP]
@[simp] theorem cI (B M:Nat) (o:Bool) (d:DV):(zA B M o d).er=zA B M o d:=by
 simp[zA,q7.er_cons,q7.er_nil,HObj.er_var,AV.erk,AV.erks]
abbrev zt4:Cfg:=⟨fun n=>n==3,fun _=>false⟩
theorem zdr:q6 Tryz.prog 6 [] [] fun r H'=>∃B M,M≠B/\r=.av .ptr (.ptr B QI [])/\H'=zA B M false J0:=by
 refine zov Tryz.func6 zt4 fun imm0 w0=>?_
 simp (disch:=omega) [zz]
 intro M B hB
 simp (disch:=omega) [zz,Tryz.f6]
 exact⟨B,M,fun e=>hB e.symm,rfl,by simp[zA,flO,flE,ents,YL,J0]⟩
def yQ (th:Bool) (b:Bool) (d:DV):Int:=if th=true/\jO b d=none then 10 else if d.left=0 then 18 else 0
def nms (b:Bool) (o:Option Bool):List (List UInt8):=match o with
 | none=>[nmB b]
 | some c=>[nmB b,nmB c]
theorem zpA (b:Bool) (o:Option Bool):¬[]∈nms b o:=by
 cases o with
 | none=>simp[nms,zdI]
 | some c=>simp[nms,zdI]
theorem zjK (B M:Nat) (hBM:M≠B) (o:Bool) (d:DV) (hd:DOK d) (th b:Bool) (c:Option Bool) :
  q6 Tryz.prog 60 [.av .ptr (.ptr B QI []),.av .bool (.b th),.av (.slice 9) (.sl .no (strs (nms b c)))] (zA B M o d) fun r H'=>r=.av (.int .i64) (.i .i64 (yQ th b d))/\H'=zA B M o (if yQ th b d=0 then w5 d else d):=by
 have hBM':¬B=M:=fun e=>hBM e.symm
 have hfd:=QC o b d
 have hnl:=zpA b c
 obtain⟨rs,hrs,hlen⟩:∃rs,nms b c=nmB b::rs/\rs.length<=1:=by
  cases c with
  | none=>exact⟨[],rfl,by simp⟩
  | some c=>exact⟨[nmB c],rfl,by simp⟩
 rw[hrs]at hnl |-
 have hcn:=VE (nmB b::rs) [] (by simp;omega)
 rw[decide_eq_false hnl]at hcn
 have hst:strs (nmB b::rs)=.s (nmB b)::strs rs:=rfl
 rw[hst]at hcn |-
 obtain⟨_,_,hlo,hhi⟩:=hd
 refine zov Tryz.func60 cf0 fun imm0 w0=>?_
 cases hg:jO b d with
 | none =>
  rw[hg]at hfd
  simp only[Option.map_none]at hfd
  simp (disch:=omega) [zz,zA,flO,hBM,hBM',hfd]
  (repeat with_reducible refine om ?_)
  refine zcv hcn ?_
  cases th
  ·by_cases hl0:d.left=0
   ·simp (disch:=omega) [zz,hl0,yQ,Tryz.f60,yP,Tok.k]
   ·have hlt:¬(0:Int)=d.left:=fun e=>hl0 e.symm
    by_cases hp:0<d.left
    ·simp (disch:=omega) [zz,hl0,hp,hBM,hBM',yQ,w5,Tryz.f60,yP,Tok.k,ZX]
    ·simp (disch:=omega) [zz,hl0,hp,hBM,hBM',yQ,w5,Tryz.f60,yP,Tok.k,ZX]
  ·simp (disch:=omega) [zz,Tryz.f60,yQ,hg,yP,Tok.k]
 | some f =>
  rw[hg]at hfd
  simp only[Option.map_some]at hfd
  simp (disch:=omega) [zz,zA,flO,hBM,hBM',hfd,flF]
  (repeat with_reducible refine om ?_)
  refine zcv hcn ?_
  by_cases hl0:d.left=0
  ·cases th
   ·simp (disch:=omega) [zz,hl0,yQ,hg,Tryz.f60,yP,Tok.k]
   ·simp (disch:=omega) [zz,hl0,yQ,hg,Tryz.f60,yP,Tok.k]
  ·by_cases hp:0<d.left
   ·cases th
    ·simp (disch:=omega) [zz,hl0,hp,hBM,hBM',yQ,hg,w5,Tryz.f60,yP,Tok.k,ZX]
    ·simp (disch:=omega) [zz,hl0,hp,hBM,hBM',yQ,hg,w5,Tryz.f60,yP,Tok.k,ZX]
   ·cases th
    ·simp (disch:=omega) [zz,hl0,hp,hBM,hBM',yQ,hg,w5,Tryz.f60,yP,Tok.k,ZX]
    ·simp (disch:=omega) [zz,hl0,hp,hBM,hBM',yQ,hg,w5,Tryz.f60,yP,Tok.k,ZX]
theorem d5 (b:Bool) (d:DV):jO b (w5 d)=jO b d:=by cases b<;>rfl
theorem WB (th b:Bool) (d:DV):(yQ th b d=0/\d.left≠0/\(th=true->jO b d≠none))\/(yQ th b d=10/\th=true/\jO b d=none)\/(yQ th b d=18/\d.left=0/\(th=true->jO b d≠none)):=by
 unfold yQ
 by_cases h:th=true/\jO b d=none
 ·rw[if_pos h];exact .inr (.inl ⟨rfl,h.1,h.2⟩)
 ·rw[if_neg h]
  by_cases hl:d.left=0
  ·rw[if_pos hl];exact .inr (.inr ⟨rfl,hl,fun h1 h2=>h ⟨h1,h2⟩⟩)
  ·rw[if_neg hl];exact .inl ⟨rfl,hl,fun h1 h2=>h ⟨h1,h2⟩⟩
def J2 (B M:Nat) (d:DV) (H:q7):Prop:=∃o,H=zA B M o d
theorem J2.of {B M:Nat} {o:Bool} {d:DV}:J2 B M d (zA B M o d):=⟨o,rfl⟩
theorem J2.ents {B M:Nat} {o:Bool} {d:DV}:J2 B M d [(B,.var QI (.agg [.map (some M),.i .i64 d.left])),(M,.map 9 135 (flE (ents o d)))]:=⟨o,rfl⟩
theorem x5 {s:St} {dst:Option Nat} {K:St->Prop} {args:List TV} (B M:Nat) (hBM:M≠B) (o:Bool) (d:DV) (hd:DOK d) (th b:Bool) (c:Option Bool) (hH:s.H=zA B M o d) (ha:args.all qH=true)
  (hx:q9 (args.map TV.er) [.av .ptr (.ptr B QI []),.av .bool (.b th),.av (.slice 9) (.sl .no (strs (nms b c)))])
  (hk:K (({ s with H:=zA B M o (if yQ th b d=0 then w5 d else d) }:St).put dst (.av (.int .i64) (.i .i64 (yQ th b d))))) :
  kL Tryz.prog s (.av .func (.fn 60 [])) args dst K:=by
 refine qM (zA B M o d) [] (by rw[hH];simp) rfl ha (by simp) (R:=fun r H'=>r=.av (.int .i64) (.i .i64 (yQ th b d))/\H'=zA B M o (if yQ th b d=0 then w5 d else d)) ?_ ?_
 ·rw[cI]
  exact q6.args (zjK B M hBM o d hd th b c) (by simpa using hx)
 rintro r' H' ⟨rfl,rfl⟩ _
 refine⟨_,HSub.refl _,?_⟩
 rw[List.append_nil]
 exact hk
theorem gG (B M:Nat) (hBM:M≠B) (o:Bool) (d:DV) (hd:DOK d) (b:Bool) (x:List UInt8) (hx:szF (jO b d)+x.length<=1000000000000) :
  q6 Tryz.prog 19 [.av .ptr (.ptr B QI []),.av .str (.s (nmB b)),.av .str (.s x)] (zA B M o d) fun r H'=>r=.av (.int .i64) (.i .i64 (qW b x d).2)/\J2 B M (qW b x d).1 H':=by
 have hBM':¬B=M:=fun e=>hBM e.symm
 obtain⟨o',hput⟩:=XH o b (w5 d) (XB x (jO b d))
 have hfd:=QC o b (w5 d)
 rw[d5]at hfd
 refine zov Tryz.func19 cf0 fun imm0 w0=>?_
 simp (disch:=omega) [zz]
 refine x5 B M hBM o d hd false b none (by simp) (by simp[qH]) (by simp[q9,coC,TV.er,AV.er,AV.ers,nms,strs]) ?_
 rcases WB false b d with⟨h1,h2,_⟩|⟨_,h2,_⟩|⟨h1,h2,_⟩
 ·have hap:qW b x d=(QF b (some (XB x (jO b d))) (w5 d),0):=by unfold qW;rw[if_neg h2]
  have hr:=J2.ents (B:=B) (M:=M) (o:=o') (d:=QF b (some (XB x (jO b d))) (w5 d))
  have hlf:(QF b (some (XB x (jO b d))) (w5 d)).left=(w5 d).left:=by cases b<;>rfl
  rw[hlf]at hr
  cases hg:jO b d with
  | none =>
   rw[hg]at hfd hput hx hap hr
   simp only[Option.map_none]at hfd
   simp only[szF,XB,flF]at hput hx hap hr
   rw[show ((0:Nat):Int)=0 from rfl]at hput
   simp (disch:=omega) [zz,h1,zA,flO,hBM,hBM',hfd,hput,hap]
   (repeat with_reducible refine om ?_)
   simp (disch:=omega) [zz,Tryz.f19,yP,hap,hr]
  | some f =>
   rw[hg]at hfd hput hx hap hr
   simp only[Option.map_some,flF]at hfd
   simp only[szF,XB,flF]at hput hx hap hr
   simp (disch:=omega) [zz,h1,zA,flO,hBM,hBM',hfd,hput,hap]
   (repeat with_reducible refine om ?_)
   simp (disch:=omega) [zz,Tryz.f19,yP,hap,hr]
 ·cases h2
 ·have hap:qW b x d=(d,18):=by unfold qW;rw[if_pos h2]
  simp (disch:=omega) [zz,h1,hap,Tryz.f19,J2.of]
theorem zgo (B M:Nat) (hBM:M≠B) (o:Bool) (d:DV) (hd:DOK d) (b:Bool) (hx:szF (jO b d)<=1000000000000) :
  q6 Tryz.prog 95 [.av .ptr (.ptr B QI []),.av .str (.s (nmB b))] (zA B M o d) fun r H'=>r=.av (.int .i64) (.i .i64 (jE b d).2)/\J2 B M (jE b d).1 H':=by
 have hBM':¬B=M:=fun e=>hBM e.symm
 have hfd:=QC o b (w5 d)
 rw[d5]at hfd
 refine zov Tryz.func95 cf0 fun imm0 w0=>?_
 simp (disch:=omega) [zz]
 refine x5 B M hBM o d hd true b none (by simp) (by simp[qH]) (by simp[q9,coC,TV.er,AV.er,AV.ers,nms,strs]) ?_
 rcases WB true b d with⟨h1,h2,h3⟩|⟨h1,_,h3⟩|⟨h1,h2,h3⟩
 ·cases hg:jO b d with
  | none=>exact absurd hg (h3 rfl)
  | some f =>
   have hap:jE b d=(QF b (some ⟨f.data,f.data.length⟩) (w5 d),0):=by unfold jE;rw[hg];simp only;rw[if_neg h2]
   obtain⟨o',hput⟩:=XH o b (w5 d) ⟨f.data,f.data.length⟩
   have hr:=J2.ents (B:=B) (M:=M) (o:=o') (d:=QF b (some ⟨f.data,f.data.length⟩) (w5 d))
   have hlf:(QF b (some ⟨f.data,f.data.length⟩) (w5 d)).left=(w5 d).left:=by cases b<;>rfl
   rw[hlf]at hr
   rw[hg]at hfd hx
   simp only[Option.map_some,flF]at hfd
   simp only[szF,flF]at hput hx
   simp (disch:=omega) [zz,h1,zA,flO,hBM,hBM',hfd,hput,hap]
   (repeat with_reducible refine om ?_)
   simp (disch:=omega) [zz,Tryz.f95,yP,hap,hr]
 ·have hap:jE b d=(d,10):=by unfold jE;rw[h3]
  simp (disch:=omega) [zz,h1,hap,Tryz.f95,J2.of]
 ·cases hg:jO b d with
  | none=>exact absurd hg (h3 rfl)
  | some f =>
   have hap:jE b d=(d,18):=by unfold jE;rw[hg];simp only;rw[if_pos h2]
   simp (disch:=omega) [zz,h1,hap,Tryz.f95,J2.of]
theorem zh4 (B M:Nat) (hBM:M≠B) (o:Bool) (d:DV) (hd:DOK d) :
  q6 Tryz.prog 124 [.av .ptr (.ptr B QI []),.av .str (.s nmN)] (zA B M o d) fun r H'=>r=.av (.int .i64) (.i .i64 (jN d).2)/\J2 B M (jN d).1 H':=by
 have hBM':¬B=M:=fun e=>hBM e.symm
 have uY:=UK o (w5 d)
 have hr:=J2.ents (B:=B) (M:=M) (o:=o) (d:=⟨d.m,none,(w5 d).left⟩)
 refine zov Tryz.func124 cf0 fun imm0 w0=>?_
 simp (disch:=omega) [zz]
 refine x5 B M hBM o d hd true true none (by simp) (by simp[qH]) (by simp[q9,coC,TV.er,AV.er,AV.ers,nms,strs,nmB]) ?_
 rcases WB true true d with⟨h1,h2,h3⟩|⟨h1,_,h3⟩|⟨h1,h2,h3⟩
 ·have hap:jN d=(⟨d.m,none,(w5 d).left⟩,0):=by
   unfold jN
   cases hn:d.n with
   | none=>exact absurd hn (h3 rfl)
   | some f=>simp only;rw[if_neg h2]
  simp only[zru]at uY
  simp (disch:=omega) [zz,h1,zA,flO,hBM,hBM',uY,hap,Tryz.f124,yP,hr]
 ·have hap:jN d=(d,10):=by unfold jN;rw[show d.n=none from h3]
  simp (disch:=omega) [zz,h1,hap,Tryz.f124,J2.of]
 ·have hap:jN d=(d,18):=by
   unfold jN
   cases hn:d.n with
   | none=>exact absurd hn (h3 rfl)
   | some f=>simp only;rw[if_pos h2]
  simp (disch:=omega) [zz,h1,hap,Tryz.f124,J2.of]
theorem zgY (B M:Nat) (hBM:M≠B) (o:Bool) (d:DV) (hd:DOK d) :
  q6 Tryz.prog 129 [.av .ptr (.ptr B QI []),.av .str (.s nmN),.av .str (.s nmK)] (zA B M o d) fun r H'=>r=.av (.int .i64) (.i .i64 (jL d).2)/\J2 B M (jL d).1 H':=by
 have hBM':¬B=M:=fun e=>hBM e.symm
 have hfd:=QC o true (w5 d)
 rw[d5]at hfd
 refine zov Tryz.func129 cf0 fun imm0 w0=>?_
 simp (disch:=omega) [zz]
 refine x5 B M hBM o d hd true true (some false) (by simp) (by simp[qH]) (by simp[q9,coC,TV.er,AV.er,AV.ers,nms,strs,nmB]) ?_
 rcases WB true true d with⟨h1,h2,h3⟩|⟨h1,_,h3⟩|⟨h1,h2,h3⟩
 ·cases hn:d.n with
  | none=>exact absurd hn (h3 rfl)
  | some f =>
   have hap:jL d=(⟨some f,none,(w5 d).left⟩,0):=by
    unfold jL;rw[hn];simp only;rw[if_neg h2]
   have hg:jO true d=some f:=hn
   rw[hg]at hfd
   obtain⟨o',hput⟩:=XH o false (w5 d) f
   have uY:=UK o' (QF false (some f) (w5 d))
   have hr:=J2.ents (B:=B) (M:=M) (o:=o') (d:=⟨some f,none,(w5 d).left⟩)
   simp only[Option.map_some,flF,nmB,if_true,Bool.false_eq_true,if_false]at hfd hput
   simp only[QF,Bool.false_eq_true,if_false]at uY hput
   simp (disch:=omega) [zz,h1,zA,flO,hBM,hBM',hfd,hput,hap,UZ]
   (repeat with_reducible refine om ?_)
   simp (disch:=omega) [zz,Tryz.f129,uY,yP,hap,hr,hBM,hBM']
 ·have hap:jL d=(d,10):=by unfold jL;rw[show d.n=none from h3]
  simp (disch:=omega) [zz,h1,hap,Tryz.f129,J2.of]
 ·have hap:jL d=(d,18):=by
   unfold jL
   cases hn:d.n with
   | none=>exact absurd hn (h3 rfl)
   | some f=>simp only;rw[if_pos h2]
  simp (disch:=omega) [zz,h1,hap,Tryz.f129,J2.of]
theorem zeO (B M:Nat) (hBM:M≠B) (o b:Bool) (d:DV) :
  q6 Tryz.prog 38 [.av .ptr (.ptr B QI []),.av .str (.s (nmB b))] (zA B M o d) fun r H'=>r=.tup [(.str,.s (JW (jO b d))),(.int .i64,.i .i64 (if jO b d=none then 10 else 0))]/\H'=zA B M o d:=by
 have hBM':¬B=M:=fun e=>hBM e.symm
 have hfd:=QC o b d
 refine zov Tryz.func38 cf0 fun imm0 w0=>?_
 cases hg:jO b d with
 | none =>
  rw[hg]at hfd
  simp only[Option.map_none]at hfd
  simp (disch:=omega) [zz,zA,flO,hBM,hBM',hfd,Tryz.f38,yP,JW]
 | some f =>
  rw[hg]at hfd
  simp only[Option.map_some,flF]at hfd
  simp (disch:=omega) [zz,zA,flO,hBM,hBM',hfd,Tryz.f38,yP,JW]
theorem zaW (B M:Nat) (hBM:M≠B) (o:Bool) (d:DV) (n:Int) :
  q6 Tryz.prog 17 [.av .ptr (.ptr B QI []),.av (.int .i64) (.i .i64 n)] (zA B M o d) fun r H'=>r=.tup []/\H'=zA B M o (ZH n d):=by
 have hBM':¬B=M:=fun e=>hBM e.symm
 refine zov Tryz.func17 cf0 fun imm0 w0=>?_
 by_cases h:n < -1
 ·have e:max n (-1)=-1:=by omega
  simp (disch:=omega) [zz,zA,flO,hBM,hBM',Tryz.f17,yP,ZH,h,ZX,e]
 ·have e:max n (-1)=n:=by omega
  simp (disch:=omega) [zz,zA,flO,hBM,hBM',Tryz.f17,yP,ZH,h,ZX,e]
end
end Go.Proofs.YtognnffjdckalaaGreatDoor
