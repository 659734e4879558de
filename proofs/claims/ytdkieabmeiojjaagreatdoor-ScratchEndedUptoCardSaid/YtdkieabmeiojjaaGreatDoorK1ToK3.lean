/- The words of a line: the library. No condition. -/
import Derived.Test.YtdkieabmeiojjaaGreatDoorP8ToK0
set_option linter.unusedSimpArgs false
set_option linter.unusedVariables false
set_option linter.unusedSectionVars false
set_option maxHeartbeats 64000000
set_option maxRecDepth 100000
namespace Go.Proofs.YtdkieabmeiojjaaGreatDoor
open Go Go.Ab
open Classical
section
variable [Sel]
def zez (p:Nat × Nat):AV:=.agg [.i .i64 p.1,.i .i64 p.2]
def sps (l:List (Nat × Nat)):List AV:=l.map zez
theorem zhe (a b:List (Nat × Nat)):sps (a++b)=sps a++sps b:=by simp[sps]
theorem yS (a:List (Nat × Nat)):(sps a).length=a.length:=by simp[sps]
def XL (l:List UInt8) (p:Nat × Nat):List UInt8:=(l.drop p.1).take (p.2-p.1)
structure uI (l:List UInt8) (k:Nat) (sp:List (Nat × Nat)) (st:Int):Prop where
 le:k<=l.length
 few:sp.length<=k
 ins:∀p∈sp,p.1<=p.2/\p.2<=l.length
 no:st<0->zG l=sp.map (XL l)++jY [] (l.drop k)
 yes:∀i:Nat,st=i->i<k/\zG l=sp.map (XL l)++jY (XL l (i,k)) (l.drop k)
theorem uI.start (l:List UInt8):uI l 0 [] (-1):=⟨by omega,by simp,by simp,fun _=>by simp[zG],fun i h=>by omega⟩
theorem ziY {l:List UInt8} {k:Nat} {b:UInt8} (h:l[k]?=some b):l.drop k=b::l.drop (k+1):=by
 obtain⟨hk,rfl⟩:=List.getElem?_eq_some_iff.1 h
 exact List.drop_eq_getElem_cons hk
theorem zhf {l:List UInt8} {i k:Nat} (h:i<k) (hk:k<=l.length):XL l (i,k)≠[]:=by
 intro e
 have:=congrArg List.length e
 simp[XL]at this
 omega
theorem uI.sepYes {l:List UInt8} {k i:Nat} {sp:List (Nat × Nat)} {b:UInt8} (h:uI l k sp i) (hb:l[k]?=some b) (hs:gN b=true):uI l (k+1) (sp++[(i,k)]) (-(i:Int)-1):=by
 obtain⟨h1,h2⟩:=h.yes i rfl
 have hk:=(List.getElem?_eq_some_iff.1 hb).1
 have hf:=h.few
 refine⟨by omega,by simp;omega,fun p hp=>?_,fun _=>?_,fun j hj=>by omega⟩
 ·rcases List.mem_append.1 hp with hp|hp
  ·exact h.ins p hp
  ·simp only[List.mem_singleton]at hp;subst hp;exact⟨by simp only;omega,by simp only;omega⟩
 ·rw[h2,ziY hb,jY,if_pos hs,if_neg (zhf h1 (by omega))]
  simp
theorem uI.sepNo {l:List UInt8} {k:Nat} {sp:List (Nat × Nat)} {b:UInt8} {st:Int} (h:uI l k sp st) (h0:st<0) (hb:l[k]?=some b) (hs:gN b=true):uI l (k+1) sp st:=by
 have hk:=(List.getElem?_eq_some_iff.1 hb).1
 have hf:=h.few
 refine⟨by omega,by omega,h.ins,fun _=>?_,fun j hj=>by omega⟩
 rw[h.no h0,ziY hb,jY,if_pos hs,if_pos rfl]
theorem zhg {l:List UInt8} {i k w:Nat} (h:i<=k):XL l (i,k)++(l.drop k).take w=XL l (i,k+w):=by
 unfold XL
 simp only
 rw[show k+w-i=(k-i)+w by omega,List.take_add,List.drop_drop,show i+(k-i)=k by omega]
theorem uI.run {l:List UInt8} {k w:Nat} {sp:List (Nat × Nat)} {st:Int} (h:uI l k sp st) (hw:1<=w) (hk:k+w<=l.length) (hs:∀c∈(l.drop k).take w,gN c=false):uI l (k+w) sp (if st<0 then(k:Int) else st):=by
 have hf:=h.few
 have hd:l.drop k=(l.drop k).take w++l.drop (k+w):=by
  conv=>lhs;rw[<-List.take_append_drop w (l.drop k)]
  rw[List.drop_drop]
 refine⟨hk,by omega,h.ins,fun h0=>?_,fun i hi=>?_⟩
 ·split at h0<;>omega
 ·by_cases h0:st<0
  ·rw[if_pos h0]at hi
   have hik:i=k:=by omega
   subst hik
   refine⟨by omega,?_⟩
   rw[h.no h0,hd,vO _ hs]
   have:=zhg (l:=l) (i:=i) (k:=i) (w:=w) (Nat.le_refl _)
   have e:XL l (i,i)=[]:=by simp[XL]
   rw[e]at this
   rw[<-this]
  ·rw[if_neg h0]at hi
   obtain⟨h1,h2⟩:=h.yes i hi
   refine⟨by omega,?_⟩
   rw[h2,hd,vO _ hs,zhg (by omega)]
theorem uI.endNo {l:List UInt8} {sp:List (Nat × Nat)} {st:Int} (h:uI l l.length sp st) (h0:st<0):zG l=sp.map (XL l):=by
 rw[h.no h0];simp[jY]
theorem uI.endYes {l:List UInt8} {sp:List (Nat × Nat)} {i:Nat} (h:uI l l.length sp i):zG l=(sp++[(i,l.length)]).map (XL l)/\i<l.length:=by
 obtain⟨h1,h2⟩:=h.yes i rfl
 refine⟨?_,h1⟩
 rw[h2]
 simp only[List.drop_length,jY]
 rw[if_neg (zhf h1 (Nat.le_refl _))]
 simp
theorem zmF {i:Nat} (h:i<9223372036854775808):IntKind.i64.wrap (((((if IntKind.i64.signed=true then -1 else 9223372036854775807):Int) % 2 ^ IntKind.i64.bits).toNat ^^^ i % 2 ^ IntKind.i64.bits:Nat):Int)=-(i:Int)-1:=by
 have e:(((if IntKind.i64.signed=true then -1 else 9223372036854775807):Int) % 2 ^ IntKind.i64.bits).toNat=18446744073709551615:=by rfl
 have e2:i % 2 ^ IntKind.i64.bits=i:=Nat.mod_eq_of_lt (by show i<2 ^ 64;omega)
 rw[e,e2]
 have h1:(BitVec.allOnes 64 ^^^ BitVec.ofNat 64 i).toNat=18446744073709551615-i:=by
  rw[BitVec.xor_comm,BitVec.xor_allOnes,BitVec.toNat_not,BitVec.toNat_ofNat,Nat.mod_eq_of_lt (by omega)]
 have h2:(BitVec.allOnes 64 ^^^ BitVec.ofNat 64 i).toNat=18446744073709551615 ^^^ i:=by
  rw[BitVec.toNat_xor,BitVec.toNat_allOnes,BitVec.toNat_ofNat,Nat.mod_eq_of_lt (by omega)]
 rw[<-h2,h1]
 unfold IntKind.wrap
 simp[IntKind.bits,IntKind.signed]
 omega
abbrev spO (cap:Nat) (sp:List (Nat × Nat)) (j:List AV):HObj:=.var (.arr cap 262) (.agg (sps sp++j))
abbrev zlv:Cfg:=⟨fun _=>false,fun _=>false⟩
theorem uX (ws:List (List UInt8)) (x:Nat) (h:x<ws.length):(strs (ws.take x++List.replicate (ws.length-x) [])).set x (.s ws[x])=strs (ws.take (x+1)++List.replicate (ws.length-(x+1)) []):=by
 have e:ws.length-x=(ws.length-(x+1))+1:=by omega
 rw[e,List.replicate_succ,xC,List.set_append_right _ _ (by simp[strs];omega)]
 have:x-(strs (ws.take x)).length=0:=by simp[strs];omega
 rw[this,List.take_succ_eq_append_getElem h,List.append_assoc,xC]
 simp[strs]
theorem zaE (l:List UInt8) (hl:l.length<=1000000) :
  q7 Tryz.prog 191 [.av .str (.s l),.av .func (.fn 192 [])] [] fun r H'=>∃b cap,r=.av (.slice 9) (.msl b 9 0 (zG l).length cap)/\H'=[(b,.var (.arr cap 9) (.agg (strs (zG l))))]/\cap=(zG l).length:=by
 refine q7.sub (R:=fun r H'=>∃b cap H2,r=.av (.slice 9) (.msl b 9 0 (zG l).length cap)/\H2=[(b,.var (.arr cap 9) (.agg (strs (zG l))))]/\cap=(zG l).length/\Ab.HSub H2 H') ?_ fun r H' ⟨b,cap,H2,h1,h2,h3,h4⟩ _=>⟨H2,h4,b,cap,h1,h2,h3⟩
 refine zov Tryz.func191 zlv fun imm0 w0=>?_
 simp (disch:=omega) [zz]
 intro b0
 intro bi hbi
 have hbi':¬b0=bi:=fun e=>hbi e.symm
 refine AT.loopV (α:=Nat × Nat × Nat × List (Nat × Nat) × List AV × Int) (fun x ver=>St.of [(0,.av .str (.s l)),(1,.av .func (.fn 192 [])),(5,.av (.slice 262) (.msl x.2.1 262 0 x.2.2.2.1.length x.2.2.1)),(6,.av (.int .i64) (.i .i64 x.2.2.2.2.2)),(14,.av .ptr (.ptr bi .other []))] [] ver [(x.2.1,spO x.2.2.1 x.2.2.2.1 x.2.2.2.2.1),(bi,.siter l x.1)])
  (fun x=>uI l x.1 x.2.2.2.1 x.2.2.2.2.2/\JK x.2.2.2.2.1/\x.2.2.2.1.length+x.2.2.2.2.1.length=x.2.2.1/\x.2.1≠bi) (fun x=>l.length-x.1) (0,b0,32,[],List.replicate 32 (.agg [.i .i64 0,.i .i64 0]),-1) ?_ ?_ ?_
 ·refine Le.ofP ?_ ?_ ?_ ?_ (HSub.of_perm (List.Perm.swap _ _ _))<;>simp[zR,qI,sps]<;>try omega
 ·exact⟨uI.start l,JK.rep rfl 32,by simp,hbi'⟩
 rintro⟨k,b,cap,sp,j,st⟩ ver ⟨hinv,hj,hcap,hb⟩ KL hN hE
 simp only at hinv hj hcap hb hN
 have hb':¬bi=b:=fun e=>hb e.symm
 refine zrd zlv ?_
 by_cases hlt:k<l.length
 ·obtain⟨c,hc⟩:∃c,l[k]?=some c:=⟨_,List.getElem?_eq_getElem hlt⟩
  obtain⟨r,w,hr⟩:∃r w,Z7 l k=(r,w):=⟨_,_,rfl⟩
  have hrw:r<=1114111/\1<=w/\k+w<=l.length/\(CW r=true->w=1/\gN c=true)/\(CW r=false->∀y∈(l.drop k).take w,gN y=false):=by
   by_cases h8:c.toNat<128
   ·rw[V6 hc h8]at hr
    cases hr
    rw[zjQ]
    refine⟨by omega,by omega,by omega,fun h=>⟨rfl,h⟩,fun h y hy=>?_⟩
    rw[ziY hc]at hy
    simp at hy
    rw[hy];exact h
   ·have h1:=zdz hc h8
    have h2:=zhP hc h8
    rw[hr]at h1 h2
    refine⟨h1.2,h2.1,h2.2.1,fun h=>?_,fun _ y hy=>?_⟩
    ·have:=h1.1
     unfold CW at h
     simp at h
     omega
    ·have:=h2.2.2 y hy
     rw[<-zjQ]
     unfold CW
     simp
     omega
  obtain⟨hr1,hw1,hkw,hsy,hsn⟩:=hrw
  simp (disch:=omega) [zz,hlt,hr,hb,hb']
  refine zcv (zmL r hr1) ?_
  cases hs:CW r
  ·have hrun:=hinv.run hw1 hkw (hsn hs)
   by_cases h0:st<0
   ·rw[if_pos h0]at hrun
    simp (disch:=omega) [zz,hs,h0]
    refine hN _ (k+w,b,cap,sp,j,(k:Int)) ?_ ⟨hrun,hj,hcap,hb⟩ (by simp only;omega)
    apply Le.of<;>simp[le9,sps]<;>try omega
   ·rw[if_neg h0]at hrun
    simp (disch:=omega) [zz,hs,h0]
    refine hN _ (k+w,b,cap,sp,j,st) ?_ ⟨hrun,hj,hcap,hb⟩ (by simp only;omega)
    apply Le.of<;>simp[le9,sps]<;>try omega
  ·obtain⟨rfl,hsc⟩:=hsy hs
   by_cases h0:st<0
   ·have h0':¬0<=st:=by omega
    simp (disch:=omega) [zz,hs,h0,h0']
    refine hN _ (k+1,b,cap,sp,j,st) ?_ ⟨hinv.sepNo h0 hc hsc,hj,hcap,hb⟩ (by simp only;omega)
    apply Le.of<;>simp[le9,sps]<;>try omega
   ·obtain⟨i,rfl⟩:∃i:Nat,st=i:=⟨st.toNat,by omega⟩
    have h0':(0:Int)<=i:=by omega
    have hnx:=hinv.sepYes hc hsc
    have hf:=hinv.few
    have e1:(sps sp++j).take sp.length=sps sp:=by rw[List.take_append_of_le_length (by simp[yS])];exact List.take_of_length_le (by simp[yS])
    have e2:(sps sp++j).drop (sp.length+1)=j.drop 1:=by
     rw[List.drop_append,List.drop_of_length_le (by simp[yS])];simp[yS]
    have e3:sps (sp++[(i,k)])=sps sp++[.agg [.i .i64 i,.i .i64 k]]:=by rw[zhe];rfl
    have hx:=zmF (i:=i) (by have:=(hinv.yes i rfl).1;omega)
    simp (disch:=omega) [zz,hs,h0',hb,hb',e1,e2,yS]
    refine⟨by omega,⟨by omega,by omega⟩,fun hcp=>?_,fun hcp b' cap' hb1 hb2 hcp'=>?_⟩
    ·refine hN _ (k+1,b,cap,sp++[(i,k)],j.drop 1,-(i:Int)-1) ?_ ⟨hnx,hj.drop 1,by simp;omega,hb⟩ (by simp only;omega)
     apply Le.of<;>simp[le9,e3,hx,yS,spO]<;>try omega
    ·have hb1':¬b=b':=fun e=>hb1 e.symm
     refine hN _ (k+1,b',cap',sp++[(i,k)],List.replicate (cap'-(sp.length+1)) (.agg [.i .i64 0,.i .i64 0]),-(i:Int)-1) ?_ ⟨hnx,JK.rep rfl _,by simp at hcp' |-;omega,hb2⟩ (by simp only;omega)
     apply Le.of<;>simp[le9,e3,hx,yS,spO]<;>try omega
 have hkl:k=l.length:=by have:=hinv.le;omega
 subst hkl
 simp (disch:=omega) [zz,hlt,hb,hb']
 refine hE _ _ (by simp) ?_
 clear hN hE
 by_cases h0:st<0
 ·have h0':¬0<=st:=by omega
  have hW:=hinv.endNo h0
  have hins:=hinv.ins
  have hf:=hinv.few
  simp (disch:=omega) [zz,h0',hb,hb']
  obtain⟨ws,hws⟩:∃ws,ws=zG l:=⟨_,rfl⟩
  rw[<-hws]at hW |-
  have hwl:ws.length=(sp).length:=by rw[hW,List.length_map]
  refine⟨by omega,by omega,?_⟩
  intro b9 h91 h92
  have h91':¬b=b9:=fun e=>h91 e.symm
  have h92':¬bi=b9:=fun e=>h92 e.symm
  refine AT.loopV (α:=Nat) (fun x ver=>St.of [(0,.av .str (.s l)),(9,.av (.slice 9) (.msl b9 9 0 ws.length ws.length)),(47,.av (.slice 262) (.msl b 262 0 (sp).length cap)),(48,.av (.int .i64) (.i .i64 ws.length)),(49,.av (.int .i64) (.i .i64 x))] [] ver [(b9,.var (.arr ws.length 9) (.agg (strs (ws.take x++List.replicate (ws.length-x) [])))),(b,spO cap (sp) j),(bi,.siter l l.length)])
   (fun x=>x<=ws.length) (fun x=>ws.length-x) 0 ?_ ?_ ?_
  ·apply Le.of<;>simp[le9,uY,hwl,spO]<;>try omega
  ·simp
  rintro x ver2 hx KL2 hN2 hE2
  refine zrd zlv ?_
  by_cases hxl:x<ws.length
  ·have hxl':(x:Int)<ws.length:=by omega
   have hxs:x<(sp).length:=by omega
   have hxs':(x:Int)<(sp).length:=by omega
   obtain⟨pr,hpr⟩:∃pr,(sp)[x]=pr:=⟨_,rfl⟩
   obtain⟨pa,pb⟩:=pr
   have hgx:(sps (sp)++j)[x]?=some (.agg [.i .i64 pa,.i .i64 pb]):=by
    rw[List.getElem?_append_left (by simpa[yS]using hxs)]
    simp[sps,List.getElem?_eq_getElem hxs,hpr,zez]
   have hin:=hins _ (hpr▸List.getElem_mem hxs)
   simp only at hin
   have hpa:(pa:Int)<=pb:=by omega
   have hpb:(pb:Int)<=l.length:=by omega
   have hwx:(l.take pb).drop pa=ws[x]:=by
    have:ws[x]=XL l (sp)[x]:=by simp[hW]
    rw[this,hpr,XL,List.drop_take]
   have j9:=uX ws x hxl
   rw[<-hwx]at j9
   simp (disch:=omega) [zz,hxs,hxs',hxl,hxl',hgx,hb,hb',h91,h92,h91',h92',hpa,hpb,j9]
   refine hN2 _ (x+1) ?_ (by omega) (by omega)
   apply Le.of<;>simp[le9,spO]<;>try omega
  ·have hxl':¬(x:Int)<ws.length:=by omega
   have hxw:x=ws.length:=by omega
   subst hxw
   simp (disch:=omega) [zz,hxl']
   refine hE2 _ _ (by simp) ?_
   simp (disch:=omega) [zz,Tryz.f191]
   exact⟨b9,_,⟨rfl,rfl⟩,rfl,HSub.of_sub (((List.nil_sublist _)).cons_cons _)⟩
 ·obtain⟨i,rfl⟩:∃i:Nat,st=i:=⟨st.toNat,by omega⟩
  have h0':(0:Int)<=i:=by omega
  obtain⟨hW,hil⟩:=hinv.endYes
  have hf:=hinv.few
  have hins:∀p∈sp++[(i,l.length)],p.1<=p.2/\p.2<=l.length:=fun p hp=>by
   rcases List.mem_append.1 hp with hp|hp
   ·exact hinv.ins p hp
   ·simp only[List.mem_singleton]at hp;subst hp;exact⟨by simp only;omega,by simp only;omega⟩
  obtain⟨spn,hspn⟩:∃spn,spn=sp++[(i,l.length)]:=⟨_,rfl⟩
  have hsl:sp.length+1=spn.length:=by rw[hspn];simp
  have e1:(sps sp++j).take sp.length=sps sp:=by rw[List.take_append_of_le_length (by simp[yS])];exact List.take_of_length_le (by simp[yS])
  have e2:(sps sp++j).drop (sp.length+1)=j.drop 1:=by
   rw[List.drop_append,List.drop_of_length_le (by simp[yS])];simp[yS]
  rw[hsl]at e2
  have e3:∀j',sps sp++.agg [.i .i64 i,.i .i64 l.length]::j'=sps spn++j':=fun j'=>by rw[hspn,zhe];simp[sps,zez]
  rw[<-hspn]at hW hins
  simp (disch:=omega) [zz,h0',hb,hb',e1,e2,e3,yS,hsl]
  refine⟨by omega,⟨by omega,by omega⟩,fun hcp=>?_,fun hcp b' cap' hb1 hb2 hcp'=>?_⟩
  ·obtain⟨ws,hws⟩:∃ws,ws=zG l:=⟨_,rfl⟩
   rw[<-hws]at hW |-
   have hwl:ws.length=(spn).length:=by rw[hW,List.length_map]
   refine⟨by omega,by omega,?_⟩
   intro b9 h91 h92
   have h91':¬b=b9:=fun e=>h91 e.symm
   have h92':¬bi=b9:=fun e=>h92 e.symm
   refine AT.loopV (α:=Nat) (fun x ver=>St.of [(0,.av .str (.s l)),(9,.av (.slice 9) (.msl b9 9 0 ws.length ws.length)),(47,.av (.slice 262) (.msl b 262 0 (spn).length cap)),(48,.av (.int .i64) (.i .i64 ws.length)),(49,.av (.int .i64) (.i .i64 x))] [] ver [(b9,.var (.arr ws.length 9) (.agg (strs (ws.take x++List.replicate (ws.length-x) [])))),(b,spO cap (spn) j.tail),(bi,.siter l l.length)])
    (fun x=>x<=ws.length) (fun x=>ws.length-x) 0 ?_ ?_ ?_
   ·apply Le.of<;>simp[le9,uY,hwl,spO]<;>try omega
   ·simp
   rintro x ver2 hx KL2 hN2 hE2
   refine zrd zlv ?_
   by_cases hxl:x<ws.length
   ·have hxl':(x:Int)<ws.length:=by omega
    have hxs:x<(spn).length:=by omega
    have hxs':(x:Int)<(spn).length:=by omega
    obtain⟨pr,hpr⟩:∃pr,(spn)[x]=pr:=⟨_,rfl⟩
    obtain⟨pa,pb⟩:=pr
    have hgx:(sps (spn)++j.tail)[x]?=some (.agg [.i .i64 pa,.i .i64 pb]):=by
     rw[List.getElem?_append_left (by simpa[yS]using hxs)]
     simp[sps,List.getElem?_eq_getElem hxs,hpr,zez]
    have hin:=hins _ (hpr▸List.getElem_mem hxs)
    simp only at hin
    have hpa:(pa:Int)<=pb:=by omega
    have hpb:(pb:Int)<=l.length:=by omega
    have hwx:(l.take pb).drop pa=ws[x]:=by
     have:ws[x]=XL l (spn)[x]:=by simp[hW]
     rw[this,hpr,XL,List.drop_take]
    have j9:=uX ws x hxl
    rw[<-hwx]at j9
    simp (disch:=omega) [zz,hxs,hxs',hxl,hxl',hgx,hb,hb',h91,h92,h91',h92',hpa,hpb,j9]
    refine hN2 _ (x+1) ?_ (by omega) (by omega)
    apply Le.of<;>simp[le9,spO]<;>try omega
   ·have hxl':¬(x:Int)<ws.length:=by omega
    have hxw:x=ws.length:=by omega
    subst hxw
    simp (disch:=omega) [zz,hxl']
    refine hE2 _ _ (by simp) ?_
    simp (disch:=omega) [zz,Tryz.f191]
    exact⟨b9,_,⟨rfl,rfl⟩,rfl,HSub.of_sub (((List.nil_sublist _)).cons_cons _)⟩
  ·have hb2':¬bi=b':=fun e=>hb2 e.symm
   obtain⟨jz,hjz⟩:∃jz,jz=List.replicate (cap'-spn.length) (.agg [.i .i64 0,.i .i64 0]:AV):=⟨_,rfl⟩
   try rw[<-hjz]
   obtain⟨ws,hws⟩:∃ws,ws=zG l:=⟨_,rfl⟩
   rw[<-hws]at hW |-
   have hwl:ws.length=(spn).length:=by rw[hW,List.length_map]
   refine⟨by omega,by omega,?_⟩
   intro b9 h91 h93 h92
   have h91':¬b'=b9:=fun e=>h91 e.symm
   have h92':¬bi=b9:=fun e=>h92 e.symm
   refine AT.loopV (α:=Nat) (fun x ver=>St.of [(0,.av .str (.s l)),(9,.av (.slice 9) (.msl b9 9 0 ws.length ws.length)),(47,.av (.slice 262) (.msl b' 262 0 (spn).length cap')),(48,.av (.int .i64) (.i .i64 ws.length)),(49,.av (.int .i64) (.i .i64 x))] [] ver [(b9,.var (.arr ws.length 9) (.agg (strs (ws.take x++List.replicate (ws.length-x) [])))),(b',spO cap' (spn) jz),(bi,.siter l l.length)])
    (fun x=>x<=ws.length) (fun x=>ws.length-x) 0 ?_ ?_ ?_
   ·apply Le.of<;>simp[le9,uY,hwl,spO,hjz]<;>try omega
   ·simp
   rintro x ver2 hx KL2 hN2 hE2
   refine zrd zlv ?_
   by_cases hxl:x<ws.length
   ·have hxl':(x:Int)<ws.length:=by omega
    have hxs:x<(spn).length:=by omega
    have hxs':(x:Int)<(spn).length:=by omega
    obtain⟨pr,hpr⟩:∃pr,(spn)[x]=pr:=⟨_,rfl⟩
    obtain⟨pa,pb⟩:=pr
    have hgx:(sps (spn)++jz)[x]?=some (.agg [.i .i64 pa,.i .i64 pb]):=by
     rw[List.getElem?_append_left (by simpa[yS]using hxs)]
     simp[sps,List.getElem?_eq_getElem hxs,hpr,zez]
    have hin:=hins _ (hpr▸List.getElem_mem hxs)
    simp only at hin
    have hpa:(pa:Int)<=pb:=by omega
    have hpb:(pb:Int)<=l.length:=by omega
    have hwx:(l.take pb).drop pa=ws[x]:=by
     have:ws[x]=XL l (spn)[x]:=by simp[hW]
     rw[this,hpr,XL,List.drop_take]
    have j9:=uX ws x hxl
    rw[<-hwx]at j9
    simp (disch:=omega) [zz,hxs,hxs',hxl,hxl',hgx,hb,hb',h91,h92,h91',h92',hpa,hpb,j9]
    refine hN2 _ (x+1) ?_ (by omega) (by omega)
    apply Le.of<;>simp[le9,spO]<;>try omega
   ·have hxl':¬(x:Int)<ws.length:=by omega
    have hxw:x=ws.length:=by omega
    subst hxw
    simp (disch:=omega) [zz,hxl']
    refine hE2 _ _ (by simp) ?_
    simp (disch:=omega) [zz,Tryz.f191]
    exact⟨b9,_,⟨rfl,rfl⟩,rfl,HSub.of_sub (((List.nil_sublist _)).cons_cons _)⟩
theorem ze6 (s:ByteArray) (c:UInt8) (w:World) :
  Calls Tryz.prog 185 #[.string s,.string ⟨#[c]⟩] w fun e w'=>e=.returned (.int .i64 (Lib.countByte s.data.toList c:Nat))/\w'=w:=by
 go_enter Tryz.func185,Tryz.ntmps185
 go_wp2
 rw[run_callFunc_extern Tryz.func207 (by kernel_rfl) (by kernel_rfl) (by kernel_rfl) (e:=Extern.BytealgCount.count) (by kernel_rfl),Lib.run_countString]
 simp only[Result.andThen]
 rw[Oper.upon_value]
 go_wp2
 go_ret
 exact⟨rfl,rfl⟩
theorem zkK (l:List UInt8) (c:UInt8):PC Tryz.prog 185 [.av .str (.s l),.av .str (.s [c])] (.av (.int .i64) (.i .i64 (Lib.countByte l c:Nat))):=by
 refine PC.of_calls (vs0:=[.string ⟨l.toArray⟩,.string ⟨#[c]⟩]) (v:=.int .i64 (Lib.countByte l c:Nat)) ?_ (fun _ _=>⟨rfl,rfl,rfl⟩) ?_
 ·intro imm w vs h
  match vs,h with
  | [a,b],⟨⟨f1,_,h1⟩,⟨f2,_,h2⟩,_⟩ =>
   rw[qF rfl f1]at h1
   rw[qF rfl f2]at h2
   simp at h1 h2
   rw[h1,h2]
 ·intro w
  have:=ze6 ⟨l.toArray⟩ c w
  simpa using this
theorem xW (c:UInt8):∀l,(qK c l).length=Lib.countByte l c+1
 | []=>rfl
 | b::l=>by
  have ih:=xW c l
  rw[qK]
  unfold Lib.countByte at ih |-
  by_cases h:b=c
  ·rw[if_pos h,List.length_cons,ih,h,List.count_cons_self]
  ·rw[if_neg h,List.count_cons_of_ne (by simpa using h)]
   cases hs:qK c l with
   | nil=>exact absurd hs (xG c l)
   | cons x r=>rw[hs]at ih;simpa using ih
theorem ze1 (c:UInt8) (l:List UInt8):Lib.countByte l c<=l.length:=List.count_le_length
theorem zeg (l:List UInt8) (c:UInt8) (hl:l.length<=2000000) :
  q7 Tryz.prog 161 [.av .str (.s l),.av .str (.s [c]),.av (.int .i64) (.i .i64 0),.av (.int .i64) (.i .i64 (-1))] [] fun r H'=>∃b,r=.av (.slice 9) (.msl b 9 0 (qK c l).length (qK c l).length)/\H'=[(b,.var (.arr (qK c l).length 9) (.agg (strs (qK c l))))]:=by
 obtain⟨ws,hws⟩:∃ws,ws=qK c l:=⟨_,rfl⟩
 have hcn:=xW c l
 have hle:=ze1 c l
 rw[<-hws]at hcn |-
 refine zov Tryz.func161 cf0 fun imm0 w0=>?_
 simp (disch:=omega) [zz]
 refine zcv (zkK l c) ?_
 have hmin:¬(l.length:Int)+1<(Lib.countByte l c:Int)+1:=by omega
 obtain⟨cnt,hcnt⟩:∃cnt,cnt=Lib.countByte l c:=⟨_,rfl⟩
 rw[<-hcnt]at hcn hle hmin |-
 have hz0:List.replicate (cnt+1) (AV.s [])=strs (List.replicate (cnt+1) []):=uY _
 simp (disch:=omega) [zz,hmin]
 refine⟨by omega,by omega,by omega,?_⟩
 intro b
 refine AT.loopV (α:=Nat × List UInt8) (fun x ver=>St.of [(0,.av .str (.s x.2)),(1,.av .str (.s [c])),(2,.av (.int .i64) (.i .i64 0)),(3,.av (.int .i64) (.i .i64 cnt)),(9,.av (.slice 9) (.msl b 9 0 (cnt+1) (cnt+1))),(10,.av (.int .i64) (.i .i64 x.1))] [] ver [(b,.var (.arr (cnt+1) 9) (.agg (strs (ws.take x.1++List.replicate (ws.length-x.1) []))))])
  (fun x=>x.1<=cnt/\ws.drop x.1=qK c x.2/\x.2.length<=l.length) (fun x=>cnt-x.1) (0,l) ?_ ?_ ?_
 ·apply Le.of<;>simp[le9,uY,hcn]<;>try omega
 ·exact⟨by omega,by simp[hws],Nat.le_refl _⟩
 rintro⟨i,s⟩ ver ⟨hi,hdr,hsl⟩ KL hN hE
 simp only at hi hdr hsl hN
 have hlen:=congrArg List.length hdr
 rw[List.length_drop,hcn]at hlen
 refine zrd cf0 ?_
 by_cases hlt:i<cnt
 ·have hlt':(i:Int)<cnt:=by omega
  have hge:=Lib.indexByte_ge s c
  have hne:Lib.indexByte s c≠-1:=fun e=>by
   rw[U4 e]at hlen
   simp at hlen;omega
  obtain⟨m,hm⟩:∃m:Nat,Lib.indexByte s c=m:=⟨(Lib.indexByte s c).toNat,by omega⟩
  obtain⟨hsp,hml⟩:=UF hm
  have hm0:¬(m:Int)<0:=by omega
  have hil:i<ws.length:=by omega
  have hwi:s.take m=ws[i]:=by
   have:=congrArg (·[0]?) hdr
   rw[hsp]at this
   simp only[List.getElem?_drop,Nat.add_zero,List.getElem?_cons_zero]at this
   rw[List.getElem?_eq_getElem hil]at this
   exact(Option.some.inj this).symm
  have j9:=uX ws i hil
  rw[<-hwi]at j9
  simp (disch:=omega) [zz,hlt']
  refine zcv (zbk s c (by omega)) ?_
  simp (disch:=omega) [zz,hm,hm0,hml,j9]
  refine⟨by omega,by omega,by omega,by omega,by omega,?_⟩
  refine hN _ (i+1,s.drop (m+1)) ?_ ⟨by simp only;omega,?_,by simp;omega⟩ (by simp only;omega)
  ·apply Le.of<;>simp[le9,z6]<;>try omega
  ·have:=congrArg (List.drop 1) hdr
   rw[List.drop_drop,hsp]at this
   simpa using this
 ·have hlt':¬(i:Int)<cnt:=by omega
  have hic:i=cnt:=by omega
  subst hic
  have hge:=Lib.indexByte_ge s c
  have hno:Lib.indexByte s c=-1:=by
   refine Classical.byContradiction fun hne=>?_
   obtain⟨m,hm⟩:∃m:Nat,Lib.indexByte s c=m:=⟨(Lib.indexByte s c).toNat,by omega⟩
   obtain⟨hsp,hml⟩:=UF hm
   rw[hsp]at hlen
   have:=List.length_pos_iff.2 (xG c (s.drop (m+1)))
   rw[List.length_cons]at hlen
   omega
  have hil:i<ws.length:=by omega
  have hwi:s=ws[i]:=by
   have:=congrArg (·[0]?) hdr
   rw[U4 hno]at this
   simp only[List.getElem?_drop,Nat.add_zero,List.getElem?_cons_zero]at this
   rw[List.getElem?_eq_getElem hil]at this
   exact(Option.some.inj this).symm
  have j9:=uX ws i hil
  rw[<-hwi]at j9
  have htk:strs (ws.take (i+1)++List.replicate (ws.length-(i+1)) [])=strs ws:=by
   rw[hcn];simp[List.take_of_length_le (by omega:ws.length<=i+1)]
  rw[htk]at j9
  have hone:List.replicate (ws.length-i) ([]:List UInt8)=[[]]:=by rw[hcn];simp
  rw[hone]at j9
  have hek:AV.erks (strs ws)=strs ws:=by simp[strs,AV.erks_eq,Function.comp_def]
  simp (disch:=omega) [zz,hlt']
  refine hE _ _ (by simp) ?_
  simp (disch:=omega) [zz,j9,hil,hcn,hone]
  simp (disch:=omega) [zz,Tryz.f161,j9,hil,hcn,hone,hek]
  try omega
theorem zcY (l:List UInt8) (c:UInt8) (hl:l.length<=2000000) :
  q7 Tryz.prog 131 [.av .str (.s l),.av .str (.s [c])] [] fun r H'=>∃b,r=.av (.slice 9) (.msl b 9 0 (qK c l).length (qK c l).length)/\H'=[(b,.var (.arr (qK c l).length 9) (.agg (strs (qK c l))))]:=by
 refine zov Tryz.func131 cf0 fun imm0 w0=>?_
 simp (disch:=omega) [zz]
 refine qD (R:=fun r H'=>∃b,r=.av (.slice 9) (.msl b 9 0 (qK c l).length (qK c l).length)/\H'=[(b,.var (.arr (qK c l).length 9) (.agg (strs (qK c l))))]) [] [] (by simp) rfl (by simp[qE]) (by simp) ?_ ?_
 ·exact q7.args (zeg l c hl) (by simp[qR,coC,TV.er,AV.er])
 rintro r H' ⟨b,rfl,rfl⟩ _
 refine⟨_,by simpa using HSub.refl _,?_⟩
 simp (disch:=omega) [zz,Tryz.f131]
def GL (l p:List UInt8):Bool:=decide (p.length<=l.length/\l.drop (l.length-p.length)=p)
def KQ (l p:List UInt8):List UInt8:=if GL l p=true then l.take (l.length-p.length) else l
theorem zac (l p:List UInt8) (hl:l.length<=1000000000) (hp:p.length<=1000000000):PC Tryz.prog 209 [.av .str (.s l),.av .str (.s p)] (.av .bool (.b (GL l p))):=by
 refine zow Tryz.func209 cf0 fun imm0 w0=>?_
 by_cases h:p.length<=l.length
 ·have h':(p.length:Int)<=l.length:=by omega
  have h2:(0:Int)<=(l.length:Int)-p.length:=by omega
  have h3:((l.length:Int)-p.length).toNat=l.length-p.length:=by omega
  simp (disch:=omega) [zz,h,h',h2,h3,Tryz.f209,GL]
  try omega
 ·have h':¬(p.length:Int)<=l.length:=by omega
  simp (disch:=omega) [zz,h,h',Tryz.f209,GL]
theorem zcS (l p:List UInt8) (hl:l.length<=1000000000) (hp:p.length<=1000000000):PC Tryz.prog 190 [.av .str (.s l),.av .str (.s p)] (.av .str (.s (KQ l p))):=by
 refine zow Tryz.func190 cf0 fun imm0 w0=>?_
 simp (disch:=omega) [zz]
 refine zcv (zac l p hl hp) ?_
 by_cases h:GL l p=true
 ·have hle:p.length<=l.length:=by simp[GL]at h;exact h.1
  have h3:((l.length:Int)-p.length).toNat=l.length-p.length:=by omega
  have h2:(0:Int)<=(l.length:Int)-p.length:=by omega
  simp (disch:=omega) [zz,h,h2,h3,Tryz.f190,KQ]
  try omega
 ·simp (disch:=omega) [zz,h,Tryz.f190,KQ]
theorem zaG (l p:List UInt8) (hl:l.length<=1000000000) (hp:p.length<=1000000000):PC Tryz.prog 167 [.av .str (.s l),.av .str (.s p)] (.av .str (.s (KQ l p))):=by
 refine zow Tryz.func167 cf0 fun imm0 w0=>?_
 simp (disch:=omega) [zz]
 refine zcv (zcS l p hl hp) ?_
 simp (disch:=omega) [zz,Tryz.f167]
theorem UH (l p:List UInt8):(KQ l p).length<=l.length:=by unfold KQ;split<;>simp
def qU (l:List UInt8):List (List UInt8):=if l=[] then [] else qK 10 (KQ l [10])
theorem ZU (l:List UInt8):(qU l).length<=l.length+1:=by
 unfold qU
 split
 ·simp
 ·have:=xW 10 (KQ l [10])
  have:=ze1 10 (KQ l [10])
  have:=UH l [10]
  omega
def cQ (ws:List (List UInt8)) (r:TV) (H':q8):Prop:=(ws=[]/\r=.av (.slice 9) (.sl .no [])/\H'=[])\/∃b,r=.av (.slice 9) (.msl b 9 0 ws.length ws.length)/\H'=[(b,.var (.arr ws.length 9) (.agg (strs ws)))]
theorem gW (l:List UInt8) (hl:l.length<=1000000):q7 Tryz.prog 140 [.av .str (.s l)] [] (cQ (qU l)):=by
 refine zov Tryz.func140 cf0 fun imm0 w0=>?_
 by_cases h0:l=[]
 ·subst h0
  simp (disch:=omega) [zz,Tryz.f140,qU,cQ]
 ·simp (disch:=omega) [zz,h0]
  refine zcv (zaG l [10] (by omega) (by simp)) ?_
  simp (disch:=omega) [zz]
  have hle:=UH l [10]
  refine qD (R:=fun r H'=>∃b,r=.av (.slice 9) (.msl b 9 0 (qK 10 (KQ l [10])).length (qK 10 (KQ l [10])).length)/\H'=[(b,.var (.arr (qK 10 (KQ l [10])).length 9) (.agg (strs (qK 10 (KQ l [10])))))]) [] [] (by simp) rfl (by simp[qE]) (by simp) ?_ ?_
  ·exact q7.args (zcY (KQ l [10]) 10 (by omega)) (by simp[qR,coC,TV.er,AV.er])
  rintro r H' ⟨b,rfl,rfl⟩ _
  refine⟨_,by simpa using HSub.refl _,?_⟩
  have hek:∀ws,AV.erks (strs ws)=strs ws:=fun ws=>by simp[strs,AV.erks_eq,Function.comp_def]
  have hlv:qU l=qK 10 (KQ l [10]):=by unfold qU;rw[if_neg h0]
  simp (disch:=omega) [zz,Tryz.f140,cQ,hlv,hek]
theorem cQ.freeze {P:Program} {f:FuncId} {args:List TV} {ws:List (List UInt8)} (hl:laidOutB P=true) (hp:jC P 9=true) (h:q7 P f args [] (cQ ws)):PC P f args (.av (.slice 9) (.sl .no (strs ws))):=by
 refine h.freeze hl ?_
 rintro r H' hR _
 rcases hR with⟨rfl,rfl,rfl⟩|⟨b,rfl,rfl⟩
 ·right
  exact⟨rfl,rfl⟩
 ·left
  refine⟨b,ws.length,9,_,[],List.Perm.refl _,?_,rfl⟩
  simp only[zaK,fzA]
  rw[if_pos ⟨trivial,trivial,by omega,by omega⟩]
  simp only[List.drop_zero]
  rw[List.take_of_length_le (by simp[strs])]
end
end Go.Proofs.YtdkieabmeiojjaaGreatDoor
