/- Paths: a sign, a part. No condition. -/
import Derived.Test.YtdkieabmeiojjaaGreatDoorL0
set_option linter.unusedSimpArgs false
set_option linter.unusedVariables false
set_option linter.unusedSectionVars false
set_option maxHeartbeats 64000000
set_option maxRecDepth 100000
namespace Go.Proofs.YtdkieabmeiojjaaGreatDoor
open Go Go.Ab
open Classical
section
variable [Sel]
def yH (n:Nat):Bool:=decide (97<=n/\n<=122\/65<=n/\n<=90\/48<=n/\n<=57\/n=95\/n=46\/n=45\/n=43)
theorem WQ (n:Nat) (h:n<128):(0<=Lib.indexByte [95,46,45,43] (UInt8.ofNat n))=(n=95\/n=46\/n=45\/n=43):=by
 revert n
 decide +kernel
theorem d8 {n:Nat} (h:n<256):IntKind.u8.wrap (n:Int)=((UInt8.ofNat n).toNat:Int):=by
 simp[IntKind.wrap,IntKind.signed,IntKind.bits]
theorem zmt (n:Nat) (hn:n<=1114111):PC Tryz.prog 107 [.av (.int .i32) (.i .i32 n)] (.av .bool (.b (yH n))):=by
 refine zow Tryz.func107 cf0 fun imm0 w0=>?_
 by_cases h1:97<=n/\n<=122
 ·have h1':(97:Int)<=n:=by omega
  have h2':(n:Int)<=122:=by omega
  simp (disch:=omega) [zz,h1',h2',Tryz.f107,yH,h1]
 by_cases h2:65<=n/\n<=90
 ·have h1':(65:Int)<=n:=by omega
  have h2':(n:Int)<=90:=by omega
  have h3':¬(97:Int)<=n:=by omega
  simp (disch:=omega) [zz,h1',h2',h3',Tryz.f107,yH,h2]
 by_cases h3:48<=n/\n<=57
 ·have h1':(48:Int)<=n:=by omega
  have h2':(n:Int)<=57:=by omega
  have h3':¬(97:Int)<=n:=by omega
  have h4':¬(65:Int)<=n:=by omega
  simp (disch:=omega) [zz,h1',h2',h3',h4',Tryz.f107,yH,h3]
 have hsg:yH n=decide (n=95\/n=46\/n=45\/n=43):=by unfold yH;congr 1;apply propext;omega
 rcases(by omega:122<n\/(90<n/\n<97)\/(57<n/\n<65)\/n<48)with hc|hc|hc|hc
 ·by_cases h4:n<128
  ·have a0:(97:Int)<=n:=by omega
   have b0:¬(n:Int)<=122:=by omega
   have a1:(65:Int)<=n:=by omega
   have b1:¬(n:Int)<=90:=by omega
   have a2:(48:Int)<=n:=by omega
   have b2:¬(n:Int)<=57:=by omega
   have h4':(n:Int)<128:=by omega
   have hu:=d8 (show n<256 by omega)
   have hm:=WQ n h4
   simp (disch:=omega) [zz,a0,b0,a1,b1,a2,b2,h4',hu]
   refine qO (KY [95,46,45,43] (UInt8.ofNat n)) rfl rfl (by simp) (by simp[qR,coC,TV.er,AV.er]) ?_
   simp (disch:=omega) [zz,Tryz.f107,hsg,hm]
  ·have a0:(97:Int)<=n:=by omega
   have b0:¬(n:Int)<=122:=by omega
   have a1:(65:Int)<=n:=by omega
   have b1:¬(n:Int)<=90:=by omega
   have a2:(48:Int)<=n:=by omega
   have b2:¬(n:Int)<=57:=by omega
   have h4':¬(n:Int)<128:=by omega
   have h5:¬(n=95\/n=46\/n=45\/n=43):=by omega
   simp (disch:=omega) [zz,a0,b0,a1,b1,a2,b2,h4',hsg,h5,Tryz.f107]
 ·by_cases h4:n<128
  ·have a0:¬(97:Int)<=n:=by omega
   have a1:(65:Int)<=n:=by omega
   have b1:¬(n:Int)<=90:=by omega
   have a2:(48:Int)<=n:=by omega
   have b2:¬(n:Int)<=57:=by omega
   have h4':(n:Int)<128:=by omega
   have hu:=d8 (show n<256 by omega)
   have hm:=WQ n h4
   simp (disch:=omega) [zz,a0,a1,b1,a2,b2,h4',hu]
   refine qO (KY [95,46,45,43] (UInt8.ofNat n)) rfl rfl (by simp) (by simp[qR,coC,TV.er,AV.er]) ?_
   simp (disch:=omega) [zz,Tryz.f107,hsg,hm]
  ·have a0:¬(97:Int)<=n:=by omega
   have a1:(65:Int)<=n:=by omega
   have b1:¬(n:Int)<=90:=by omega
   have a2:(48:Int)<=n:=by omega
   have b2:¬(n:Int)<=57:=by omega
   have h4':¬(n:Int)<128:=by omega
   have h5:¬(n=95\/n=46\/n=45\/n=43):=by omega
   simp (disch:=omega) [zz,a0,a1,b1,a2,b2,h4',hsg,h5,Tryz.f107]
 ·by_cases h4:n<128
  ·have a0:¬(97:Int)<=n:=by omega
   have a1:¬(65:Int)<=n:=by omega
   have a2:(48:Int)<=n:=by omega
   have b2:¬(n:Int)<=57:=by omega
   have h4':(n:Int)<128:=by omega
   have hu:=d8 (show n<256 by omega)
   have hm:=WQ n h4
   simp (disch:=omega) [zz,a0,a1,a2,b2,h4',hu]
   refine qO (KY [95,46,45,43] (UInt8.ofNat n)) rfl rfl (by simp) (by simp[qR,coC,TV.er,AV.er]) ?_
   simp (disch:=omega) [zz,Tryz.f107,hsg,hm]
  ·have a0:¬(97:Int)<=n:=by omega
   have a1:¬(65:Int)<=n:=by omega
   have a2:(48:Int)<=n:=by omega
   have b2:¬(n:Int)<=57:=by omega
   have h4':¬(n:Int)<128:=by omega
   have h5:¬(n=95\/n=46\/n=45\/n=43):=by omega
   simp (disch:=omega) [zz,a0,a1,a2,b2,h4',hsg,h5,Tryz.f107]
 ·by_cases h4:n<128
  ·have a0:¬(97:Int)<=n:=by omega
   have a1:¬(65:Int)<=n:=by omega
   have a2:¬(48:Int)<=n:=by omega
   have h4':(n:Int)<128:=by omega
   have hu:=d8 (show n<256 by omega)
   have hm:=WQ n h4
   simp (disch:=omega) [zz,a0,a1,a2,h4',hu]
   refine qO (KY [95,46,45,43] (UInt8.ofNat n)) rfl rfl (by simp) (by simp[qR,coC,TV.er,AV.er]) ?_
   simp (disch:=omega) [zz,Tryz.f107,hsg,hm]
  ·have a0:¬(97:Int)<=n:=by omega
   have a1:¬(65:Int)<=n:=by omega
   have a2:¬(48:Int)<=n:=by omega
   have h4':¬(n:Int)<128:=by omega
   have h5:¬(n=95\/n=46\/n=45\/n=43):=by omega
   simp (disch:=omega) [zz,a0,a1,a2,h4',hsg,h5,Tryz.f107]
theorem zmQ (l:List UInt8) (i:Nat):((ByteArray.mk l.toArray).get! i)=l.getD i 0:=by
 show (l.toArray)[i]! = l.getD i 0
 simp[List.getD_eq_getElem?_getD]
 rfl
theorem V6 {l:List UInt8} {k:Nat} {b:UInt8} (h:l[k]?=some b) (hb:b.toNat<128):Z7 l k=(b.toNat,1):=by
 have h0:((ByteArray.mk l.toArray).get! (k+0)).toNat=b.toNat:=by rw[zmQ];simp[h]
 unfold Z7 Utf8.decode
 simp only[h0]
 rw[if_pos (by omega)]
theorem zdz {l:List UInt8} {k:Nat} {b:UInt8} (h:l[k]?=some b) (hb:¬b.toNat<128):128<=(Z7 l k).1/\(Z7 l k).1<=1114111:=by
 have h0:((ByteArray.mk l.toArray).get! (k+0)).toNat=b.toNat:=by rw[zmQ];simp[h]
 have hlt:=b.toNat_lt
 unfold Z7 Utf8.decode
 simp only[h0]
 rw[if_neg (by omega)]
 have he:Utf8.runeError=65533:=rfl
 have hv:∀n:Int,Utf8.valid n=true->n<=1114111:=by
  intro n hn
  unfold Utf8.valid at hn
  simp at hn
  omega
 have m1:=Nat.mod_lt ((ByteArray.mk l.toArray).get! (k+1)).toNat (show 64 > 0 by decide)
 have m2:=Nat.mod_lt ((ByteArray.mk l.toArray).get! (k+2)).toNat (show 64 > 0 by decide)
 have m3:=Nat.mod_lt ((ByteArray.mk l.toArray).get! (k+3)).toNat (show 64 > 0 by decide)
 split
 ·split
  ·exact⟨by simp only;omega,by simp only;omega⟩
  ·rw[he];exact⟨by decide,by decide⟩
 ·split
  ·split
   ·rename_i hc
    rw[Bool.and_eq_true]at hc
    have h1:=of_decide_eq_true hc.1
    exact⟨by simp only;omega,by simp only;omega⟩
   ·rw[he];exact⟨by decide,by decide⟩
  ·split
   ·split
    ·rename_i hc
     rw[Bool.and_eq_true]at hc
     have h1:=of_decide_eq_true hc.1
     have h2:=hv _ hc.2
     exact⟨by simp only;omega,by simp only;omega⟩
    ·rw[he];exact⟨by decide,by decide⟩
   ·rw[he];exact⟨by decide,by decide⟩
theorem CU (n:Nat) (hn:n<=1114111):PC Tryz.prog 106 [.av (.int .i32) (.i .i32 n)] (.av .bool (.b (!yH n))):=by
 refine zow Tryz.func106 cf0 fun imm0 w0=>?_
 simp (disch:=omega) [zz]
 refine zcv (zmt n hn) ?_
 simp (disch:=omega) [zz,Tryz.f106]
def PM (l:List UInt8):Int:=match l.findIdx? (fun b=>!yH b.toNat)with|some i=>i|none=>-1
theorem zhz {l:List UInt8} {k:Nat} {b:UInt8} (h0:∀x∈l.take k,yH x.toNat=true) (h:l[k]?=some b) (hb:yH b.toNat=false):PM l=k:=by
 have hlt:k<l.length:=(List.getElem?_eq_some_iff.1 h).1
 have:l.findIdx? (fun b=>!yH b.toNat)=some k:=by
  rw[List.findIdx?_eq_some_iff_getElem]
  refine⟨hlt,?_,fun j hj=>?_⟩
  ·rw[List.getElem?_eq_getElem hlt]at h
   rw[Option.some.inj h,hb];rfl
  ·have:=h0 _ (List.mem_take_iff_getElem.2 ⟨j,by omega,rfl⟩)
   simp[this]
 simp[PM,this]
theorem zff {l:List UInt8} (h0:∀x∈l,yH x.toNat=true):PM l=-1:=by
 have:l.findIdx? (fun b=>!yH b.toNat)=none:=by
  rw[List.findIdx?_eq_none_iff];intro x hx;simp[h0 x hx]
 simp[PM,this]
theorem DK {n:Nat} (h:yH n=true):n<128:=by
 unfold yH at h;have:=of_decide_eq_true h;omega
theorem zcV {n:Nat} (h:128<=n):yH n=false:=by
 unfold yH;apply decide_eq_false;omega
theorem zcF (l:List UInt8) (hl:l.length<=9223372036854775807) :
  PC Tryz.prog 165 [.av .str (.s l),.av .func (.fn 106 []),.av .bool (.b true)] (.av (.int .i64) (.i .i64 (PM l))):=by
 refine zow Tryz.func165 cf0 fun imm0 w0=>?_
 simp (disch:=omega) [zz]
 intro B
 refine AT.loopV (α:=Nat) (fun k ver=>St.of [(1,.av .func (.fn 106 [])),(2,.av .bool (.b true)),(10,.av .ptr (.ptr B .other []))] [] ver [(B,.siter l k)])
  (fun k=>k<=l.length/\∀x∈l.take k,yH x.toNat=true) (fun k=>l.length-k) 0 ?_ ?_ ?_
 ·apply Le.of<;>simp[le9]<;>try omega
 ·simp
 rintro k ver ⟨hk,hpk⟩ KL hN hE
 refine zrd cf0 ?_
 by_cases hlt:k<l.length
 ·obtain⟨b,hb⟩:∃b,l[k]?=some b:=⟨_,List.getElem?_eq_getElem hlt⟩
  by_cases hs:yH b.toNat=true
  ·have hr:=V6 hb (DK hs)
   simp (disch:=omega) [zz,hlt,hr]
   refine zcv (CU b.toNat (by have:=DK hs;omega)) ?_
   simp (disch:=omega) [zz,hs]
   refine hN _ (k+1) ?_ ⟨by omega,?_⟩ (by omega)
   ·apply Le.of<;>simp[le9]<;>try omega
   ·intro x hx
    rw[List.take_add_one,hb]at hx
    simp at hx
    rcases hx with hx|rfl
    ·exact hpk x hx
    ·exact hs
  ·have hs':yH b.toNat=false:=by simpa using hs
   have hbad:=zhz hpk hb hs'
   obtain⟨r,w',hr⟩:∃r w',Z7 l k=(r,w'):=⟨_,_,rfl⟩
   have hr2:yH r=false/\r<=1114111:=by
    by_cases h8:b.toNat<128
    ·rw[V6 hb h8]at hr;cases hr;exact⟨hs',by omega⟩
    ·have:=zdz hb h8;rw[hr]at this;exact⟨zcV this.1,this.2⟩
   simp (disch:=omega) [zz,hlt,hr]
   refine zcv (CU r hr2.2) ?_
   simp (disch:=omega) [zz,hr2.1]
   refine hE _ _ (by simp) ?_
   simp (disch:=omega) [zz,Tryz.f165,hbad]
 ·simp (disch:=omega) [zz,hlt]
  refine hE _ _ (by simp) ?_
  have hm:=zff (fun x hx=>hpk x (by rwa[List.take_of_length_le (by omega)]))
  simp (disch:=omega) [zz,Tryz.f165,hm]
theorem zaD (l:List UInt8) (hl:l.length<=9223372036854775807) :
  PC Tryz.prog 138 [.av .str (.s l),.av .func (.fn 106 [])] (.av (.int .i64) (.i .i64 (PM l))):=by
 refine zow Tryz.func138 cf0 fun imm0 w0=>?_
 simp (disch:=omega) [zz]
 refine qO (zcF l hl) rfl rfl (by simp) (by simp[qR,TV.er,AV.er,coC,AV.ers]) ?_
 simp (disch:=omega) [zz,Tryz.f138]
theorem PW (l:List UInt8) (hl:l.length<=9223372036854775807) :
  PC Tryz.prog 105 [.av .str (.s l),.av .func (.fn 106 [])] (.av .bool (.b (!l.all fun b=>yH b.toNat))):=by
 have hb:(0<=PM l)=((!l.all fun b=>yH b.toNat)=true):=by
  apply propext
  unfold PM
  cases h:l.findIdx? (fun b=>!yH b.toNat)with
  | none =>
   rw[List.findIdx?_eq_none_iff]at h
   simp at h |-
   exact h
  | some i =>
   rw[List.findIdx?_eq_some_iff_getElem]at h
   obtain⟨hi,hp,_⟩:=h
   simp at hp |-
   exact⟨_,List.getElem_mem hi,hp⟩
 refine zow Tryz.func105 cf0 fun imm0 w0=>?_
 simp (disch:=omega) [zz]
 refine qO (zaD l hl) rfl rfl (by simp) (by simp[qR,TV.er,AV.er,AV.ers]) ?_
 cases h:(!l.all fun b=>yH b.toNat)
 ·rw[h]at hb
  simp (disch:=omega) [zz,Tryz.f105,hb]
 ·rw[h]at hb
  simp (disch:=omega) [zz,Tryz.f105,hb]
def XC (l:List UInt8):Bool:=decide (l≠[]/\l.length<=64/\l≠[46]/\l≠[46,46])&&l.all fun b=>yH b.toNat
theorem zmu (l:List UInt8) (hl:l.length<=9223372036854775807):PC Tryz.prog 68 [.av .str (.s l)] (.av .bool (.b (XC l))):=by
 refine zow Tryz.func68 cf0 fun imm0 w0=>?_
 by_cases h1:l=[]
 ·simp (disch:=omega) [zz,h1,Tryz.f68,XC]
 by_cases h2:l.length<=64
 ·have h2':(l.length:Int)<=64:=by omega
  by_cases h3:l=[46]
  ·simp (disch:=omega) [zz,h1,h3,Tryz.f68,XC]
  by_cases h4:l=[46,46]
  ·simp (disch:=omega) [zz,h1,h4,Tryz.f68,XC]
  simp (disch:=omega) [zz,h1,h2',h3,h4]
  refine qO (PW l hl) rfl rfl (by simp) (by simp[qR,TV.er,AV.er,AV.ers]) ?_
  simp (disch:=omega) [zz,Tryz.f68,XC,h1,h2,h3,h4]
 ·have h2':¬(l.length:Int)<=64:=by omega
  simp (disch:=omega) [zz,h1,h2',Tryz.f68,XC,h2]
theorem zay (l:List UInt8) (c:UInt8) (hl:l.length<=9223372036854775807) :
  PC Tryz.prog 164 [.av .str (.s l),.av .str (.s [c])] (.av (.int .i64) (.i .i64 (Lib.indexByte l c))):=by
 refine zow Tryz.func164 cf0 fun imm0 w0=>?_
 by_cases h1:[c]=l
 ·have h2:Lib.indexByte l c=0:=by rw[<-h1];simp[Lib.indexByte]
  simp (disch:=omega) [zz,h1,h2,Tryz.f164]
 ·simp (disch:=omega) [zz,h1]
  refine zcv (za6 l c) ?_
  simp (disch:=omega) [zz,Tryz.f164]
theorem zbk (l:List UInt8) (c:UInt8) (hl:l.length<=9223372036854775807) :
  PC Tryz.prog 137 [.av .str (.s l),.av .str (.s [c])] (.av (.int .i64) (.i .i64 (Lib.indexByte l c))):=by
 refine zow Tryz.func137 cf0 fun imm0 w0=>?_
 simp (disch:=omega) [zz]
 refine zcv (zay l c hl) ?_
 simp (disch:=omega) [zz,Tryz.f137]
def qK (c:UInt8):List UInt8->List (List UInt8)
 | []=>[[]]
 | b::l=>if b=c then []::qK c l else match qK c l with
  | []=>[[b]]
  | x::r=>(b::x)::r
theorem xG (c:UInt8):∀l,qK c l≠[]
 | []=>by simp[qK]
 | b::l=>by
  unfold qK
  split
  ·simp
  ·cases h:qK c l<;>simp
theorem U4 {c:UInt8}:∀ {l:List UInt8},Lib.indexByte l c=-1->qK c l=[l]
 | [],_=>rfl
 | b::l,h=>by
  unfold Lib.indexByte at h
  by_cases hb:b=c
  ·subst hb;simp at h
  ·simp only[beq_iff_eq,hb,if_false]at h
   have hg:=Lib.indexByte_ge l c
   split at h
   ·rename_i h2
    rw[qK,if_neg hb,U4 h2]
   ·omega
theorem UF {c:UInt8}:∀ {l:List UInt8} {i:Nat},Lib.indexByte l c=i->qK c l=l.take i::qK c (l.drop (i+1))/\i<l.length
 | [],i,h=>by simp[Lib.indexByte]at h
 | b::l,i,h=>by
  unfold Lib.indexByte at h
  by_cases hb:b=c
  ·subst hb
   simp at h
   have:i=0:=by omega
   subst this
   simp[qK]
  ·simp only[beq_iff_eq,hb,if_false]at h
   have hg:=Lib.indexByte_ge l c
   split at h
   ·omega
   ·rename_i h2
    obtain⟨j,hj⟩:∃j:Nat,Lib.indexByte l c=j:=⟨(Lib.indexByte l c).toNat,by omega⟩
    obtain⟨h3,h4⟩:=UF hj
    have:i=j+1:=by omega
    subst this
    rw[qK,if_neg hb,h3]
    simp;omega
def YH (b1 b2 b3:Nat) (l:List UInt8) (H:q8):q8:=(b1,.var .str (.s [47]))::(b2,.var .str (.s l))::(b3,.var (.int .i64) (.i .i64 0))::H
theorem zck {G:Nat->q8->Prop} {X:q8->Prop} (y b1 b2 b3:Nat) (l:List UInt8) (hl:l.length<=9223372036854775807) (hGe:∀k H,G k H->H.er=H) (hXe:∀H,X H->H.er=H)
  (hY:∀k x H,(qK 47 l)[k]?=some x->G k H->YC Tryz.prog y [.av .str (.s x)] H fun r H'=>(r=.av .bool (.b true)/\G (k+1) H')\/(r=.av .bool (.b false)/\X H')) (H0:q8) (h0:G 0 H0) :
  q7 Tryz.prog 135 [.av .func (.yl y),.av .ptr (.ptr b1 .str []),.av .ptr (.ptr b2 .str []),.av .ptr (.ptr b3 (.int .i64) [])] (YH b1 b2 b3 l H0)
   fun r H'=>r=.tup []/\∃l' H1,H'=YH b1 b2 b3 l' H1/\(G (qK 47 l).length H1\/X H1):=by
 refine q7.nodup fun hnd=>?_
 simp[YH,q8.keys]at hnd
 obtain⟨⟨n12,n13,_⟩,⟨n23,_⟩,_⟩:=hnd
 have n21:¬b2=b1:=fun e=>n12 e.symm
 have n31:¬b3=b1:=fun e=>n13 e.symm
 have n32:¬b3=b2:=fun e=>n23 e.symm
 refine zov Tryz.func135 cf0 fun imm0 w0=>?_
 simp (disch:=omega) [zz,YH,n12,n13,n23,n21,n31,n32]
 refine AT.loopV (α:=Nat × List UInt8 × q8) (fun x ver=>St.of [(0,.av .func (.yl y)),(1,.av .ptr (.ptr b1 .str [])),(2,.av .ptr (.ptr b2 .str [])),(3,.av .ptr (.ptr b3 (.int .i64) []))] [] ver (YH b1 b2 b3 x.2.1 x.2.2))
  (fun x=>G x.1 x.2.2/\(qK 47 l).drop x.1=qK 47 x.2.1/\x.2.1.length<=9223372036854775807) (fun x=>x.2.1.length) (0,l,H0) ?_ ?_ ?_
 ·apply Le.of<;>simp[le9,YH]<;>try omega
 ·exact⟨h0,rfl,hl⟩
 rintro⟨k,l',H⟩ ver ⟨hG,hdr,hl'⟩ KL hN hE
 simp only at hG hdr hl' hN
 refine zrd cf0 ?_
 simp (disch:=omega) [zz,YH,n12,n13,n23,n21,n31,n32]
 refine zcv (zbk l' 47 hl') ?_
 by_cases hi:Lib.indexByte l' 47<0
 ·have hm:Lib.indexByte l' 47=-1:=by have:=Lib.indexByte_ge l' 47;omega
  have hsp:=U4 hm
  have hx:(qK 47 l)[k]?=some l':=by
   have:=congrArg (·[0]?) hdr
   rw[hsp]at this
   simpa using this
  have hk:(qK 47 l).length=k+1:=by
   have:=congrArg List.length hdr
   rw[hsp,List.length_drop]at this
   simp at this;omega
  simp (disch:=omega) [zz,hm,n12,n13,n23,n21,n31,n32,YH]
  refine hE _ _ (by simp) ?_
  simp (disch:=omega) [zz,n12,n13,n23,n21,n31,n32,YH]
  refine KA (R:=fun r H'=>(r=.av .bool (.b true)/\G (k+1) H')\/(r=.av .bool (.b false)/\X H')) H [(b1,.var .str (.s [47])),(b2,.var .str (.s l')),(b3,.var (.int .i64) (.i .i64 0))] (List.perm_append_comm (l₁:=[_,_,_])) (by simp[qE]) ?_ ?_
  ·rw[hGe k H hG]
   simpa[TV.er,AV.er]using hY k l' H hx hG
  ·intro r H' hR hnd'
   refine⟨[(b1,.var .str (.s [47])),(b2,.var .str (.s l')),(b3,.var (.int .i64) (.i .i64 0))]++H',HSub.of_perm List.perm_append_comm,?_⟩
   have hHe:H'.er=H':=hR.elim (fun h=>hGe _ _ h.2) (fun h=>hXe _ h.2)
   rcases hR with⟨rfl,hR⟩|⟨rfl,hR⟩
   ·simp (disch:=omega) [zz,Tryz.f135,hHe,hk]
    exact⟨_,_,⟨rfl,rfl⟩,.inl hR⟩
   ·simp (disch:=omega) [zz,Tryz.f135,hHe,hk]
    exact⟨_,_,⟨rfl,rfl⟩,.inr hR⟩
 ·obtain⟨i,hi'⟩:∃i:Nat,Lib.indexByte l' 47=i:=⟨(Lib.indexByte l' 47).toNat,by omega⟩
  obtain⟨hsp,hlt⟩:=UF hi'
  have hx:(qK 47 l)[k]?=some (l'.take i):=by
   have:=congrArg (·[0]?) hdr
   rw[hsp]at this
   simpa using this
  have hdr2:(qK 47 l).drop (k+1)=qK 47 (l'.drop (i+1)):=by
   rw[<-List.drop_drop,hdr,hsp];rfl
  have hge:¬(i:Int)<0:=by omega
  simp (disch:=omega) [zz,hi',hge,n12,n13,n23,n21,n31,n32,YH]
  (repeat with_reducible refine om ?_)
  refine KA (R:=fun r H'=>(r=.av .bool (.b true)/\G (k+1) H')\/(r=.av .bool (.b false)/\X H')) H [(b1,.var .str (.s [47])),(b2,.var .str (.s l')),(b3,.var (.int .i64) (.i .i64 0))] (List.perm_append_comm (l₁:=[_,_,_])) (by simp[qE]) ?_ ?_
  ·rw[hGe k H hG]
   simpa[TV.er,AV.er]using hY k (l'.take i) H hx hG
  ·intro r H' hR hnd'
   refine⟨[(b1,.var .str (.s [47])),(b2,.var .str (.s l')),(b3,.var (.int .i64) (.i .i64 0))]++H',HSub.of_perm List.perm_append_comm,?_⟩
   have hHe:H'.er=H':=hR.elim (fun h=>hGe _ _ h.2) (fun h=>hXe _ h.2)
   rcases hR with⟨rfl,hR⟩|⟨rfl,hR⟩
   ·simp (disch:=omega) [zz,hHe,n12,n13,n23,n21,n31,n32]
    (repeat with_reducible refine om ?_)
    refine hN _ (k+1,l'.drop (i+1),H') ?_ ⟨hR,hdr2,by simp;omega⟩ (by simp;omega)
    apply Le.of<;>simp[le9,YH]<;>try omega
   ·simp (disch:=omega) [zz,hHe]
    refine hE _ _ (by simp) ?_
    simp (disch:=omega) [zz,Tryz.f135,hHe]
    exact⟨_,_,⟨rfl,rfl⟩,.inr hR⟩
abbrev zpG:Cfg:=⟨fun n=>n==3||n==4||n==5,fun _=>false⟩
def ziS (l:List UInt8) (r:TV) (H':q8):Prop:=∃b1 b2 b3,r=.av .func (.fn 135 [.ptr b1 .str [],.ptr b2 .str [],.ptr b3 (.int .i64) []])/\H'=[(b3,.var (.int .i64) (.i .i64 0)),(b1,.var .str (.s [47])),(b2,.var .str (.s l))]
theorem zdS (l:List UInt8):q7 Tryz.prog 104 [.av .str (.s l),.av .str (.s [47]),.av (.int .i64) (.i .i64 0)] [] (ziS l):=by
 refine zov Tryz.func104 zpG fun imm0 w0=>?_
 simp (disch:=omega) [zz]
 intro b2 b1 hb1 b3 hb3 hb3'
 simp (disch:=omega) [zz,Tryz.f104,ziS]
 exact⟨_,_,_,⟨rfl,rfl,rfl⟩,rfl,rfl,rfl⟩
theorem zek (l:List UInt8):q7 Tryz.prog 67 [.av .str (.s l),.av .str (.s [47])] [] (ziS l):=by
 refine zov Tryz.func67 cf0 fun imm0 w0=>?_
 simp (disch:=omega) [zz]
 refine w8 (R:=ziS l) rfl (by simp[qE]) (by simp) ?_ ?_
 ·exact q7.args (zdS l) (by simp[qR,TV.er,AV.er,coC])
 ·rintro r H' ⟨b1,b2,b3,rfl,rfl⟩
  simp (disch:=omega) [zz,Tryz.f67,ziS,AV.ers]
  exact⟨_,_,_,⟨rfl,rfl,rfl⟩,rfl,rfl,rfl⟩
theorem UC {r:Loop} (h1:r.state=.ready) (h2:r.pending=none):({ r with state:=.ready,pending:=none }:Loop)=r:=by cases r;simp_all
def zjc (y:Nat) (r:Loop) (i0:Nat->Nat) (w0:World) (G1:q8->Prop) (X:Loop->q8->Prop) (rr:TV) (H':q8):Prop :=
 (rr=.av .bool (.b true)/\∃H1,H'=(y,.lrec r i0 w0)::H1/\G1 H1)\/(rr=.av .bool (.b false)/\∃r' H1,H'=(y,.lrec r' i0 w0)::H1/\X r' H1)
theorem CH {c:Ctx} {f:Operand} {ps:Array Nat} {assign body:Code} {K:Exit->St->Prop} {s:St} (hP:c.P=Tryz.prog) (hrd:c.rd=none) {c1 c2 c3:Nat} {l:List UInt8} (hl:l.length<=9223372036854775807) {Hr:q8}
  (hev:ev s f=.av .func (.fn 135 [.ptr c1 .str [],.ptr c2 .str [],.ptr c3 (.int .i64) []])) (hH:s.H.Perm (YH c1 c2 c3 l Hr)) (hHe:Hr.er=Hr) (hps:ps.size=1) (hpn:∀p∈ps.toList,p<c.n)
  (h:∀(y D:Nat) (r:Loop) (i0:Nat->Nat) (w0:World),y∉s.H.keys->r.state=.ready->r.pending=none->
   ∃(G:Nat->q8->Prop) (X:Loop->q8->Prop),(∀k H,G k H->H.er=H)/\(∀r' H,X r' H->H.er=H)/\G 0 Hr/\
    (∀k x H,(qK 47 l)[k]?=some x->G k H->∀imm w,AT ⟨c.P,c.n,imm,(y,.lrec r i0 w0)::H,w,some y,[]⟩ assign
     (zak (fun s'=>zZ s'.H y=some (.lrec r i0 w0)/\AT ⟨c.P,c.n,imm,(y,.lrec r i0 w0)::H,w,some y,[]⟩ body (WY y i0 w0 (zjc y r i0 w0 (G (k+1)) X)) { s' with H:=j9 s'.H y (.lrec { r with state:=.busy } i0 w0) }) KNo)
     (Z6 s.env ps.toList [.av .str (.s x)] ((y,.lrec r i0 w0)::H)))/\
    (∀H1,G (qK 47 l).length H1->K .normal { s with H:=H1,dfs:=D::s.dfs })/\
    (∀r' H1,X r' H1->r'.state≠.busy/\CY K r'.pending { s with H:=H1,dfs:=D::s.dfs })) :
  AT c (.rangeFunc f ps assign body) K s:=by
 refine AT.range (gf:=135) hrd hev rfl (by rw[hP];simp) ?_
 intro y D r i0 w0 hy hrec hready hpend hpar has hbo
 obtain⟨G,X,hG,hX,h0,hY,hN,hE⟩:=h y D r i0 w0 hy hready hpend
 clear h
 subst has hbo hpar
 refine⟨YH c1 c2 c3 l ((y,.lrec r i0 w0)::Hr),[],fun t H'=>t=.tup []/\∃l' H1,H'=YH c1 c2 c3 l' H1/\((∃H2,H1=(y,.lrec r i0 w0)::H2/\G (qK 47 l).length H2)\/∃r' H2,H1=(y,.lrec r' i0 w0)::H2/\X r' H2),?_,?_,?_⟩
 ·rw[List.append_nil]
  refine(List.Perm.cons _ hH).trans ?_
  unfold YH
  exact(List.perm_middle (l₁:=[_,_,_])).symm
 ·have he:(YH c1 c2 c3 l ((y,.lrec r i0 w0)::Hr)).er=YH c1 c2 c3 l ((y,.lrec r i0 w0)::Hr):=by
   simp only[YH,q8.er_cons,hHe];rfl
  rw[he,hP]
  have:=zck (G:=fun k H=>∃H2,H=(y,.lrec r i0 w0)::H2/\G k H2) (X:=fun H=>∃r' H2,H=(y,.lrec r' i0 w0)::H2/\X r' H2) y c1 c2 c3 l hl ?_ ?_ ?_ ((y,.lrec r i0 w0)::Hr) ⟨Hr,rfl,h0⟩
  ·exact this
  ·rintro k H ⟨H2,rfl,hg⟩
   rw[q8.er_cons,hG k H2 hg];rfl
  ·rintro H ⟨r',H2,rfl,hg⟩
   rw[q8.er_cons,hX r' H2 hg];rfl
  ·rintro k x H hx ⟨H2,rfl,hg⟩
   have hrd:=YC.of_round (P:=c.P) (n:=c.n) (E:=s.env) (r:=r) (i0:=i0) (w0:=w0) (l:=y) hrec hready (args:=[.av .str (.s x)]) (H:=H2) (R:=zjc y r i0 w0 (G (k+1)) X) (by rw[hps];rfl) hpn (fun imm w=>hY k x H2 hx hg imm w)
   rw[hP]at hrd
   intro imm w vs h1 h2
   obtain⟨f',tmps,as',bo',h3,h4⟩:=hrd imm w vs h1 h2
   refine⟨f',tmps,as',bo',h3,RoundIn.mono h4 ?_⟩
   rintro e w' ⟨v,rr,imm',H',e1,e2,e3⟩
   refine⟨v,rr,imm',H',e1,?_,e3⟩
   rcases e2 with⟨rfl,H1,rfl,g1⟩|⟨rfl,r',H1,rfl,g1⟩
   ·exact .inl ⟨rfl,H1,rfl,g1⟩
   ·exact .inr ⟨rfl,r',H1,rfl,g1⟩
 ·rintro t H' ⟨rfl,l',H1,rfl,hh⟩ hnd
  rcases hh with⟨H2,rfl,hg⟩|⟨r',H2,rfl,hg⟩
  ·refine⟨r,H2,?_,by rw[hready];simp,?_⟩
   ·rw[List.append_nil]
    refine HSub.of_sub ?_
    unfold YH
    exact((List.Sublist.refl _).cons _).cons _ |>.cons _
   ·rw[hpend];exact hN H2 hg
  ·obtain⟨hb,hk⟩:=hE r' H2 hg
   refine⟨r',H2,?_,hb,hk⟩
   rw[List.append_nil]
   refine HSub.of_sub ?_
   unfold YH
   exact((List.Sublist.refl _).cons _).cons _ |>.cons _
end
end Go.Proofs.YtdkieabmeiojjaaGreatDoor
