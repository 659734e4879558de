/- Paths: a sign, a part. No condition. -/
import Derived.Test.YtfkcpballfhddaaGreatDoorL0
set_option linter.unusedSimpArgs false
set_option linter.unusedVariables false
set_option linter.unusedSectionVars false
set_option maxHeartbeats 64000000
set_option maxRecDepth 100000
namespace Go.Proofs.YtfkcpballfhddaaGreatDoor
open Go Go.Ab
open Classical
section
variable [Sel]
def jS (n:Nat):Bool:=decide (97<=n/\n<=122\/65<=n/\n<=90\/48<=n/\n<=57\/n=95\/n=46\/n=45\/n=43)
theorem xW (n:Nat) (h:n<128):(0<=Lib.indexByte [95,46,45,43] (UInt8.ofNat n))=(n=95\/n=46\/n=45\/n=43):=by
 revert n
 decide +kernel
theorem za9 {n:Nat} (h:n<256):IntKind.u8.wrap (n:Int)=((UInt8.ofNat n).toNat:Int):=by
 simp[IntKind.wrap,IntKind.signed,IntKind.bits]
theorem zpc (n:Nat) (hn:n<=1114111):PC Tryz.prog 102 [.av (.int .i32) (.i .i32 n)] (.av .bool (.b (jS n))):=by
 refine zow Tryz.func102 cf0 fun imm0 w0=>?_
 by_cases h1:97<=n/\n<=122
 ·have h1':(97:Int)<=n:=by omega
  have h2':(n:Int)<=122:=by omega
  simp (disch:=omega) [zz,h1',h2',Tryz.f102,jS,h1]
 by_cases h2:65<=n/\n<=90
 ·have h1':(65:Int)<=n:=by omega
  have h2':(n:Int)<=90:=by omega
  have h3':¬(97:Int)<=n:=by omega
  simp (disch:=omega) [zz,h1',h2',h3',Tryz.f102,jS,h2]
 by_cases h3:48<=n/\n<=57
 ·have h1':(48:Int)<=n:=by omega
  have h2':(n:Int)<=57:=by omega
  have h3':¬(97:Int)<=n:=by omega
  have h4':¬(65:Int)<=n:=by omega
  simp (disch:=omega) [zz,h1',h2',h3',h4',Tryz.f102,jS,h3]
 have hsg:jS n=decide (n=95\/n=46\/n=45\/n=43):=by unfold jS;congr 1;apply propext;omega
 rcases(by omega:122<n\/(90<n/\n<97)\/(57<n/\n<65)\/n<48)with hc|hc|hc|hc
 ·by_cases h4:n<128
  ·have a0:(97:Int)<=n:=by omega
   have b0:¬(n:Int)<=122:=by omega
   have a1:(65:Int)<=n:=by omega
   have b1:¬(n:Int)<=90:=by omega
   have a2:(48:Int)<=n:=by omega
   have b2:¬(n:Int)<=57:=by omega
   have h4':(n:Int)<128:=by omega
   have hu:=za9 (show n<256 by omega)
   have hm:=xW n h4
   simp (disch:=omega) [zz,a0,b0,a1,b1,a2,b2,h4',hu]
   refine qG (Y8 [95,46,45,43] (UInt8.ofNat n)) rfl rfl (by simp) (by simp[qM,coC,TV.er,AV.er]) ?_
   simp (disch:=omega) [zz,Tryz.f102,hsg,hm]
  ·have a0:(97:Int)<=n:=by omega
   have b0:¬(n:Int)<=122:=by omega
   have a1:(65:Int)<=n:=by omega
   have b1:¬(n:Int)<=90:=by omega
   have a2:(48:Int)<=n:=by omega
   have b2:¬(n:Int)<=57:=by omega
   have h4':¬(n:Int)<128:=by omega
   have h5:¬(n=95\/n=46\/n=45\/n=43):=by omega
   simp (disch:=omega) [zz,a0,b0,a1,b1,a2,b2,h4',hsg,h5,Tryz.f102]
 ·by_cases h4:n<128
  ·have a0:¬(97:Int)<=n:=by omega
   have a1:(65:Int)<=n:=by omega
   have b1:¬(n:Int)<=90:=by omega
   have a2:(48:Int)<=n:=by omega
   have b2:¬(n:Int)<=57:=by omega
   have h4':(n:Int)<128:=by omega
   have hu:=za9 (show n<256 by omega)
   have hm:=xW n h4
   simp (disch:=omega) [zz,a0,a1,b1,a2,b2,h4',hu]
   refine qG (Y8 [95,46,45,43] (UInt8.ofNat n)) rfl rfl (by simp) (by simp[qM,coC,TV.er,AV.er]) ?_
   simp (disch:=omega) [zz,Tryz.f102,hsg,hm]
  ·have a0:¬(97:Int)<=n:=by omega
   have a1:(65:Int)<=n:=by omega
   have b1:¬(n:Int)<=90:=by omega
   have a2:(48:Int)<=n:=by omega
   have b2:¬(n:Int)<=57:=by omega
   have h4':¬(n:Int)<128:=by omega
   have h5:¬(n=95\/n=46\/n=45\/n=43):=by omega
   simp (disch:=omega) [zz,a0,a1,b1,a2,b2,h4',hsg,h5,Tryz.f102]
 ·by_cases h4:n<128
  ·have a0:¬(97:Int)<=n:=by omega
   have a1:¬(65:Int)<=n:=by omega
   have a2:(48:Int)<=n:=by omega
   have b2:¬(n:Int)<=57:=by omega
   have h4':(n:Int)<128:=by omega
   have hu:=za9 (show n<256 by omega)
   have hm:=xW n h4
   simp (disch:=omega) [zz,a0,a1,a2,b2,h4',hu]
   refine qG (Y8 [95,46,45,43] (UInt8.ofNat n)) rfl rfl (by simp) (by simp[qM,coC,TV.er,AV.er]) ?_
   simp (disch:=omega) [zz,Tryz.f102,hsg,hm]
  ·have a0:¬(97:Int)<=n:=by omega
   have a1:¬(65:Int)<=n:=by omega
   have a2:(48:Int)<=n:=by omega
   have b2:¬(n:Int)<=57:=by omega
   have h4':¬(n:Int)<128:=by omega
   have h5:¬(n=95\/n=46\/n=45\/n=43):=by omega
   simp (disch:=omega) [zz,a0,a1,a2,b2,h4',hsg,h5,Tryz.f102]
 ·by_cases h4:n<128
  ·have a0:¬(97:Int)<=n:=by omega
   have a1:¬(65:Int)<=n:=by omega
   have a2:¬(48:Int)<=n:=by omega
   have h4':(n:Int)<128:=by omega
   have hu:=za9 (show n<256 by omega)
   have hm:=xW n h4
   simp (disch:=omega) [zz,a0,a1,a2,h4',hu]
   refine qG (Y8 [95,46,45,43] (UInt8.ofNat n)) rfl rfl (by simp) (by simp[qM,coC,TV.er,AV.er]) ?_
   simp (disch:=omega) [zz,Tryz.f102,hsg,hm]
  ·have a0:¬(97:Int)<=n:=by omega
   have a1:¬(65:Int)<=n:=by omega
   have a2:¬(48:Int)<=n:=by omega
   have h4':¬(n:Int)<128:=by omega
   have h5:¬(n=95\/n=46\/n=45\/n=43):=by omega
   simp (disch:=omega) [zz,a0,a1,a2,h4',hsg,h5,Tryz.f102]
theorem zpd (l:List UInt8) (i:Nat):((ByteArray.mk l.toArray).get! i)=l.getD i 0:=by
 show (l.toArray)[i]! = l.getD i 0
 simp[List.getD_eq_getElem?_getD]
 rfl
theorem GN {l:List UInt8} {k:Nat} {b:UInt8} (h:l[k]?=some b) (hb:b.toNat<128):JC l k=(b.toNat,1):=by
 have h0:((ByteArray.mk l.toArray).get! (k+0)).toNat=b.toNat:=by rw[zpd];simp[h]
 unfold JC Utf8.decode
 simp only[h0]
 rw[if_pos (by omega)]
theorem zgv {l:List UInt8} {k:Nat} {b:UInt8} (h:l[k]?=some b) (hb:¬b.toNat<128):128<=(JC l k).1/\(JC l k).1<=1114111:=by
 have h0:((ByteArray.mk l.toArray).get! (k+0)).toNat=b.toNat:=by rw[zpd];simp[h]
 have hlt:=b.toNat_lt
 unfold JC Utf8.decode
 simp only[h0]
 rw[if_neg (by omega)]
 have he:Utf8.runeError=65533:=rfl
 have hv:∀n:Int,Utf8.valid n=true->n<=1114111:=by
  intro n hn
  unfold Utf8.valid at hn
  simp at hn
  omega
 have m1:=Nat.mod_lt ((ByteArray.mk l.toArray).get! (k+1)).toNat (show 64 > 0 by decide)
 have m2:=Nat.mod_lt ((ByteArray.mk l.toArray).get! (k+2)).toNat (show 64 > 0 by decide)
 have m3:=Nat.mod_lt ((ByteArray.mk l.toArray).get! (k+3)).toNat (show 64 > 0 by decide)
 split
 ·split
  ·exact⟨by simp only;omega,by simp only;omega⟩
  ·rw[he];exact⟨by decide,by decide⟩
 ·split
  ·split
   ·rename_i hc
    rw[Bool.and_eq_true]at hc
    have h1:=of_decide_eq_true hc.1
    exact⟨by simp only;omega,by simp only;omega⟩
   ·rw[he];exact⟨by decide,by decide⟩
  ·split
   ·split
    ·rename_i hc
     rw[Bool.and_eq_true]at hc
     have h1:=of_decide_eq_true hc.1
     have h2:=hv _ hc.2
     exact⟨by simp only;omega,by simp only;omega⟩
    ·rw[he];exact⟨by decide,by decide⟩
   ·rw[he];exact⟨by decide,by decide⟩
theorem zbQ (n:Nat) (hn:n<=1114111):PC Tryz.prog 101 [.av (.int .i32) (.i .i32 n)] (.av .bool (.b (!jS n))):=by
 refine zow Tryz.func101 cf0 fun imm0 w0=>?_
 simp (disch:=omega) [zz]
 refine zcv (zpc n hn) ?_
 simp (disch:=omega) [zz,Tryz.f101]
def cF (l:List UInt8):Int:=match l.findIdx? (fun b=>!jS b.toNat)with|some i=>i|none=>-1
theorem zld {l:List UInt8} {k:Nat} {b:UInt8} (h0:∀x∈l.take k,jS x.toNat=true) (h:l[k]?=some b) (hb:jS b.toNat=false):cF l=k:=by
 have hlt:k<l.length:=(List.getElem?_eq_some_iff.1 h).1
 have:l.findIdx? (fun b=>!jS b.toNat)=some k:=by
  rw[List.findIdx?_eq_some_iff_getElem]
  refine⟨hlt,?_,fun j hj=>?_⟩
  ·rw[List.getElem?_eq_getElem hlt]at h
   rw[Option.some.inj h,hb];rfl
  ·have:=h0 _ (List.mem_take_iff_getElem.2 ⟨j,by omega,rfl⟩)
   simp[this]
 simp[cF,this]
theorem zih {l:List UInt8} (h0:∀x∈l,jS x.toNat=true):cF l=-1:=by
 have:l.findIdx? (fun b=>!jS b.toNat)=none:=by
  rw[List.findIdx?_eq_none_iff];intro x hx;simp[h0 x hx]
 simp[cF,this]
theorem zaD {n:Nat} (h:jS n=true):n<128:=by
 unfold jS at h;have:=of_decide_eq_true h;omega
theorem zeS {n:Nat} (h:128<=n):jS n=false:=by
 unfold jS;apply decide_eq_false;omega
theorem zez (l:List UInt8) (hl:l.length<=9223372036854775807) :
  PC Tryz.prog 160 [.av .str (.s l),.av .func (.fn 101 []),.av .bool (.b true)] (.av (.int .i64) (.i .i64 (cF l))):=by
 refine zow Tryz.func160 cf0 fun imm0 w0=>?_
 simp (disch:=omega) [zz]
 intro B
 refine AT.loopV (α:=Nat) (fun k ver=>St.of [(1,.av .func (.fn 101 [])),(2,.av .bool (.b true)),(10,.av .ptr (.ptr B .other []))] [] ver [(B,.siter l k)])
  (fun k=>k<=l.length/\∀x∈l.take k,jS x.toNat=true) (fun k=>l.length-k) 0 ?_ ?_ ?_
 ·apply Le.of<;>simp[le9]<;>try omega
 ·simp
 rintro k ver ⟨hk,hpk⟩ KL hN hE
 refine zrd cf0 ?_
 by_cases hlt:k<l.length
 ·obtain⟨b,hb⟩:∃b,l[k]?=some b:=⟨_,List.getElem?_eq_getElem hlt⟩
  by_cases hs:jS b.toNat=true
  ·have hr:=GN hb (zaD hs)
   simp (disch:=omega) [zz,hlt,hr]
   refine zcv (zbQ b.toNat (by have:=zaD hs;omega)) ?_
   simp (disch:=omega) [zz,hs]
   refine hN _ (k+1) ?_ ⟨by omega,?_⟩ (by omega)
   ·apply Le.of<;>simp[le9]<;>try omega
   ·intro x hx
    rw[List.take_add_one,hb]at hx
    simp at hx
    rcases hx with hx|rfl
    ·exact hpk x hx
    ·exact hs
  ·have hs':jS b.toNat=false:=by simpa using hs
   have hbad:=zld hpk hb hs'
   obtain⟨r,w',hr⟩:∃r w',JC l k=(r,w'):=⟨_,_,rfl⟩
   have hr2:jS r=false/\r<=1114111:=by
    by_cases h8:b.toNat<128
    ·rw[GN hb h8]at hr;cases hr;exact⟨hs',by omega⟩
    ·have:=zgv hb h8;rw[hr]at this;exact⟨zeS this.1,this.2⟩
   simp (disch:=omega) [zz,hlt,hr]
   refine zcv (zbQ r hr2.2) ?_
   simp (disch:=omega) [zz,hr2.1]
   refine hE _ _ (by simp) ?_
   simp (disch:=omega) [zz,Tryz.f160,hbad]
 ·simp (disch:=omega) [zz,hlt]
  refine hE _ _ (by simp) ?_
  have hm:=zih (fun x hx=>hpk x (by rwa[List.take_of_length_le (by omega)]))
  simp (disch:=omega) [zz,Tryz.f160,hm]
theorem zch (l:List UInt8) (hl:l.length<=9223372036854775807) :
  PC Tryz.prog 133 [.av .str (.s l),.av .func (.fn 101 [])] (.av (.int .i64) (.i .i64 (cF l))):=by
 refine zow Tryz.func133 cf0 fun imm0 w0=>?_
 simp (disch:=omega) [zz]
 refine qG (zez l hl) rfl rfl (by simp) (by simp[qM,TV.er,AV.er,coC,AV.ers]) ?_
 simp (disch:=omega) [zz,Tryz.f133]
theorem CS (l:List UInt8) (hl:l.length<=9223372036854775807) :
  PC Tryz.prog 100 [.av .str (.s l),.av .func (.fn 101 [])] (.av .bool (.b (!l.all fun b=>jS b.toNat))):=by
 have hb:(0<=cF l)=((!l.all fun b=>jS b.toNat)=true):=by
  apply propext
  unfold cF
  cases h:l.findIdx? (fun b=>!jS b.toNat)with
  | none =>
   rw[List.findIdx?_eq_none_iff]at h
   simp at h |-
   exact h
  | some i =>
   rw[List.findIdx?_eq_some_iff_getElem]at h
   obtain⟨hi,hp,_⟩:=h
   simp at hp |-
   exact⟨_,List.getElem_mem hi,hp⟩
 refine zow Tryz.func100 cf0 fun imm0 w0=>?_
 simp (disch:=omega) [zz]
 refine qG (zch l hl) rfl rfl (by simp) (by simp[qM,TV.er,AV.er,AV.ers]) ?_
 cases h:(!l.all fun b=>jS b.toNat)
 ·rw[h]at hb
  simp (disch:=omega) [zz,Tryz.f100,hb]
 ·rw[h]at hb
  simp (disch:=omega) [zz,Tryz.f100,hb]
def QM (l:List UInt8):Bool:=decide (l≠[]/\l.length<=64/\l≠[46]/\l≠[46,46])&&l.all fun b=>jS b.toNat
theorem zpv (l:List UInt8) (hl:l.length<=9223372036854775807):PC Tryz.prog 62 [.av .str (.s l)] (.av .bool (.b (QM l))):=by
 refine zow Tryz.func62 cf0 fun imm0 w0=>?_
 by_cases h1:l=[]
 ·simp (disch:=omega) [zz,h1,Tryz.f62,QM]
 by_cases h2:l.length<=64
 ·have h2':(l.length:Int)<=64:=by omega
  by_cases h3:l=[46]
  ·simp (disch:=omega) [zz,h1,h3,Tryz.f62,QM]
  by_cases h4:l=[46,46]
  ·simp (disch:=omega) [zz,h1,h4,Tryz.f62,QM]
  simp (disch:=omega) [zz,h1,h2',h3,h4]
  refine qG (CS l hl) rfl rfl (by simp) (by simp[qM,TV.er,AV.er,AV.ers]) ?_
  simp (disch:=omega) [zz,Tryz.f62,QM,h1,h2,h3,h4]
 ·have h2':¬(l.length:Int)<=64:=by omega
  simp (disch:=omega) [zz,h1,h2',Tryz.f62,QM,h2]
theorem zco (l:List UInt8) (c:UInt8) (hl:l.length<=9223372036854775807) :
  PC Tryz.prog 159 [.av .str (.s l),.av .str (.s [c])] (.av (.int .i64) (.i .i64 (Lib.indexByte l c))):=by
 refine zow Tryz.func159 cf0 fun imm0 w0=>?_
 by_cases h1:[c]=l
 ·have h2:Lib.indexByte l c=0:=by rw[<-h1];simp[Lib.indexByte]
  simp (disch:=omega) [zz,h1,h2,Tryz.f159]
 ·simp (disch:=omega) [zz,h1]
  refine zcv (zbC l c) ?_
  simp (disch:=omega) [zz,Tryz.f159]
theorem zcM (l:List UInt8) (c:UInt8) (hl:l.length<=9223372036854775807) :
  PC Tryz.prog 132 [.av .str (.s l),.av .str (.s [c])] (.av (.int .i64) (.i .i64 (Lib.indexByte l c))):=by
 refine zow Tryz.func132 cf0 fun imm0 w0=>?_
 simp (disch:=omega) [zz]
 refine zcv (zco l c hl) ?_
 simp (disch:=omega) [zz,Tryz.f132]
def qE (c:UInt8):List UInt8->List (List UInt8)
 | []=>[[]]
 | b::l=>if b=c then []::qE c l else match qE c l with
  | []=>[[b]]
  | x::r=>(b::x)::r
theorem yU (c:UInt8):∀l,qE c l≠[]
 | []=>by simp[qE]
 | b::l=>by
  unfold qE
  split
  ·simp
  ·cases h:qE c l<;>simp
theorem VI {c:UInt8}:∀ {l:List UInt8},Lib.indexByte l c=-1->qE c l=[l]
 | [],_=>rfl
 | b::l,h=>by
  unfold Lib.indexByte at h
  by_cases hb:b=c
  ·subst hb;simp at h
  ·simp only[beq_iff_eq,hb,if_false]at h
   have hg:=Lib.indexByte_ge l c
   split at h
   ·rename_i h2
    rw[qE,if_neg hb,VI h2]
   ·omega
theorem VO {c:UInt8}:∀ {l:List UInt8} {i:Nat},Lib.indexByte l c=i->qE c l=l.take i::qE c (l.drop (i+1))/\i<l.length
 | [],i,h=>by simp[Lib.indexByte]at h
 | b::l,i,h=>by
  unfold Lib.indexByte at h
  by_cases hb:b=c
  ·subst hb
   simp at h
   have:i=0:=by omega
   subst this
   simp[qE]
  ·simp only[beq_iff_eq,hb,if_false]at h
   have hg:=Lib.indexByte_ge l c
   split at h
   ·omega
   ·rename_i h2
    obtain⟨j,hj⟩:∃j:Nat,Lib.indexByte l c=j:=⟨(Lib.indexByte l c).toNat,by omega⟩
    obtain⟨h3,h4⟩:=VO hj
    have:i=j+1:=by omega
    subst this
    rw[qE,if_neg hb,h3]
    simp;omega
def XG (b1 b2 b3:Nat) (l:List UInt8) (H:q8):q8:=(b1,.var .str (.s [47]))::(b2,.var .str (.s l))::(b3,.var (.int .i64) (.i .i64 0))::H
theorem zdS {G:Nat->q8->Prop} {X:q8->Prop} (y b1 b2 b3:Nat) (l:List UInt8) (hl:l.length<=9223372036854775807) (hGe:∀k H,G k H->H.er=H) (hXe:∀H,X H->H.er=H)
  (hY:∀k x H,(qE 47 l)[k]?=some x->G k H->YC Tryz.prog y [.av .str (.s x)] H fun r H'=>(r=.av .bool (.b true)/\G (k+1) H')\/(r=.av .bool (.b false)/\X H')) (H0:q8) (h0:G 0 H0) :
  q7 Tryz.prog 130 [.av .func (.yl y),.av .ptr (.ptr b1 .str []),.av .ptr (.ptr b2 .str []),.av .ptr (.ptr b3 (.int .i64) [])] (XG b1 b2 b3 l H0)
   fun r H'=>r=.tup []/\∃l' H1,H'=XG b1 b2 b3 l' H1/\(G (qE 47 l).length H1\/X H1):=by
 refine q7.nodup fun hnd=>?_
 simp[XG,q8.keys]at hnd
 obtain⟨⟨n12,n13,_⟩,⟨n23,_⟩,_⟩:=hnd
 have n21:¬b2=b1:=fun e=>n12 e.symm
 have n31:¬b3=b1:=fun e=>n13 e.symm
 have n32:¬b3=b2:=fun e=>n23 e.symm
 refine zov Tryz.func130 cf0 fun imm0 w0=>?_
 simp (disch:=omega) [zz,XG,n12,n13,n23,n21,n31,n32]
 refine AT.loopV (α:=Nat × List UInt8 × q8) (fun x ver=>St.of [(0,.av .func (.yl y)),(1,.av .ptr (.ptr b1 .str [])),(2,.av .ptr (.ptr b2 .str [])),(3,.av .ptr (.ptr b3 (.int .i64) []))] [] ver (XG b1 b2 b3 x.2.1 x.2.2))
  (fun x=>G x.1 x.2.2/\(qE 47 l).drop x.1=qE 47 x.2.1/\x.2.1.length<=9223372036854775807) (fun x=>x.2.1.length) (0,l,H0) ?_ ?_ ?_
 ·apply Le.of<;>simp[le9,XG]<;>try omega
 ·exact⟨h0,rfl,hl⟩
 rintro⟨k,l',H⟩ ver ⟨hG,hdr,hl'⟩ KL hN hE
 simp only at hG hdr hl' hN
 refine zrd cf0 ?_
 simp (disch:=omega) [zz,XG,n12,n13,n23,n21,n31,n32]
 refine zcv (zcM l' 47 hl') ?_
 by_cases hi:Lib.indexByte l' 47<0
 ·have hm:Lib.indexByte l' 47=-1:=by have:=Lib.indexByte_ge l' 47;omega
  have hsp:=VI hm
  have hx:(qE 47 l)[k]?=some l':=by
   have:=congrArg (·[0]?) hdr
   rw[hsp]at this
   simpa using this
  have hk:(qE 47 l).length=k+1:=by
   have:=congrArg List.length hdr
   rw[hsp,List.length_drop]at this
   simp at this;omega
  simp (disch:=omega) [zz,hm,n12,n13,n23,n21,n31,n32,XG]
  refine hE _ _ (by simp) ?_
  simp (disch:=omega) [zz,n12,n13,n23,n21,n31,n32,XG]
  refine WK (R:=fun r H'=>(r=.av .bool (.b true)/\G (k+1) H')\/(r=.av .bool (.b false)/\X H')) H [(b1,.var .str (.s [47])),(b2,.var .str (.s l')),(b3,.var (.int .i64) (.i .i64 0))] (List.perm_append_comm (l₁:=[_,_,_])) (by simp[qI]) ?_ ?_
  ·rw[hGe k H hG]
   simpa[TV.er,AV.er]using hY k l' H hx hG
  ·intro r H' hR hnd'
   refine⟨[(b1,.var .str (.s [47])),(b2,.var .str (.s l')),(b3,.var (.int .i64) (.i .i64 0))]++H',HSub.of_perm List.perm_append_comm,?_⟩
   have hHe:H'.er=H':=hR.elim (fun h=>hGe _ _ h.2) (fun h=>hXe _ h.2)
   rcases hR with⟨rfl,hR⟩|⟨rfl,hR⟩
   ·simp (disch:=omega) [zz,Tryz.f130,hHe,hk]
    exact⟨_,_,⟨rfl,rfl⟩,.inl hR⟩
   ·simp (disch:=omega) [zz,Tryz.f130,hHe,hk]
    exact⟨_,_,⟨rfl,rfl⟩,.inr hR⟩
 ·obtain⟨i,hi'⟩:∃i:Nat,Lib.indexByte l' 47=i:=⟨(Lib.indexByte l' 47).toNat,by omega⟩
  obtain⟨hsp,hlt⟩:=VO hi'
  have hx:(qE 47 l)[k]?=some (l'.take i):=by
   have:=congrArg (·[0]?) hdr
   rw[hsp]at this
   simpa using this
  have hdr2:(qE 47 l).drop (k+1)=qE 47 (l'.drop (i+1)):=by
   rw[<-List.drop_drop,hdr,hsp];rfl
  have hge:¬(i:Int)<0:=by omega
  simp (disch:=omega) [zz,hi',hge,n12,n13,n23,n21,n31,n32,XG]
  (repeat with_reducible refine om ?_)
  refine WK (R:=fun r H'=>(r=.av .bool (.b true)/\G (k+1) H')\/(r=.av .bool (.b false)/\X H')) H [(b1,.var .str (.s [47])),(b2,.var .str (.s l')),(b3,.var (.int .i64) (.i .i64 0))] (List.perm_append_comm (l₁:=[_,_,_])) (by simp[qI]) ?_ ?_
  ·rw[hGe k H hG]
   simpa[TV.er,AV.er]using hY k (l'.take i) H hx hG
  ·intro r H' hR hnd'
   refine⟨[(b1,.var .str (.s [47])),(b2,.var .str (.s l')),(b3,.var (.int .i64) (.i .i64 0))]++H',HSub.of_perm List.perm_append_comm,?_⟩
   have hHe:H'.er=H':=hR.elim (fun h=>hGe _ _ h.2) (fun h=>hXe _ h.2)
   rcases hR with⟨rfl,hR⟩|⟨rfl,hR⟩
   ·simp (disch:=omega) [zz,hHe,n12,n13,n23,n21,n31,n32]
    (repeat with_reducible refine om ?_)
    refine hN _ (k+1,l'.drop (i+1),H') ?_ ⟨hR,hdr2,by simp;omega⟩ (by simp;omega)
    apply Le.of<;>simp[le9,XG]<;>try omega
   ·simp (disch:=omega) [zz,hHe]
    refine hE _ _ (by simp) ?_
    simp (disch:=omega) [zz,Tryz.f130,hHe]
    exact⟨_,_,⟨rfl,rfl⟩,.inr hR⟩
abbrev zsq:Cfg:=⟨fun n=>n==3||n==4||n==5,fun _=>false⟩
def zkA (l:List UInt8) (r:TV) (H':q8):Prop:=∃b1 b2 b3,r=.av .func (.fn 130 [.ptr b1 .str [],.ptr b2 .str [],.ptr b3 (.int .i64) []])/\H'=[(b3,.var (.int .i64) (.i .i64 0)),(b1,.var .str (.s [47])),(b2,.var .str (.s l))]
theorem zgG (l:List UInt8):q7 Tryz.prog 99 [.av .str (.s l),.av .str (.s [47]),.av (.int .i64) (.i .i64 0)] [] (zkA l):=by
 refine zov Tryz.func99 zsq fun imm0 w0=>?_
 simp (disch:=omega) [zz]
 intro b2 b1 hb1 b3 hb3 hb3'
 simp (disch:=omega) [zz,Tryz.f99,zkA]
 exact⟨_,_,_,⟨rfl,rfl,rfl⟩,rfl,rfl,rfl⟩
theorem zfW (l:List UInt8):q7 Tryz.prog 61 [.av .str (.s l),.av .str (.s [47])] [] (zkA l):=by
 refine zov Tryz.func61 cf0 fun imm0 w0=>?_
 simp (disch:=omega) [zz]
 refine wZ (R:=zkA l) rfl (by simp[qI]) (by simp) ?_ ?_
 ·exact q7.args (zgG l) (by simp[qM,TV.er,AV.er,coC])
 ·rintro r H' ⟨b1,b2,b3,rfl,rfl⟩
  simp (disch:=omega) [zz,Tryz.f61,zkA,AV.ers]
  exact⟨_,_,_,⟨rfl,rfl,rfl⟩,rfl,rfl,rfl⟩
theorem V7 {r:Loop} (h1:r.state=.ready) (h2:r.pending=none):({ r with state:=.ready,pending:=none }:Loop)=r:=by cases r;simp_all
def zo5 (y:Nat) (r:Loop) (i0:Nat->Nat) (w0:World) (G1:q8->Prop) (X:Loop->q8->Prop) (rr:TV) (H':q8):Prop :=
 (rr=.av .bool (.b true)/\∃H1,H'=(y,.lrec r i0 w0)::H1/\G1 H1)\/(rr=.av .bool (.b false)/\∃r' H1,H'=(y,.lrec r' i0 w0)::H1/\X r' H1)
theorem zbp {c:Ctx} {f:Operand} {ps:Array Nat} {assign body:Code} {K:Exit->St->Prop} {s:St} (hP:c.P=Tryz.prog) (hrd:c.rd=none) {c1 c2 c3:Nat} {l:List UInt8} (hl:l.length<=9223372036854775807) {Hr:q8}
  (hev:ev s f=.av .func (.fn 130 [.ptr c1 .str [],.ptr c2 .str [],.ptr c3 (.int .i64) []])) (hH:s.H.Perm (XG c1 c2 c3 l Hr)) (hHe:Hr.er=Hr) (hps:ps.size=1) (hpn:∀p∈ps.toList,p<c.n)
  (h:∀(y D:Nat) (r:Loop) (i0:Nat->Nat) (w0:World),y∉s.H.keys->r.state=.ready->r.pending=none->
   ∃(G:Nat->q8->Prop) (X:Loop->q8->Prop),(∀k H,G k H->H.er=H)/\(∀r' H,X r' H->H.er=H)/\G 0 Hr/\
    (∀k x H,(qE 47 l)[k]?=some x->G k H->∀imm w,AT ⟨c.P,c.n,imm,(y,.lrec r i0 w0)::H,w,some y,[]⟩ assign
     (zaR (fun s'=>k8 s'.H y=some (.lrec r i0 w0)/\AT ⟨c.P,c.n,imm,(y,.lrec r i0 w0)::H,w,some y,[]⟩ body (X4 y i0 w0 (zo5 y r i0 w0 (G (k+1)) X)) { s' with H:=jW s'.H y (.lrec { r with state:=.busy } i0 w0) }) KNo)
     (JA s.env ps.toList [.av .str (.s x)] ((y,.lrec r i0 w0)::H)))/\
    (∀H1,G (qE 47 l).length H1->K .normal { s with H:=H1,dfs:=D::s.dfs })/\
    (∀r' H1,X r' H1->r'.state≠.busy/\zbk K r'.pending { s with H:=H1,dfs:=D::s.dfs })) :
  AT c (.rangeFunc f ps assign body) K s:=by
 refine AT.range (gf:=130) hrd hev rfl (by rw[hP];simp) ?_
 intro y D r i0 w0 hy hrec hready hpend hpar has hbo
 obtain⟨G,X,hG,hX,h0,hY,hN,hE⟩:=h y D r i0 w0 hy hready hpend
 clear h
 subst has hbo hpar
 refine⟨XG c1 c2 c3 l ((y,.lrec r i0 w0)::Hr),[],fun t H'=>t=.tup []/\∃l' H1,H'=XG c1 c2 c3 l' H1/\((∃H2,H1=(y,.lrec r i0 w0)::H2/\G (qE 47 l).length H2)\/∃r' H2,H1=(y,.lrec r' i0 w0)::H2/\X r' H2),?_,?_,?_⟩
 ·rw[List.append_nil]
  refine(List.Perm.cons _ hH).trans ?_
  unfold XG
  exact(List.perm_middle (l₁:=[_,_,_])).symm
 ·have he:(XG c1 c2 c3 l ((y,.lrec r i0 w0)::Hr)).er=XG c1 c2 c3 l ((y,.lrec r i0 w0)::Hr):=by
   simp only[XG,q8.er_cons,hHe];rfl
  rw[he,hP]
  have:=zdS (G:=fun k H=>∃H2,H=(y,.lrec r i0 w0)::H2/\G k H2) (X:=fun H=>∃r' H2,H=(y,.lrec r' i0 w0)::H2/\X r' H2) y c1 c2 c3 l hl ?_ ?_ ?_ ((y,.lrec r i0 w0)::Hr) ⟨Hr,rfl,h0⟩
  ·exact this
  ·rintro k H ⟨H2,rfl,hg⟩
   rw[q8.er_cons,hG k H2 hg];rfl
  ·rintro H ⟨r',H2,rfl,hg⟩
   rw[q8.er_cons,hX r' H2 hg];rfl
  ·rintro k x H hx ⟨H2,rfl,hg⟩
   have hrd:=YC.of_round (P:=c.P) (n:=c.n) (E:=s.env) (r:=r) (i0:=i0) (w0:=w0) (l:=y) hrec hready (args:=[.av .str (.s x)]) (H:=H2) (R:=zo5 y r i0 w0 (G (k+1)) X) (by rw[hps];rfl) hpn (fun imm w=>hY k x H2 hx hg imm w)
   rw[hP]at hrd
   intro imm w vs h1 h2
   obtain⟨f',tmps,as',bo',h3,h4⟩:=hrd imm w vs h1 h2
   refine⟨f',tmps,as',bo',h3,RoundIn.mono h4 ?_⟩
   rintro e w' ⟨v,rr,imm',H',e1,e2,e3⟩
   refine⟨v,rr,imm',H',e1,?_,e3⟩
   rcases e2 with⟨rfl,H1,rfl,g1⟩|⟨rfl,r',H1,rfl,g1⟩
   ·exact .inl ⟨rfl,H1,rfl,g1⟩
   ·exact .inr ⟨rfl,r',H1,rfl,g1⟩
 ·rintro t H' ⟨rfl,l',H1,rfl,hh⟩ hnd
  rcases hh with⟨H2,rfl,hg⟩|⟨r',H2,rfl,hg⟩
  ·refine⟨r,H2,?_,by rw[hready];simp,?_⟩
   ·rw[List.append_nil]
    refine HSub.of_sub ?_
    unfold XG
    exact((List.Sublist.refl _).cons _).cons _ |>.cons _
   ·rw[hpend];exact hN H2 hg
  ·obtain⟨hb,hk⟩:=hE r' H2 hg
   refine⟨r',H2,?_,hb,hk⟩
   rw[List.append_nil]
   refine HSub.of_sub ?_
   unfold XG
   exact((List.Sublist.refl _).cons _).cons _ |>.cons _
def jQ (l:List UInt8):Bool:=decide ((qE 47 l).length<=16)&&(qE 47 l).all QM
theorem y6 (c:UInt8):∀l x,x∈qE c l->x.length<=l.length
 | [],x,h=>by simp[qE]at h;simp[h]
 | b::l,x,h=>by
  unfold qE at h
  split at h
  ·rcases List.mem_cons.1 h with rfl|h
   ·simp
   ·have:=y6 c l x h;simp;omega
  ·cases hs:qE c l with
   | nil=>exact absurd hs (yU c l)
   | cons y r =>
    rw[hs]at h
    rcases List.mem_cons.1 h with rfl|h
    ·have:=y6 c l y (by rw[hs];simp);simp;omega
    ·have:=y6 c l x (by rw[hs];simp[h]);simp;omega
abbrev zmo:Cfg:=⟨fun n=>n==2||n==3,fun _=>false⟩
def ztk (l:List UInt8) (b2 b3:Nat) (k:Nat) (H:q8):Prop :=
 k<=16/\(∀i,i<k->∀x,(qE 47 l)[i]?=some x->QM x=true)/\H=[(b3,.var (.int .i64) (.i .i64 k)),(b2,.var .bool (.b false))]
def zty (l:List UInt8) (b2 b3:Nat) (r:Loop) (H:q8):Prop :=
 jQ l=false/\r.state=.done/\r.pending=some .ret/\∃n,H=[(b3,.var (.int .i64) (.i .i64 n)),(b2,.var .bool (.b false))]
theorem XJ (l:List UInt8) (hl:l.length<=9223372036854775807):PC Tryz.prog 41 [.av .str (.s l)] (.av .bool (.b (jQ l))):=by
 refine zow Tryz.func41 zmo fun imm0 w0=>?_
 simp (disch:=omega) [zz]
 intro b2 b3 hb3
 refine qD (R:=zkA l) [] [(b3,.var (.int .i64) (.i .i64 0)),(b2,.var .bool (.b false))] (by simp) rfl (by simp[qI]) (by simp) ?_ ?_
 ·exact q7.args (zfW l) (by simp[qM,TV.er,AV.er,coC])
 rintro r H' ⟨c1,c2,c3,rfl,rfl⟩ hnd
 refine⟨_,HSub.refl _,?_⟩
 simp (disch:=omega) [zz]
 refine zbp rfl rfl (c1:=c1) (c2:=c2) (c3:=c3) hl (Hr:=[(b3,.var (.int .i64) (.i .i64 0)),(b2,.var .bool (.b false))]) rfl ?_ rfl rfl (by simp) ?_
 ·simp only[XG]
  exact List.Perm.trans (List.Perm.swap _ _ _) (List.Perm.cons _ (List.Perm.swap _ _ _))
 intro y D r i0 w0' hy hready hpend
 simp at hy
 obtain⟨_,_,_,hy3,hy2⟩:=hy
 have hy3':¬b3=y:=fun e=>hy3 e.symm
 have hy2':¬b2=y:=fun e=>hy2 e.symm
 have hb3':¬b2=b3:=fun e=>hb3 e.symm
 refine⟨ztk l b2 b3,zty l b2 b3,?_,?_,?_,?_,?_,?_⟩
 ·rintro k H ⟨_,_,rfl⟩;rfl
 ·rintro k H ⟨_,_,_,n,rfl⟩;rfl
 ·exact⟨by omega,fun i h=>by omega,rfl⟩
 ·rintro k x H hx ⟨hk,hall,rfl⟩ imm w
  have hxl:x.length<=9223372036854775807:=Nat.le_trans (y6 47 l x (List.mem_of_getElem? hx)) hl
  refine zrd zmo ?_
  simp (disch:=omega) [zz,JA,Z5,pD]
  refine zrd zmo ?_
  have hlt:k<(qE 47 l).length:=(List.getElem?_eq_some_iff.1 hx).1
  by_cases h16:k<16
  ·have h1:¬(16:Int)<(k:Int)+1:=by omega
   simp (disch:=omega) [zz,JA,Z5,pD,hy3,hy3',hy2,hy2',hb3,hb3',h1]
   refine zcv (zpv x hxl) ?_
   cases hp:QM x
   ·simp (disch:=omega) [zz,hy3,hy3',hy2,hy2',hb3,hb3',X4,gJ,zo5]
    refine⟨_,_,⟨rfl,rfl⟩,?_,rfl,rfl,_,rfl⟩
    simp only[jQ,Bool.and_eq_false_iff]
    right
    rw[List.all_eq_false]
    exact⟨x,List.mem_of_getElem? hx,by simp[hp]⟩
   ·simp (disch:=omega) [zz,hy3,hy3',hy2,hy2',hb3,hb3',X4,gJ,zo5]
    refine⟨_,⟨congrArg (fun r=>HObj.lrec r i0 w0') (V7 hready hpend),rfl⟩,by omega,?_,by simp⟩
    intro i hi x' hx'
    rcases Nat.lt_or_ge i k with h|h
    ·exact hall i h x' hx'
    ·have:i=k:=by omega
     subst this
     rw[hx]at hx';cases hx';exact hp
  ·have h1:(16:Int)<(k:Int)+1:=by omega
   simp (disch:=omega) [zz,JA,Z5,pD,hy3,hy3',hy2,hy2',hb3,hb3',h1,X4,gJ,zo5]
   refine⟨_,_,⟨rfl,rfl⟩,?_,rfl,rfl,_,rfl⟩
   simp only[jQ,Bool.and_eq_false_iff]
   left
   simp;omega
 ·rintro H1 ⟨hk,hall,rfl⟩
  simp (disch:=omega) [zz]
  simp (disch:=omega) [zz,hb3,hb3',hy3,hy2,jQ,Tryz.f41]
  refine⟨hk,fun x hx=>?_⟩
  obtain⟨i,hi⟩:=List.getElem?_of_mem hx
  exact hall i (List.getElem?_eq_some_iff.1 hi).1 x hi
 ·rintro r' H1 ⟨hm,h1,h2,n,rfl⟩
  refine⟨by rw[h1];simp,?_⟩
  rw[h2]
  simp only[zbk]
  simp (disch:=omega) [zz,hb3,hb3',hm,Tryz.f41]
def kN (l d:List UInt8):Bool:=jQ l&&(decide (d=[])||(jQ d&&wL l (d++[47])))
theorem zeT (l d:List UInt8) (hl:l.length<=9223372036854775807) (hd:d.length<=1000):PC Tryz.prog 92 [.av .str (.s l),.av .str (.s d)] (.av .bool (.b (kN l d))):=by
 refine zow Tryz.func92 cf0 fun imm0 w0=>?_
 simp (disch:=omega) [zz]
 refine zcv (XJ l hl) ?_
 cases hm:jQ l
 ·simp (disch:=omega) [zz,Tryz.f92,kN,hm]
 by_cases he:d=[]
 ·simp (disch:=omega) [zz,he,Tryz.f92,kN,hm]
 simp (disch:=omega) [zz,he]
 refine zcv (XJ d (by omega)) ?_
 cases hm2:jQ d
 ·simp (disch:=omega) [zz,Tryz.f92,kN,hm,hm2,he]
 simp (disch:=omega) [zz,he]
 refine⟨by omega,?_⟩
 refine zcv (YA l (d++[47]) hl (by simp;omega)) ?_
 simp (disch:=omega) [zz,Tryz.f92,kN,hm,hm2,he]
theorem C6 (c b:UInt8):∀l,qE c (l++[b])=if b=c then qE c l++[[]] else(qE c l).set ((qE c l).length-1) (((qE c l)[(qE c l).length-1]?.getD [])++[b])
 | []=>by
  simp only[List.nil_append,qE]
  split<;>simp
 | x::l=>by
  have ih:=C6 c b l
  have hne:=yU c l
  simp only[List.cons_append,qE]
  by_cases hx:x=c
  ·simp only[hx,if_true]
   rw[ih]
   by_cases hb:b=c
   ·simp[hb]
   ·simp only[hb,if_false]
    cases hs:qE c l with
    | nil=>exact absurd hs hne
    | cons y r=>simp
  ·simp only[hx,if_false]
   rw[ih]
   cases hs:qE c l with
   | nil=>exact absurd hs hne
   | cons y r =>
    by_cases hb:b=c
    ·simp[hb]
    ·simp only[hb,if_false]
     cases r with
     | nil=>simp
     | cons z q=>simp
def strs (l:List (List UInt8)):List AV:=l.map AV.s
abbrev ziO:Cfg:=⟨fun _=>false,fun n=>n==5||n==35⟩
def zml (l:List UInt8) (r:TV) (H':q8):Prop:=∃b cap rs,r=.av (.slice 9) (.msl b 9 0 (qE 47 l).length cap)/\H'=[(b,.var (.arr cap 9) (.agg (strs (qE 47 l++rs))))]/\(qE 47 l).length+rs.length=cap
theorem K4 (c:UInt8):∀l,(qE c l).length<=l.length+1
 | []=>by simp[qE]
 | b::l=>by
  have:=K4 c l
  unfold qE
  split
  ·simp;omega
  ·cases hs:qE c l with
   | nil=>simp
   | cons y r=>rw[hs]at this;simp at this |-;omega
@[simp] theorem zqK (l:List (List UInt8)):(strs l).length=l.length:=by simp[strs]
theorem wX (a b:List (List UInt8)):strs (a++b)=strs a++strs b:=by simp[strs]
theorem vI {x:UInt8} {n:Nat} (hn:n<256) (h:¬x=UInt8.ofNat n):¬(x.toNat:Int)=n:=fun e=>h (by
 apply UInt8.toNat_inj.1
 simp[Nat.mod_eq_of_lt hn];omega)
@[simp] theorem zrR (l:List (List UInt8)):AV.erks (strs l)=strs l:=by simp[strs,AV.erks_eq,AV.erk,Function.comp_def]
@[simp] theorem pU (l:List (List UInt8)):AV.ers (strs l)=strs l:=by simp[strs,AV.ers_eq,AV.er,Function.comp_def]
theorem zcZ (l:List (List UInt8)) (n:Nat):(strs l).take n=strs (l.take n):=by simp[strs,List.map_take]
theorem zlg (l:List (List UInt8)) (n:Nat):(strs l).drop n=strs (l.drop n):=by simp[strs,List.map_drop]
theorem XX (n:Nat):List.replicate n (AV.s [])=strs (List.replicate n []):=by simp[strs]
theorem zdb (x:List UInt8) (l:List (List UInt8)):AV.s x::strs l=strs (x::l):=rfl
theorem ziw (l:List UInt8) (hl:l.length<=1000000000):q7 Tryz.prog 37 [.av .str (.s l)] [] (zml l):=by
 refine zov Tryz.func37 ziO fun imm0 w0=>?_
 simp (disch:=omega) [zz]
 intro b0
 refine AT.loopV (α:=Nat × Nat × Nat × List (List UInt8) × List (List UInt8)) (fun x ver=>St.of [(0,.av .str (.s l)),(3,.av (.slice 9) (.msl x.2.1 9 0 x.2.2.2.1.length x.2.2.1)),(4,.av (.int .i64) (.i .i64 x.1))] [] ver [(x.2.1,.var (.arr x.2.2.1 9) (.agg (strs (x.2.2.2.1++x.2.2.2.2))))])
  (fun x=>x.1<=l.length/\x.2.2.2.1=qE 47 (l.take x.1)/\x.2.2.2.1.length+x.2.2.2.2.length=x.2.2.1) (fun x=>l.length-x.1) (0,b0,1,[[]],[]) ?_ ?_ ?_
 ·apply Le.of<;>simp[le9,strs]<;>try omega
 ·simp[qE]
 rintro⟨k,b,cap,ps,rest⟩ ver ⟨hk,hps,hcap⟩ KL hN hE
 simp only at hk hps hcap hN
 have hsl:=K4 47 (l.take k)
 rw[<-hps]at hsl
 simp at hsl
 have hne:ps≠[]:=by rw[hps];exact yU _ _
 have hpos:0<ps.length:=List.length_pos_iff.2 hne
 have e1:(strs (ps++rest)).take ps.length=strs ps:=by rw[zcZ,List.take_left]
 have e2:(strs (ps++rest)).drop (ps.length+1)=strs (rest.drop 1):=by
  rw[zlg,List.drop_append,List.drop_eq_nil_of_le (by omega)]
  simp
 refine zrd ziO ?_
 by_cases hlt:k<l.length
 ·have hlt':(k:Int)<l.length:=by omega
  have hsn:=C6 47 l[k] (l.take k)
  rw[<-List.take_succ_eq_append_getElem hlt,<-hps]at hsn
  by_cases hc:l[k]=47
  ·rw[if_pos hc]at hsn
   simp (disch:=omega) [zz,hlt',hc,e1,e2]
   refine⟨by omega,⟨by omega,by omega⟩,fun hcp=>?_,fun hcp b' cap' hb' hcp'=>?_⟩
   ·refine hN _ (k+1,b,cap,ps++[[]],rest.drop 1) ?_ ⟨by omega,hsn.symm,by simp;omega⟩ (by simp;omega)
    apply Le.of<;>simp[le9,wX,zdb,e1,e2]<;>try omega
   ·refine hN _ (k+1,b',cap',ps++[[]],List.replicate (cap'-(ps.length+1)) []) ?_ ⟨by omega,hsn.symm,by simp at hcp' |-;omega⟩ (by simp;omega)
    have hmin:min ps.length (ps.length+rest.length)=ps.length:=by omega
    apply Le.of<;>simp[le9,wX,XX,zdb,e1,e2,hmin]<;>try omega
  ·rw[if_neg hc]at hsn
   have hc':¬(l[k].toNat:Int)=47:=by have:=vI (n:=47) (by omega) hc;simpa using this
   have e3:(strs (ps++rest))[ps.length-1]?=some (.s (ps[ps.length-1]?.getD [])):=by
    simp only[strs,List.getElem?_map]
    rw[List.getElem?_append_left (by omega),List.getElem?_eq_getElem (by omega)]
    rfl
   have e4:∀x,(strs (ps++rest)).set (ps.length-1) (.s x)=strs (ps.set (ps.length-1) x++rest):=by
    intro x
    rw[<-List.set_append_left _ _ (by omega)]
    simp[strs,List.map_set]
   have e5:(l.take (k+1)).drop k=[l[k]]:=by
    rw[List.take_succ_eq_append_getElem hlt]
    exact List.drop_left' (by simp;omega)
   have e6:(ps[ps.length-1]?.getD []).length<=l.length:=by
    rw[List.getElem?_eq_getElem (by omega)]
    have:=y6 47 (l.take k) ps[ps.length-1] (by rw[<-hps];exact List.getElem_mem _)
    simp at this |-;omega
   generalize hz:(ps[ps.length-1]?.getD [])=z at *
   simp (disch:=omega) [zz,hlt',hc',e1,e2,e3,e4,e5]
   (repeat with_reducible refine om ?_)
   refine hN _ (k+1,b,cap,ps.set (ps.length-1) (z++[l[k]]),rest) ?_ ⟨by omega,hsn.symm,by simp;omega⟩ (by simp;omega)
   apply Le.of<;>simp[le9,e4]<;>try omega
 ·have hlt':¬(k:Int)<l.length:=by omega
  simp (disch:=omega) [zz,hlt']
  refine hE _ _ (by simp) ?_
  have hkl:l.take k=l:=List.take_of_length_le (by omega)
  rw[hkl]at hps
  simp (disch:=omega) [zz,Tryz.f37,zml,<-hps]
  exact⟨_,_,⟨rfl,rfl⟩,rest,⟨rfl,rfl,rfl⟩,hcap⟩
theorem D9 (l:List UInt8) (hl:l.length<=1000000000):PC Tryz.prog 37 [.av .str (.s l)] (.av (.slice 9) (.sl .no (strs (qE 47 l)))):=by
 refine(ziw l hl).freeze laid ?_
 rintro r H' ⟨b,cap,rs,rfl,rfl,hc⟩ _
 left
 refine⟨b,cap,9,_,[],List.Perm.refl _,?_,rfl⟩
 simp only[CQ,fzA]
 rw[if_pos ⟨trivial,trivial,by omega,by omega⟩]
 simp[zcZ]
theorem VU (a b:List AV):AV.erks (a++b)=AV.erks a++AV.erks b:=by simp[AV.erks_eq]
def JK (j:List AV):Prop:=AV.erks j=j
theorem JK.app {a b:List AV} (ha:JK a) (hb:JK b):JK (a++b):=by unfold JK at *;rw[VU,ha,hb]
theorem JK.nil:JK []:=rfl
theorem JK.take {a:List AV} (h:JK a) (n:Nat):JK (a.take n):=by
 unfold JK at *;rw[AV.erks_eq]at *;rw[List.map_take,h]
theorem JK.drop {a:List AV} (h:JK a) (n:Nat):JK (a.drop n):=by
 unfold JK at *;rw[AV.erks_eq]at *;rw[List.map_drop,h]
theorem JK.rep {z:AV} (h:z.erk=z) (n:Nat):JK (List.replicate n z):=by
 unfold JK;rw[AV.erks_eq,List.map_replicate,h]
abbrev Txt:=List UInt8
noncomputable def kU (l:List Txt):List Txt:=l.mergeSort fun a b=>decide (a<=b)
def KM (ws:List Txt) (v:AV) (H:q8):Prop:=(ws=[]/\v=.sl .no []/\H=[])\/∃b cap j,JK j/\v=.msl b 9 0 ws.length cap/\ws.length+j.length=cap/\H=[(b,.var (.arr cap 9) (.agg (strs ws++j)))]
theorem DK (l:List Txt):AV.erks (strs l)=strs l:=by simp[strs,AV.erks_eq,AV.erk,Function.comp_def]
theorem zV (l:List Txt):(strs l).length=l.length:=by simp[strs]
theorem Q5 (p:List Txt) (k:Nat) (h:k<p.length):(strs p)[k]?=some (.s p[k]):=by simp[strs,List.getElem?_eq_getElem h]
theorem XN (p:List Txt) (j:List AV) (k:Nat) (h:k<p.length):(strs p++j)[k]?=some (.s p[k]):=by
 rw[List.getElem?_append_left (by rw[zV];exact h),Q5 p k h]
theorem KM.er {ws:List Txt} {v:AV} {H:q8} (h:KM ws v H):H.er=H/\v.er=v:=by
 rcases h with⟨_,rfl,rfl⟩|⟨b,cap,j,hj,rfl,_,rfl⟩
 ·exact⟨rfl,rfl⟩
 ·refine⟨?_,rfl⟩
  simp only[q8.er_cons,q8.er_nil,HObj.er_var,AV.erk,VU,DK]
  rw[show AV.erks j=j from hj]
theorem JK.strs (l:List Txt):JK (strs l):=DK l
noncomputable def yR (cap:Nat) (ts:List Txt) (j:List AV):HObj:=.var (.arr cap 9) (.agg (strs ts++j))
theorem YG {cap:Nat} {ts:List Txt} {j:List AV} (h:JK j):(yR cap ts j).er=yR cap ts j:=by
 simp only[yR,HObj.er_var,AV.erk,VU,DK]
 rw[show AV.erks j=j from h]
def WH (c:UInt8):Bool:=decide (c=32)||decide (c=9)
def jZ (cur:List UInt8):List UInt8->List (List UInt8)
 | []=>if cur=[] then [] else [cur]
 | c::r=>if WH c=true then(if cur=[] then jZ [] r else cur::jZ [] r) else jZ (cur++[c]) r
def z6 (l:List UInt8):List (List UInt8):=jZ [] l
theorem GM:∀(a:List UInt8) {cur r:List UInt8},(∀c∈a,WH c=false)->jZ cur (a++r)=jZ (cur++a) r
 | [],cur,r,_=>by simp
 | c::a,cur,r,h=>by
  simp_all[jZ,GM]
theorem uB:∀ {l cur:List UInt8},(jZ cur l).length<=l.length+1
 | [],cur=>by grind [jZ]
 | c::r,cur=>by
  unfold jZ
  split
  ·split
   ·have:=uB (l:=r) (cur:=[]);simp;omega
   ·have:=uB (l:=r) (cur:=[]);simp;omega
  ·have:=uB (l:=r) (cur:=cur++[c]);simp;omega
theorem ZZ:∀ {l cur x:List UInt8},x∈jZ cur l->x≠[]/\x.length<=cur.length+l.length
 | [],cur,x,h=>by
  simp_all[jZ]
 | c::r,cur,x,h=>by
  unfold jZ at h
  split at h
  ·split at h
   ·have:=ZZ h;grind
   ·rename_i hc
    rcases List.mem_cons.1 h with rfl|h
    ·simp_all
    ·have:=ZZ h;grind
  ·have:=ZZ h;grind
theorem zkG {l:List UInt8} {k:Nat} {b:UInt8} (h:l[k]?=some b) (hb:¬b.toNat<128):1<=(JC l k).2/\k+(JC l k).2<=l.length/\∀c∈(l.drop k).take (JC l k).2,128<=c.toNat:=by
 have hkl:k<l.length:=(List.getElem?_eq_some_iff.1 h).1
 have h0:((ByteArray.mk l.toArray).get! (k+0)).toNat=b.toNat:=by simp_all[zpd]
 have hsz:(ByteArray.mk l.toArray).size=l.length:=by rfl
 have cont:∀j,(decide (k+j<(ByteArray.mk l.toArray).size)&&(((ByteArray.mk l.toArray).get! (k+j)).toNat / 64==2))=true->k+j<l.length/\∀c,l[k+j]?=some c->128<=c.toNat:=by
  intro j hj
  simp only[Bool.and_eq_true,decide_eq_true_eq,beq_iff_eq,hsz]at hj
  grind [zpd]
 have fin:∀n,1<=n->(∀j,1<=j->j<n->k+j<l.length/\∀c,l[k+j]?=some c->128<=c.toNat)->k+n<=l.length/\∀c∈(l.drop k).take n,128<=c.toNat:=by
  intro n hn hj
  have hlen:k+n<=l.length:=by
   by_cases h1:n=1
   ·omega
   ·have:=(hj (n-1) (by omega) (by omega)).1;omega
  refine⟨hlen,fun c hc=>?_⟩
  obtain⟨i,hi,rfl⟩:=List.getElem_of_mem hc
  grind
 have one:1<=1/\k+1<=l.length/\∀c∈(l.drop k).take 1,128<=c.toNat:=⟨by omega,fin 1 (by omega) fun j h1 h2=>by omega⟩
 unfold JC Utf8.decode
 simp only[h0]
 rw[if_neg (by omega)]
 split
 ·grind
 ·split
  ·grind
  grind
def zc5 (r:Nat):Bool:=decide (r=32)||decide (r=9)
theorem zm2 (c:UInt8):zc5 c.toNat=WH c:=by
 unfold zc5 WH
 have h1:c.toNat=32<->c=32:=⟨fun h=>by
                         have:c=UInt8.ofNat c.toNat:=by simp
                         rw[this,h];rfl,fun h=>by rw[h];rfl⟩
 have h2:c.toNat=9<->c=9:=⟨fun h=>by
                        have:c=UInt8.ofNat c.toNat:=by simp
                        rw[this,h];rfl,fun h=>by rw[h];rfl⟩
 simp_all
theorem zpx (n:Nat) (hn:n<=1114111):PC Tryz.prog 187 [.av (.int .i32) (.i .i32 n)] (.av .bool (.b (zc5 n))):=by
 refine zow Tryz.func187 cf0 fun imm0 w0=>?_
 by_cases h1:n=32
 ·subst h1
  simp (disch:=omega) [zz,Tryz.f187,zc5]
 ·have h1':¬(n:Int)=32:=by omega
  by_cases h2:n=9
  ·subst h2
   simp (disch:=omega) [zz,Tryz.f187,zc5]
  ·have h2':¬(n:Int)=9:=by omega
   simp (disch:=omega) [zz,h1,h1',h2,h2',Tryz.f187,zc5]
def zfr (p:Nat × Nat):AV:=.agg [.i .i64 p.1,.i .i64 p.2]
def sps (l:List (Nat × Nat)):List AV:=l.map zfr
theorem zjm (a b:List (Nat × Nat)):sps (a++b)=sps a++sps b:=by simp[sps]
theorem QX (a:List (Nat × Nat)):(sps a).length=a.length:=by simp[sps]
def UD (l:List UInt8) (p:Nat × Nat):List UInt8:=(l.drop p.1).take (p.2-p.1)
structure V2 (l:List UInt8) (k:Nat) (sp:List (Nat × Nat)) (st:Int):Prop where
 le:k<=l.length
 few:sp.length<=k
 ins:∀p∈sp,p.1<=p.2/\p.2<=l.length
 no:st<0->z6 l=sp.map (UD l)++jZ [] (l.drop k)
 yes:∀i:Nat,st=i->i<k/\z6 l=sp.map (UD l)++jZ (UD l (i,k)) (l.drop k)
theorem V2.start (l:List UInt8):V2 l 0 [] (-1):=⟨by omega,by simp,by simp,fun _=>by simp[z6],fun i h=>by omega⟩
theorem zoM {l:List UInt8} {k:Nat} {b:UInt8} (h:l[k]?=some b):l.drop k=b::l.drop (k+1):=by
 obtain⟨hk,rfl⟩:=List.getElem?_eq_some_iff.1 h
 exact List.drop_eq_getElem_cons hk
theorem zjx {l:List UInt8} {i k:Nat} (h:i<k) (hk:k<=l.length):UD l (i,k)≠[]:=by
 intro e
 have:=congrArg List.length e
 simp[UD]at this
 omega
theorem V2.sepYes {l:List UInt8} {k i:Nat} {sp:List (Nat × Nat)} {b:UInt8} (h:V2 l k sp i) (hb:l[k]?=some b) (hs:WH b=true):V2 l (k+1) (sp++[(i,k)]) (-(i:Int)-1):=by
 obtain⟨h1,h2⟩:=h.yes i rfl
 have hk:=(List.getElem?_eq_some_iff.1 hb).1
 have hf:=h.few
 refine⟨by omega,by simp;omega,fun p hp=>?_,fun _=>?_,fun j hj=>by omega⟩
 ·rcases List.mem_append.1 hp with hp|hp
  ·exact h.ins p hp
  ·simp only[List.mem_singleton]at hp;subst hp;exact⟨by simp only;omega,by simp only;omega⟩
 ·rw[h2,zoM hb,jZ,if_pos hs,if_neg (zjx h1 (by omega))]
  simp
theorem V2.sepNo {l:List UInt8} {k:Nat} {sp:List (Nat × Nat)} {b:UInt8} {st:Int} (h:V2 l k sp st) (h0:st<0) (hb:l[k]?=some b) (hs:WH b=true):V2 l (k+1) sp st:=by
 have hk:=(List.getElem?_eq_some_iff.1 hb).1
 have hf:=h.few
 refine⟨by omega,by omega,h.ins,fun _=>?_,fun j hj=>by omega⟩
 rw[h.no h0,zoM hb,jZ,if_pos hs,if_pos rfl]
theorem zj1 {l:List UInt8} {i k w:Nat} (h:i<=k):UD l (i,k)++(l.drop k).take w=UD l (i,k+w):=by
 unfold UD
 simp only
 rw[show k+w-i=(k-i)+w by omega,List.take_add,List.drop_drop,show i+(k-i)=k by omega]
theorem V2.run {l:List UInt8} {k w:Nat} {sp:List (Nat × Nat)} {st:Int} (h:V2 l k sp st) (hw:1<=w) (hk:k+w<=l.length) (hs:∀c∈(l.drop k).take w,WH c=false):V2 l (k+w) sp (if st<0 then(k:Int) else st):=by
 have hf:=h.few
 have hd:l.drop k=(l.drop k).take w++l.drop (k+w):=by
  conv=>lhs;rw[<-List.take_append_drop w (l.drop k)]
  rw[List.drop_drop]
 refine⟨hk,by omega,h.ins,fun h0=>?_,fun i hi=>?_⟩
 ·split at h0<;>omega
 ·by_cases h0:st<0
  ·rw[if_pos h0]at hi
   have hik:i=k:=by omega
   subst hik
   refine⟨by omega,?_⟩
   rw[h.no h0,hd,GM _ hs]
   have:=zj1 (l:=l) (i:=i) (k:=i) (w:=w) (Nat.le_refl _)
   have e:UD l (i,i)=[]:=by simp[UD]
   rw[e]at this
   rw[<-this]
  ·rw[if_neg h0]at hi
   obtain⟨h1,h2⟩:=h.yes i hi
   refine⟨by omega,?_⟩
   rw[h2,hd,GM _ hs,zj1 (by omega)]
theorem V2.endNo {l:List UInt8} {sp:List (Nat × Nat)} {st:Int} (h:V2 l l.length sp st) (h0:st<0):z6 l=sp.map (UD l):=by
 rw[h.no h0];simp[jZ]
theorem V2.endYes {l:List UInt8} {sp:List (Nat × Nat)} {i:Nat} (h:V2 l l.length sp i):z6 l=(sp++[(i,l.length)]).map (UD l)/\i<l.length:=by
 obtain⟨h1,h2⟩:=h.yes i rfl
 refine⟨?_,h1⟩
 rw[h2]
 simp only[List.drop_length,jZ]
 rw[if_neg (zjx h1 (Nat.le_refl _))]
 simp
theorem zq3 {i:Nat} (h:i<9223372036854775808):IntKind.i64.wrap (((((if IntKind.i64.signed=true then -1 else 9223372036854775807):Int) % 2 ^ IntKind.i64.bits).toNat ^^^ i % 2 ^ IntKind.i64.bits:Nat):Int)=-(i:Int)-1:=by
 have e:(((if IntKind.i64.signed=true then -1 else 9223372036854775807):Int) % 2 ^ IntKind.i64.bits).toNat=18446744073709551615:=by rfl
 have e2:i % 2 ^ IntKind.i64.bits=i:=Nat.mod_eq_of_lt (by show i<2 ^ 64;omega)
 rw[e,e2]
 have h1:(BitVec.allOnes 64 ^^^ BitVec.ofNat 64 i).toNat=18446744073709551615-i:=by
  rw[BitVec.xor_comm,BitVec.xor_allOnes,BitVec.toNat_not,BitVec.toNat_ofNat,Nat.mod_eq_of_lt (by omega)]
 have h2:(BitVec.allOnes 64 ^^^ BitVec.ofNat 64 i).toNat=18446744073709551615 ^^^ i:=by
  rw[BitVec.toNat_xor,BitVec.toNat_allOnes,BitVec.toNat_ofNat,Nat.mod_eq_of_lt (by omega)]
 rw[<-h2,h1]
 unfold IntKind.wrap
 simp[IntKind.bits,IntKind.signed]
 omega
abbrev spO (cap:Nat) (sp:List (Nat × Nat)) (j:List AV):HObj:=.var (.arr cap 254) (.agg (sps sp++j))
abbrev zmm:Cfg:=⟨fun _=>false,fun _=>false⟩
theorem V0 (ws:List (List UInt8)) (x:Nat) (h:x<ws.length):(strs (ws.take x++List.replicate (ws.length-x) [])).set x (.s ws[x])=strs (ws.take (x+1)++List.replicate (ws.length-(x+1)) []):=by
 have e:ws.length-x=(ws.length-(x+1))+1:=by omega
 rw[e,List.replicate_succ,wX,List.set_append_right _ _ (by simp[strs];omega)]
 have:x-(strs (ws.take x)).length=0:=by simp[strs];omega
 rw[this,List.take_succ_eq_append_getElem h,List.append_assoc,wX]
 simp[strs]
theorem zcy (l:List UInt8) (hl:l.length<=1000000) :
  q7 Tryz.prog 186 [.av .str (.s l),.av .func (.fn 187 [])] [] fun r H'=>∃b cap,r=.av (.slice 9) (.msl b 9 0 (z6 l).length cap)/\H'=[(b,.var (.arr cap 9) (.agg (strs (z6 l))))]/\cap=(z6 l).length:=by
 refine q7.sub (R:=fun r H'=>∃b cap H2,r=.av (.slice 9) (.msl b 9 0 (z6 l).length cap)/\H2=[(b,.var (.arr cap 9) (.agg (strs (z6 l))))]/\cap=(z6 l).length/\Ab.HSub H2 H') ?_ fun r H' ⟨b,cap,H2,h1,h2,h3,h4⟩ _=>⟨H2,h4,b,cap,h1,h2,h3⟩
 refine zov Tryz.func186 zmm fun imm0 w0=>?_
 simp (disch:=omega) [zz]
 intro b0
 intro bi hbi
 have hbi':¬b0=bi:=fun e=>hbi e.symm
 refine AT.loopV (α:=Nat × Nat × Nat × List (Nat × Nat) × List AV × Int) (fun x ver=>St.of [(0,.av .str (.s l)),(1,.av .func (.fn 187 [])),(5,.av (.slice 254) (.msl x.2.1 254 0 x.2.2.2.1.length x.2.2.1)),(6,.av (.int .i64) (.i .i64 x.2.2.2.2.2)),(14,.av .ptr (.ptr bi .other []))] [] ver [(x.2.1,spO x.2.2.1 x.2.2.2.1 x.2.2.2.2.1),(bi,.siter l x.1)])
  (fun x=>V2 l x.1 x.2.2.2.1 x.2.2.2.2.2/\JK x.2.2.2.2.1/\x.2.2.2.1.length+x.2.2.2.2.1.length=x.2.2.1/\x.2.1≠bi) (fun x=>l.length-x.1) (0,b0,32,[],List.replicate 32 (.agg [.i .i64 0,.i .i64 0]),-1) ?_ ?_ ?_
 ·refine Le.ofP ?_ ?_ ?_ ?_ (HSub.of_perm (List.Perm.swap _ _ _))<;>simp[zA,qF,sps]<;>try omega
 ·exact⟨V2.start l,JK.rep rfl 32,by simp,hbi'⟩
 rintro⟨k,b,cap,sp,j,st⟩ ver ⟨hinv,hj,hcap,hb⟩ KL hN hE
 simp only at hinv hj hcap hb hN
 have hb':¬bi=b:=fun e=>hb e.symm
 refine zrd zmm ?_
 by_cases hlt:k<l.length
 ·obtain⟨c,hc⟩:∃c,l[k]?=some c:=⟨_,List.getElem?_eq_getElem hlt⟩
  obtain⟨r,w,hr⟩:∃r w,JC l k=(r,w):=⟨_,_,rfl⟩
  have hrw:r<=1114111/\1<=w/\k+w<=l.length/\(zc5 r=true->w=1/\WH c=true)/\(zc5 r=false->∀y∈(l.drop k).take w,WH y=false):=by
   by_cases h8:c.toNat<128
   ·rw[GN hc h8]at hr
    cases hr
    rw[zm2]
    refine⟨by omega,by omega,by omega,fun h=>⟨rfl,h⟩,fun h y hy=>?_⟩
    rw[zoM hc]at hy
    simp at hy
    rw[hy];exact h
   ·have h1:=zgv hc h8
    have h2:=zkG hc h8
    rw[hr]at h1 h2
    refine⟨h1.2,h2.1,h2.2.1,fun h=>?_,fun _ y hy=>?_⟩
    ·have:=h1.1
     unfold zc5 at h
     simp at h
     omega
    ·have:=h2.2.2 y hy
     rw[<-zm2]
     unfold zc5
     simp
     omega
  obtain⟨hr1,hw1,hkw,hsy,hsn⟩:=hrw
  simp (disch:=omega) [zz,hlt,hr,hb,hb']
  refine zcv (zpx r hr1) ?_
  cases hs:zc5 r
  ·have hrun:=hinv.run hw1 hkw (hsn hs)
   by_cases h0:st<0
   ·rw[if_pos h0]at hrun
    simp (disch:=omega) [zz,hs,h0]
    refine hN _ (k+w,b,cap,sp,j,(k:Int)) ?_ ⟨hrun,hj,hcap,hb⟩ (by simp only;omega)
    apply Le.of<;>simp[le9,sps]<;>try omega
   ·rw[if_neg h0]at hrun
    simp (disch:=omega) [zz,hs,h0]
    refine hN _ (k+w,b,cap,sp,j,st) ?_ ⟨hrun,hj,hcap,hb⟩ (by simp only;omega)
    apply Le.of<;>simp[le9,sps]<;>try omega
  ·obtain⟨rfl,hsc⟩:=hsy hs
   by_cases h0:st<0
   ·have h0':¬0<=st:=by omega
    simp (disch:=omega) [zz,hs,h0,h0']
    refine hN _ (k+1,b,cap,sp,j,st) ?_ ⟨hinv.sepNo h0 hc hsc,hj,hcap,hb⟩ (by simp only;omega)
    apply Le.of<;>simp[le9,sps]<;>try omega
   ·obtain⟨i,rfl⟩:∃i:Nat,st=i:=⟨st.toNat,by omega⟩
    have h0':(0:Int)<=i:=by omega
    have hnx:=hinv.sepYes hc hsc
    have hf:=hinv.few
    have e1:(sps sp++j).take sp.length=sps sp:=by rw[List.take_append_of_le_length (by simp[QX])];exact List.take_of_length_le (by simp[QX])
    have e2:(sps sp++j).drop (sp.length+1)=j.drop 1:=by
     rw[List.drop_append,List.drop_of_length_le (by simp[QX])];simp[QX]
    have e3:sps (sp++[(i,k)])=sps sp++[.agg [.i .i64 i,.i .i64 k]]:=by rw[zjm];rfl
    have hx:=zq3 (i:=i) (by have:=(hinv.yes i rfl).1;omega)
    simp (disch:=omega) [zz,hs,h0',hb,hb',e1,e2,QX]
    refine⟨by omega,⟨by omega,by omega⟩,fun hcp=>?_,fun hcp b' cap' hb1 hb2 hcp'=>?_⟩
    ·refine hN _ (k+1,b,cap,sp++[(i,k)],j.drop 1,-(i:Int)-1) ?_ ⟨hnx,hj.drop 1,by simp;omega,hb⟩ (by simp only;omega)
     apply Le.of<;>simp[le9,e3,hx,QX,spO]<;>try omega
    ·have hb1':¬b=b':=fun e=>hb1 e.symm
     refine hN _ (k+1,b',cap',sp++[(i,k)],List.replicate (cap'-(sp.length+1)) (.agg [.i .i64 0,.i .i64 0]),-(i:Int)-1) ?_ ⟨hnx,JK.rep rfl _,by simp at hcp' |-;omega,hb2⟩ (by simp only;omega)
     apply Le.of<;>simp[le9,e3,hx,QX,spO]<;>try omega
 have hkl:k=l.length:=by have:=hinv.le;omega
 subst hkl
 simp (disch:=omega) [zz,hlt,hb,hb']
 refine hE _ _ (by simp) ?_
 clear hN hE
 by_cases h0:st<0
 ·have h0':¬0<=st:=by omega
  have hW:=hinv.endNo h0
  have hins:=hinv.ins
  have hf:=hinv.few
  simp (disch:=omega) [zz,h0',hb,hb']
  obtain⟨ws,hws⟩:∃ws,ws=z6 l:=⟨_,rfl⟩
  rw[<-hws]at hW |-
  have hwl:ws.length=(sp).length:=by rw[hW,List.length_map]
  refine⟨by omega,by omega,?_⟩
  intro b9 h91 h92
  have h91':¬b=b9:=fun e=>h91 e.symm
  have h92':¬bi=b9:=fun e=>h92 e.symm
  refine AT.loopV (α:=Nat) (fun x ver=>St.of [(0,.av .str (.s l)),(9,.av (.slice 9) (.msl b9 9 0 ws.length ws.length)),(47,.av (.slice 254) (.msl b 254 0 (sp).length cap)),(48,.av (.int .i64) (.i .i64 ws.length)),(49,.av (.int .i64) (.i .i64 x))] [] ver [(b9,.var (.arr ws.length 9) (.agg (strs (ws.take x++List.replicate (ws.length-x) [])))),(b,spO cap (sp) j),(bi,.siter l l.length)])
   (fun x=>x<=ws.length) (fun x=>ws.length-x) 0 ?_ ?_ ?_
  ·apply Le.of<;>simp[le9,XX,hwl,spO]<;>try omega
  ·simp
  rintro x ver2 hx KL2 hN2 hE2
  refine zrd zmm ?_
  by_cases hxl:x<ws.length
  ·have hxl':(x:Int)<ws.length:=by omega
   have hxs:x<(sp).length:=by omega
   have hxs':(x:Int)<(sp).length:=by omega
   obtain⟨pr,hpr⟩:∃pr,(sp)[x]=pr:=⟨_,rfl⟩
   obtain⟨pa,pb⟩:=pr
   have hgx:(sps (sp)++j)[x]?=some (.agg [.i .i64 pa,.i .i64 pb]):=by
    rw[List.getElem?_append_left (by simpa[QX]using hxs)]
    simp[sps,List.getElem?_eq_getElem hxs,hpr,zfr]
   have hin:=hins _ (hpr▸List.getElem_mem hxs)
   simp only at hin
   have hpa:(pa:Int)<=pb:=by omega
   have hpb:(pb:Int)<=l.length:=by omega
   have hwx:(l.take pb).drop pa=ws[x]:=by
    have:ws[x]=UD l (sp)[x]:=by simp[hW]
    rw[this,hpr,UD,List.drop_take]
   have jW:=V0 ws x hxl
   rw[<-hwx]at jW
   simp (disch:=omega) [zz,hxs,hxs',hxl,hxl',hgx,hb,hb',h91,h92,h91',h92',hpa,hpb,jW]
   refine hN2 _ (x+1) ?_ (by omega) (by omega)
   apply Le.of<;>simp[le9,spO]<;>try omega
  ·have hxl':¬(x:Int)<ws.length:=by omega
   have hxw:x=ws.length:=by omega
   subst hxw
   simp (disch:=omega) [zz,hxl']
   refine hE2 _ _ (by simp) ?_
   simp (disch:=omega) [zz,Tryz.f186]
   exact⟨b9,_,⟨rfl,rfl⟩,rfl,HSub.of_sub (((List.nil_sublist _)).cons_cons _)⟩
 ·obtain⟨i,rfl⟩:∃i:Nat,st=i:=⟨st.toNat,by omega⟩
  have h0':(0:Int)<=i:=by omega
  obtain⟨hW,hil⟩:=hinv.endYes
  have hf:=hinv.few
  have hins:∀p∈sp++[(i,l.length)],p.1<=p.2/\p.2<=l.length:=fun p hp=>by
   rcases List.mem_append.1 hp with hp|hp
   ·exact hinv.ins p hp
   ·simp only[List.mem_singleton]at hp;subst hp;exact⟨by simp only;omega,by simp only;omega⟩
  obtain⟨spn,hspn⟩:∃spn,spn=sp++[(i,l.length)]:=⟨_,rfl⟩
  have hsl:sp.length+1=spn.length:=by rw[hspn];simp
  have e1:(sps sp++j).take sp.length=sps sp:=by rw[List.take_append_of_le_length (by simp[QX])];exact List.take_of_length_le (by simp[QX])
  have e2:(sps sp++j).drop (sp.length+1)=j.drop 1:=by
   rw[List.drop_append,List.drop_of_length_le (by simp[QX])];simp[QX]
  rw[hsl]at e2
  have e3:∀j',sps sp++.agg [.i .i64 i,.i .i64 l.length]::j'=sps spn++j':=fun j'=>by rw[hspn,zjm];simp[sps,zfr]
  rw[<-hspn]at hW hins
  simp (disch:=omega) [zz,h0',hb,hb',e1,e2,e3,QX,hsl]
  refine⟨by omega,⟨by omega,by omega⟩,fun hcp=>?_,fun hcp b' cap' hb1 hb2 hcp'=>?_⟩
  ·obtain⟨ws,hws⟩:∃ws,ws=z6 l:=⟨_,rfl⟩
   rw[<-hws]at hW |-
   have hwl:ws.length=(spn).length:=by rw[hW,List.length_map]
   refine⟨by omega,by omega,?_⟩
   intro b9 h91 h92
   have h91':¬b=b9:=fun e=>h91 e.symm
   have h92':¬bi=b9:=fun e=>h92 e.symm
   refine AT.loopV (α:=Nat) (fun x ver=>St.of [(0,.av .str (.s l)),(9,.av (.slice 9) (.msl b9 9 0 ws.length ws.length)),(47,.av (.slice 254) (.msl b 254 0 (spn).length cap)),(48,.av (.int .i64) (.i .i64 ws.length)),(49,.av (.int .i64) (.i .i64 x))] [] ver [(b9,.var (.arr ws.length 9) (.agg (strs (ws.take x++List.replicate (ws.length-x) [])))),(b,spO cap (spn) j.tail),(bi,.siter l l.length)])
    (fun x=>x<=ws.length) (fun x=>ws.length-x) 0 ?_ ?_ ?_
   ·apply Le.of<;>simp[le9,XX,hwl,spO]<;>try omega
   ·simp
   rintro x ver2 hx KL2 hN2 hE2
   refine zrd zmm ?_
   by_cases hxl:x<ws.length
   ·have hxl':(x:Int)<ws.length:=by omega
    have hxs:x<(spn).length:=by omega
    have hxs':(x:Int)<(spn).length:=by omega
    obtain⟨pr,hpr⟩:∃pr,(spn)[x]=pr:=⟨_,rfl⟩
    obtain⟨pa,pb⟩:=pr
    have hgx:(sps (spn)++j.tail)[x]?=some (.agg [.i .i64 pa,.i .i64 pb]):=by
     rw[List.getElem?_append_left (by simpa[QX]using hxs)]
     simp[sps,List.getElem?_eq_getElem hxs,hpr,zfr]
    have hin:=hins _ (hpr▸List.getElem_mem hxs)
    simp only at hin
    have hpa:(pa:Int)<=pb:=by omega
    have hpb:(pb:Int)<=l.length:=by omega
    have hwx:(l.take pb).drop pa=ws[x]:=by
     have:ws[x]=UD l (spn)[x]:=by simp[hW]
     rw[this,hpr,UD,List.drop_take]
    have jW:=V0 ws x hxl
    rw[<-hwx]at jW
    simp (disch:=omega) [zz,hxs,hxs',hxl,hxl',hgx,hb,hb',h91,h92,h91',h92',hpa,hpb,jW]
    refine hN2 _ (x+1) ?_ (by omega) (by omega)
    apply Le.of<;>simp[le9,spO]<;>try omega
   ·have hxl':¬(x:Int)<ws.length:=by omega
    have hxw:x=ws.length:=by omega
    subst hxw
    simp (disch:=omega) [zz,hxl']
    refine hE2 _ _ (by simp) ?_
    simp (disch:=omega) [zz,Tryz.f186]
    exact⟨b9,_,⟨rfl,rfl⟩,rfl,HSub.of_sub (((List.nil_sublist _)).cons_cons _)⟩
  ·have hb2':¬bi=b':=fun e=>hb2 e.symm
   obtain⟨jz,hjz⟩:∃jz,jz=List.replicate (cap'-spn.length) (.agg [.i .i64 0,.i .i64 0]:AV):=⟨_,rfl⟩
   try rw[<-hjz]
   obtain⟨ws,hws⟩:∃ws,ws=z6 l:=⟨_,rfl⟩
   rw[<-hws]at hW |-
   have hwl:ws.length=(spn).length:=by rw[hW,List.length_map]
   refine⟨by omega,by omega,?_⟩
   intro b9 h91 h93 h92
   have h91':¬b'=b9:=fun e=>h91 e.symm
   have h92':¬bi=b9:=fun e=>h92 e.symm
   refine AT.loopV (α:=Nat) (fun x ver=>St.of [(0,.av .str (.s l)),(9,.av (.slice 9) (.msl b9 9 0 ws.length ws.length)),(47,.av (.slice 254) (.msl b' 254 0 (spn).length cap')),(48,.av (.int .i64) (.i .i64 ws.length)),(49,.av (.int .i64) (.i .i64 x))] [] ver [(b9,.var (.arr ws.length 9) (.agg (strs (ws.take x++List.replicate (ws.length-x) [])))),(b',spO cap' (spn) jz),(bi,.siter l l.length)])
    (fun x=>x<=ws.length) (fun x=>ws.length-x) 0 ?_ ?_ ?_
   ·apply Le.of<;>simp[le9,XX,hwl,spO,hjz]<;>try omega
   ·simp
   rintro x ver2 hx KL2 hN2 hE2
   refine zrd zmm ?_
   by_cases hxl:x<ws.length
   ·have hxl':(x:Int)<ws.length:=by omega
    have hxs:x<(spn).length:=by omega
    have hxs':(x:Int)<(spn).length:=by omega
    obtain⟨pr,hpr⟩:∃pr,(spn)[x]=pr:=⟨_,rfl⟩
    obtain⟨pa,pb⟩:=pr
    have hgx:(sps (spn)++jz)[x]?=some (.agg [.i .i64 pa,.i .i64 pb]):=by
     rw[List.getElem?_append_left (by simpa[QX]using hxs)]
     simp[sps,List.getElem?_eq_getElem hxs,hpr,zfr]
    have hin:=hins _ (hpr▸List.getElem_mem hxs)
    simp only at hin
    have hpa:(pa:Int)<=pb:=by omega
    have hpb:(pb:Int)<=l.length:=by omega
    have hwx:(l.take pb).drop pa=ws[x]:=by
     have:ws[x]=UD l (spn)[x]:=by simp[hW]
     rw[this,hpr,UD,List.drop_take]
    have jW:=V0 ws x hxl
    rw[<-hwx]at jW
    simp (disch:=omega) [zz,hxs,hxs',hxl,hxl',hgx,hb,hb',h91,h92,h91',h92',hpa,hpb,jW]
    refine hN2 _ (x+1) ?_ (by omega) (by omega)
    apply Le.of<;>simp[le9,spO]<;>try omega
   ·have hxl':¬(x:Int)<ws.length:=by omega
    have hxw:x=ws.length:=by omega
    subst hxw
    simp (disch:=omega) [zz,hxl']
    refine hE2 _ _ (by simp) ?_
    simp (disch:=omega) [zz,Tryz.f186]
    exact⟨b9,_,⟨rfl,rfl⟩,rfl,HSub.of_sub (((List.nil_sublist _)).cons_cons _)⟩
theorem zfK (s:ByteArray) (c:UInt8) (w:World) :
  Calls Tryz.prog 180 #[.string s,.string ⟨#[c]⟩] w fun e w'=>e=.returned (.int .i64 (Lib.countByte s.data.toList c:Nat))/\w'=w:=by
 go_enter Tryz.func180,Tryz.ntmps180
 go_wp2
 rw[run_callFunc_extern Tryz.func202 (by kernel_rfl) (by kernel_rfl) (by kernel_rfl) (e:=Extern.BytealgCount.count) (by kernel_rfl),Lib.run_countString]
 simp only[Result.andThen]
 rw[Oper.upon_value]
 go_wp2
 go_ret
 exact⟨rfl,rfl⟩
theorem zmD (l:List UInt8) (c:UInt8):PC Tryz.prog 180 [.av .str (.s l),.av .str (.s [c])] (.av (.int .i64) (.i .i64 (Lib.countByte l c:Nat))):=by
 refine PC.of_calls (vs0:=[.string ⟨l.toArray⟩,.string ⟨#[c]⟩]) (v:=.int .i64 (Lib.countByte l c:Nat)) ?_ (fun _ _=>⟨rfl,rfl,rfl⟩) ?_
 ·intro imm w vs h
  match vs,h with
  | [a,b],⟨⟨f1,_,h1⟩,⟨f2,_,h2⟩,_⟩ =>
   rw[qK rfl f1]at h1
   rw[qK rfl f2]at h2
   simp at h1 h2
   rw[h1,h2]
 ·intro w
  have:=zfK ⟨l.toArray⟩ c w
  simpa using this
theorem uN (c:UInt8):∀l,(qE c l).length=Lib.countByte l c+1
 | []=>rfl
 | b::l=>by
  have ih:=uN c l
  rw[qE]
  unfold Lib.countByte at ih |-
  by_cases h:b=c
  ·rw[if_pos h,List.length_cons,ih,h,List.count_cons_self]
  ·rw[if_neg h,List.count_cons_of_ne (by simpa using h)]
   cases hs:qE c l with
   | nil=>exact absurd hs (yU c l)
   | cons x r=>rw[hs]at ih;simpa using ih
theorem zgk (c:UInt8) (l:List UInt8):Lib.countByte l c<=l.length:=List.count_le_length
theorem zfs (l:List UInt8) (c:UInt8) (hl:l.length<=2000000) :
  q7 Tryz.prog 156 [.av .str (.s l),.av .str (.s [c]),.av (.int .i64) (.i .i64 0),.av (.int .i64) (.i .i64 (-1))] [] fun r H'=>∃b,r=.av (.slice 9) (.msl b 9 0 (qE c l).length (qE c l).length)/\H'=[(b,.var (.arr (qE c l).length 9) (.agg (strs (qE c l))))]:=by
 obtain⟨ws,hws⟩:∃ws,ws=qE c l:=⟨_,rfl⟩
 have hcn:=uN c l
 have hle:=zgk c l
 rw[<-hws]at hcn |-
 refine zov Tryz.func156 cf0 fun imm0 w0=>?_
 simp (disch:=omega) [zz]
 refine zcv (zmD l c) ?_
 have hmin:¬(l.length:Int)+1<(Lib.countByte l c:Int)+1:=by omega
 obtain⟨cnt,hcnt⟩:∃cnt,cnt=Lib.countByte l c:=⟨_,rfl⟩
 rw[<-hcnt]at hcn hle hmin |-
 have hz0:List.replicate (cnt+1) (AV.s [])=strs (List.replicate (cnt+1) []):=XX _
 simp (disch:=omega) [zz,hmin]
 refine⟨by omega,by omega,by omega,?_⟩
 intro b
 refine AT.loopV (α:=Nat × List UInt8) (fun x ver=>St.of [(0,.av .str (.s x.2)),(1,.av .str (.s [c])),(2,.av (.int .i64) (.i .i64 0)),(3,.av (.int .i64) (.i .i64 cnt)),(9,.av (.slice 9) (.msl b 9 0 (cnt+1) (cnt+1))),(10,.av (.int .i64) (.i .i64 x.1))] [] ver [(b,.var (.arr (cnt+1) 9) (.agg (strs (ws.take x.1++List.replicate (ws.length-x.1) []))))])
  (fun x=>x.1<=cnt/\ws.drop x.1=qE c x.2/\x.2.length<=l.length) (fun x=>cnt-x.1) (0,l) ?_ ?_ ?_
 ·apply Le.of<;>simp[le9,XX,hcn]<;>try omega
 ·exact⟨by omega,by simp[hws],Nat.le_refl _⟩
 rintro⟨i,s⟩ ver ⟨hi,hdr,hsl⟩ KL hN hE
 simp only at hi hdr hsl hN
 have hlen:=congrArg List.length hdr
 rw[List.length_drop,hcn]at hlen
 refine zrd cf0 ?_
 by_cases hlt:i<cnt
 ·have hlt':(i:Int)<cnt:=by omega
  have hge:=Lib.indexByte_ge s c
  have hne:Lib.indexByte s c≠-1:=fun e=>by
   rw[VI e]at hlen
   simp at hlen;omega
  obtain⟨m,hm⟩:∃m:Nat,Lib.indexByte s c=m:=⟨(Lib.indexByte s c).toNat,by omega⟩
  obtain⟨hsp,hml⟩:=VO hm
  have hm0:¬(m:Int)<0:=by omega
  have hil:i<ws.length:=by omega
  have hwi:s.take m=ws[i]:=by
   have:=congrArg (·[0]?) hdr
   rw[hsp]at this
   simp only[List.getElem?_drop,Nat.add_zero,List.getElem?_cons_zero]at this
   rw[List.getElem?_eq_getElem hil]at this
   exact(Option.some.inj this).symm
  have jW:=V0 ws i hil
  rw[<-hwi]at jW
  simp (disch:=omega) [zz,hlt']
  refine zcv (zcM s c (by omega)) ?_
  simp (disch:=omega) [zz,hm,hm0,hml,jW]
  refine⟨by omega,by omega,by omega,by omega,by omega,?_⟩
  refine hN _ (i+1,s.drop (m+1)) ?_ ⟨by simp only;omega,?_,by simp;omega⟩ (by simp only;omega)
  ·apply Le.of<;>simp[le9,qJ]<;>try omega
  ·have:=congrArg (List.drop 1) hdr
   rw[List.drop_drop,hsp]at this
   simpa using this
 ·have hlt':¬(i:Int)<cnt:=by omega
  have hic:i=cnt:=by omega
  subst hic
  have hge:=Lib.indexByte_ge s c
  have hno:Lib.indexByte s c=-1:=by
   refine Classical.byContradiction fun hne=>?_
   obtain⟨m,hm⟩:∃m:Nat,Lib.indexByte s c=m:=⟨(Lib.indexByte s c).toNat,by omega⟩
   obtain⟨hsp,hml⟩:=VO hm
   rw[hsp]at hlen
   have:=List.length_pos_iff.2 (yU c (s.drop (m+1)))
   rw[List.length_cons]at hlen
   omega
  have hil:i<ws.length:=by omega
  have hwi:s=ws[i]:=by
   have:=congrArg (·[0]?) hdr
   rw[VI hno]at this
   simp only[List.getElem?_drop,Nat.add_zero,List.getElem?_cons_zero]at this
   rw[List.getElem?_eq_getElem hil]at this
   exact(Option.some.inj this).symm
  have jW:=V0 ws i hil
  rw[<-hwi]at jW
  have htk:strs (ws.take (i+1)++List.replicate (ws.length-(i+1)) [])=strs ws:=by
   rw[hcn];simp[List.take_of_length_le (by omega:ws.length<=i+1)]
  rw[htk]at jW
  have hone:List.replicate (ws.length-i) ([]:List UInt8)=[[]]:=by rw[hcn];simp
  rw[hone]at jW
  have hek:AV.erks (strs ws)=strs ws:=by simp[strs,AV.erks_eq,Function.comp_def]
  simp (disch:=omega) [zz,hlt']
  refine hE _ _ (by simp) ?_
  simp (disch:=omega) [zz,jW,hil,hcn,hone]
  simp (disch:=omega) [zz,Tryz.f156,jW,hil,hcn,hone,hek]
  try omega
theorem zfN (l:List UInt8) (c:UInt8) (hl:l.length<=2000000) :
  q7 Tryz.prog 126 [.av .str (.s l),.av .str (.s [c])] [] fun r H'=>∃b,r=.av (.slice 9) (.msl b 9 0 (qE c l).length (qE c l).length)/\H'=[(b,.var (.arr (qE c l).length 9) (.agg (strs (qE c l))))]:=by
 refine zov Tryz.func126 cf0 fun imm0 w0=>?_
 simp (disch:=omega) [zz]
 refine qD (R:=fun r H'=>∃b,r=.av (.slice 9) (.msl b 9 0 (qE c l).length (qE c l).length)/\H'=[(b,.var (.arr (qE c l).length 9) (.agg (strs (qE c l))))]) [] [] (by simp) rfl (by simp[qI]) (by simp) ?_ ?_
 ·exact q7.args (zfs l c hl) (by simp[qM,coC,TV.er,AV.er])
 rintro r H' ⟨b,rfl,rfl⟩ _
 refine⟨_,by simpa using HSub.refl _,?_⟩
 simp (disch:=omega) [zz,Tryz.f126]
def XM (l p:List UInt8):Bool:=decide (p.length<=l.length/\l.drop (l.length-p.length)=p)
def K5 (l p:List UInt8):List UInt8:=if XM l p=true then l.take (l.length-p.length) else l
theorem zak (l p:List UInt8) (hl:l.length<=1000000000) (hp:p.length<=1000000000):PC Tryz.prog 204 [.av .str (.s l),.av .str (.s p)] (.av .bool (.b (XM l p))):=by
 refine zow Tryz.func204 cf0 fun imm0 w0=>?_
 by_cases h:p.length<=l.length
 ·have h':(p.length:Int)<=l.length:=by omega
  have h2:(0:Int)<=(l.length:Int)-p.length:=by omega
  have h3:((l.length:Int)-p.length).toNat=l.length-p.length:=by omega
  simp (disch:=omega) [zz,h,h',h2,h3,Tryz.f204,XM]
  try omega
 ·have h':¬(p.length:Int)<=l.length:=by omega
  simp (disch:=omega) [zz,h,h',Tryz.f204,XM]
theorem zdQ (l p:List UInt8) (hl:l.length<=1000000000) (hp:p.length<=1000000000):PC Tryz.prog 185 [.av .str (.s l),.av .str (.s p)] (.av .str (.s (K5 l p))):=by
 refine zow Tryz.func185 cf0 fun imm0 w0=>?_
 simp (disch:=omega) [zz]
 refine zcv (zak l p hl hp) ?_
 by_cases h:XM l p=true
 ·have hle:p.length<=l.length:=by simp[XM]at h;exact h.1
  have h3:((l.length:Int)-p.length).toNat=l.length-p.length:=by omega
  have h2:(0:Int)<=(l.length:Int)-p.length:=by omega
  simp (disch:=omega) [zz,h,h2,h3,Tryz.f185,K5]
  try omega
 ·simp (disch:=omega) [zz,h,Tryz.f185,K5]
theorem zce (l p:List UInt8) (hl:l.length<=1000000000) (hp:p.length<=1000000000):PC Tryz.prog 162 [.av .str (.s l),.av .str (.s p)] (.av .str (.s (K5 l p))):=by
 refine zow Tryz.func162 cf0 fun imm0 w0=>?_
 simp (disch:=omega) [zz]
 refine zcv (zdQ l p hl hp) ?_
 simp (disch:=omega) [zz,Tryz.f162]
theorem VD (l p:List UInt8):(K5 l p).length<=l.length:=by unfold K5;split<;>simp
def qZ (l:List UInt8):List (List UInt8):=if l=[] then [] else qE 10 (K5 l [10])
theorem ZW (l:List UInt8):(qZ l).length<=l.length+1:=by
 unfold qZ
 split
 ·simp
 ·have:=uN 10 (K5 l [10])
  have:=zgk 10 (K5 l [10])
  have:=VD l [10]
  omega
def zag (ws:List (List UInt8)) (r:TV) (H':q8):Prop:=(ws=[]/\r=.av (.slice 9) (.sl .no [])/\H'=[])\/∃b,r=.av (.slice 9) (.msl b 9 0 ws.length ws.length)/\H'=[(b,.var (.arr ws.length 9) (.agg (strs ws)))]
theorem pC (l:List UInt8) (hl:l.length<=1000000):q7 Tryz.prog 136 [.av .str (.s l)] [] (zag (qZ l)):=by
 refine zov Tryz.func136 cf0 fun imm0 w0=>?_
 by_cases h0:l=[]
 ·subst h0
  simp (disch:=omega) [zz,Tryz.f136,qZ,zag]
 ·simp (disch:=omega) [zz,h0]
  refine zcv (zce l [10] (by omega) (by simp)) ?_
  simp (disch:=omega) [zz]
  have hle:=VD l [10]
  refine qD (R:=fun r H'=>∃b,r=.av (.slice 9) (.msl b 9 0 (qE 10 (K5 l [10])).length (qE 10 (K5 l [10])).length)/\H'=[(b,.var (.arr (qE 10 (K5 l [10])).length 9) (.agg (strs (qE 10 (K5 l [10])))))]) [] [] (by simp) rfl (by simp[qI]) (by simp) ?_ ?_
  ·exact q7.args (zfN (K5 l [10]) 10 (by omega)) (by simp[qM,coC,TV.er,AV.er])
  rintro r H' ⟨b,rfl,rfl⟩ _
  refine⟨_,by simpa using HSub.refl _,?_⟩
  have hek:∀ws,AV.erks (strs ws)=strs ws:=fun ws=>by simp[strs,AV.erks_eq,Function.comp_def]
  have hlv:qZ l=qE 10 (K5 l [10]):=by unfold qZ;rw[if_neg h0]
  simp (disch:=omega) [zz,Tryz.f136,zag,hlv,hek]
theorem zag.freeze {P:Program} {f:FuncId} {args:List TV} {ws:List (List UInt8)} (hl:laidOutB P=true) (hp:k7 P 9=true) (h:q7 P f args [] (zag ws)):PC P f args (.av (.slice 9) (.sl .no (strs ws))):=by
 refine h.freeze hl ?_
 rintro r H' hR _
 rcases hR with⟨rfl,rfl,rfl⟩|⟨b,rfl,rfl⟩
 ·right
  exact⟨rfl,rfl⟩
 ·left
  refine⟨b,ws.length,9,_,[],List.Perm.refl _,?_,rfl⟩
  simp only[CQ,fzA]
  rw[if_pos ⟨trivial,trivial,by omega,by omega⟩]
  simp only[List.drop_zero]
  rw[List.take_of_length_le (by simp[strs])]
end
end Go.Proofs.YtfkcpballfhddaaGreatDoor
