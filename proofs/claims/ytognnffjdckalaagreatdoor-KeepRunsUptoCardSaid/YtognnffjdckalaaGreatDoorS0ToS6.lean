/- Words of 32 bits: what the model's integer operations are on them. No condition. -/
import Derived.Test.YtognnffjdckalaaGreatDoorL0
set_option linter.unusedSimpArgs false
set_option linter.unusedVariables false
set_option linter.unusedSectionVars false
set_option maxHeartbeats 64000000
set_option maxRecDepth 100000
namespace Go.Proofs.YtognnffjdckalaaGreatDoor
open Go Go.Ab
open Classical
section
variable [Sel]
def wi (x:UInt32):Int:=x.toNat
abbrev zZ (w:UInt32):AV:=.i .u32 (wi w)
theorem CC {n:Nat} (h:n<4294967296):IntKind.u32.wrap (n:Int)=n:=by
 simp[IntKind.wrap,IntKind.signed,IntKind.bits];omega
theorem CV (x:UInt32):BitVec.ofInt IntKind.u32.bits (wi x)=x.toBitVec:=by
 apply BitVec.eq_of_toNat_eq
 show (BitVec.ofInt 32 (x.toNat:Int)).toNat=_
 simp
 rfl
theorem W1 (x y:UInt32):IntKind.u32.wrap (wi x+wi y)=wi (x+y):=by
 have:=x.toNat_lt;have:=y.toNat_lt
 simp[wi,IntKind.wrap,IntKind.signed,IntKind.bits,UInt32.toNat_add]
theorem wor (x y:UInt32):IntKind.u32.wrap ((BitVec.ofInt IntKind.u32.bits (wi x) ||| BitVec.ofInt IntKind.u32.bits (wi y)).toNat:Int)=wi (x ||| y):=by
 rw[CV,CV,CC (BitVec.isLt _)];rfl
theorem WF (x y:UInt32):IntKind.u32.wrap ((BitVec.ofInt IntKind.u32.bits (wi x) ^^^ BitVec.ofInt IntKind.u32.bits (wi y)).toNat:Int)=wi (x ^^^ y):=by
 rw[CV,CV,CC (BitVec.isLt _)];rfl
theorem YM (x y:UInt32):IntKind.u32.wrap ((BitVec.ofInt IntKind.u32.bits (wi x) &&& BitVec.ofInt IntKind.u32.bits (wi y)).toNat:Int)=wi (x &&& y):=by
 rw[CV,CV,CC (BitVec.isLt _)];rfl
theorem YH (x:UInt32):IntKind.u32.wrap ((BitVec.ofInt IntKind.u32.bits (if IntKind.u32.signed then -1 else IntKind.u32.max) ^^^ BitVec.ofInt IntKind.u32.bits (wi x)).toNat:Int)=wi (~~~ x):=by
 rw[CV,CC (BitVec.isLt _)]
 unfold wi
 show ((BitVec.ofInt 32 4294967295 ^^^ x.toBitVec).toNat:Int)=((~~~ x.toBitVec).toNat:Int)
 rw[show BitVec.ofInt 32 4294967295=BitVec.allOnes 32 from by decide,BitVec.allOnes_xor]
theorem zsy (x:UInt32) {n:Nat} (h:n<32):(wi x).fdiv (2 ^ n)=wi (x >>> UInt32.ofNat n):=by
 have e:(x >>> UInt32.ofNat n).toNat=x.toNat / 2 ^ n:=by
  rw[UInt32.toNat_shiftRight,UInt32.toNat_ofNat_of_lt' (by rw[UInt32.size];omega),Nat.mod_eq_of_lt (by omega),Nat.shiftRight_eq_div_pow]
 unfold wi
 rw[e,Int.fdiv_eq_ediv_of_nonneg _ (Int.le_of_lt (Int.pow_pos (by omega)))]
 norm_cast
theorem zrE (x:UInt32) {n:Nat} (h:n<32):IntKind.u32.wrap (wi x*2 ^ n)=wi (x <<< UInt32.ofNat n):=by
 have e:(x <<< UInt32.ofNat n).toNat=(x.toNat*2 ^ n) % 4294967296:=by
  rw[UInt32.toNat_shiftLeft,UInt32.toNat_ofNat_of_lt' (by rw[UInt32.size];omega),Nat.mod_eq_of_lt (by omega:n<32),Nat.shiftLeft_eq]
 unfold wi
 rw[e]
 simp[IntKind.wrap,IntKind.signed,IntKind.bits]
theorem znh {n:Nat} (h:n<32):min n IntKind.u32.bits=n:=by simp[IntKind.bits];omega
theorem JP (x:UInt32) {n:Nat} (h:n<32):(wi x).fdiv (2 ^ (min n IntKind.u32.bits))=wi (x >>> UInt32.ofNat n):=by rw[znh h,zsy x h]
theorem zl1 (x:UInt32) {n:Nat} (h:n<32):IntKind.u32.wrap (wi x*2 ^ (min n IntKind.u32.bits))=wi (x <<< UInt32.ofNat n):=by rw[znh h,zrE x h]
theorem zqk (b:UInt8):IntKind.u32.wrap (b.toNat:Int)=wi b.toUInt32:=by
 have:=b.toNat_lt
 rw[CC (by omega)];simp[wi]
theorem zsu (x:UInt32):IntKind.u8.wrap (wi x)=(x.toUInt8.toNat:Int):=by
 simp[wi,IntKind.wrap,IntKind.signed,IntKind.bits]
def XM (x:UInt32) (n:Nat):UInt32:=(x >>> UInt32.ofNat n) ||| (x <<< UInt32.ofNat (32-n))
theorem zcb {n:Nat} (h:n<4294967296):IntKind.u64.wrap (n:Int)=n:=by
 simp[IntKind.wrap,IntKind.signed,IntKind.bits];omega
theorem zs0 {n:Nat} (h:n<32):(BitVec.ofInt 64 (n:Int) &&& 31#64).toNat=n:=by
 have e:(BitVec.ofInt 64 (n:Int)).toNat=n:=by simp;omega
 rw[BitVec.toNat_and,e]
 have:=Nat.and_two_pow_sub_one_eq_mod n 5
 simp only[Nat.reducePow,Nat.reduceSub]at this
 show n &&& 31=n
 rw[this];omega
def PY (a b c d:UInt8):UInt32:=((a.toUInt32 <<< 24) ||| (b.toUInt32 <<< 16) ||| (c.toUInt32 <<< 8)) ||| d.toUInt32
theorem zeh (a b c d:UInt8):((((((0:UInt32) <<< 8 ||| a.toUInt32) <<< 8) ||| b.toUInt32) <<< 8 ||| c.toUInt32) <<< 8) ||| d.toUInt32=PY a b c d:=by
 unfold PY
 apply UInt32.toBitVec_inj.1
 ext i hi
 simp
 grind
def k64:List UInt32:=[0x428a2f98,0x71374491,0xb5c0fbcf,0xe9b5dba5,0x3956c25b,0x59f111f1,0x923f82a4,0xab1c5ed5,0xd807aa98,0x12835b01,0x243185be,
 0x550c7dc3,0x72be5d74,0x80deb1fe,0x9bdc06a7,0xc19bf174,0xe49b69c1,0xefbe4786,0x0fc19dc6,0x240ca1cc,0x2de92c6f,0x4a7484aa,
 0x5cb0a9dc,0x76f988da,0x983e5152,0xa831c66d,0xb00327c8,0xbf597fc7,0xc6e00bf3,0xd5a79147,0x06ca6351,0x14292967,0x27b70a85,
 0x2e1b2138,0x4d2c6dfc,0x53380d13,0x650a7354,0x766a0abb,0x81c2c92e,0x92722c85,0xa2bfe8a1,0xa81a664b,0xc24b8b70,0xc76c51a3,
 0xd192e819,0xd6990624,0xf40e3585,0x106aa070,0x19a4c116,0x1e376c08,0x2748774c,0x34b0bcb5,0x391c0cb3,0x4ed8aa4a,0x5b9cca4f,
 0x682e6ff3,0x748f82ee,0x78a5636f,0x84c87814,0x8cc70208,0x90befffa,0xa4506ceb,0xbef9a3f7,0xc67178f2]
def h8:List UInt32:=[0x6a09e667,0xbb67ae85,0x3c6ef372,0xa54ff53a,0x510e527f,0x9b05688c,0x1f83d9ab,0x5be0cd19]
theorem Z8 (x:UInt32) (n:Nat) (h0:0<n) (h:n<32):PC Tryz.prog 143 [.av (.int .u32) (zZ x),.av (.int .i64) (.i .i64 n)] (.av (.int .u32) (zZ (XM x n))):=by
 have e1:IntKind.i64.wrap (32-(n:Int))=((32-n:Nat):Int):=by rw[i64_in (by omega) (by omega)];omega
 have s1:=JP x h
 have s2:=zl1 x (show 32-n<32 by omega)
 refine zow Tryz.func143 cf0 fun imm0 w0=>?_
 simp[e1,Tryz.f143,s1,s2,wor,XM,-BitVec.toNat_or]
theorem zpj (x:UInt32) (n:Nat) (h0:0<n) (h:n<32):PC Tryz.prog 235 [.av (.int .u32) (zZ x),.av (.int .i64) (.i .i64 ((32-n:Nat):Int))] (.av (.int .u32) (zZ (XM x n))):=by
 have e1:IntKind.u64.wrap ((32-n:Nat):Int)=((32-n:Nat):Int):=zcb (by omega)
 have e4:(BitVec.ofInt IntKind.u64.bits ((32-n:Nat):Int) &&& BitVec.ofInt IntKind.u64.bits 31).toNat=32-n:=zs0 (by omega)
 have e5:IntKind.u64.wrap (32-((32-n:Nat):Int))=(n:Int):=by
  have:(32-((32-n:Nat):Int))=(n:Int):=by omega
  rw[this];exact zcb (by omega)
 have s1:=JP x h
 have s2:=zl1 x (show 32-n<32 by omega)
 have hc:XM x n=(x <<< UInt32.ofNat (32-n)) ||| (x >>> UInt32.ofNat n):=UInt32.or_comm _ _
 refine zow Tryz.func235 cf0 fun imm0 w0=>?_
 have e4':(BitVec.ofNat IntKind.u64.bits (32-n) &&& 31#IntKind.u64.bits).toNat=32-n:=by rw[<-BitVec.ofInt_natCast];exact e4
 simp[e1,e4',e5,Tryz.f235,s1,s2,wor,hc,-BitVec.toNat_or,-BitVec.toNat_and]
theorem kM (x:UInt32) (n:Nat) (h0:0<n) (h:n<32):PC Tryz.prog 209 [.av (.int .u32) (zZ x),.av (.int .i64) (.i .i64 n)] (.av (.int .u32) (zZ (XM x n))):=by
 have e1:IntKind.i64.wrap (32-(n:Int))=((32-n:Nat):Int):=by rw[i64_in (by omega) (by omega)];omega
 refine zow Tryz.func209 cf0 fun imm0 w0=>?_
 simp[e1]
 refine gK (r:=.av (.int .u32) (zZ (XM x n))) rfl (by simp[qH]) (by simp) ?_ ?_
 ·have:=zpj x n h0 h
  simpa[TV.er,AV.er]using this
 ·simp[Tryz.f209]
def jB (l:List UInt8):AV:=.sl .no (l.map fun b=>.i .u8 b.toNat)
@[simp] theorem zni (l:List UInt8):(jB l).er=jB l:=by simp[jB,AV.er,AV.ers_eq,Function.comp_def]
@[simp] theorem zrz (l:List UInt8):(jB l).erk=jB l:=wD _ (zni l)
theorem znf (a b c d:UInt8):PC Tryz.prog 142 [.av (.slice 5) (jB [a,b,c,d])] (.av (.int .u32) (zZ (PY a b c d))):=by
 have s1:=zl1 a.toUInt32 (show 24<32 by omega)
 have s2:=zl1 b.toUInt32 (show 16<32 by omega)
 have s3:=zl1 c.toUInt32 (show 8<32 by omega)
 refine zow Tryz.func142 cf0 fun imm0 w0=>?_
 simp[jB,zqk,Tryz.f142,s1,s2,s3,wor,PY,-BitVec.toNat_or]
theorem zqJ:PC Tryz.prog 141 [] (.av (.slice 166) (.sl .no (k64.map zZ))):=by
 refine zow Tryz.func141 cf0 fun imm0 w0=>?_
 simp[Tryz.f141,k64,wi]
theorem GQ:PC Tryz.prog 207 [] (.av (.arr 64 166) (.agg (k64.map zZ))):=by
 refine zow Tryz.func207 cf0 fun imm0 w0=>?_
 simp[Tryz.f207,k64,wi]
theorem zfg:PC Tryz.prog 182 [] (.av (.arr 8 166) (.agg (h8.map zZ))):=by
 refine zow Tryz.func182 cf0 fun imm0 w0=>?_
 simp[Tryz.f182,h8,wi]
def lo (x:UInt32):UInt32:=XM x 7 ^^^ XM x 18 ^^^ x >>> UInt32.ofNat 3
def hi (x:UInt32):UInt32:=XM x 17 ^^^ XM x 19 ^^^ x >>> UInt32.ofNat 10
def zbu (w:List UInt32):UInt32:=w[w.length-16]?.getD 0+lo (w[w.length-15]?.getD 0)+w[w.length-7]?.getD 0+hi (w[w.length-2]?.getD 0)
def zdp (b:List UInt8) (n:Nat):UInt32:=PY (b.getD (4*n) 0) (b.getD (4*n+1) 0) (b.getD (4*n+2) 0) (b.getD (4*n+3) 0)
def kI (b:List UInt8):Nat->List UInt32
 | 0=>[]
 | n+1=>kI b n++[if n<16 then zdp b n else zbu (kI b n)]
@[simp] theorem K3 (b:List UInt8) (n:Nat):(kI b n).length=n:=by
 induction n with
 | zero=>rfl
 | succ n ih=>simp[kI,ih]
def U7:List UInt32->UInt32->UInt32->List UInt32
 | [v0,v1,v2,v3,v4,v5,v6,v7],k,w =>
  [v7+(XM v4 6 ^^^ XM v4 11 ^^^ XM v4 25)+(v4 &&& v5 ^^^ ~~~v4 &&& v6)+k+w+((XM v0 2 ^^^ XM v0 13 ^^^ XM v0 22)+(v0 &&& v1 ^^^ v0 &&& v2 ^^^ v1 &&& v2)),v0,v1,v2,
   v3+(v7+(XM v4 6 ^^^ XM v4 11 ^^^ XM v4 25)+(v4 &&& v5 ^^^ ~~~v4 &&& v6)+k+w),v4,v5,v6]
 | _,_,_=>[]
def rnd (b:List UInt8) (v:List UInt32):Nat->List UInt32
 | 0=>v
 | n+1=>U7 (rnd b v n) (k64[n]?.getD 0) ((kI b 64)[n]?.getD 0)
theorem zjm {l:List UInt32} (h:l.length=8):∃v0 v1 v2 v3 v4 v5 v6 v7,l=[v0,v1,v2,v3,v4,v5,v6,v7]:=by
 match l,h with
 | [v0,v1,v2,v3,v4,v5,v6,v7],_=>exact⟨v0,v1,v2,v3,v4,v5,v6,v7,rfl⟩
theorem xC {b:List UInt8} {v:List UInt32} (h:v.length=8):∀n,(rnd b v n).length=8
 | 0=>h
 | n+1=>by
  obtain⟨v0,v1,v2,v3,v4,v5,v6,v7,e⟩:=zjm (xC (b:=b) h n)
  simp[rnd,e,U7]
def zO (h:List UInt32) (b:List UInt8):List UInt32:=List.zipWith (·+·) h (rnd b h 64)
theorem J5 {b:List UInt8} {v:List UInt32} (h:v.length=8):(zO v b).length=8:=by
 simp[zO,h,xC h]
theorem zsR {b:List UInt8} {i:Nat} (h:4*i+4<=b.length):(b.take (4*i+4)).drop (4*i)=[b.getD (4*i) 0,b.getD (4*i+1) 0,b.getD (4*i+2) 0,b.getD (4*i+3) 0]:=by
 apply List.ext_getElem
 ·simp;omega
 ·intro n h1 h2
  simp at h1 h2
  have:n=0\/n=1\/n=2\/n=3:=by omega
  rcases this with rfl|rfl|rfl|rfl<;>simp[List.getElem?_eq_getElem,show 4*i<b.length by omega,show 4*i+1<b.length by omega,show 4*i+2<b.length by omega,show 4*i+3<b.length by omega]
theorem zk6 (h:List UInt32) (b:List UInt8) (hh:h.length=8) (hb:b.length=64) :
  PC Tryz.prog 85 [.av (.slice 166) (.sl .no (h.map zZ)),.av (.slice 5) (jB b)] (.av (.slice 166) (.sl .no ((zO h b).map zZ))):=by
 refine zow Tryz.func85 cf0 fun imm0 w0=>?_
 simp[qQ]
 refine YE zqJ rfl rfl (by simp) (by simp[q9]) ?_
 simp[qQ]
 have hbe:jB b=.sl .no (b.map fun b=>.i .u8 b.toNat):=rfl
 refine AT.loop' (α:=Nat × Nat × (Nat->Nat)) (fun k=>St.of [(0,.av (.slice 166) (.sl .no (h.map zZ))),(1,.av (.slice 5) (jB b)),(5,.av (.slice 166) (.sl .no (k64.map zZ))),(6,.av (.slice 166) (.sl (.own k.2.1 (k.2.2 k.2.1)) ((kI b k.1).map zZ))),(7,.av (.int .i64) (.i .i64 k.1))] [] k.2.2 [])
  (fun k=>k.1<=64) (fun k=>64-k.1) (0,6,fun _=>0) ?_ ?_ ?_
 ·apply Le.of<;>simp[le9,kI]<;>try omega
 ·simp
 ·rintro⟨k,tk,ver⟩ hk KL hN hE
  simp only at hk hN
  refine zrd cf0 ?_
  by_cases hlt:k<64
  ·have hlt':(k:Int)<64:=by omega
   by_cases h16:k<16
   ·have h16':(k:Int)<16:=by omega
    obtain⟨b0,e0⟩:∃x,b.getD (4*k) 0=x:=⟨_,rfl⟩
    obtain⟨b1,e1⟩:∃x,b.getD (4*k+1) 0=x:=⟨_,rfl⟩
    obtain⟨b2,e2⟩:∃x,b.getD (4*k+2) 0=x:=⟨_,rfl⟩
    obtain⟨b3,e3⟩:∃x,b.getD (4*k+3) 0=x:=⟨_,rfl⟩
    have hwa:zdp b k=PY b0 b1 b2 b3:=by simp only[zdp,e0,e1,e2,e3]
    have h4:List.drop (4*k) (List.take (4*k+4) (b.map fun b=>AV.i .u8 b.toNat))=[b0,b1,b2,b3].map fun b=>AV.i .u8 b.toNat:=by
     rw[<-List.map_take,<-List.map_drop,zsR (by omega),e0,e1,e2,e3]
    simp (disch:=omega) [zz,qQ,hlt',h16',hbe,h4]
    (repeat with_reducible refine om ?_)
    refine YE (znf b0 b1 b2 b3) rfl rfl (by simp) (by simp[q9,jB,TV.er,AV.er,AV.ers]) ?_
    simp (disch:=omega) [zz,qQ]
    (repeat with_reducible refine om ?_)
    refine hN _ (k+1,36,upd (upd ver tk (ver tk+1)) 36 (ver 36+1)) ?_ (by simp;omega) (by simp;omega)
    apply Le.of<;>simp[le9,kI,h16,hwa,hbe]<;>try omega
   ·obtain⟨m,rfl⟩:∃m,k=m+16:=⟨k-16,by omega⟩
    obtain⟨x16,h16e⟩:∃x,(kI b (m+16))[m]?=some x:=⟨_,List.getElem?_eq_getElem (by simp)⟩
    obtain⟨x15,h15e⟩:∃x,(kI b (m+16))[m+1]?=some x:=⟨_,List.getElem?_eq_getElem (by simp)⟩
    obtain⟨x7,h7e⟩:∃x,(kI b (m+16))[m+9]?=some x:=⟨_,List.getElem?_eq_getElem (by simp)⟩
    obtain⟨x2,h2e⟩:∃x,(kI b (m+16))[m+14]?=some x:=⟨_,List.getElem?_eq_getElem (by simp)⟩
    have hm':(m:Int)+16<64:=by omega
    have hn':¬(m:Int)+16<16:=by omega
    have hW:kI b (m+16+1)=kI b (m+16)++[zbu (kI b (m+16))]:=by rw[kI,if_neg (by omega)]
    have hWl:=K3 b (m+16)
    generalize kI b (m+16)=W at *
    have g16:∀h:m<W.length,W[m]=x16:=fun h=>by have:=h16e;rw[List.getElem?_eq_getElem h]at this;simpa using this
    have g15:∀h:m+1<W.length,W[m+1]=x15:=fun h=>by have:=h15e;rw[List.getElem?_eq_getElem h]at this;simpa using this
    have g7:∀h:m+9<W.length,W[m+9]=x7:=fun h=>by have:=h7e;rw[List.getElem?_eq_getElem h]at this;simpa using this
    have g2:∀h:m+14<W.length,W[m+14]=x2:=fun h=>by have:=h2e;rw[List.getElem?_eq_getElem h]at this;simpa using this
    have hX:zbu W=x16+lo x15+x7+hi x2:=by simp[zbu,hWl,g16,g15,g7,g2]
    simp (disch:=omega) [zz,qQ,hm',hn',g16,g15,g7,g2]
    (repeat with_reducible refine om ?_)
    refine zcd (Z8 x15 7 (by decide) (by decide)) ?_;(simp (disch:=first|omega|assumption) [zz,W1,wor,WF,YM,YH,JP,qQ,-BitVec.toNat_or,-BitVec.toNat_xor,-BitVec.toNat_and])
    (repeat with_reducible refine om ?_)
    refine zcd (Z8 x15 18 (by decide) (by decide)) ?_;(simp (disch:=first|omega|assumption) [zz,W1,wor,WF,YM,YH,JP,qQ,-BitVec.toNat_or,-BitVec.toNat_xor,-BitVec.toNat_and,g7])
    (repeat with_reducible refine om ?_)
    refine zcd (Z8 x2 17 (by decide) (by decide)) ?_;(simp (disch:=first|omega|assumption) [zz,W1,wor,WF,YM,YH,JP,qQ,-BitVec.toNat_or,-BitVec.toNat_xor,-BitVec.toNat_and])
    (repeat with_reducible refine om ?_)
    refine zcd (Z8 x2 19 (by decide) (by decide)) ?_;(simp (disch:=first|omega|assumption) [zz,W1,wor,WF,YM,YH,JP,qQ,-BitVec.toNat_or,-BitVec.toNat_xor,-BitVec.toNat_and])
    (repeat with_reducible refine om ?_)
    refine hN _ (m+17,78,upd (upd ver tk (ver tk+1)) 78 (ver 78+1)) ?_ (by simp;omega) (by simp;omega)
    apply Le.of<;>simp[le9,hW,hX,lo,hi]<;>try omega
  ·obtain rfl:k=64:=by omega
   simp (disch:=omega) [zz]
   refine hE _ _ (by simp) ?_
   simp (disch:=omega) [zz,qQ,hh]
   refine AT.loop' (α:=Nat × Nat × (Nat->Nat)) (fun k=>St.of [(0,.av (.slice 166) (.sl .no (h.map zZ))),(5,.av (.slice 166) (.sl .no (k64.map zZ))),(6,.av (.slice 166) (.sl .no ((kI b 64).map zZ))),(10,.av (.slice 166) (.sl (.own k.2.1 (k.2.2 k.2.1)) ((rnd b h k.1).map zZ))),(11,.av (.int .i64) (.i .i64 k.1))] [] k.2.2 [])
    (fun k=>k.1<=64) (fun k=>64-k.1) (0,81,upd ver 81 (ver 81+1)) ?_ ?_ ?_
   ·apply Le.of<;>simp[le9,rnd]<;>try omega
   ·simp
   ·rintro⟨k,tl,ver2⟩ hk KL2 hN2 hE2
    simp only at hk hN2
    refine zrd cf0 ?_
    by_cases hlt:k<64
    ·have hlt':(k:Int)<64:=by omega
     obtain⟨v0,v1,v2,v3,v4,v5,v6,v7,hv⟩:=zjm (xC (b:=b) hh k)
     obtain⟨kk,hkk⟩:∃x,k64[k]?=some x:=⟨_,List.getElem?_eq_getElem (by simp[k64];omega)⟩
     obtain⟨ww,hww⟩:∃x,(kI b 64)[k]?=some x:=⟨_,List.getElem?_eq_getElem (by simp;omega)⟩
     have hR:rnd b h (k+1)=U7 [v0,v1,v2,v3,v4,v5,v6,v7] kk ww:=by rw[rnd,hv,hkk,hww];rfl
     have hkl:k64.length=64:=rfl
     have hwl:=K3 b 64
     generalize k64=KK at *
     generalize kI b 64=W at *
     have gk:∀h:k<KK.length,KK[k]=kk:=fun h=>by rw[List.getElem?_eq_getElem h]at hkk;simpa using hkk
     have gw:∀h:k<W.length,W[k]=ww:=fun h=>by rw[List.getElem?_eq_getElem h]at hww;simpa using hww
     simp (disch:=omega) [zz,hlt',hv]
     refine zcd (Z8 v4 6 (by decide) (by decide)) ?_;(simp (disch:=first|omega|assumption) [zz,W1,wor,WF,YM,YH,JP,qQ,-BitVec.toNat_or,-BitVec.toNat_xor,-BitVec.toNat_and])
     refine zcd (Z8 v4 11 (by decide) (by decide)) ?_;(simp (disch:=first|omega|assumption) [zz,W1,wor,WF,YM,YH,JP,qQ,-BitVec.toNat_or,-BitVec.toNat_xor,-BitVec.toNat_and])
     refine zcd (Z8 v4 25 (by decide) (by decide)) ?_;(simp (disch:=first|omega|assumption) [zz,W1,wor,WF,YM,YH,JP,qQ,-BitVec.toNat_or,-BitVec.toNat_xor,-BitVec.toNat_and,gk,gw])
     (repeat with_reducible refine om ?_)
     refine zcd (Z8 v0 2 (by decide) (by decide)) ?_;(simp (disch:=first|omega|assumption) [zz,W1,wor,WF,YM,YH,JP,qQ,-BitVec.toNat_or,-BitVec.toNat_xor,-BitVec.toNat_and])
     refine zcd (Z8 v0 13 (by decide) (by decide)) ?_;(simp (disch:=first|omega|assumption) [zz,W1,wor,WF,YM,YH,JP,qQ,-BitVec.toNat_or,-BitVec.toNat_xor,-BitVec.toNat_and])
     refine zcd (Z8 v0 22 (by decide) (by decide)) ?_;(simp (disch:=first|omega|assumption) [zz,W1,wor,WF,YM,YH,JP,qQ,-BitVec.toNat_or,-BitVec.toNat_xor,-BitVec.toNat_and])
     (repeat with_reducible refine om ?_)
     refine hN2 _ (k+1,10,ver2) ?_ (by simp;omega) (by simp;omega)
     apply Le.of<;>simp[le9,hR,U7]<;>try omega
    ·obtain rfl:k=64:=by omega
     simp (disch:=omega) [zz]
     refine hE2 _ _ (by simp) ?_
     simp (disch:=omega) [zz,qQ,hh]
     refine AT.loop' (α:=Nat × Nat × (Nat->Nat)) (fun k=>St.of [(0,.av (.slice 166) (.sl .no (h.map zZ))),(10,.av (.slice 166) (.sl .no ((rnd b h 64).map zZ))),(16,.av (.slice 166) (.sl (.own k.2.1 (k.2.2 k.2.1)) (((zO h b).take k.1).map zZ))),(17,.av (.int .i64) (.i .i64 k.1))] [] k.2.2 [])
      (fun k=>k.1<=8) (fun k=>8-k.1) (0,16,ver2) ?_ ?_ ?_
     ·apply Le.of<;>simp[le9]<;>try omega
     ·simp
     ·rintro⟨k,tm,ver3⟩ hk KL3 hN3 hE3
      simp only at hk hN3
      have hcl:=J5 (b:=b) hh
      refine zrd cf0 ?_
      by_cases hlt:k<8
      ·have hlt':(k:Int)<8:=by omega
       obtain⟨x,hx⟩:∃x,h[k]?=some x:=⟨_,List.getElem?_eq_getElem (by omega)⟩
       have hrl:=xC (b:=b) hh 64
       obtain⟨y,hy⟩:∃x,(rnd b h 64)[k]?=some x:=⟨_,List.getElem?_eq_getElem (by omega)⟩
       have hC:(zO h b).take (k+1)=(zO h b).take k++[x+y]:=by
        rw[List.take_add_one]
        congr 1
        simp[zO,List.getElem?_zipWith,hx,hy]
       have hC':List.take (k+1) (List.map zZ (zO h b))=List.take k (List.map zZ (zO h b))++[zZ (x+y)]:=by
        rw[<-List.map_take,hC,List.map_append,List.map_take];rfl
       have gx:∀g:k<h.length,h[k]=x:=fun g=>by rw[List.getElem?_eq_getElem g]at hx;simpa using hx
       generalize rnd b h 64=R at *
       have gy:∀g:k<R.length,R[k]=y:=fun g=>by rw[List.getElem?_eq_getElem g]at hy;simpa using hy
       simp (disch:=omega) [zz,hlt',gx,gy,W1,qQ,hcl]
       (repeat with_reducible refine om ?_)
       refine hN3 _ (k+1,194,upd (upd ver3 tm (ver3 tm+1)) 194 (ver3 194+1)) ?_ (by simp;omega) (by simp;omega)
       apply Le.of<;>simp[le9,hC']<;>try omega
      ·obtain rfl:k=8:=by omega
       simp (disch:=omega) [zz]
       refine hE3 _ _ (by simp) ?_
       simp (disch:=omega) [zz,Tryz.f85]
       rw[List.take_of_length_le (by simp[hcl])]
       simp[AV.ers_eq,Function.comp_def,AV.er]
def wZ (b:List UInt8) (k:Nat):List UInt32:=kI b (k / 4)++(if k % 4=0 then [] else [match k % 4 with
 | 1=>b.getD (4*(k/4)) 0 |>.toUInt32
 | 2=>((b.getD (4*(k/4)) 0).toUInt32 <<< 8) ||| (b.getD (4*(k/4)+1) 0).toUInt32
 | _=>(((b.getD (4*(k/4)) 0).toUInt32 <<< 8) ||| (b.getD (4*(k/4)+1) 0).toUInt32) <<< 8 ||| (b.getD (4*(k/4)+2) 0).toUInt32])
def QO (w:List UInt32):List UInt32:=w++List.replicate (64-w.length) 0
theorem zcU {w:List UInt32} (h:w.length<=64):(QO w).length=64:=by simp[QO];omega
theorem zbI (b:List UInt8):QO (wZ b 0)=List.replicate 64 0:=by simp[wZ,kI,QO]
theorem zbJ (b:List UInt8) (k:Nat) (h:k<64):QO (wZ b (k+1))=(QO (wZ b k)).set (k/4) (((QO (wZ b k)).getD (k/4) 0 <<< 8) ||| (b.getD k 0).toUInt32):=by
 obtain⟨q,r,rfl,hr⟩:∃q r,k=4*q+r/\r<4:=⟨k/4,k%4,by omega,by omega⟩
 have hq:(4*q+r)/4=q:=by omega
 have hm:(4*q+r)%4=r:=by omega
 have hlen:=K3 b q
 have hrep:List.replicate (64-q) (0:UInt32)=0::List.replicate (64-(q+1)) 0:=by
  rw[show 64-q=(64-(q+1))+1 by omega,List.replicate_succ]
 rcases(by omega:r=0\/r=1\/r=2\/r=3)with rfl|rfl|rfl|rfl
 ·have h1:(4*q+0+1)/4=q:=by omega
  have h2:(4*q+0+1)%4=1:=by omega
  simp only[wZ,hq,hm,h1,h2,QO,hlen,if_true,List.append_nil]
  simp[hlen,hrep,List.getElem?_append_right,List.set_append_right]
 ·have h1:(4*q+1+1)/4=q:=by omega
  have h2:(4*q+1+1)%4=2:=by omega
  simp only[wZ,hq,hm,h1,h2,QO,hlen]
  simp[hlen,List.getElem?_append_right,List.set_append_right]
 ·have h1:(4*q+2+1)/4=q:=by omega
  have h2:(4*q+2+1)%4=3:=by omega
  simp only[wZ,hq,hm,h1,h2,QO,hlen]
  simp[hlen,List.getElem?_append_right,List.set_append_right]
 ·have h1:(4*q+3+1)/4=q+1:=by omega
  have h2:(4*q+3+1)%4=0:=by omega
  have hw:=zeh (b.getD (4*q) 0) (b.getD (4*q+1) 0) (b.getD (4*q+2) 0) (b.getD (4*q+3) 0)
  simp only[UInt32.zero_shiftLeft,UInt32.zero_or]at hw
  simp only[wZ,hq,hm,h1,h2,QO,hlen,kI,if_pos (show q<16 by omega),zdp]
  simp[hlen,List.getElem?_append_right,List.set_append_right]
  simp only[List.getD_eq_getElem?_getD]at hw
  exact hw.symm
theorem ze4 (b:List UInt8):wZ b 64=kI b 16:=by simp[wZ]
theorem zgK (b:List UInt8) (k:Nat) (h:k<64) (h16:16<=k):QO (kI b (k+1))=(QO (kI b k)).set k (zbu (kI b k)):=by
 have hlen:=K3 b k
 have hrep:List.replicate (64-k) (0:UInt32)=0::List.replicate (64-(k+1)) 0:=by
  rw[show 64-k=(64-(k+1))+1 by omega,List.replicate_succ]
 simp only[QO,kI,hlen,if_neg (show ¬k<16 by omega)]
 simp[hlen,hrep,List.set_append_right]
abbrev zrv:Cfg:=⟨fun _=>false,fun n=>n==72⟩
theorem zr7:zZ 0=.i .u32 0:=rfl
theorem zc7 (b:List UInt8) (hb:b.length=64) :
  PC Tryz.prog 208 [.av (.slice 5) (jB b)] (.av (.arr 64 166) (.agg ((kI b 64).map zZ))):=by
 have hbe:jB b=.sl .no (b.map fun b=>.i .u8 b.toNat):=rfl
 refine zow Tryz.func208 zrv fun imm0 w0=>?_
 simp (disch:=omega) [zz,hbe,hb]
 refine AT.loopV (α:=Nat) (fun k ver=>St.of [(2,.loc 2 []),(3,.loc 3 []),(11,.av (.slice 5) (jB b)),(12,.av (.int .i64) (.i .i64 64)),(13,.av (.int .i64) (.i .i64 k))] [(2,(.arr 64 166,.agg (List.replicate 64 (.i .u32 0)))),(3,(.arr 64 166,.agg ((QO (wZ b k)).map zZ)))] ver [])
  (fun k=>k<=64) (fun k=>64-k) 0 ?_ ?_ ?_
 ·apply Le.of<;>simp[le9,zbI,zr7,hbe]<;>try omega
 ·simp
 ·rintro k ver hk KL hN hE
  refine zrd zrv ?_
  by_cases hlt:k<64
  ·have hlt':(k:Int)<64:=by omega
   obtain⟨q,hq⟩:∃q:Nat,k / 4=q:=⟨_,rfl⟩
   have hq':(k:Int).tdiv 4=(q:Int):=by rw[Int.tdiv_eq_ediv_of_nonneg (by omega)];omega
   have hst:=zbJ b k hlt
   obtain⟨W,hW⟩:∃W,QO (wZ b k)=W:=⟨_,rfl⟩
   have hWl:W.length=64:=by rw[<-hW];exact zcU (by simp[wZ];split<;>simp<;>omega)
   obtain⟨x,hx⟩:∃x,W[q]?=some x:=⟨_,List.getElem?_eq_getElem (by omega)⟩
   obtain⟨y,hy⟩:∃x,b[k]?=some x:=⟨_,List.getElem?_eq_getElem (by omega)⟩
   have gx:∀g:q<W.length,W[q]=x:=fun g=>by rw[List.getElem?_eq_getElem g]at hx;simpa using hx
   have gy:∀g:k<b.length,b[k]=y:=fun g=>by rw[List.getElem?_eq_getElem g]at hy;simpa using hy
   rw[hW,hq,List.getD_eq_getElem?_getD,List.getD_eq_getElem?_getD,hx,hy]at hst
   have hs8:=zl1 x (show 8<32 by omega)
   have hst':(QO (wZ b (k+1))).map zZ=(W.map zZ).set q (zZ (x <<< UInt32.ofNat 8 ||| y.toUInt32)):=by rw[hst,List.map_set];rfl
   simp (disch:=omega) [zz,hlt',hq',hbe,hW,gx,gy,hs8,zqk,wor,-BitVec.toNat_or]
   (repeat with_reducible refine om ?_)
   refine hN _ (k+1) ?_ (by first|omega|(simp;done)|(simp;omega)) (by first|omega|(simp;done)|(simp;omega));apply Le.of<;>simp[le9,hst',hbe]<;>try omega
  ·obtain rfl:k=64:=by omega
   simp (disch:=omega) [zz]
   refine hE _ _ (by simp) ?_
   simp (disch:=omega) [zz]
   refine AT.loopV (α:=Nat) (fun k ver=>St.of [(2,.loc 2 []),(3,.loc 3 []),(6,.av (.int .i64) (.i .i64 k))] [(2,(.arr 64 166,.agg (List.replicate 64 (.i .u32 0)))),(3,(.arr 64 166,.agg ((QO (kI b k)).map zZ)))] ver [])
    (fun k=>16<=k/\k<=64) (fun k=>64-k) 16 ?_ ?_ ?_
   ·apply Le.of<;>simp[le9,ze4]<;>try omega
   ·simp
   ·rintro k ver2 ⟨h16,hk⟩ KL2 hN2 hE2
    refine zrd zrv ?_
    by_cases hkt:k<64
    ·obtain⟨m,rfl⟩:∃m,k=m+16:=⟨k-16,by omega⟩
     have hfs:=zgK b (m+16) hkt h16
     have hWl:=K3 b (m+16)
     have hk':(m:Int)+16<64:=by omega
     obtain⟨W,hW⟩:∃W,kI b (m+16)=W:=⟨_,rfl⟩
     rw[hW]at hfs hWl
     obtain⟨F,hF⟩:∃F,QO W=F:=⟨_,rfl⟩
     have hFl:F.length=64:=by rw[<-hF];exact zcU (by omega)
     have zU:∀i,i<m+16->F[i]?=W[i]?:=fun i hi=>by rw[<-hF,QO,List.getElem?_append_left (by omega)]
     obtain⟨x16,h16e⟩:∃x,W[m]?=some x:=⟨_,List.getElem?_eq_getElem (by omega)⟩
     obtain⟨x15,h15e⟩:∃x,W[m+1]?=some x:=⟨_,List.getElem?_eq_getElem (by omega)⟩
     obtain⟨x7,h7e⟩:∃x,W[m+9]?=some x:=⟨_,List.getElem?_eq_getElem (by omega)⟩
     obtain⟨x2,h2e⟩:∃x,W[m+14]?=some x:=⟨_,List.getElem?_eq_getElem (by omega)⟩
     have g16:∀h:m<F.length,F[m]=x16:=fun h=>by have:=(zU m (by omega)).trans h16e;rw[List.getElem?_eq_getElem h]at this;simpa using this
     have g15:∀h:m+1<F.length,F[m+1]=x15:=fun h=>by have:=(zU (m+1) (by omega)).trans h15e;rw[List.getElem?_eq_getElem h]at this;simpa using this
     have g7:∀h:m+9<F.length,F[m+9]=x7:=fun h=>by have:=(zU (m+9) (by omega)).trans h7e;rw[List.getElem?_eq_getElem h]at this;simpa using this
     have g2:∀h:m+14<F.length,F[m+14]=x2:=fun h=>by have:=(zU (m+14) (by omega)).trans h2e;rw[List.getElem?_eq_getElem h]at this;simpa using this
     have w16:∀h:m<W.length,W[m]=x16:=fun h=>by rw[List.getElem?_eq_getElem h]at h16e;simpa using h16e
     have w15:∀h:m+1<W.length,W[m+1]=x15:=fun h=>by rw[List.getElem?_eq_getElem h]at h15e;simpa using h15e
     have w7:∀h:m+9<W.length,W[m+9]=x7:=fun h=>by rw[List.getElem?_eq_getElem h]at h7e;simpa using h7e
     have w2:∀h:m+14<W.length,W[m+14]=x2:=fun h=>by rw[List.getElem?_eq_getElem h]at h2e;simpa using h2e
     have hX:zbu W=x16+lo x15+x7+hi x2:=by simp[zbu,hWl,w16,w15,w7,w2]
     have hfs':(QO (kI b (m+17))).map zZ=(F.map zZ).set (m+16) (zZ (x16+lo x15+x7+hi x2)):=by rw[<-hX,<-hF,show m+17=m+16+1 by omega,hfs,List.map_set]
     simp (disch:=omega) [zz,hk',hW,hF,g15,g2]
     (repeat with_reducible refine om ?_)
     refine YE (kM x15 7 (by decide) (by decide)) rfl rfl (by simp) (by simp[q9,coC,TV.er,AV.er]) ?_
     simp (disch:=omega) [zz]
     refine YE (kM x15 18 (by decide) (by decide)) rfl rfl (by simp) (by simp[q9,coC,TV.er,AV.er]) ?_
     simp (disch:=omega) [zz,WF,JP,-BitVec.toNat_xor]
     refine YE (kM x2 17 (by decide) (by decide)) rfl rfl (by simp) (by simp[q9,coC,TV.er,AV.er]) ?_
     simp (disch:=omega) [zz]
     refine YE (kM x2 19 (by decide) (by decide)) rfl rfl (by simp) (by simp[q9,coC,TV.er,AV.er]) ?_
     simp (disch:=omega) [zz,WF,JP,W1,g16,g7,-BitVec.toNat_xor]
     (repeat with_reducible refine om ?_)
     refine hN2 _ (m+17) ?_ (by omega) (by omega)
     apply Le.of<;>simp[le9,hfs',lo,hi]<;>try omega
    ·obtain rfl:k=64:=by omega
     simp (disch:=omega) [zz]
     refine hE2 _ _ (by simp) ?_
     have hf64:QO (kI b 64)=kI b 64:=by simp[QO]
     simp (disch:=omega) [zz,Tryz.f208,hf64]
     simp[AV.ers_eq,Function.comp_def,AV.er]
abbrev zjP:Cfg:=⟨fun _=>false,fun n=>n==112⟩
theorem take_set {s R C:List UInt32} {i:Nat} {x y:UInt32} (hC:C=List.zipWith (·+·) s R) (hs:s.length=8) (hR:R.length=8) (hi:i<8) (hx:s[i]?=some x) (hy:R[i]?=some y) :
  ((C.take i++s.drop i).map zZ).set i (zZ (x+y))=(C.take (i+1)++s.drop (i+1)).map zZ:=by
 have hCl:C.length=8:=by rw[hC];simp[hs,hR]
 have hCi:C[i]?=some (x+y):=by rw[hC];simp[List.getElem?_zipWith,hx,hy]
 have hd:s.drop i=x::s.drop (i+1):=by
  rw[<-List.getElem_cons_drop (show i<s.length by omega)]
  rw[List.getElem?_eq_getElem (by omega)]at hx
  rw[Option.some.inj hx]
 rw[<-List.map_set,List.take_add_one,hCi,hd]
 simp[List.set_append_right,hCl,Nat.min_eq_left (Nat.le_of_lt hi)]
theorem zp2 (B:Nat) (s:List UInt32) (b:List UInt8) (hs:s.length=8) (hb:b.length=64) :
  q6 Tryz.prog 183 [.av .ptr (.ptr B (.arr 8 166) []),.av (.slice 5) (jB b)] [(B,.var (.arr 8 166) (.agg (s.map zZ)))] fun r H'=>r=.tup []/\H'=[(B,.var (.arr 8 166) (.agg ((zO s b).map zZ)))]:=by
 refine zov Tryz.func183 zjP fun imm0 w0=>?_
 simp (disch:=omega) [zz,jF]
 (repeat with_reducible refine om ?_)
 refine zcd (GQ) ?_;(simp (disch:=first|omega|assumption) [zz,jF])
 (repeat with_reducible refine om ?_)
 refine YE (zc7 b hb) rfl rfl (by simp) (by simp[q9,TV.er]) ?_
 simp (disch:=omega) [zz,jF]
 refine AT.loopV (α:=Nat) (fun k ver=>St.of [(0,.av .ptr (.ptr B (.arr 8 166) [])),(4,.loc 4 []),(5,.loc 5 []),(19,.av (.arr 64 166) (.agg ((kI b 64).map zZ))),(20,.av (.int .i64) (.i .i64 k))] [(4,(.arr 8 166,.agg ((rnd b s k).map zZ))),(5,(.arr 64 166,.agg (k64.map zZ)))] ver [(B,.var (.arr 8 166) (.agg (s.map zZ)))])
  (fun k=>k<=64) (fun k=>64-k) 0 ?_ ?_ ?_
 ·apply Le.of<;>simp[le9,rnd,jF]<;>try omega
 ·simp
 ·rintro k ver hk KL hN hE
  refine zrd zjP ?_
  by_cases hlt:k<64
  ·have hlt':(k:Int)<64:=by omega
   obtain⟨v0,v1,v2,v3,v4,v5,v6,v7,hv⟩:=zjm (xC (b:=b) hs k)
   obtain⟨kk,hkk⟩:∃x,k64[k]?=some x:=⟨_,List.getElem?_eq_getElem (by simp[k64];omega)⟩
   obtain⟨ww,hww⟩:∃x,(kI b 64)[k]?=some x:=⟨_,List.getElem?_eq_getElem (by simp;omega)⟩
   have hR:rnd b s (k+1)=U7 [v0,v1,v2,v3,v4,v5,v6,v7] kk ww:=by rw[rnd,hv,hkk,hww];rfl
   have hkl:k64.length=64:=rfl
   have hwl:=K3 b 64
   generalize k64=KK at *
   generalize kI b 64=W at *
   have gk:∀h:k<KK.length,KK[k]=kk:=fun h=>by rw[List.getElem?_eq_getElem h]at hkk;simpa using hkk
   have gw:∀h:k<W.length,W[k]=ww:=fun h=>by rw[List.getElem?_eq_getElem h]at hww;simpa using hww
   simp (disch:=omega) [zz,hlt',hv,gw,jF]
   (repeat with_reducible refine om ?_)
   refine zcd (kM v4 6 (by decide) (by decide)) ?_;(simp (disch:=first|omega|assumption) [zz,W1,wor,WF,YM,YH,JP,-BitVec.toNat_or,-BitVec.toNat_xor,-BitVec.toNat_and])
   refine zcd (kM v4 11 (by decide) (by decide)) ?_;(simp (disch:=first|omega|assumption) [zz,W1,wor,WF,YM,YH,JP,-BitVec.toNat_or,-BitVec.toNat_xor,-BitVec.toNat_and])
   refine zcd (kM v4 25 (by decide) (by decide)) ?_;(simp (disch:=first|omega|assumption) [zz,W1,wor,WF,YM,YH,JP,-BitVec.toNat_or,-BitVec.toNat_xor,-BitVec.toNat_and,gk,gw])
   (repeat with_reducible refine om ?_)
   refine zcd (kM v0 2 (by decide) (by decide)) ?_;(simp (disch:=first|omega|assumption) [zz,W1,wor,WF,YM,YH,JP,-BitVec.toNat_or,-BitVec.toNat_xor,-BitVec.toNat_and])
   refine zcd (kM v0 13 (by decide) (by decide)) ?_;(simp (disch:=first|omega|assumption) [zz,W1,wor,WF,YM,YH,JP,-BitVec.toNat_or,-BitVec.toNat_xor,-BitVec.toNat_and])
   refine zcd (kM v0 22 (by decide) (by decide)) ?_;(simp (disch:=first|omega|assumption) [zz,W1,wor,WF,YM,YH,JP,-BitVec.toNat_or,-BitVec.toNat_xor,-BitVec.toNat_and])
   (repeat with_reducible refine om ?_)
   refine hN _ (k+1) ?_ (by omega) (by omega)
   apply Le.of<;>simp[le9,hR,U7,jF]<;>try omega
  ·obtain rfl:k=64:=by omega
   simp (disch:=omega) [zz,jF]
   refine hE _ _ (by simp) ?_
   simp (disch:=omega) [zz,jF]
   refine AT.loopV (α:=Nat) (fun k ver=>St.of [(0,.av .ptr (.ptr B (.arr 8 166) [])),(99,.av (.arr 8 166) (.agg ((rnd b s 64).map zZ))),(100,.av (.int .i64) (.i .i64 k))] [] ver [(B,.var (.arr 8 166) (.agg (((zO s b).take k++s.drop k).map zZ)))])
    (fun k=>k<=8) (fun k=>8-k) 0 ?_ ?_ ?_
   ·apply Le.of<;>simp[le9,jF]<;>try omega
   ·simp
   ·rintro k ver2 hk KL2 hN2 hE2
    have hcl:=J5 (b:=b) hs
    refine zrd zjP ?_
    by_cases hlt:k<8
    ·have hlt':(k:Int)<8:=by omega
     have hrl:=xC (b:=b) hs 64
     obtain⟨x,hx⟩:∃x,s[k]?=some x:=⟨_,List.getElem?_eq_getElem (by omega)⟩
     obtain⟨y,hy⟩:∃x,(rnd b s 64)[k]?=some x:=⟨_,List.getElem?_eq_getElem (by omega)⟩
     have hsq:=take_set (C:=zO s b) rfl hs hrl hlt hx hy
     have hg:(((zO s b).take k++s.drop k).map zZ)[k]?=some (zZ x):=by
      rw[List.getElem?_map,List.getElem?_append_right (by rw[List.length_take];omega),List.getElem?_drop]
      simp[hcl,Nat.min_eq_left (Nat.le_of_lt hlt),hx]
     have hll:(((zO s b).take k++s.drop k).map zZ).length=8:=by simp[hcl,hs];omega
     generalize ((zO s b).take k++s.drop k).map zZ=Z at *
     generalize rnd b s 64=R at *
     have gy:∀g:k<R.length,R[k]=y:=fun g=>by rw[List.getElem?_eq_getElem g]at hy;simpa using hy
     have gz:∀g:k<Z.length,Z[k]=zZ x:=fun g=>by rw[List.getElem?_eq_getElem g]at hg;simpa using hg
     simp (disch:=omega) [zz,hlt',gy,gz,hll,W1,jF]
     (repeat with_reducible refine om ?_)
     refine hN2 _ (k+1) ?_ (by omega) (by omega)
     rw[List.map_append,List.map_take,List.map_drop]at hsq
     apply Le.of<;>simp[le9,hsq,jF]<;>try omega
    ·obtain rfl:k=8:=by omega
     have e1:(zO s b).take 8++s.drop 8=zO s b:=by rw[List.take_of_length_le (by omega),List.drop_of_length_le (by omega),List.append_nil]
     simp (disch:=omega) [zz,jF]
     refine hE2 _ _ (by simp) ?_
     simp (disch:=omega) [zz,Tryz.f183,jF]
     try (rw[<-List.map_take,<-List.map_drop,<-List.map_append,e1])
     try simp[AV.erks_eq,Function.comp_def,AV.erk,jF]
theorem zgp (B:Nat) (s:List UInt32) (b:List UInt8) (hs:s.length=8) (hb:b.length=64) {op nn:AV} (hop:op.erk=op) (hnn:nn.erk=nn) :
  q6 Tryz.prog 183 [.av .ptr (.ptr B (q8 Tryz.prog 255) [0]),.av (.slice 5) (jB b)] [(B,.var (q8 Tryz.prog 255) (.agg [.agg (s.map zZ),op,nn]))] fun r H'=>r=.tup []/\H'=[(B,.var (q8 Tryz.prog 255) (.agg [.agg ((zO s b).map zZ),op,nn]))]:=by
 refine zov Tryz.func183 zjP fun imm0 w0=>?_
 simp (disch:=omega) [zz,hop,hnn]
 (repeat with_reducible refine om ?_)
 refine zcd (GQ) ?_;(simp (disch:=first|omega|assumption) [zz,hop,hnn])
 (repeat with_reducible refine om ?_)
 refine YE (zc7 b hb) rfl rfl (by simp) (by simp[q9,TV.er]) ?_
 simp (disch:=omega) [zz,hop,hnn]
 refine AT.loopV (α:=Nat) (fun k ver=>St.of [(0,.av .ptr (.ptr B (q8 Tryz.prog 255) [0])),(4,.loc 4 []),(5,.loc 5 []),(19,.av (.arr 64 166) (.agg ((kI b 64).map zZ))),(20,.av (.int .i64) (.i .i64 k))] [(4,(.arr 8 166,.agg ((rnd b s k).map zZ))),(5,(.arr 64 166,.agg (k64.map zZ)))] ver [(B,.var (q8 Tryz.prog 255) (.agg [.agg (s.map zZ),op,nn]))])
  (fun k=>k<=64) (fun k=>64-k) 0 ?_ ?_ ?_
 ·apply Le.of<;>simp[le9,rnd,hop,hnn]<;>try omega
 ·simp
 ·rintro k ver hk KL hN hE
  refine zrd zjP ?_
  by_cases hlt:k<64
  ·have hlt':(k:Int)<64:=by omega
   obtain⟨v0,v1,v2,v3,v4,v5,v6,v7,hv⟩:=zjm (xC (b:=b) hs k)
   obtain⟨kk,hkk⟩:∃x,k64[k]?=some x:=⟨_,List.getElem?_eq_getElem (by simp[k64];omega)⟩
   obtain⟨ww,hww⟩:∃x,(kI b 64)[k]?=some x:=⟨_,List.getElem?_eq_getElem (by simp;omega)⟩
   have hR:rnd b s (k+1)=U7 [v0,v1,v2,v3,v4,v5,v6,v7] kk ww:=by rw[rnd,hv,hkk,hww];rfl
   have hkl:k64.length=64:=rfl
   have hwl:=K3 b 64
   generalize k64=KK at *
   generalize kI b 64=W at *
   have gk:∀h:k<KK.length,KK[k]=kk:=fun h=>by rw[List.getElem?_eq_getElem h]at hkk;simpa using hkk
   have gw:∀h:k<W.length,W[k]=ww:=fun h=>by rw[List.getElem?_eq_getElem h]at hww;simpa using hww
   simp (disch:=omega) [zz,hlt',hv,gw,hop,hnn]
   (repeat with_reducible refine om ?_)
   refine zcd (kM v4 6 (by decide) (by decide)) ?_;(simp (disch:=first|omega|assumption) [zz,W1,wor,WF,YM,YH,JP,-BitVec.toNat_or,-BitVec.toNat_xor,-BitVec.toNat_and])
   refine zcd (kM v4 11 (by decide) (by decide)) ?_;(simp (disch:=first|omega|assumption) [zz,W1,wor,WF,YM,YH,JP,-BitVec.toNat_or,-BitVec.toNat_xor,-BitVec.toNat_and])
   refine zcd (kM v4 25 (by decide) (by decide)) ?_;(simp (disch:=first|omega|assumption) [zz,W1,wor,WF,YM,YH,JP,-BitVec.toNat_or,-BitVec.toNat_xor,-BitVec.toNat_and,gk,gw])
   (repeat with_reducible refine om ?_)
   refine zcd (kM v0 2 (by decide) (by decide)) ?_;(simp (disch:=first|omega|assumption) [zz,W1,wor,WF,YM,YH,JP,-BitVec.toNat_or,-BitVec.toNat_xor,-BitVec.toNat_and])
   refine zcd (kM v0 13 (by decide) (by decide)) ?_;(simp (disch:=first|omega|assumption) [zz,W1,wor,WF,YM,YH,JP,-BitVec.toNat_or,-BitVec.toNat_xor,-BitVec.toNat_and])
   refine zcd (kM v0 22 (by decide) (by decide)) ?_;(simp (disch:=first|omega|assumption) [zz,W1,wor,WF,YM,YH,JP,-BitVec.toNat_or,-BitVec.toNat_xor,-BitVec.toNat_and])
   (repeat with_reducible refine om ?_)
   refine hN _ (k+1) ?_ (by omega) (by omega)
   apply Le.of<;>simp[le9,hR,U7,hop,hnn]<;>try omega
  ·obtain rfl:k=64:=by omega
   simp (disch:=omega) [zz,hop,hnn]
   refine hE _ _ (by simp) ?_
   simp (disch:=omega) [zz,hop,hnn]
   refine AT.loopV (α:=Nat) (fun k ver=>St.of [(0,.av .ptr (.ptr B (q8 Tryz.prog 255) [0])),(99,.av (.arr 8 166) (.agg ((rnd b s 64).map zZ))),(100,.av (.int .i64) (.i .i64 k))] [] ver [(B,.var (q8 Tryz.prog 255) (.agg [.agg (((zO s b).take k++s.drop k).map zZ),op,nn]))])
    (fun k=>k<=8) (fun k=>8-k) 0 ?_ ?_ ?_
   ·apply Le.of<;>simp[le9,hop,hnn]<;>try omega
   ·simp
   ·rintro k ver2 hk KL2 hN2 hE2
    have hcl:=J5 (b:=b) hs
    refine zrd zjP ?_
    by_cases hlt:k<8
    ·have hlt':(k:Int)<8:=by omega
     have hrl:=xC (b:=b) hs 64
     obtain⟨x,hx⟩:∃x,s[k]?=some x:=⟨_,List.getElem?_eq_getElem (by omega)⟩
     obtain⟨y,hy⟩:∃x,(rnd b s 64)[k]?=some x:=⟨_,List.getElem?_eq_getElem (by omega)⟩
     have hsq:=take_set (C:=zO s b) rfl hs hrl hlt hx hy
     have hg:(((zO s b).take k++s.drop k).map zZ)[k]?=some (zZ x):=by
      rw[List.getElem?_map,List.getElem?_append_right (by rw[List.length_take];omega),List.getElem?_drop]
      simp[hcl,Nat.min_eq_left (Nat.le_of_lt hlt),hx]
     have hll:(((zO s b).take k++s.drop k).map zZ).length=8:=by simp[hcl,hs];omega
     generalize ((zO s b).take k++s.drop k).map zZ=Z at *
     generalize rnd b s 64=R at *
     have gy:∀g:k<R.length,R[k]=y:=fun g=>by rw[List.getElem?_eq_getElem g]at hy;simpa using hy
     have gz:∀g:k<Z.length,Z[k]=zZ x:=fun g=>by rw[List.getElem?_eq_getElem g]at hg;simpa using hg
     simp (disch:=omega) [zz,hlt',gy,gz,hll,W1,hop,hnn]
     (repeat with_reducible refine om ?_)
     refine hN2 _ (k+1) ?_ (by omega) (by omega)
     rw[List.map_append,List.map_take,List.map_drop]at hsq
     apply Le.of<;>simp[le9,hsq,hop,hnn]<;>try omega
    ·obtain rfl:k=8:=by omega
     have e1:(zO s b).take 8++s.drop 8=zO s b:=by rw[List.take_of_length_le (by omega),List.drop_of_length_le (by omega),List.append_nil]
     simp (disch:=omega) [zz,hop,hnn]
     refine hE2 _ _ (by simp) ?_
     simp (disch:=omega) [zz,Tryz.f183,hop,hnn]
     try (rw[<-List.map_take,<-List.map_drop,<-List.map_append,e1])
     try simp[AV.erks_eq,Function.comp_def,AV.erk,hop,hnn]
end
end Go.Proofs.YtognnffjdckalaaGreatDoor
