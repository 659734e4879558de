/- Words of 32 bits: what the model's integer operations are on them. No condition beyond each theorem's own. -/
import Derived.Test.YtcioeonlclpacaaGreatDoorL0
set_option linter.unusedSimpArgs false
set_option linter.unusedVariables false
set_option linter.unusedSectionVars false
section
set_option maxRecDepth 100000
namespace Go.Proofs.YtcioeonlclpacaaGreatDoor
open Go Go.Ab
open Classical
variable [Sel]
def wi (x:UInt32):Int:=x.toNat
abbrev w6 (w:UInt32):AV:=.i .u32 (wi w)
theorem dM {n:Nat} (h:n<4294967296):IntKind.u32.wrap (n:Int)=n:=by
 simp[IntKind.wrap,IntKind.signed,IntKind.bits];omega
theorem zEd (x:UInt32):BitVec.ofInt IntKind.u32.bits (wi x)=x.toBitVec:=by
 apply BitVec.eq_of_toNat_eq
 show (BitVec.ofInt 32 (x.toNat:Int)).toNat=_
 simp
 rfl
theorem UQ (x y:UInt32):IntKind.u32.wrap (wi x+wi y)=wi (x+y):=by
 have:=x.toNat_lt;have:=y.toNat_lt
 simp[wi,IntKind.wrap,IntKind.signed,IntKind.bits,UInt32.toNat_add]
theorem wor (x y:UInt32):IntKind.u32.wrap ((BitVec.ofInt IntKind.u32.bits (wi x) ||| BitVec.ofInt IntKind.u32.bits (wi y)).toNat:Int)=wi (x ||| y):=by
 rw[zEd,zEd,dM (BitVec.isLt _)];rfl
theorem VI (x y:UInt32):IntKind.u32.wrap ((BitVec.ofInt IntKind.u32.bits (wi x) ^^^ BitVec.ofInt IntKind.u32.bits (wi y)).toNat:Int)=wi (x ^^^ y):=by
 rw[zEd,zEd,dM (BitVec.isLt _)];rfl
theorem pL (x y:UInt32):IntKind.u32.wrap ((BitVec.ofInt IntKind.u32.bits (wi x) &&& BitVec.ofInt IntKind.u32.bits (wi y)).toNat:Int)=wi (x &&& y):=by
 rw[zEd,zEd,dM (BitVec.isLt _)];rfl
theorem pC (x:UInt32):IntKind.u32.wrap ((BitVec.ofInt IntKind.u32.bits (if IntKind.u32.signed then -1 else IntKind.u32.max) ^^^ BitVec.ofInt IntKind.u32.bits (wi x)).toNat:Int)=wi (~~~ x):=by
 rw[zEd,dM (BitVec.isLt _)]
 unfold wi
 show ((BitVec.ofInt 32 4294967295 ^^^ x.toBitVec).toNat:Int)=((~~~ x.toBitVec).toNat:Int)
 rw[show BitVec.ofInt 32 4294967295=BitVec.allOnes 32 from by decide,BitVec.allOnes_xor]
theorem zpA (x:UInt32) {n:Nat} (h:n<32):(wi x).fdiv (2 ^ n)=wi (x >>> UInt32.ofNat n):=by
 have e:(x >>> UInt32.ofNat n).toNat=x.toNat / 2 ^ n:=by
  rw[UInt32.toNat_shiftRight,UInt32.toNat_ofNat_of_lt' (by rw[UInt32.size];omega),Nat.mod_eq_of_lt (by omega),Nat.shiftRight_eq_div_pow]
 unfold wi
 rw[e,Int.fdiv_eq_ediv_of_nonneg _ (Int.le_of_lt (Int.pow_pos (by omega)))]
 norm_cast
theorem zp4 (x:UInt32) {n:Nat} (h:n<32):IntKind.u32.wrap (wi x*2 ^ n)=wi (x <<< UInt32.ofNat n):=by
 have e:(x <<< UInt32.ofNat n).toNat=(x.toNat*2 ^ n) % 4294967296:=by
  rw[UInt32.toNat_shiftLeft,UInt32.toNat_ofNat_of_lt' (by rw[UInt32.size];omega),Nat.mod_eq_of_lt (by omega:n<32),Nat.shiftLeft_eq]
 unfold wi
 rw[e]
 simp[IntKind.wrap,IntKind.signed,IntKind.bits]
theorem ziD {n:Nat} (h:n<32):min n IntKind.u32.bits=n:=by simp[IntKind.bits];omega
theorem uU (x:UInt32) {n:Nat} (h:n<32):(wi x).fdiv (2 ^ (min n IntKind.u32.bits))=wi (x >>> UInt32.ofNat n):=by rw[ziD h,zpA x h]
theorem zp0 (x:UInt32) {n:Nat} (h:n<32):IntKind.u32.wrap (wi x*2 ^ (min n IntKind.u32.bits))=wi (x <<< UInt32.ofNat n):=by rw[ziD h,zp4 x h]
theorem zoV (b:UInt8):IntKind.u32.wrap (b.toNat:Int)=wi b.toUInt32:=by
 have:=b.toNat_lt
 rw[dM (by omega)];simp[wi]
theorem zrH (x:UInt32):IntKind.u8.wrap (wi x)=(x.toUInt8.toNat:Int):=by
 simp[wi,IntKind.wrap,IntKind.signed,IntKind.bits]
def XD (x:UInt32) (n:Nat):UInt32:=(x >>> UInt32.ofNat n) ||| (x <<< UInt32.ofNat (32-n))
theorem zaA {n:Nat} (h:n<4294967296):IntKind.u64.wrap (n:Int)=n:=by
 simp[IntKind.wrap,IntKind.signed,IntKind.bits];omega
theorem zp6 {n:Nat} (h:n<32):(BitVec.ofInt 64 (n:Int) &&& 31#64).toNat=n:=by
 have e:(BitVec.ofInt 64 (n:Int)).toNat=n:=by simp;omega
 rw[BitVec.toNat_and,e]
 have:=Nat.and_two_pow_sub_one_eq_mod n 5
 simp only[Nat.reducePow,Nat.reduceSub]at this
 show n &&& 31=n
 rw[this];omega
def zf4 (a b c d:UInt8):UInt32:=((a.toUInt32 <<< 24) ||| (b.toUInt32 <<< 16) ||| (c.toUInt32 <<< 8)) ||| d.toUInt32
theorem zbC (a b c d:UInt8):((((((0:UInt32) <<< 8 ||| a.toUInt32) <<< 8) ||| b.toUInt32) <<< 8 ||| c.toUInt32) <<< 8) ||| d.toUInt32=zf4 a b c d:=by
 unfold zf4
 apply UInt32.toBitVec_inj.1
 ext i hi
 simp
 grind
def k64:List UInt32:=[0x428a2f98,0x71374491,0xb5c0fbcf,0xe9b5dba5,0x3956c25b,0x59f111f1,0x923f82a4,0xab1c5ed5,0xd807aa98,0x12835b01,0x243185be,
 0x550c7dc3,0x72be5d74,0x80deb1fe,0x9bdc06a7,0xc19bf174,0xe49b69c1,0xefbe4786,0x0fc19dc6,0x240ca1cc,0x2de92c6f,0x4a7484aa,
 0x5cb0a9dc,0x76f988da,0x983e5152,0xa831c66d,0xb00327c8,0xbf597fc7,0xc6e00bf3,0xd5a79147,0x06ca6351,0x14292967,0x27b70a85,
 0x2e1b2138,0x4d2c6dfc,0x53380d13,0x650a7354,0x766a0abb,0x81c2c92e,0x92722c85,0xa2bfe8a1,0xa81a664b,0xc24b8b70,0xc76c51a3,
 0xd192e819,0xd6990624,0xf40e3585,0x106aa070,0x19a4c116,0x1e376c08,0x2748774c,0x34b0bcb5,0x391c0cb3,0x4ed8aa4a,0x5b9cca4f,
 0x682e6ff3,0x748f82ee,0x78a5636f,0x84c87814,0x8cc70208,0x90befffa,0xa4506ceb,0xbef9a3f7,0xc67178f2]
def h8:List UInt32:=[0x6a09e667,0xbb67ae85,0x3c6ef372,0xa54ff53a,0x510e527f,0x9b05688c,0x1f83d9ab,0x5be0cd19]
@[simp] theorem zmC:qZ Tryz.prog 149=true:=by kernel_rfl
@[simp] theorem zql:z8 Tryz.prog (.func 149)=false:=q9 zmC
@[simp] theorem zS1:qZ Tryz.prog 215=true:=by kernel_rfl
@[simp] theorem zT0:z8 Tryz.prog (.func 215)=false:=q9 zS1
@[simp] theorem zzY:qZ Tryz.prog 240=true:=by kernel_rfl
@[simp] theorem zAU:z8 Tryz.prog (.func 240)=false:=q9 zzY
@[simp] theorem zm3:qZ Tryz.prog 148=true:=by kernel_rfl
@[simp] theorem zqH:z8 Tryz.prog (.func 148)=false:=q9 zm3
@[simp] theorem zls:qZ Tryz.prog 147=true:=by kernel_rfl
@[simp] theorem zq4:z8 Tryz.prog (.func 147)=false:=q9 zls
@[simp] theorem zRK:qZ Tryz.prog 213=true:=by kernel_rfl
@[simp] theorem zT6:z8 Tryz.prog (.func 213)=false:=q9 zRK
@[simp] theorem zAd:qZ Tryz.prog 188=true:=by kernel_rfl
@[simp] theorem zB5:z8 Tryz.prog (.func 188)=false:=q9 zAd

theorem zJz (x:UInt32) (n:Nat) (h0:0<n) (h:n<32):PC Tryz.prog 149 [.av (.int .u32) (w6 x),.av (.int .i64) (.i .i64 n)] (.av (.int .u32) (w6 (XD x n))):=by
 have e1:IntKind.i64.wrap (32-(n:Int))=((32-n:Nat):Int):=by rw[i64_in (by omega) (by omega)];omega
 have s1:=uU x h
 have s2:=zp0 x (show 32-n<32 by omega)
 refine zow Tryz.func149 cf0 fun imm0 w0=>?_
 simp[e1,Tryz.f149,s1,s2,wor,XD,-BitVec.toNat_or]
theorem zlQ (x:UInt32) (n:Nat) (h0:0<n) (h:n<32):PC Tryz.prog 240 [.av (.int .u32) (w6 x),.av (.int .i64) (.i .i64 ((32-n:Nat):Int))] (.av (.int .u32) (w6 (XD x n))):=by
 have e1:IntKind.u64.wrap ((32-n:Nat):Int)=((32-n:Nat):Int):=zaA (by omega)
 have e4:(BitVec.ofInt IntKind.u64.bits ((32-n:Nat):Int) &&& BitVec.ofInt IntKind.u64.bits 31).toNat=32-n:=zp6 (by omega)
 have e5:IntKind.u64.wrap (32-((32-n:Nat):Int))=(n:Int):=by
  have:(32-((32-n:Nat):Int))=(n:Int):=by omega
  rw[this];exact zaA (by omega)
 have s1:=uU x h
 have s2:=zp0 x (show 32-n<32 by omega)
 have hc:XD x n=(x <<< UInt32.ofNat (32-n)) ||| (x >>> UInt32.ofNat n):=UInt32.or_comm _ _
 refine zow Tryz.func240 cf0 fun imm0 w0=>?_
 have e4':(BitVec.ofNat IntKind.u64.bits (32-n) &&& 31#IntKind.u64.bits).toNat=32-n:=by rw[←BitVec.ofInt_natCast];exact e4
 simp[e1,e4',e5,Tryz.f240,s1,s2,wor,hc,-BitVec.toNat_or,-BitVec.toNat_and]

theorem kO (x:UInt32) (n:Nat) (h0:0<n) (h:n<32):PC Tryz.prog 215 [.av (.int .u32) (w6 x),.av (.int .i64) (.i .i64 n)] (.av (.int .u32) (w6 (XD x n))):=by
 have e1:IntKind.i64.wrap (32-(n:Int))=((32-n:Nat):Int):=by rw[i64_in (by omega) (by omega)];omega
 refine zow Tryz.func215 cf0 fun imm0 w0=>?_
 simp[e1]
 refine UE (r:=.av (.int .u32) (w6 (XD x n))) rfl (by simp[qQ]) (by simp) ?_ ?_
 ·have:=zlQ x n h0 h
  simpa[TV.er,AV.er]using this
 ·simp[Tryz.f215]

def QH (l:List UInt8):AV:=.sl .no (l.map fun b=>.i .u8 b.toNat)
@[simp] theorem zib (l:List UInt8):(QH l).er=QH l:=by simp[QH,AV.er,AV.ers_eq,Function.comp_def]
@[simp] theorem zoP (l:List UInt8):(QH l).erk=QH l:=kH _ (zib l)
theorem zQS (a b c d:UInt8):PC Tryz.prog 148 [.av (.slice 5) (QH [a,b,c,d])] (.av (.int .u32) (w6 (zf4 a b c d))):=by
 have s1:=zp0 a.toUInt32 (show 24<32 by omega)
 have s2:=zp0 b.toUInt32 (show 16<32 by omega)
 have s3:=zp0 c.toUInt32 (show 8<32 by omega)
 refine zow Tryz.func148 cf0 fun imm0 w0=>?_
 simp[QH,zoV,Tryz.f148,s1,s2,s3,wor,zf4,-BitVec.toNat_or]
theorem zSu:PC Tryz.prog 147 [] (.av (.slice 170) (.sl .no (k64.map w6))):=by
 refine zow Tryz.func147 cf0 fun imm0 w0=>?_
 simp[Tryz.f147,k64,wi]
theorem V4:PC Tryz.prog 213 [] (.av (.arr 64 170) (.agg (k64.map w6))):=by
 refine zow Tryz.func213 cf0 fun imm0 w0=>?_
 simp[Tryz.f213,k64,wi]
theorem zjO:PC Tryz.prog 188 [] (.av (.arr 8 170) (.agg (h8.map w6))):=by
 refine zow Tryz.func188 cf0 fun imm0 w0=>?_
 simp[Tryz.f188,h8,wi]
@[simp] theorem zo6:qZ Tryz.prog 89=true:=by kernel_rfl
@[simp] theorem zrM:z8 Tryz.prog (.func 89)=false:=q9 zo6
def lo (x:UInt32):UInt32:=XD x 7 ^^^ XD x 18 ^^^ x >>> UInt32.ofNat 3
def hi (x:UInt32):UInt32:=XD x 17 ^^^ XD x 19 ^^^ x >>> UInt32.ofNat 10
def zgk (w:List UInt32):UInt32:=w[w.length-16]?.getD 0+lo (w[w.length-15]?.getD 0)+w[w.length-7]?.getD 0+hi (w[w.length-2]?.getD 0)
def zhT (b:List UInt8) (n:Nat):UInt32:=zf4 (b.getD (4*n) 0) (b.getD (4*n+1) 0) (b.getD (4*n+2) 0) (b.getD (4*n+3) 0)
def Q1 (b:List UInt8):Nat→List UInt32
 | 0=>[]
 | n+1=>Q1 b n++[if n<16 then zhT b n else zgk (Q1 b n)]
@[simp] theorem YM (b:List UInt8) (n:Nat):(Q1 b n).length=n:=by
 induction n with
 | zero=>rfl
 | succ n ih=>simp[Q1,ih]
def G8:List UInt32→UInt32→UInt32→List UInt32
 | [v0,v1,v2,v3,v4,v5,v6,v7],k,w =>
  [v7+(XD v4 6 ^^^ XD v4 11 ^^^ XD v4 25)+(v4 &&& v5 ^^^ ~~~v4 &&& v6)+k+w+((XD v0 2 ^^^ XD v0 13 ^^^ XD v0 22)+(v0 &&& v1 ^^^ v0 &&& v2 ^^^ v1 &&& v2)),v0,v1,v2,
   v3+(v7+(XD v4 6 ^^^ XD v4 11 ^^^ XD v4 25)+(v4 &&& v5 ^^^ ~~~v4 &&& v6)+k+w),v4,v5,v6]
 | _,_,_=>[]
def rnd (b:List UInt8) (v:List UInt32):Nat→List UInt32
 | 0=>v
 | n+1=>G8 (rnd b v n) (k64[n]?.getD 0) ((Q1 b 64)[n]?.getD 0)
theorem zjt {l:List UInt32} (h:l.length=8):∃v0 v1 v2 v3 v4 v5 v6 v7,l=[v0,v1,v2,v3,v4,v5,v6,v7]:=by
 match l,h with
 | [v0,v1,v2,v3,v4,v5,v6,v7],_=>exact⟨v0,v1,v2,v3,v4,v5,v6,v7,rfl⟩
theorem uE {b:List UInt8} {v:List UInt32} (h:v.length=8):∀n,(rnd b v n).length=8
 | 0=>h
 | n+1=>by
  obtain⟨v0,v1,v2,v3,v4,v5,v6,v7,e⟩:=zjt (uE (b:=b) h n)
  simp[rnd,e,G8]
def jR (h:List UInt32) (b:List UInt8):List UInt32:=List.zipWith (·+·) h (rnd b h 64)
theorem zJJ {b:List UInt8} {v:List UInt32} (h:v.length=8):(jR v b).length=8:=by
 simp[jR,h,uE h]

theorem zul {b:List UInt8} {i:Nat} (h:4*i+4≤b.length):(b.take (4*i+4)).drop (4*i)=[b.getD (4*i) 0,b.getD (4*i+1) 0,b.getD (4*i+2) 0,b.getD (4*i+3) 0]:=by
 apply List.ext_getElem
 ·simp;omega
 ·intro n h1 h2
  simp at h1 h2
  have:n=0∨n=1∨n=2∨n=3:=by omega
  rcases this with rfl|rfl|rfl|rfl<;>simp[List.getElem?_eq_getElem,show 4*i<b.length by omega,show 4*i+1<b.length by omega,show 4*i+2<b.length by omega,show 4*i+3<b.length by omega]

set_option maxHeartbeats 4000000 in
theorem zPM (h:List UInt32) (b:List UInt8) (hh:h.length=8) (hb:b.length=64) :
  PC Tryz.prog 89 [.av (.slice 170) (.sl .no (h.map w6)),.av (.slice 5) (QH b)] (.av (.slice 170) (.sl .no ((jR h b).map w6))):=by
 refine zow Tryz.func89 cf0 fun imm0 w0=>?_
 simp[wB]
 refine qL zSu rfl rfl (by simp) (by simp[qS]) ?_
 simp[wB]
 have hbe:QH b=.sl .no (b.map fun b=>.i .u8 b.toNat):=rfl
 refine AT.loop' (α:=Nat × Nat × (Nat→Nat)) (fun k=>St.of [(0,.av (.slice 170) (.sl .no (h.map w6))),(1,.av (.slice 5) (QH b)),(5,.av (.slice 170) (.sl .no (k64.map w6))),(6,.av (.slice 170) (.sl (.own k.2.1 (k.2.2 k.2.1)) ((Q1 b k.1).map w6))),(7,.av (.int .i64) (.i .i64 k.1))] [] k.2.2 [])
  (fun k=>k.1≤64) (fun k=>64-k.1) (0,6,fun _=>0) ?_ ?_ ?_
 ·apply Le.of<;>simp[qU,qG,qO,qH,qP,qK,qF,qI,qJ,qN,Q1]<;>try omega
 ·simp
 ·rintro⟨k,tk,ver⟩ hk KL hN hE
  simp only at hk hN
  refine qM (cf:=cf0) laid mixed _ _ _ (by kernel_rfl) ?_
  by_cases hlt:k<64
  ·have hlt':(k:Int)<64:=by omega
   by_cases h16:k<16
   ·have h16':(k:Int)<16:=by omega
    obtain⟨b0,e0⟩:∃x,b.getD (4*k) 0=x:=⟨_,rfl⟩
    obtain⟨b1,e1⟩:∃x,b.getD (4*k+1) 0=x:=⟨_,rfl⟩
    obtain⟨b2,e2⟩:∃x,b.getD (4*k+2) 0=x:=⟨_,rfl⟩
    obtain⟨b3,e3⟩:∃x,b.getD (4*k+3) 0=x:=⟨_,rfl⟩
    have hwa:zhT b k=zf4 b0 b1 b2 b3:=by simp only[zhT,e0,e1,e2,e3]
    have h4:List.drop (4*k) (List.take (4*k+4) (b.map fun b=>AV.i .u8 b.toNat))=[b0,b1,b2,b3].map fun b=>AV.i .u8 b.toNat:=by
     rw[←List.map_take,←List.map_drop,zul (by omega),e0,e1,e2,e3]
    simp (disch:=omega) [zz,wB,hlt',h16',hbe,h4]
    (repeat with_reducible refine om ?_)
    refine qL (zQS b0 b1 b2 b3) rfl rfl (by simp) (by simp[qS,QH,TV.er,AV.er,AV.ers]) ?_
    simp (disch:=omega) [zz,wB]
    (repeat with_reducible refine om ?_)
    refine hN _ (k+1,36,upd (upd ver tk (ver tk+1)) 36 (ver 36+1)) ?_ (by simp;omega) (by simp;omega)
    apply Le.of<;>simp[qU,qG,qO,qH,qP,qK,qF,qI,qJ,qN,Q1,h16,hwa,hbe]<;>try omega
   ·obtain⟨m,rfl⟩:∃m,k=m+16:=⟨k-16,by omega⟩
    obtain⟨x16,h16e⟩:∃x,(Q1 b (m+16))[m]?=some x:=⟨_,List.getElem?_eq_getElem (by simp)⟩
    obtain⟨x15,h15e⟩:∃x,(Q1 b (m+16))[m+1]?=some x:=⟨_,List.getElem?_eq_getElem (by simp)⟩
    obtain⟨x7,h7e⟩:∃x,(Q1 b (m+16))[m+9]?=some x:=⟨_,List.getElem?_eq_getElem (by simp)⟩
    obtain⟨x2,h2e⟩:∃x,(Q1 b (m+16))[m+14]?=some x:=⟨_,List.getElem?_eq_getElem (by simp)⟩
    have hm':(m:Int)+16<64:=by omega
    have hn':¬(m:Int)+16<16:=by omega
    have hW:Q1 b (m+16+1)=Q1 b (m+16)++[zgk (Q1 b (m+16))]:=by rw[Q1,if_neg (by omega)]
    have hWl:=YM b (m+16)
    generalize Q1 b (m+16)=W at *
    have g16:∀h:m<W.length,W[m]=x16:=fun h=>by have:=h16e;rw[List.getElem?_eq_getElem h]at this;simpa using this
    have g15:∀h:m+1<W.length,W[m+1]=x15:=fun h=>by have:=h15e;rw[List.getElem?_eq_getElem h]at this;simpa using this
    have g7:∀h:m+9<W.length,W[m+9]=x7:=fun h=>by have:=h7e;rw[List.getElem?_eq_getElem h]at this;simpa using this
    have g2:∀h:m+14<W.length,W[m+14]=x2:=fun h=>by have:=h2e;rw[List.getElem?_eq_getElem h]at this;simpa using this
    have hX:zgk W=x16+lo x15+x7+hi x2:=by simp[zgk,hWl,g16,g15,g7,g2]
    simp (disch:=omega) [zz,wB,hm',hn',g16,g15,g7,g2]
    (repeat with_reducible refine om ?_)
    refine zcd (zJz x15 7 (by decide) (by decide)) ?_;(simp (disch:=first|omega|assumption) [zz,UQ,wor,VI,pL,pC,uU,wB,-BitVec.toNat_or,-BitVec.toNat_xor,-BitVec.toNat_and])
    (repeat with_reducible refine om ?_)
    refine zcd (zJz x15 18 (by decide) (by decide)) ?_;(simp (disch:=first|omega|assumption) [zz,UQ,wor,VI,pL,pC,uU,wB,-BitVec.toNat_or,-BitVec.toNat_xor,-BitVec.toNat_and,g7])
    (repeat with_reducible refine om ?_)
    refine zcd (zJz x2 17 (by decide) (by decide)) ?_;(simp (disch:=first|omega|assumption) [zz,UQ,wor,VI,pL,pC,uU,wB,-BitVec.toNat_or,-BitVec.toNat_xor,-BitVec.toNat_and])
    (repeat with_reducible refine om ?_)
    refine zcd (zJz x2 19 (by decide) (by decide)) ?_;(simp (disch:=first|omega|assumption) [zz,UQ,wor,VI,pL,pC,uU,wB,-BitVec.toNat_or,-BitVec.toNat_xor,-BitVec.toNat_and])
    (repeat with_reducible refine om ?_)
    refine hN _ (m+17,78,upd (upd ver tk (ver tk+1)) 78 (ver 78+1)) ?_ (by simp;omega) (by simp;omega)
    apply Le.of<;>simp[qU,qG,qO,qH,qP,qK,qF,qI,qJ,qN,hW,hX,lo,hi]<;>try omega
  ·obtain rfl:k=64:=by omega
   simp (disch:=omega) [zz]
   refine hE _ _ (by simp) ?_
   simp (disch:=omega) [zz,wB,hh]
   refine AT.loop' (α:=Nat × Nat × (Nat→Nat)) (fun k=>St.of [(0,.av (.slice 170) (.sl .no (h.map w6))),(5,.av (.slice 170) (.sl .no (k64.map w6))),(6,.av (.slice 170) (.sl .no ((Q1 b 64).map w6))),(10,.av (.slice 170) (.sl (.own k.2.1 (k.2.2 k.2.1)) ((rnd b h k.1).map w6))),(11,.av (.int .i64) (.i .i64 k.1))] [] k.2.2 [])
    (fun k=>k.1≤64) (fun k=>64-k.1) (0,81,upd ver 81 (ver 81+1)) ?_ ?_ ?_
   ·apply Le.of<;>simp[qU,qG,qO,qH,qP,qK,qF,qI,qJ,qN,rnd]<;>try omega
   ·simp
   ·rintro⟨k,tl,ver2⟩ hk KL2 hN2 hE2
    simp only at hk hN2
    refine qM (cf:=cf0) laid mixed _ _ _ (by kernel_rfl) ?_
    by_cases hlt:k<64
    ·have hlt':(k:Int)<64:=by omega
     obtain⟨v0,v1,v2,v3,v4,v5,v6,v7,hv⟩:=zjt (uE (b:=b) hh k)
     obtain⟨kk,hkk⟩:∃x,k64[k]?=some x:=⟨_,List.getElem?_eq_getElem (by simp[k64];omega)⟩
     obtain⟨ww,hww⟩:∃x,(Q1 b 64)[k]?=some x:=⟨_,List.getElem?_eq_getElem (by simp;omega)⟩
     have hR:rnd b h (k+1)=G8 [v0,v1,v2,v3,v4,v5,v6,v7] kk ww:=by rw[rnd,hv,hkk,hww];rfl
     have hkl:k64.length=64:=rfl
     have hwl:=YM b 64
     generalize k64=KK at *
     generalize Q1 b 64=W at *
     have gk:∀h:k<KK.length,KK[k]=kk:=fun h=>by rw[List.getElem?_eq_getElem h]at hkk;simpa using hkk
     have gw:∀h:k<W.length,W[k]=ww:=fun h=>by rw[List.getElem?_eq_getElem h]at hww;simpa using hww
     simp (disch:=omega) [zz,hlt',hv]
     refine zcd (zJz v4 6 (by decide) (by decide)) ?_;(simp (disch:=first|omega|assumption) [zz,UQ,wor,VI,pL,pC,uU,wB,-BitVec.toNat_or,-BitVec.toNat_xor,-BitVec.toNat_and])
     refine zcd (zJz v4 11 (by decide) (by decide)) ?_;(simp (disch:=first|omega|assumption) [zz,UQ,wor,VI,pL,pC,uU,wB,-BitVec.toNat_or,-BitVec.toNat_xor,-BitVec.toNat_and])
     refine zcd (zJz v4 25 (by decide) (by decide)) ?_;(simp (disch:=first|omega|assumption) [zz,UQ,wor,VI,pL,pC,uU,wB,-BitVec.toNat_or,-BitVec.toNat_xor,-BitVec.toNat_and,gk,gw])
     (repeat with_reducible refine om ?_)
     refine zcd (zJz v0 2 (by decide) (by decide)) ?_;(simp (disch:=first|omega|assumption) [zz,UQ,wor,VI,pL,pC,uU,wB,-BitVec.toNat_or,-BitVec.toNat_xor,-BitVec.toNat_and])
     refine zcd (zJz v0 13 (by decide) (by decide)) ?_;(simp (disch:=first|omega|assumption) [zz,UQ,wor,VI,pL,pC,uU,wB,-BitVec.toNat_or,-BitVec.toNat_xor,-BitVec.toNat_and])
     refine zcd (zJz v0 22 (by decide) (by decide)) ?_;(simp (disch:=first|omega|assumption) [zz,UQ,wor,VI,pL,pC,uU,wB,-BitVec.toNat_or,-BitVec.toNat_xor,-BitVec.toNat_and])
     (repeat with_reducible refine om ?_)
     refine hN2 _ (k+1,10,ver2) ?_ (by simp;omega) (by simp;omega)
     apply Le.of<;>simp[qU,qG,qO,qH,qP,qK,qF,qI,qJ,qN,hR,G8]<;>try omega
    ·obtain rfl:k=64:=by omega
     simp (disch:=omega) [zz]
     refine hE2 _ _ (by simp) ?_
     simp (disch:=omega) [zz,wB,hh]
     refine AT.loop' (α:=Nat × Nat × (Nat→Nat)) (fun k=>St.of [(0,.av (.slice 170) (.sl .no (h.map w6))),(10,.av (.slice 170) (.sl .no ((rnd b h 64).map w6))),(16,.av (.slice 170) (.sl (.own k.2.1 (k.2.2 k.2.1)) (((jR h b).take k.1).map w6))),(17,.av (.int .i64) (.i .i64 k.1))] [] k.2.2 [])
      (fun k=>k.1≤8) (fun k=>8-k.1) (0,16,ver2) ?_ ?_ ?_
     ·apply Le.of<;>simp[qU,qG,qO,qH,qP,qK,qF,qI,qJ,qN]<;>try omega
     ·simp
     ·rintro⟨k,tm,ver3⟩ hk KL3 hN3 hE3
      simp only at hk hN3
      have hcl:=zJJ (b:=b) hh
      refine qM (cf:=cf0) laid mixed _ _ _ (by kernel_rfl) ?_
      by_cases hlt:k<8
      ·have hlt':(k:Int)<8:=by omega
       obtain⟨x,hx⟩:∃x,h[k]?=some x:=⟨_,List.getElem?_eq_getElem (by omega)⟩
       have hrl:=uE (b:=b) hh 64
       obtain⟨y,hy⟩:∃x,(rnd b h 64)[k]?=some x:=⟨_,List.getElem?_eq_getElem (by omega)⟩
       have hC:(jR h b).take (k+1)=(jR h b).take k++[x+y]:=by
        rw[List.take_add_one]
        congr 1
        simp[jR,List.getElem?_zipWith,hx,hy]
       have hC':List.take (k+1) (List.map w6 (jR h b))=List.take k (List.map w6 (jR h b))++[w6 (x+y)]:=by
        rw[←List.map_take,hC,List.map_append,List.map_take];rfl
       have gx:∀g:k<h.length,h[k]=x:=fun g=>by rw[List.getElem?_eq_getElem g]at hx;simpa using hx
       generalize rnd b h 64=R at *
       have gy:∀g:k<R.length,R[k]=y:=fun g=>by rw[List.getElem?_eq_getElem g]at hy;simpa using hy
       simp (disch:=omega) [zz,hlt',gx,gy,UQ,wB,hcl]
       (repeat with_reducible refine om ?_)
       refine hN3 _ (k+1,194,upd (upd ver3 tm (ver3 tm+1)) 194 (ver3 194+1)) ?_ (by simp;omega) (by simp;omega)
       apply Le.of<;>simp[qU,qG,qO,qH,qP,qK,qF,qI,qJ,qN,hC']<;>try omega
      ·obtain rfl:k=8:=by omega
       simp (disch:=omega) [zz]
       refine hE3 _ _ (by simp) ?_
       simp (disch:=omega) [zz,Tryz.f89]
       rw[List.take_of_length_le (by simp[hcl])]
       simp[AV.ers_eq,Function.comp_def,AV.er]
end Go.Proofs.YtcioeonlclpacaaGreatDoor
end
