/- A digest of naughts. No condition beyond each theorem's own. -/
import Derived.Test.YtidhkfcjichiiaaGreatDoorB0
import Derived.Test.YtidhkfcjichiiaaGreatDoorL0
set_option linter.unusedSimpArgs false
set_option linter.unusedVariables false
set_option linter.unusedSectionVars false
section
set_option maxRecDepth 100000
namespace Go.Proofs.YtidhkfcjichiiaaGreatDoor
open Go Go.Ab
open Classical
variable [Sel]
def zc4:List UInt8:=List.replicate 32 0
structure U1 where
 path:List UInt8
 data:List UInt8
deriving DecidableEq
structure zcy where
 kind:Int
 why:Int
 outs:List U1
 reads:List XF
def jZ (f:U1):AV:=.agg [.s f.path,.s f.data]
def zU (l:List U1):AV:=.sl .no (l.map jZ)
def zI (o:zcy):AV:=.agg [.i .i64 o.kind,.i .i64 o.why,zU o.outs,qF o.reads]
@[simp] theorem zfq (f:U1):(jZ f).er=jZ f:=by simp[jZ,AV.er,AV.ers]
@[simp] theorem zdW (l:List U1):(zU l).er=zU l:=by simp[zU,AV.er,AV.ers_eq,Function.comp_def]
@[simp] theorem KO (o:zcy):(zI o).er=zI o:=by simp[zI,AV.er,AV.ers]
@[simp] theorem znl (x:U1):(jZ x).erk=jZ x:=kH _ (zfq x)
@[simp] theorem zlu (x:List U1):(zU x).erk=zU x:=kH _ (zdW x)
@[simp] theorem zoi (x:zcy):(zI x).erk=zI x:=kH _ (KO x)

@[simp] theorem znB:qZ Tryz.prog 64=true:=by kernel_rfl
@[simp] theorem zsd:z8 Tryz.prog (.func 64)=false:=q9 znB
def wi (x:UInt32):Int:=x.toNat
abbrev w6 (w:UInt32):AV:=.i .u32 (wi w)
theorem dM {n:Nat} (h:n<4294967296):IntKind.u32.wrap (n:Int)=n:=by
 simp[IntKind.wrap,IntKind.signed,IntKind.bits];omega
theorem cR (x:UInt32):BitVec.ofInt IntKind.u32.bits (wi x)=x.toBitVec:=by
 apply BitVec.eq_of_toNat_eq
 show (BitVec.ofInt 32 (x.toNat:Int)).toNat=_
 simp
 rfl
theorem UQ (x y:UInt32):IntKind.u32.wrap (wi x+wi y)=wi (x+y):=by
 have:=x.toNat_lt;have:=y.toNat_lt
 simp[wi,IntKind.wrap,IntKind.signed,IntKind.bits,UInt32.toNat_add]
theorem wor (x y:UInt32):IntKind.u32.wrap ((BitVec.ofInt IntKind.u32.bits (wi x) ||| BitVec.ofInt IntKind.u32.bits (wi y)).toNat:Int)=wi (x ||| y):=by
 rw[cR,cR,dM (BitVec.isLt _)];rfl
theorem VI (x y:UInt32):IntKind.u32.wrap ((BitVec.ofInt IntKind.u32.bits (wi x) ^^^ BitVec.ofInt IntKind.u32.bits (wi y)).toNat:Int)=wi (x ^^^ y):=by
 rw[cR,cR,dM (BitVec.isLt _)];rfl
theorem pL (x y:UInt32):IntKind.u32.wrap ((BitVec.ofInt IntKind.u32.bits (wi x) &&& BitVec.ofInt IntKind.u32.bits (wi y)).toNat:Int)=wi (x &&& y):=by
 rw[cR,cR,dM (BitVec.isLt _)];rfl
theorem pC (x:UInt32):IntKind.u32.wrap ((BitVec.ofInt IntKind.u32.bits (if IntKind.u32.signed then -1 else IntKind.u32.max) ^^^ BitVec.ofInt IntKind.u32.bits (wi x)).toNat:Int)=wi (~~~ x):=by
 rw[cR,dM (BitVec.isLt _)]
 unfold wi
 show ((BitVec.ofInt 32 4294967295 ^^^ x.toBitVec).toNat:Int)=((~~~ x.toBitVec).toNat:Int)
 rw[show BitVec.ofInt 32 4294967295=BitVec.allOnes 32 from by decide,BitVec.allOnes_xor]
theorem zpA (x:UInt32) {n:Nat} (h:n<32):(wi x).fdiv (2 ^ n)=wi (x >>> UInt32.ofNat n):=by
 have e:(x >>> UInt32.ofNat n).toNat=x.toNat / 2 ^ n:=by
  rw[UInt32.toNat_shiftRight,UInt32.toNat_ofNat_of_lt' (by rw[UInt32.size];omega),Nat.mod_eq_of_lt (by omega),Nat.shiftRight_eq_div_pow]
 unfold wi
 rw[e,Int.fdiv_eq_ediv_of_nonneg _ (Int.le_of_lt (Int.pow_pos (by omega)))]
 norm_cast
theorem zp4 (x:UInt32) {n:Nat} (h:n<32):IntKind.u32.wrap (wi x*2 ^ n)=wi (x <<< UInt32.ofNat n):=by
 have e:(x <<< UInt32.ofNat n).toNat=(x.toNat*2 ^ n) % 4294967296:=by
  rw[UInt32.toNat_shiftLeft,UInt32.toNat_ofNat_of_lt' (by rw[UInt32.size];omega),Nat.mod_eq_of_lt (by omega:n<32),Nat.shiftLeft_eq]
 unfold wi
 rw[e]
 simp[IntKind.wrap,IntKind.signed,IntKind.bits]
theorem ziD {n:Nat} (h:n<32):min n IntKind.u32.bits=n:=by simp[IntKind.bits];omega
theorem uU (x:UInt32) {n:Nat} (h:n<32):(wi x).fdiv (2 ^ (min n IntKind.u32.bits))=wi (x >>> UInt32.ofNat n):=by rw[ziD h,zpA x h]
theorem zp0 (x:UInt32) {n:Nat} (h:n<32):IntKind.u32.wrap (wi x*2 ^ (min n IntKind.u32.bits))=wi (x <<< UInt32.ofNat n):=by rw[ziD h,zp4 x h]
theorem zoV (b:UInt8):IntKind.u32.wrap (b.toNat:Int)=wi b.toUInt32:=by
 have:=b.toNat_lt
 rw[dM (by omega)];simp[wi]
theorem zrH (x:UInt32):IntKind.u8.wrap (wi x)=(x.toUInt8.toNat:Int):=by
 simp[wi,IntKind.wrap,IntKind.signed,IntKind.bits]
def XD (x:UInt32) (n:Nat):UInt32:=(x >>> UInt32.ofNat n) ||| (x <<< UInt32.ofNat (32-n))
theorem zaA {n:Nat} (h:n<4294967296):IntKind.u64.wrap (n:Int)=n:=by
 simp[IntKind.wrap,IntKind.signed,IntKind.bits];omega
theorem zp6 {n:Nat} (h:n<32):(BitVec.ofInt 64 (n:Int) &&& 31#64).toNat=n:=by
 have e:(BitVec.ofInt 64 (n:Int)).toNat=n:=by simp;omega
 rw[BitVec.toNat_and,e]
 have:=Nat.and_two_pow_sub_one_eq_mod n 5
 simp only[Nat.reducePow,Nat.reduceSub]at this
 show n &&& 31=n
 rw[this];omega
def zf4 (a b c d:UInt8):UInt32:=((a.toUInt32 <<< 24) ||| (b.toUInt32 <<< 16) ||| (c.toUInt32 <<< 8)) ||| d.toUInt32
theorem zbC (a b c d:UInt8):((((((0:UInt32) <<< 8 ||| a.toUInt32) <<< 8) ||| b.toUInt32) <<< 8 ||| c.toUInt32) <<< 8) ||| d.toUInt32=zf4 a b c d:=by
 unfold zf4
 apply UInt32.toBitVec_inj.1
 ext i hi
 simp
 grind
def k64:List UInt32:=[0x428a2f98,0x71374491,0xb5c0fbcf,0xe9b5dba5,0x3956c25b,0x59f111f1,0x923f82a4,0xab1c5ed5,0xd807aa98,0x12835b01,0x243185be,
 0x550c7dc3,0x72be5d74,0x80deb1fe,0x9bdc06a7,0xc19bf174,0xe49b69c1,0xefbe4786,0x0fc19dc6,0x240ca1cc,0x2de92c6f,0x4a7484aa,
 0x5cb0a9dc,0x76f988da,0x983e5152,0xa831c66d,0xb00327c8,0xbf597fc7,0xc6e00bf3,0xd5a79147,0x06ca6351,0x14292967,0x27b70a85,
 0x2e1b2138,0x4d2c6dfc,0x53380d13,0x650a7354,0x766a0abb,0x81c2c92e,0x92722c85,0xa2bfe8a1,0xa81a664b,0xc24b8b70,0xc76c51a3,
 0xd192e819,0xd6990624,0xf40e3585,0x106aa070,0x19a4c116,0x1e376c08,0x2748774c,0x34b0bcb5,0x391c0cb3,0x4ed8aa4a,0x5b9cca4f,
 0x682e6ff3,0x748f82ee,0x78a5636f,0x84c87814,0x8cc70208,0x90befffa,0xa4506ceb,0xbef9a3f7,0xc67178f2]
def h8:List UInt32:=[0x6a09e667,0xbb67ae85,0x3c6ef372,0xa54ff53a,0x510e527f,0x9b05688c,0x1f83d9ab,0x5be0cd19]
@[simp] theorem zzK:qZ Tryz.prog 186=true:=by kernel_rfl
@[simp] theorem zAR:z8 Tryz.prog (.func 186)=false:=q9 zzK
@[simp] theorem zAc:qZ Tryz.prog 181=true:=by kernel_rfl
@[simp] theorem zAS:z8 Tryz.prog (.func 181)=false:=q9 zAc
@[simp] theorem zAj:qZ Tryz.prog 224=true:=by kernel_rfl
@[simp] theorem zAO:z8 Tryz.prog (.func 224)=false:=q9 zAj
@[simp] theorem zA3:qZ Tryz.prog 185=true:=by kernel_rfl
@[simp] theorem zAX:z8 Tryz.prog (.func 185)=false:=q9 zA3
@[simp] theorem zAp:qZ Tryz.prog 184=true:=by kernel_rfl
@[simp] theorem zAW:z8 Tryz.prog (.func 184)=false:=q9 zAp
@[simp] theorem zlU:qZ Tryz.prog 179=true:=by kernel_rfl
@[simp] theorem zqb:z8 Tryz.prog (.func 179)=false:=q9 zlU
@[simp] theorem zmi:qZ Tryz.prog 126=true:=by kernel_rfl
@[simp] theorem zpU:z8 Tryz.prog (.func 126)=false:=q9 zmi

theorem zlQ (x:UInt32) (n:Nat) (h0:0<n) (h:n<32):PC Tryz.prog 224 [.av (.int .u32) (w6 x),.av (.int .i64) (.i .i64 ((32-n:Nat):Int))] (.av (.int .u32) (w6 (XD x n))):=by
 have e1:IntKind.u64.wrap ((32-n:Nat):Int)=((32-n:Nat):Int):=zaA (by omega)
 have e4:(BitVec.ofInt IntKind.u64.bits ((32-n:Nat):Int) &&& BitVec.ofInt IntKind.u64.bits 31).toNat=32-n:=zp6 (by omega)
 have e5:IntKind.u64.wrap (32-((32-n:Nat):Int))=(n:Int):=by
  have:(32-((32-n:Nat):Int))=(n:Int):=by omega
  rw[this];exact zaA (by omega)
 have s1:=uU x h
 have s2:=zp0 x (show 32-n<32 by omega)
 have hc:XD x n=(x <<< UInt32.ofNat (32-n)) ||| (x >>> UInt32.ofNat n):=UInt32.or_comm _ _
 refine PC.of <| q7.of_vc laid mixed Tryz.func224 rfl cf0 (by kernel_rfl) (by simp[Tryz.ntmps224]) fun imm0 w0=>?_
 have e4':(BitVec.ofNat IntKind.u64.bits (32-n) &&& 31#IntKind.u64.bits).toNat=32-n:=by rw[←BitVec.ofInt_natCast];exact e4
 simp[e1,e4',e5,Tryz.f224,s1,s2,wor,hc,-BitVec.toNat_or,-BitVec.toNat_and]

theorem kO (x:UInt32) (n:Nat) (h0:0<n) (h:n<32):PC Tryz.prog 181 [.av (.int .u32) (w6 x),.av (.int .i64) (.i .i64 n)] (.av (.int .u32) (w6 (XD x n))):=by
 have e1:IntKind.i64.wrap (32-(n:Int))=((32-n:Nat):Int):=by rw[i64_in (by omega) (by omega)];omega
 refine PC.of <| q7.of_vc laid mixed Tryz.func181 rfl cf0 (by kernel_rfl) (by simp[Tryz.ntmps181]) fun imm0 w0=>?_
 simp[e1]
 refine UE (r:=.av (.int .u32) (w6 (XD x n))) rfl (by simp[qQ]) (by simp) ?_ ?_
 ·have:=zlQ x n h0 h
  simpa[TV.er,AV.er]using this
 ·simp[Tryz.f181]

def X1 (l:List UInt8):AV:=.sl .no (l.map fun b=>.i .u8 b.toNat)
@[simp] theorem zib (l:List UInt8):(X1 l).er=X1 l:=by simp[X1,AV.er,AV.ers_eq,Function.comp_def]
@[simp] theorem zoP (l:List UInt8):(X1 l).erk=X1 l:=kH _ (zib l)
theorem V4:PC Tryz.prog 179 [] (.av (.arr 64 193) (.agg (k64.map w6))):=by
 refine PC.of <| q7.of_vc laid mixed Tryz.func179 rfl cf0 (by kernel_rfl) (by simp[Tryz.ntmps179]) fun imm0 w0=>?_
 simp[Tryz.f179,k64,wi]
theorem zjO:PC Tryz.prog 126 [] (.av (.arr 8 193) (.agg (h8.map w6))):=by
 refine PC.of <| q7.of_vc laid mixed Tryz.func126 rfl cf0 (by kernel_rfl) (by simp[Tryz.ntmps126]) fun imm0 w0=>?_
 simp[Tryz.f126,h8,wi]
@[simp] theorem zA6:qZ Tryz.prog 139=true:=by kernel_rfl
@[simp] theorem zAL:z8 Tryz.prog (.func 139)=false:=q9 zA6
def lo (x:UInt32):UInt32:=XD x 7 ^^^ XD x 18 ^^^ x >>> UInt32.ofNat 3
def hi (x:UInt32):UInt32:=XD x 17 ^^^ XD x 19 ^^^ x >>> UInt32.ofNat 10
def zgk (w:List UInt32):UInt32:=w[w.length-16]?.getD 0+lo (w[w.length-15]?.getD 0)+w[w.length-7]?.getD 0+hi (w[w.length-2]?.getD 0)
def zhT (b:List UInt8) (n:Nat):UInt32:=zf4 (b.getD (4*n) 0) (b.getD (4*n+1) 0) (b.getD (4*n+2) 0) (b.getD (4*n+3) 0)
def Q1 (b:List UInt8):Nat→List UInt32
 | 0=>[]
 | n+1=>Q1 b n++[if n<16 then zhT b n else zgk (Q1 b n)]
@[simp] theorem YM (b:List UInt8) (n:Nat):(Q1 b n).length=n:=by
 induction n with
 | zero=>rfl
 | succ n ih=>simp[Q1,ih]
def G8:List UInt32→UInt32→UInt32→List UInt32
 | [v0,v1,v2,v3,v4,v5,v6,v7],k,w =>
  [v7+(XD v4 6 ^^^ XD v4 11 ^^^ XD v4 25)+(v4 &&& v5 ^^^ ~~~v4 &&& v6)+k+w+((XD v0 2 ^^^ XD v0 13 ^^^ XD v0 22)+(v0 &&& v1 ^^^ v0 &&& v2 ^^^ v1 &&& v2)),v0,v1,v2,
   v3+(v7+(XD v4 6 ^^^ XD v4 11 ^^^ XD v4 25)+(v4 &&& v5 ^^^ ~~~v4 &&& v6)+k+w),v4,v5,v6]
 | _,_,_=>[]
def rnd (b:List UInt8) (v:List UInt32):Nat→List UInt32
 | 0=>v
 | n+1=>G8 (rnd b v n) (k64[n]?.getD 0) ((Q1 b 64)[n]?.getD 0)
theorem zjt {l:List UInt32} (h:l.length=8):∃v0 v1 v2 v3 v4 v5 v6 v7,l=[v0,v1,v2,v3,v4,v5,v6,v7]:=by
 match l,h with
 | [v0,v1,v2,v3,v4,v5,v6,v7],_=>exact⟨v0,v1,v2,v3,v4,v5,v6,v7,rfl⟩
theorem uE {b:List UInt8} {v:List UInt32} (h:v.length=8):∀n,(rnd b v n).length=8
 | 0=>h
 | n+1=>by
  obtain⟨v0,v1,v2,v3,v4,v5,v6,v7,e⟩:=zjt (uE (b:=b) h n)
  simp[rnd,e,G8]
def jR (h:List UInt32) (b:List UInt8):List UInt32:=List.zipWith (·+·) h (rnd b h 64)
theorem KJ {b:List UInt8} {v:List UInt32} (h:v.length=8):(jR v b).length=8:=by
 simp[jR,h,uE h]

theorem zul {b:List UInt8} {i:Nat} (h:4*i+4≤b.length):(b.take (4*i+4)).drop (4*i)=[b.getD (4*i) 0,b.getD (4*i+1) 0,b.getD (4*i+2) 0,b.getD (4*i+3) 0]:=by
 apply List.ext_getElem
 ·simp;omega
 ·intro n h1 h2
  simp at h1 h2
  have:n=0∨n=1∨n=2∨n=3:=by omega
  rcases this with rfl|rfl|rfl|rfl<;>simp[List.getElem?_eq_getElem,show 4*i<b.length by omega,show 4*i+1<b.length by omega,show 4*i+2<b.length by omega,show 4*i+3<b.length by omega]
end Go.Proofs.YtidhkfcjichiiaaGreatDoor
end
