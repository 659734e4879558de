/- A digest of naughts. No condition. -/
import Derived.Test.YtdkieabmeiojjaaGreatDoorK20ToK21
set_option linter.unusedSimpArgs false
set_option linter.unusedVariables false
set_option linter.unusedSectionVars false
set_option maxRecDepth 100000
namespace Go.Proofs.YtdkieabmeiojjaaGreatDoor
open Go Go.Ab
open Classical
section
variable [Sel]
def zcR:List UInt8:=List.replicate 32 0
structure jK where
 path:List UInt8
 data:List UInt8
deriving DecidableEq
structure wZ where
 kind:Int
 why:Int
 outs:List jK
 reads:List KH
def zK (f:jK):AV:=.agg [.s f.path,.s f.data]
def qL (l:List jK):AV:=.sl .no (l.map zK)
def z7 (o:wZ):AV:=.agg [.i .i64 o.kind,.i .i64 o.why,qL o.outs,zC o.reads]
@[simp] theorem cC (f:jK):(zK f).er=zK f:=by simp[zK,AV.er,AV.ers]
@[simp] theorem j6 (l:List jK):(qL l).er=qL l:=by simp[qL,AV.er,AV.ers_eq,Function.comp_def]
@[simp] theorem Q5 (o:wZ):(z7 o).er=z7 o:=by simp[z7,AV.er,AV.ers]
@[simp] theorem znv (x:jK):(zK x).erk=zK x:=k8 _ (cC x)
@[simp] theorem zmf (x:List jK):(qL x).erk=qL x:=k8 _ (j6 x)
@[simp] theorem zeZ (x:wZ):(z7 x).erk=z7 x:=k8 _ (Q5 x)
@[simp] theorem zeu:qM Tryz.prog 73=true:=by kernel_rfl
@[simp] theorem zns:qP Tryz.prog (.func 73)=false:=JL zeu
def wi (x:UInt32):Int:=x.toNat
abbrev kZ (w:UInt32):AV:=.i .u32 (wi w)
theorem dQ {n:Nat} (h:n<4294967296):IntKind.u32.wrap (n:Int)=n:=by
 simp[IntKind.wrap,IntKind.signed,IntKind.bits];omega
theorem DW (x:UInt32):BitVec.ofInt IntKind.u32.bits (wi x)=x.toBitVec:=by
 apply BitVec.eq_of_toNat_eq
 show (BitVec.ofInt 32 (x.toNat:Int)).toNat=_
 simp
 rfl
theorem vV (x y:UInt32):IntKind.u32.wrap (wi x+wi y)=wi (x+y):=by
 have:=x.toNat_lt;have:=y.toNat_lt
 simp[wi,IntKind.wrap,IntKind.signed,IntKind.bits,UInt32.toNat_add]
theorem wor (x y:UInt32):IntKind.u32.wrap ((BitVec.ofInt IntKind.u32.bits (wi x) ||| BitVec.ofInt IntKind.u32.bits (wi y)).toNat:Int)=wi (x ||| y):=by
 rw[DW,DW,dQ (BitVec.isLt _)];rfl
theorem gQ (x y:UInt32):IntKind.u32.wrap ((BitVec.ofInt IntKind.u32.bits (wi x) ^^^ BitVec.ofInt IntKind.u32.bits (wi y)).toNat:Int)=wi (x ^^^ y):=by
 rw[DW,DW,dQ (BitVec.isLt _)];rfl
theorem PX (x y:UInt32):IntKind.u32.wrap ((BitVec.ofInt IntKind.u32.bits (wi x) &&& BitVec.ofInt IntKind.u32.bits (wi y)).toNat:Int)=wi (x &&& y):=by
 rw[DW,DW,dQ (BitVec.isLt _)];rfl
theorem PU (x:UInt32):IntKind.u32.wrap ((BitVec.ofInt IntKind.u32.bits (if IntKind.u32.signed then -1 else IntKind.u32.max) ^^^ BitVec.ofInt IntKind.u32.bits (wi x)).toNat:Int)=wi (~~~ x):=by
 rw[DW,dQ (BitVec.isLt _)]
 unfold wi
 show ((BitVec.ofInt 32 4294967295 ^^^ x.toBitVec).toNat:Int)=((~~~ x.toBitVec).toNat:Int)
 rw[show BitVec.ofInt 32 4294967295=BitVec.allOnes 32 from by decide,BitVec.allOnes_xor]
theorem zpt (x:UInt32) {n:Nat} (h:n<32):(wi x).fdiv (2 ^ n)=wi (x >>> UInt32.ofNat n):=by
 have e:(x >>> UInt32.ofNat n).toNat=x.toNat / 2 ^ n:=by
  rw[UInt32.toNat_shiftRight,UInt32.toNat_ofNat_of_lt' (by rw[UInt32.size];omega),Nat.mod_eq_of_lt (by omega),Nat.shiftRight_eq_div_pow]
 unfold wi
 rw[e,Int.fdiv_eq_ediv_of_nonneg _ (Int.le_of_lt (Int.pow_pos (by omega)))]
 norm_cast
theorem zpb (x:UInt32) {n:Nat} (h:n<32):IntKind.u32.wrap (wi x*2 ^ n)=wi (x <<< UInt32.ofNat n):=by
 have e:(x <<< UInt32.ofNat n).toNat=(x.toNat*2 ^ n) % 4294967296:=by
  rw[UInt32.toNat_shiftLeft,UInt32.toNat_ofNat_of_lt' (by rw[UInt32.size];omega),Nat.mod_eq_of_lt (by omega:n<32),Nat.shiftLeft_eq]
 unfold wi
 rw[e]
 simp[IntKind.wrap,IntKind.signed,IntKind.bits]
theorem zlo {n:Nat} (h:n<32):min n IntKind.u32.bits=n:=by simp[IntKind.bits];omega
theorem UO (x:UInt32) {n:Nat} (h:n<32):(wi x).fdiv (2 ^ (min n IntKind.u32.bits))=wi (x >>> UInt32.ofNat n):=by rw[zlo h,zpt x h]
theorem zpR (x:UInt32) {n:Nat} (h:n<32):IntKind.u32.wrap (wi x*2 ^ (min n IntKind.u32.bits))=wi (x <<< UInt32.ofNat n):=by rw[zlo h,zpb x h]
theorem zpW (b:UInt8):IntKind.u32.wrap (b.toNat:Int)=wi b.toUInt32:=by
 have:=b.toNat_lt
 rw[dQ (by omega)];simp[wi]
theorem zqa (x:UInt32):IntKind.u8.wrap (wi x)=(x.toUInt8.toNat:Int):=by
 simp[wi,IntKind.wrap,IntKind.signed,IntKind.bits]
def uR (x:UInt32) (n:Nat):UInt32:=(x >>> UInt32.ofNat n) ||| (x <<< UInt32.ofNat (32-n))
theorem zbq {n:Nat} (h:n<4294967296):IntKind.u64.wrap (n:Int)=n:=by
 simp[IntKind.wrap,IntKind.signed,IntKind.bits];omega
theorem zp2 {n:Nat} (h:n<32):(BitVec.ofInt 64 (n:Int) &&& 31#64).toNat=n:=by
 have e:(BitVec.ofInt 64 (n:Int)).toNat=n:=by simp;omega
 rw[BitVec.toNat_and,e]
 have:=Nat.and_two_pow_sub_one_eq_mod n 5
 simp only[Nat.reducePow,Nat.reduceSub]at this
 show n &&& 31=n
 rw[this];omega
def zf0 (a b c d:UInt8):UInt32:=((a.toUInt32 <<< 24) ||| (b.toUInt32 <<< 16) ||| (c.toUInt32 <<< 8)) ||| d.toUInt32
theorem zcf (a b c d:UInt8):((((((0:UInt32) <<< 8 ||| a.toUInt32) <<< 8) ||| b.toUInt32) <<< 8 ||| c.toUInt32) <<< 8) ||| d.toUInt32=zf0 a b c d:=by
 unfold zf0
 apply UInt32.toBitVec_inj.1
 ext i hi
 simp
 grind
def k64:List UInt32:=[0x428a2f98,0x71374491,0xb5c0fbcf,0xe9b5dba5,0x3956c25b,0x59f111f1,0x923f82a4,0xab1c5ed5,0xd807aa98,0x12835b01,0x243185be,
 0x550c7dc3,0x72be5d74,0x80deb1fe,0x9bdc06a7,0xc19bf174,0xe49b69c1,0xefbe4786,0x0fc19dc6,0x240ca1cc,0x2de92c6f,0x4a7484aa,
 0x5cb0a9dc,0x76f988da,0x983e5152,0xa831c66d,0xb00327c8,0xbf597fc7,0xc6e00bf3,0xd5a79147,0x06ca6351,0x14292967,0x27b70a85,
 0x2e1b2138,0x4d2c6dfc,0x53380d13,0x650a7354,0x766a0abb,0x81c2c92e,0x92722c85,0xa2bfe8a1,0xa81a664b,0xc24b8b70,0xc76c51a3,
 0xd192e819,0xd6990624,0xf40e3585,0x106aa070,0x19a4c116,0x1e376c08,0x2748774c,0x34b0bcb5,0x391c0cb3,0x4ed8aa4a,0x5b9cca4f,
 0x682e6ff3,0x748f82ee,0x78a5636f,0x84c87814,0x8cc70208,0x90befffa,0xa4506ceb,0xbef9a3f7,0xc67178f2]
def h8:List UInt32:=[0x6a09e667,0xbb67ae85,0x3c6ef372,0xa54ff53a,0x510e527f,0x9b05688c,0x1f83d9ab,0x5be0cd19]
theorem zmB (x:UInt32) (n:Nat) (h0:0<n) (h:n<32):PC Tryz.prog 205 [.av (.int .u32) (kZ x),.av (.int .i64) (.i .i64 ((32-n:Nat):Int))] (.av (.int .u32) (kZ (uR x n))):=by
 have e1:IntKind.u64.wrap ((32-n:Nat):Int)=((32-n:Nat):Int):=zbq (by omega)
 have e4:(BitVec.ofInt IntKind.u64.bits ((32-n:Nat):Int) &&& BitVec.ofInt IntKind.u64.bits 31).toNat=32-n:=zp2 (by omega)
 have e5:IntKind.u64.wrap (32-((32-n:Nat):Int))=(n:Int):=by
  have:(32-((32-n:Nat):Int))=(n:Int):=by omega
  rw[this];exact zbq (by omega)
 have s1:=UO x h
 have s2:=zpR x (show 32-n<32 by omega)
 have hc:uR x n=(x <<< UInt32.ofNat (32-n)) ||| (x >>> UInt32.ofNat n):=UInt32.or_comm _ _
 refine zow Tryz.func205 cf0 fun imm0 w0=>?_
 have e4':(BitVec.ofNat IntKind.u64.bits (32-n) &&& 31#IntKind.u64.bits).toNat=32-n:=by rw[<-BitVec.ofInt_natCast];exact e4
 simp[e1,e4',e5,Tryz.f205,s1,s2,wor,hc,-BitVec.toNat_or,-BitVec.toNat_and]
theorem kI (x:UInt32) (n:Nat) (h0:0<n) (h:n<32):PC Tryz.prog 183 [.av (.int .u32) (kZ x),.av (.int .i64) (.i .i64 n)] (.av (.int .u32) (kZ (uR x n))):=by
 have e1:IntKind.i64.wrap (32-(n:Int))=((32-n:Nat):Int):=by rw[i64_in (by omega) (by omega)];omega
 refine zow Tryz.func183 cf0 fun imm0 w0=>?_
 simp[e1]
 refine vF (r:=.av (.int .u32) (kZ (uR x n))) rfl (by simp[qE]) (by simp) ?_ ?_
 ·have:=zmB x n h0 h
  simpa[TV.er,AV.er]using this
 ·simp[Tryz.f183]
def yB (l:List UInt8):AV:=.sl .no (l.map fun b=>.i .u8 b.toNat)
@[simp] theorem zlf (l:List UInt8):(yB l).er=yB l:=by simp[yB,AV.er,AV.ers_eq,Function.comp_def]
@[simp] theorem zoW (l:List UInt8):(yB l).erk=yB l:=k8 _ (zlf l)
theorem G5:PC Tryz.prog 181 [] (.av (.arr 64 152) (.agg (k64.map kZ))):=by
 refine zow Tryz.func181 cf0 fun imm0 w0=>?_
 simp[Tryz.f181,k64,wi]
theorem zkv:PC Tryz.prog 157 [] (.av (.arr 8 152) (.agg (h8.map kZ))):=by
 refine zow Tryz.func157 cf0 fun imm0 w0=>?_
 simp[Tryz.f157,h8,wi]
def lo (x:UInt32):UInt32:=uR x 7 ^^^ uR x 18 ^^^ x >>> UInt32.ofNat 3
def hi (x:UInt32):UInt32:=uR x 17 ^^^ uR x 19 ^^^ x >>> UInt32.ofNat 10
def zgL (w:List UInt32):UInt32:=w[w.length-16]?.getD 0+lo (w[w.length-15]?.getD 0)+w[w.length-7]?.getD 0+hi (w[w.length-2]?.getD 0)
def zlh (b:List UInt8) (n:Nat):UInt32:=zf0 (b.getD (4*n) 0) (b.getD (4*n+1) 0) (b.getD (4*n+2) 0) (b.getD (4*n+3) 0)
def Q4 (b:List UInt8):Nat->List UInt32
 | 0=>[]
 | n+1=>Q4 b n++[if n<16 then zlh b n else zgL (Q4 b n)]
@[simp] theorem YZ (b:List UInt8) (n:Nat):(Q4 b n).length=n:=by
 induction n with
 | zero=>rfl
 | succ n ih=>simp[Q4,ih]
def p5:List UInt32->UInt32->UInt32->List UInt32
 | [v0,v1,v2,v3,v4,v5,v6,v7],k,w =>
  [v7+(uR v4 6 ^^^ uR v4 11 ^^^ uR v4 25)+(v4 &&& v5 ^^^ ~~~v4 &&& v6)+k+w+((uR v0 2 ^^^ uR v0 13 ^^^ uR v0 22)+(v0 &&& v1 ^^^ v0 &&& v2 ^^^ v1 &&& v2)),v0,v1,v2,
   v3+(v7+(uR v4 6 ^^^ uR v4 11 ^^^ uR v4 25)+(v4 &&& v5 ^^^ ~~~v4 &&& v6)+k+w),v4,v5,v6]
 | _,_,_=>[]
def rnd (b:List UInt8) (v:List UInt32):Nat->List UInt32
 | 0=>v
 | n+1=>p5 (rnd b v n) (k64[n]?.getD 0) ((Q4 b 64)[n]?.getD 0)
theorem zjS {l:List UInt32} (h:l.length=8):∃v0 v1 v2 v3 v4 v5 v6 v7,l=[v0,v1,v2,v3,v4,v5,v6,v7]:=by
 match l,h with
 | [v0,v1,v2,v3,v4,v5,v6,v7],_=>exact⟨v0,v1,v2,v3,v4,v5,v6,v7,rfl⟩
theorem U8 {b:List UInt8} {v:List UInt32} (h:v.length=8):∀n,(rnd b v n).length=8
 | 0=>h
 | n+1=>by
  obtain⟨v0,v1,v2,v3,v4,v5,v6,v7,e⟩:=zjS (U8 (b:=b) h n)
  simp[rnd,e,p5]
def jH (h:List UInt32) (b:List UInt8):List UInt32:=List.zipWith (·+·) h (rnd b h 64)
theorem KX {b:List UInt8} {v:List UInt32} (h:v.length=8):(jH v b).length=8:=by
 simp[jH,h,U8 h]
theorem zqK {b:List UInt8} {i:Nat} (h:4*i+4<=b.length):(b.take (4*i+4)).drop (4*i)=[b.getD (4*i) 0,b.getD (4*i+1) 0,b.getD (4*i+2) 0,b.getD (4*i+3) 0]:=by
 apply List.ext_getElem
 ·simp;omega
 ·intro n h1 h2
  simp at h1 h2
  have:n=0\/n=1\/n=2\/n=3:=by omega
  rcases this with rfl|rfl|rfl|rfl<;>simp[List.getElem?_eq_getElem,show 4*i<b.length by omega,show 4*i+1<b.length by omega,show 4*i+2<b.length by omega,show 4*i+3<b.length by omega]
abbrev KE (b:UInt8):AV:=.i .u8 b.toNat
def X6 (n:Nat):Nat:=(55+64-n % 64) % 64
theorem zbG (n:Nat):(n+1+X6 n) % 64=56:=by unfold X6;omega
theorem ziI {n k:Nat} (h:k<X6 n):(n+1+k) % 64≠56:=by unfold X6 at h;omega
theorem zmb (n:Nat):X6 n<64:=by unfold X6;omega
def WM (n:Nat):List UInt8:=[UInt8.ofNat (n*8 / 2 ^ 56),UInt8.ofNat (n*8 / 2 ^ 48),UInt8.ofNat (n*8 / 2 ^ 40),UInt8.ofNat (n*8 / 2 ^ 32),UInt8.ofNat (n*8 / 2 ^ 24),UInt8.ofNat (n*8 / 2 ^ 16),UInt8.ofNat (n*8 / 2 ^ 8),UInt8.ofNat (n*8)]
def KM (l:List UInt8):List UInt8:=l++[128]++List.replicate (X6 l.length) 0++WM l.length
theorem zgm (l:List UInt8):(KM l).length % 64=0:=by
 have:=zbG l.length
 simp[KM,WM];omega
theorem zhN (N:Nat):∀j,j<8->(WM N).take (8-j)=(WM N).take (7-j)++[UInt8.ofNat (N*8 / 2 ^ (8*j))]
 | 0,_=>by simp[WM]|1,_=>by simp[WM]|2,_=>by simp[WM]|3,_=>by simp[WM]|4,_=>by simp[WM]|5,_=>by simp[WM]|6,_=>by simp[WM]|7,_=>by simp[WM]
 | j+8,h=>by omega
theorem znH (m:Nat):IntKind.u8.wrap (m:Int)=((UInt8.ofNat m).toNat:Int):=by
 simp[IntKind.wrap,IntKind.signed,IntKind.bits]
theorem zfI {n:Int} (h0:0<=n) (h1:n<18446744073709551616):IntKind.u64.wrap n=n:=by
 simp[IntKind.wrap,IntKind.signed,IntKind.bits];omega
theorem zp5 (n k:Nat) (h:k<64):((n:Int)).fdiv (2 ^ (min k IntKind.u64.bits))=((n / 2 ^ k:Nat):Int):=by
 rw[show min k IntKind.u64.bits=k by simp[IntKind.bits];omega,Int.fdiv_eq_ediv_of_nonneg _ (Int.le_of_lt (Int.pow_pos (by omega)))]
 norm_cast
theorem zeE:KE 128=.i .u8 128:=rfl
theorem zci:KE 0=.i .u8 0:=rfl
def QL (t:List UInt8):Nat->List UInt32
 | 0=>h8
 | n+1=>jH (QL t n) ((t.drop (64*n)).take 64)
theorem GA (t:List UInt8):∀n,(QL t n).length=8
 | 0=>rfl
 | n+1=>KX (GA t n)
def WX (h:List UInt32):List UInt8:=(List.range 32).map fun i=>(h.getD (i/4) 0 >>> UInt32.ofNat (24-8*(i%4))).toUInt8
def sha (l:List UInt8):List UInt8:=WX (QL (KM l) ((KM l).length / 64))
theorem zdj (h:List UInt32):(WX h).length=32:=by simp[WX]
theorem zno (d:List UInt8):JG d=.agg (d.map KE):=rfl
end
section
variable [Sel] [SelPow] [SelMax]
structure zJ where
 run:qG
 outs:List Txt
 may:Txt->Bool
 wrote:List (Txt × Txt)
 reads:List KH
 asks:Txt
 over:Bool
 why:Int
def QW (k:KnV):KH:=⟨k.path,k.is,if k.is=true then sha k.data else zcR⟩
def y8 (e:Int) (b:zJ):zJ:={ b with over:=true,why:=e }
def KI (p d:Txt) (b:zJ):zJ :=
 if p∈b.wrote.map (·.1)\/p∉b.outs then y8 14 b else { b with wrote:=b.wrote++[(p,d)] }
def GC (b:zJ):Bool:=b.outs.any fun p=>decide (p∉b.wrote.map (·.1))
noncomputable def roundB (b:zJ):zJ × Bool :=
 let d:=(kN b.run).1
 let b':={ b with run:=(kN b.run).2 }
 if d.kind=1 then(if b.may d.path=true then({ b' with asks:=d.path },true) else(y8 13 b',false))
 else if d.kind=2 then(KI d.path d.data b',false)
 else if d.kind=3 then(if GC b=true then(y8 14 b',false) else({ b' with over:=true },false))
 else(y8 d.why b',false)
noncomputable def goN:Nat->zJ->Option zJ
 | 0,_=>none
 | n+1,b=>if b.over=true then some b else if (roundB b).2=true then some (roundB b).1 else goN n (roundB b).1
noncomputable def QX (b:zJ):zJ:=(goN (ccR b.run+2) b).getD b
noncomputable def y4 (k:KnV) (b:zJ):Int × zJ :=
 if b.over=true then(19,b) else if k.path≠b.asks then(1,b) else if k.is=true/\65536<k.data.length then(6,b)
 else(0,QX { b with reads:=b.reads++[QW k],run:=(Z2 k b.run).2 })
noncomputable def JA (b:zJ):List jK:=(k7 (b.wrote.map (·.1))).map fun p=>⟨p,((b.wrote.find? fun x=>decide (x.1=p)).getD ([],[])).2⟩
noncomputable def ZH (b:zJ):wZ × Bool :=
 if b.over=false then(⟨0,0,[],[]⟩,false)
 else if b.why=0 then(⟨1,0,JA b,b.reads⟩,true)
 else(⟨2,b.why,[],b.reads⟩,true)
def pdW (d:DoV):Txt × Txt:=(d.path,d.data)
structure ziy (env:List (Txt × Txt)) (c0:CfV) (kn:List KnV) (outs:List Txt) (may:Txt->Bool) (wr:List DoV) (b:zJ):Prop where
 at_:AtR env c0 kn wr b.run
 no2:b.run.over.kind≠2
 wrote:b.wrote=wr.map pdW
 nod:(wr.map (·.path)).Nodup
 own:∀w∈wr,w.path∈outs
 outs:b.outs=outs
 may:b.may=may
 reads:b.reads=kn.map QW
 over:b.over=false
 why:b.why=0
inductive zfL (env:List (Txt × Txt)) (c0:CfV) (kn:List KnV) (outs:List Txt) (may:Txt->Bool) (wr:List DoV) (b:zJ):Prop
 | waits (d:DoV):JP env c0 kn wr b.run d->d.kind=1->may d.path=true->b.run.waits=true->b.asks=d.path->b.asks=b.run.asks->b.over=false->b.why=0->zfL env c0 kn outs may wr b
 | read (d:DoV):JP env c0 kn wr b.run d->d.kind=1->may d.path=false->b.over=true->b.why=13->zfL env c0 kn outs may wr b
 | ended (d:DoV):JP env c0 kn wr b.run d->d.kind=3->(∀p∈outs,p∈wr.map (·.path))->b.over=true->b.why=0->zfL env c0 kn outs may wr b
 | short (d:DoV):JP env c0 kn wr b.run d->d.kind=3->¬(∀p∈outs,p∈wr.map (·.path))->b.over=true->b.why=14->zfL env c0 kn outs may wr b
 | failed (d:DoV):JP env c0 kn wr b.run d->d.kind=4->d.why≠0->b.over=true->b.why=d.why->zfL env c0 kn outs may wr b
 | wrote (d:DoV):AtR env c0 kn (wr++[d]) b.run->(d.path∈wr.map (·.path)\/d.path∉outs)->b.over=true->b.why=14->zfL env c0 kn outs may wr b
structure X4 (env:List (Txt × Txt)) (c0:CfV) (kn:List KnV) (outs:List Txt) (may:Txt->Bool) (wr:List DoV) (b:zJ):Prop where
 e:zfL env c0 kn outs may wr b
 wrote:b.wrote=wr.map pdW
 nod:(wr.map (·.path)).Nodup
 own:∀w∈wr,w.path∈outs
 outs:b.outs=outs
 may:b.may=may
 reads:b.reads=kn.map QW
theorem pU {wr:List DoV} {l:List (Txt × Txt)} (h:l=wr.map pdW):l.map (·.1)=wr.map (·.path):=by
 simp_all[pdW]
theorem JP.ov {env:List (Txt × Txt)} {c0:CfV} {kn:List KnV} {wr:List DoV} {r:qG} {d:DoV} (h:JP env c0 kn wr r d):d.kind=1/\r.waits=true/\d.path=r.asks\/d.kind=3/\d=⟨3,[],[],0⟩\/d.kind=4/\d.why≠0:=by
 by_cases hw:r.waits=true
 ·exact .inl ⟨h.waits.2 hw,hw,by rw[h.asks hw]⟩
 ·have hw':r.waits=false:=by simp_all
  have hd:=h.over hw'
  have hst:=h.stops
  have hk0:r.over.kind≠0:=by
   simp_all[kE]
  rcases h.at_.ov.1 with h1|⟨h1,_⟩|h1|⟨h1,h2⟩
  ·rw[h1]at hk0;exact absurd rfl hk0
  ·exact absurd h1 h.no2
  ·simp_all
  simp_all
theorem zkh {env:List (Txt × Txt)} {c0:CfV} {kn:List KnV} {outs:List Txt} {may:Txt->Bool} {wr:List DoV} {b:zJ} (h:ziy env c0 kn outs may wr b) :
  (∃d,ziy env c0 kn outs may (wr++[d]) (roundB b).1/\(roundB b).2=false/\ccR (roundB b).1.run<ccR b.run)\/(X4 env c0 kn outs may wr (roundB b).1/\((roundB b).2=true\/(roundB b).1.over=true)):=by
 have hwp:=pU h.wrote
 obtain⟨d,hd⟩:∃d,d=(kN b.run).1:=⟨_,rfl⟩
 obtain⟨r',hr'⟩:∃r',r'=(kN b.run).2:=⟨_,rfl⟩
 have hn:=h.at_.next h.no2
 rw[<-hd,<-hr']at hn
 unfold roundB
 simp only[<-hd,<-hr']
 rcases hn with⟨h1,h2,h3,h4⟩|hs
 ·rw[if_neg (by omega),if_pos h1]
  unfold KI
  simp only[hwp,h.outs]
  by_cases hb:d.path∈wr.map (·.path)\/d.path∉outs
  ·rw[if_pos hb]
   right
   exact⟨⟨.wrote d h2 hb rfl rfl,h.wrote,h.nod,h.own,rfl,h.may,h.reads⟩,.inr rfl⟩
  ·rw[if_neg hb]
   left
   have hb1:d.path∉wr.map (·.path):=fun e=>hb (.inl e)
   have hb2:d.path∈outs:=Classical.byContradiction fun e=>hb (.inr e)
   refine⟨d,⟨h2,by simp_all,by simp only[h.wrote,List.map_append];rfl,?_,?_,rfl,h.may,h.reads,h.over,h.why⟩,trivial,h3⟩
   ·rw[List.map_append]
    refine List.nodup_append.2 ⟨h.nod,by simp,fun a ha c hc=>?_⟩
    grind
   ·intro w hw
    rcases List.mem_append.1 hw with hw|hw
    ·exact h.own w hw
    simp_all
 ·right
  rcases hs.ov with⟨h1,h2,h3⟩|⟨h1,h2⟩|⟨h1,h2⟩
  ·rw[if_pos h1,h.may]
   by_cases hm:may d.path=true
   ·rw[if_pos hm]
    exact⟨⟨.waits d hs h1 hm h2 rfl h3 h.over h.why,h.wrote,h.nod,h.own,h.outs,rfl,h.reads⟩,.inl rfl⟩
   ·rw[if_neg hm]
    exact⟨⟨.read d hs h1 (by simp_all) rfl rfl,h.wrote,h.nod,h.own,h.outs,rfl,h.reads⟩,.inr rfl⟩
  ·rw[if_neg (by omega),if_neg (by omega),if_pos h1]
   have hl:GC b=true<->¬∀p∈outs,p∈wr.map (·.path):=by
    unfold GC
    rw[hwp,h.outs]
    simp
   by_cases hm:GC b=true
   ·rw[if_pos hm]
    exact⟨⟨.short d hs h1 (hl.1 hm) rfl rfl,h.wrote,h.nod,h.own,h.outs,h.may,h.reads⟩,.inr rfl⟩
   ·rw[if_neg hm]
    exact⟨⟨.ended d hs h1 (Classical.byContradiction fun e=>hm (hl.2 e)) rfl h.why,h.wrote,h.nod,h.own,h.outs,h.may,h.reads⟩,.inr rfl⟩
  ·rw[if_neg (by omega),if_neg (by omega),if_neg (by omega)]
   exact⟨⟨.failed d hs h1 h2 rfl rfl,h.wrote,h.nod,h.own,h.outs,h.may,h.reads⟩,.inr rfl⟩
theorem znz {env:List (Txt × Txt)} {c0:CfV} {kn:List KnV} {outs:List Txt} {may:Txt->Bool}:∀(n:Nat) {wr:List DoV} {b:zJ},ziy env c0 kn outs may wr b->ccR b.run<n->∃b' m,goN (n+1) b=some b'/\X4 env c0 kn outs may (wr++m) b'
 | 0,_,_,_,h=>absurd h (Nat.not_lt_zero _)
 | n+1,wr,b,h,hc=>by
  rw[goN,if_neg (by rw[h.over];decide)]
  rcases zkh h with⟨d,h1,h2,h3⟩|⟨h1,h2⟩
  ·rw[if_neg (by simp_all)]
   obtain⟨b',m,h4,h5⟩:=znz n h1 (by omega)
   grind
  ·by_cases h3:(roundB b).2=true
   ·rw[if_pos h3];exact⟨_,[],rfl,by simp_all⟩
   ·rw[if_neg h3,goN,if_pos (h2.resolve_left h3)]
    exact⟨_,[],rfl,by simp_all⟩
theorem G9 {env:List (Txt × Txt)} {c0:CfV} {kn:List KnV} {outs:List Txt} {may:Txt->Bool} {wr:List DoV} {b:zJ} (h:ziy env c0 kn outs may wr b):goN (ccR b.run+2) b=some (QX b)/\∃m,X4 env c0 kn outs may (wr++m) (QX b):=by
 obtain⟨b',m,h1,h2⟩:=znz (ccR b.run+1) h (by omega)
 grind [QX]
theorem X4.tell {env:List (Txt × Txt)} {c0:CfV} {kn:List KnV} {outs:List Txt} {may:Txt->Bool} {wr:List DoV} {b:zJ} (h:X4 env c0 kn outs may wr b) (ho:b.over=false) (k:KnV) (hp:k.path=b.asks) (hd:k.is=true->k.data.length<=65536) :
  ziy env c0 (kn++[k]) outs may wr { b with reads:=b.reads++[QW k],run:=(Z2 k b.run).2 }/\(Z2 k b.run).1=0:=by
 cases h.e with
 | waits d hs h1 hm hw ha ha2 h3 h4 =>
  obtain⟨g1,g2,g3,_⟩:=hs.give k hw (hp.trans ha2) hd
  exact⟨⟨g2,by simp_all,h.wrote,h.nod,h.own,h.outs,h.may,by simp only[h.reads,List.map_append];rfl,h3,h4⟩,g1⟩
 | read d _ _ _ h3 _=>simp_all
 | ended d _ _ _ h3 _=>simp_all
 | short d _ _ _ h3 _=>simp_all
 | failed d _ _ _ h3 _=>simp_all
 | wrote d _ _ h3 _=>simp_all
theorem AtR.s {env:List (Txt × Txt)} {c0:CfV} {kn:List KnV} {wr:List DoV} {r:qG} (h:AtR env c0 kn wr r):kn.length<=500:=by
 have hk:r.known.length<=500:=by
  rcases h.inv with⟨g,_⟩|⟨_,_,_,_,g,_⟩
  ·exact g.nk
  ·exact g.nk
 rw[h.kno]at hk;exact hk
theorem X4.len {env:List (Txt × Txt)} {c0:CfV} {kn:List KnV} {outs:List Txt} {may:Txt->Bool} {wr:List DoV} {b:zJ} (h:X4 env c0 kn outs may wr b):kn.length<=500:=by
 cases h.e with
 | waits d hs=>exact hs.at_.s
 | read d hs=>exact hs.at_.s
 | ended d hs=>exact hs.at_.s
 | short d hs=>exact hs.at_.s
 | failed d hs=>exact hs.at_.s
 | wrote d hs=>exact hs.s
theorem X4.asks {env:List (Txt × Txt)} {c0:CfV} {kn:List KnV} {outs:List Txt} {may:Txt->Bool} {wr:List DoV} {b:zJ} (h:X4 env c0 kn outs may wr b) (ho:b.over=false):may b.asks=true/\j3 kn b.asks=none/\b.why=0:=by
 cases h.e with
 | waits d hs h1 hm hw ha ha2 h3 h4 =>
  refine⟨by simp_all,?_,h4⟩
  rcases hs.at_.inv with⟨_,h2⟩|⟨l,k,p,e,g2,g3,g4,_⟩
  ·simp_all
  ·obtain⟨q1,q2,_⟩:=g4 hw
   rw[ha2,q1,<-hs.at_.kno];exact q2
 | read d _ _ _ h3 _=>simp_all
 | ended d _ _ _ h3 _=>simp_all
 | short d _ _ _ h3 _=>simp_all
 | failed d _ _ _ h3 _=>simp_all
 | wrote d _ _ h3 _=>simp_all
theorem X4.give {env:List (Txt × Txt)} {c0:CfV} {kn:List KnV} {outs:List Txt} {may:Txt->Bool} {wr:List DoV} {b:zJ} (h:X4 env c0 kn outs may wr b) (ho:b.over=false) (k:KnV) (hp:k.path=b.asks) (hd:k.is=true->k.data.length<=65536) :
  (y4 k b).1=0/\∃m,X4 env c0 (kn++[k]) outs may (wr++m) (y4 k b).2:=by
 have h1:=(h.tell ho k hp hd).1
 simp_all[y4,if_neg,G9]
structure zpE (known kn:List KnV) (may:Txt->Bool):Prop where
 each:∀k∈kn,j3 known k.path=some k
 nod:(kn.map (·.path)).Nodup
 may:∀k∈kn,may k.path=true
theorem X4.out {env:List (Txt × Txt)} {c0:CfV} {kn:List KnV} {outs:List Txt} {may:Txt->Bool} {wr:List DoV} {b:zJ} (h:X4 env c0 kn outs may wr b) (ho:b.over=true):(b.why=0/\∀p∈outs,p∈wr.map (·.path))\/b.why≠0:=by
 cases h.e with
 | waits d _ _ _ _ _ _ h3 _=>simp_all
 | read d _ _ _ _ h4=>omega
 | ended d _ _ h2 _ h4=>simp_all
 | short d _ _ _ _ h4=>omega
 | failed d _ _ h2 _ h4=>omega
 | wrote d _ _ _ h4=>omega
noncomputable def GX (env:List (Txt × Txt)) (outs:List Txt) (may:Txt->Bool) (cs:List CmdV):zJ:=⟨⟨(cs.reverse).map .cmd,env,[],[],[],false,do0,[]⟩,outs,may,[],[],[],false,0⟩
noncomputable def X3 (env:List (Txt × Txt)) (outs:List Txt) (may:Txt->Bool) (cs:List CmdV):zJ:=QX (GX env outs may cs)
def zcz (cs:List CmdV):CfV:=⟨cs.map .cmd,st0,[]⟩
theorem zaT (env:List (Txt × Txt)) (cs:List CmdV) (hl:cs.length<=400):JN ⟨(cs.reverse).map .cmd,env,[],[],[],false,do0,[]⟩:=by
 refine .inl ⟨⟨⟨(cs.reverse).map .cmd,[],by simp,fun t ht=>?_,by simp⟩,?_,?_,by simp,by simp,by simp⟩,rfl⟩
 ·obtain⟨c,_,rfl⟩:=List.mem_map.1 ht
  rfl
 ·have hs:YV ([]:List KnV) ((cs.reverse).map .cmd)=0:=U9 _ _ fun t ht=>by
   obtain⟨c,_,rfl⟩:=List.mem_map.1 ht
   rfl
  simp_all[xK]
 grind [List.countP_le_length]
theorem zfr (env:List (Txt × Txt)) (outs:List Txt) (may:Txt->Bool) (cs:List CmdV) (hl:cs.length<=400):ziy env (zcz cs) [] outs may [] (GX env outs may cs):=by
 refine⟨⟨zaT env cs hl,⟨.inl rfl,fun _=>rfl⟩,rfl,rfl,fun kn' _=>?_⟩,by show (0:Int)≠2;decide,rfl,by simp,by simp,rfl,rfl,rfl,rfl,rfl⟩
 have:jV [] (GX env outs may cs).run=zcz cs:=by
  simp[jV,GX,zcz,st0,do0]
 rw[this];exact .refl _
theorem zfq (env:List (Txt × Txt)) (outs:List Txt) (may:Txt->Bool) (cs:List CmdV) (hl:cs.length<=400):∃m,X4 env (zcz cs) [] outs may m (X3 env outs may cs):=by
 obtain⟨m,h⟩:=(G9 (zfr env outs may cs hl)).2
 grind [X3]
theorem zpE.nil (known:List KnV) (may:Txt->Bool):zpE known [] may:=⟨by simp,by simp,by simp⟩
end
end Go.Proofs.YtdkieabmeiojjaaGreatDoor
