/- Does a trace hold? The program. No condition. -/
import Derived.Test.YtdkieabmeiojjaaGreatDoorSB6ToHM0
set_option linter.unusedSimpArgs false
set_option linter.unusedVariables false
set_option linter.unusedSectionVars false
set_option maxHeartbeats 64000000
set_option maxRecDepth 100000
namespace Go.Proofs.YtdkieabmeiojjaaGreatDoor
open Go Go.Ab
open Classical
section
variable [Sel] [SelPow] [SelMax]
theorem zkN {a b:wZ}:a=b<->a.kind=b.kind/\a.why=b.why/\a.outs=b.outs/\a.reads=b.reads:=by
 cases a;cases b;simp
def zjw (o:wZ):Prop:=o.outs.length<=9223372036854775807/\o.reads.length<=9223372036854775807
structure zqJ where
 outs:List wZ
 ran:List Nat
 files:List jK
def yA (l:List wZ):AV:=.sl .no (l.map z7)
structure V9 where
 outs:List wZ
 ran:List Int
 took:List Int
 files:List jK
def kB (r:V9):AV:=.agg [yA r.outs,.sl .no (r.ran.map (.i .i64 ·)),.sl .no (r.took.map (.i .i64 ·)),qL r.files]
structure zob (r:V9):Prop where
 o:r.outs.length<=9223372036854775807
 f:r.files.length<=9223372036854775807
 d:∀o∈r.outs,zjw o
noncomputable abbrev YQ:TyD:=q9 Tryz.prog 26
def fsG:List jK->Nat
 | []=>0
 | x::l=>fsG l+(1+(x.path.length+x.data.length) / 64)
def acN (a:QT):Nat:=a.env.length+a.ins.length+a.asks.length+a.outs.length+a.tool.length / 64
def acG:List QT->Nat
 | []=>0
 | x::l=>acG l+acN x
theorem zrQ:∀a b:List jK,fsG (a++b)=fsG a+fsG b
 | [],b=>by simp[fsG]
 | x::a,b=>by simp only[List.cons_append,fsG,zrQ a b];omega
theorem zrS:∀a b:List QT,acG (a++b)=acG a+acG b
 | [],b=>by simp[acG]
 | x::a,b=>by simp only[List.cons_append,acG,zrS a b];omega
theorem zsF (l:List jK) (k:Nat) (h:k<l.length):fsG (l.take (k+1))=fsG (l.take k)+(1+(l[k].path.length+l[k].data.length) / 64):=by
 rw[List.take_succ_eq_append_getElem h,zrQ];simp only[fsG];omega
theorem zsJ (l:List QT) (k:Nat) (h:k<l.length):acG (l.take (k+1))=acG (l.take k)+acN l[k]:=by
 rw[List.take_succ_eq_append_getElem h,zrS];simp only[acG];omega
theorem zsG (l:List jK) (k:Nat):fsG (l.take k)<=fsG l:=by
 conv=>rhs;rw[<-List.take_append_drop k l,zrQ]
 omega
theorem zsY (l:List QT) (k:Nat):acG (l.take k)<=acG l:=by
 conv=>rhs;rw[<-List.take_append_drop k l,zrS]
 omega
def zr0 (w:zV):Bool:=decide (8<w.acts.length)||decide (120<fsG w.files+acG w.acts)||decide (20<w.wants.length)
structure WkB (w:zV):Prop where
 f:∀f∈w.files,f.path.length+f.data.length<=4000000
 fn:w.files.length<=4000000
 an:w.acts.length<=4000000
 a:∀a∈w.acts,a.env.length+a.ins.length+a.asks.length+a.outs.length+a.tool.length<=4000000
 wn:w.wants.length<=4000000
theorem zsQ:∀l:List jK,(∀f∈l,f.path.length+f.data.length<=4000000)->fsG l<=l.length*4000001
 | [],_=>by simp[fsG]
 | x::l,h=>by
  have h1:=zsQ l fun f hf=>h f (by simp[hf])
  have h2:=h x (by simp)
  simp only[fsG,List.length_cons,Nat.add_mul];omega
theorem zsP:∀l:List QT,(∀a∈l,a.env.length+a.ins.length+a.asks.length+a.outs.length+a.tool.length<=4000000)->acG l<=l.length*4000001
 | [],_=>by simp[acG]
 | x::l,h=>by
  have h1:=zsP l fun f hf=>h f (by simp[hf])
  have h2:=h x (by simp)
  simp only[acG,acN,List.length_cons,Nat.add_mul];omega
theorem zsh (w:zV) (hw:WkB w):PC Tryz.prog 8 [.av CZ (yV w)] (.av .bool (.b (zr0 w))):=by
 have hfn:=hw.fn
 have han:=hw.an
 have hwn:=hw.wn
 have hfm:fsG w.files<=4000000*4000001:=Nat.le_trans (zsQ _ hw.f) (Nat.mul_le_mul_right _ hfn)
 have ham:acG w.acts<=4000000*4000001:=Nat.le_trans (zsP _ hw.a) (Nat.mul_le_mul_right _ han)
 obtain⟨W,hW⟩:∃W,W=yV w:=⟨_,rfl⟩
 have hWE:W=.agg [.sl .no (w.files.map zK),.sl .no (w.acts.map wW),.sl .no (strs w.wants),.b w.keep]:=hW
 have hsl:=jS w.wants
 rw[<-hW]
 refine zow Tryz.func8 cf0 fun imm0 w0=>?_
 simp (disch:=omega) [zz,hWE]
 refine AT.loop' (α:=Nat) (fun k=>St.of [(1,.loc 1 []),(3,.av (.int .i64) (.i .i64 (fsG (w.files.take k)))),(9,.av (.slice 43) (.sl .no (w.files.map zK))),(10,.av (.int .i64) (.i .i64 w.files.length)),(11,.av (.int .i64) (.i .i64 k))] [(1,(CZ,W))] (fun _=>0) [])
  (fun k=>k<=w.files.length) (fun k=>w.files.length-k) 0 ?_ ?_ ?_
 ·apply Le.of<;>simp[zR,qI,z6,fsG,hWE]<;>try omega
 ·omega
 rintro k hk KL hN hE
 refine zrd cf0 ?_
 by_cases hlt:k<w.files.length
 ·have hlt':(k:Int)<w.files.length:=by omega
  have hg:=kG zK w.files k hlt
  have hs:=zsF w.files k hlt
  have ht:=zsG w.files (k+1)
  have hd:=hw.f _ (List.getElem_mem hlt)
  obtain⟨x,hx⟩:∃x,x=w.files[k]:=⟨_,rfl⟩
  rw[<-hx]at hg hs hd
  obtain⟨m,hm⟩:∃m,m=fsG (w.files.take k):=⟨_,rfl⟩
  rw[<-hm]at hs |-
  have hq:((x.path.length:Int)+x.data.length).tdiv 64=((x.path.length+x.data.length) / 64:Nat):=by
   rw[<-Int.natCast_add];exact(Int.ofNat_tdiv _ _).symm
  generalize (x.path.length+x.data.length) / 64=q at *
  have hs':(fsG (w.files.take (k+1)):Int)=m+(1+q):=by omega
  simp (disch:=omega) [zz,hlt',hg,zK,hq]
  refine hN _ (k+1) ?_ (by omega) (by omega)
  apply Le.of<;>simp[zR,qI,z6,hs']<;>try omega
 have hkn:k=w.files.length:=by omega
 subst hkn
 have hlt':¬(w.files.length:Int)<w.files.length:=by omega
 simp (disch:=omega) [zz,hlt']
 refine hE _ _ (by simp) ?_
 clear hN hE
 simp (disch:=omega) [zz,hWE]
 refine AT.loop' (α:=Nat) (fun k=>St.of [(1,.loc 1 []),(3,.av (.int .i64) (.i .i64 (fsG w.files+acG (w.acts.take k):Nat))),(28,.av (.slice 49) (.sl .no (w.acts.map wW))),(29,.av (.int .i64) (.i .i64 w.acts.length)),(30,.av (.int .i64) (.i .i64 k))] [(1,(CZ,W))] (fun _=>0) [])
  (fun k=>k<=w.acts.length) (fun k=>w.acts.length-k) 0 ?_ ?_ ?_
 ·apply Le.of<;>simp[zR,qI,z6,acG,hWE]<;>try omega
 ·omega
 rintro k hk KL hN hE
 refine zrd cf0 ?_
 by_cases hlt:k<w.acts.length
 ·have hlt':(k:Int)<w.acts.length:=by omega
  have hg:=kG wW w.acts k hlt
  have hs:=zsJ w.acts k hlt
  have ht:=zsY w.acts (k+1)
  have hd:=hw.a _ (List.getElem_mem hlt)
  obtain⟨x,hx⟩:∃x,x=w.acts[k]:=⟨_,rfl⟩
  rw[<-hx]at hg hs hd
  have h1:=jS x.ins
  have h2:=jS x.asks
  have h3:=jS x.outs
  obtain⟨m,hm⟩:∃m,m=fsG w.files+acG (w.acts.take k):=⟨_,rfl⟩
  rw[<-hm]
  have hq:(x.tool.length:Int).tdiv 64=(x.tool.length / 64:Nat):=(Int.ofNat_tdiv _ _).symm
  unfold acN at hs
  generalize x.tool.length / 64=q at *
  have hs':((fsG w.files+acG (w.acts.take (k+1)):Nat):Int)=m+(x.env.length+x.ins.length+x.asks.length+x.outs.length+q):=by omega
  simp (disch:=omega) [zz,hlt',hg,wW,zO,hq,h1,h2,h3]
  refine hN _ (k+1) ?_ (by omega) (by omega)
  apply Le.of<;>simp[zR,qI,z6,hs']<;>try omega
 have hkn:k=w.acts.length:=by omega
 subst hkn
 have hlt':¬(w.acts.length:Int)<w.acts.length:=by omega
 simp (disch:=omega) [zz,hlt']
 refine hE _ _ (by simp) ?_
 clear hN hE
 have hG:zr0 w=(decide (8<w.acts.length)||decide (120<fsG w.files+acG w.acts)||decide (20<w.wants.length)):=rfl
 rw[hG]
 generalize fsG w.files=F at *
 generalize acG w.acts=G at *
 have b1:(8:Int)<w.acts.length<->8<w.acts.length:=by omega
 have b2:(120:Int)<(F:Int)+(G:Int)<->120<F+G:=by omega
 have b3:(20:Int)<w.wants.length<->20<w.wants.length:=by omega
 by_cases c1:8<w.acts.length
 ·simp (disch:=omega) [zz,hWE,b1,c1,Tryz.f8]
 by_cases c2:120<F+G
 ·simp (disch:=omega) [zz,hWE,b1,b2,c1,c2,Tryz.f8]
 ·simp (disch:=omega) [zz,hWE,b1,b2,c1,c2,hsl,b3,Tryz.f8]
end
end Go.Proofs.YtdkieabmeiojjaaGreatDoor
