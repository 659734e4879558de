/- The document's bytes of a row; a key's traces dropped. No condition. -/
import Derived.Test.YtognnffjdckalaaGreatDoorH0To
import Derived.Test.YtognnffjdckalaaGreatDoorP40To3
set_option linter.unusedSimpArgs false
set_option linter.unusedVariables false
set_option linter.unusedSectionVars false
set_option maxHeartbeats 64000000
set_option maxRecDepth 100000
namespace Go.Proofs.YtognnffjdckalaaGreatDoor
open Go Go.Ab
open Classical
section
variable [Sel] [SelPow]
theorem TrW.bytes {t:qD} (h:TrW t) (hd:TrD t):PC Tryz.prog 52 [.av (q8 Tryz.prog 56) (q5 t)] (wO t):=PR t h.1 hd h.2.1 h.2.2 (zci hd)
structure BdD (L:DbL):Prop where
 ok:OKD L
 mem:InD (fun t=>TrW t/\TrD t) (fun k=>k.length=32) L
 len:L.length<=85
 row:∀k,(getD L k).length<=8
theorem BdD.get {L:DbL} (h:BdD L) {k:Dig}:∀t∈getD L k,TrW t/\TrD t:=fun t ht=>by
 obtain⟨p,hp,ht⟩:=zbs ht
 exact(h.mem p hp).2 t ht
theorem BdD.cels {L:DbL} (h:BdD L) {cs:List Cel} (habs:Z4 cs=L):cs.length<=85/\cs.map (·.key)=L.map Prod.fst/\∀c∈cs,c.key.length=32/\∀t∈c.ts,TrW t/\TrD t:=by
 refine⟨?_,by rw[<-habs];simp[Z4,Function.comp_def],fun c hc=>?_⟩
 ·have:(Z4 cs).length=cs.length:=by simp[Z4]
  rw[habs]at this
  have:=h.len;omega
 ·have:(c.key,c.ts)∈L:=by rw[<-habs];exact List.mem_map.2 ⟨c,hc,rfl⟩
  exact h.mem _ this
structure ztD where
 kind:Int
 t:qD
structure V7 (n mo:Nat) (L:DbL):Prop where
 ok:OKD L
 mem:InD (fun t=>TrW t/\TrD t) (fun k=>k.length=32) L
 len:L.length<=n
 row:∀k,(getD L k).length<=mo
theorem V7.nil {mo:Nat}:V7 0 mo []:=⟨ziu,fun p hp=>by simp at hp,by simp,fun k=>by simp[getD]⟩
theorem V7.add {n mo:Nat} {L:DbL} (h:V7 n mo L) (hm:1<=mo) {t:qD} (ht:TrW t) (hd:TrD t):V7 (n+1) mo (kU mo L t):=by
 refine⟨ziY hm h.ok t,ziL h.mem ⟨ht,hd⟩ hd.1,?_,fun q=>?_⟩
 ·have:=h.len
  unfold kU
  split
  ·have:=zgy (k:=t.key) (v:=yG mo t (getD L t.key)) (L:=L);omega
  ·omega
 ·rw[xT]
  unfold zaN
  split
  ·exact za7 _ _ _
  ·exact h.row q
theorem zdj {mo:Nat} {L:DbL} (h:OKD L) {t:qD} (hc:qY t=0):zfJ mo (w9 L) t=w9 (kU mo L t):=by rw[znR h,kU,if_pos hc]
noncomputable def yU:Option Int->TV
 | some v=>.tup [(.int .i64,.i .i64 v),(.bool,.b true)]
 | none=>.tup [(.int .i64,.i .i64 0),(.bool,.b false)]
theorem zc4 (a d:Int):IntKind.i64.wrap (IntKind.i64.wrap (IntKind.i64.wrap a*10)+d)=IntKind.i64.wrap (a*10+d):=by
 simp only[IntKind.wrap,IntKind.signed,IntKind.bits]
 simp
 omega
theorem XA (a:Int):-9223372036854775808<=IntKind.i64.wrap a/\IntKind.i64.wrap a<=9223372036854775807:=by
 simp only[IntKind.wrap,IntKind.signed,IntKind.bits]
 simp
 omega
theorem zd7 (a:Nat) (l:List UInt8) (c:UInt8):W0 a (l++[c])=W0 a l*10+(c.toNat-48):=by
 simp[W0,List.foldl_append]
def Y0 (neg:Bool) (l:List UInt8):Int:=IntKind.i64.wrap (if neg then -(W0 0 l:Int) else W0 0 l)
theorem zc3 (l:List UInt8) {c:UInt8}:Y0 true (l++[c])=IntKind.i64.wrap (IntKind.i64.wrap (Y0 true l*10)-((c.toNat-48:Nat):Int)):=by
 have:=zc4 (-(W0 0 l:Int)) (-((c.toNat-48:Nat):Int))
 simp only[Y0,if_true,zd7]
 rw[show IntKind.i64.wrap (IntKind.i64.wrap (-(W0 0 l:Int))*10)-((c.toNat-48:Nat):Int)=IntKind.i64.wrap (IntKind.i64.wrap (-(W0 0 l:Int))*10)+-((c.toNat-48:Nat):Int) by omega,this]
 congr 1;omega
theorem zbK (l:List UInt8) {c:UInt8}:Y0 false (l++[c])=IntKind.i64.wrap (IntKind.i64.wrap (Y0 false l*10)+((c.toNat-48:Nat):Int)):=by
 have:=zc4 (W0 0 l:Int) ((c.toNat-48:Nat):Int)
 simp only[Y0,zd7]
 simp only[Bool.false_eq_true,if_false]
 rw[this]
 congr 1
theorem ziO (u:Nat) (h:u<=9999999999999999999):(Lib.decDigits u).length<=19:=by
 have key:∀(k u:Nat),u<10 ^ (k+1)->(Lib.decDigits u).length<=k+1:=by
  intro k
  induction k with
  | zero=>intro u hu;rw[Lib.decDigits,dif_pos (by omega)];simp
  | succ k ih =>
   intro u hu
   rw[Lib.decDigits]
   split
   ·simp
   ·have:=ih (u / 10) (by rw[Nat.pow_succ]at hu;omega)
    simp;omega
 exact key 18 u (by omega)
theorem zcm {s:List UInt8} {v:Int} (h:YF s=some v):∃u:Nat,(v<0/\v=-(u:Int)/\s=45::Lib.decDigits u\/0<=v/\v=u/\s=Lib.decDigits u)/\u<=9223372036854775808:=by
 obtain⟨_,h2,h3,h4⟩:=XL h
 by_cases hv:v<0
 ·refine⟨v.natAbs,.inl ⟨hv,by omega,?_⟩,by omega⟩
  rw[<-h2];unfold Lib.itoa;rw[if_pos hv]
 ·refine⟨v.toNat,.inr ⟨by omega,by omega,?_⟩,by omega⟩
  rw[<-h2];unfold Lib.itoa;rw[if_neg hv]
theorem zaE (u:Nat):∀r,Lib.decDigits u≠45::r:=by
 intro r h
 have:=ZE u 45 (by rw[h];simp)
 simp[QJ]at this
theorem c6 (s:List UInt8) (hs:s.length<=1000000000):PC Tryz.prog 137 [.av .str (.s s)] (yU (YF s)):=by
 obtain⟨R,hR⟩:∃R,YF s=R:=⟨_,rfl⟩
 rw[hR]
  /- the sign, and what stands behind it -/
 have main:∀(neg:Bool) (l:List UInt8),l.length<=s.length->(∀v,YF s=some v->(l≠[]/\l.length<=19/\(∀c∈l,QJ c=true)/\Y0 neg l=v))->
   (l=[]\/19<l.length\/(∃c∈l,QJ c=false)->R=none)/\(R=if Lib.itoa (Y0 neg l)=s then some (Y0 neg l) else none):=by
  intro neg l hl hv
  refine⟨fun hbad=>?_,?_⟩
  ·cases hR2:R with
   | none=>rfl
   | some v =>
    obtain⟨h1,h2,h3,_⟩:=hv v (hR.trans hR2)
    rcases hbad with h|h|⟨c,hc,hd⟩
    ·exact absurd h h1
    ·omega
    ·rw[h3 c hc]at hd;cases hd
  ·split
   ·rename_i hi
    rw[<-hR,<-hi]
    exact zcN (XA _).1 (XA _).2
   ·rename_i hi
    cases hR2:R with
    | none=>rfl
    | some v =>
     obtain⟨_,_,_,h4⟩:=hv v (hR.trans hR2)
     obtain⟨_,h5,_⟩:=XL (hR.trans hR2)
     rw[h4]at hi
     exact absurd h5 hi
 have acc_pos:∀u:Nat,u<=9223372036854775807->Y0 false (Lib.decDigits u)=u:=fun u hu=>by
  have:W0 0 (Lib.decDigits u)=u:=Y3 u
  simp only[Y0,this,Bool.false_eq_true,if_false]
  exact i64_in (by omega) (by omega)
 have acc_neg:∀u:Nat,u<=9223372036854775808->Y0 true (Lib.decDigits u)=-(u:Int):=fun u hu=>by
  have:W0 0 (Lib.decDigits u)=u:=Y3 u
  simp only[Y0,this,if_true]
  exact i64_in (by omega) (by omega)
 refine zow Tryz.func137 cf0 fun imm0 w0=>?_
 by_cases hs45:∃l,s=45::l
 ·obtain⟨l,hsl⟩:=hs45
  have hs0:¬(45::l:List UInt8)=[]:=by simp
  have hv0:∀v,YF s=some v->(l≠[]/\l.length<=19/\(∀c∈l,QJ c=true)/\Y0 true l=v):=by
   intro v hv
   obtain⟨u,hu|hu,hu2⟩:=zcm hv
   ·obtain⟨_,hu1,hu3⟩:=hu
    rw[hsl,List.cons.injEq]at hu3
    rw[hu3.2]
    exact⟨yK u,ziO u (by omega),ZE u,(acc_neg u hu2).trans hu1.symm⟩
   ·exact absurd (hu.2.2.symm.trans hsl) (zaE u l)
  obtain⟨hm1,hm2⟩:=main true l (by rw[hsl];simp) hv0
  by_cases hl0:l=[]
  ·have hR0:=hm1 (.inl hl0)
   subst hl0
   simp (disch:=omega) [zz,hsl,hs0]
   simp (disch:=omega) [zz,Tryz.f137,hR0,yU]
  have hl0':¬(l.length:Int)=0:=by
   intro e;exact hl0 (List.length_eq_zero_iff.1 (by omega))
  by_cases hl19:19<l.length
  ·have hR0:=hm1 (.inr (.inl hl19))
   have hl19':(19:Int)<l.length:=by omega
   simp (disch:=omega) [zz,hsl,hs0,hl0,hl0',hl19']
   simp (disch:=omega) [zz,Tryz.f137,hR0,yU]
   omega
  have hl19':¬(19:Int)<l.length:=by omega
  simp (disch:=omega) [zz,hsl,hs0,hl0,hl0',hl19']
  refine⟨by omega,?_⟩
  refine AT.loop' (α:=Nat) (fun k=>St.of [(0,.av .str (.s s)),(4,.av .bool (.b true)),(5,.av .str (.s l)),(6,.av (.int .i64) (.i .i64 (Y0 true (l.take k)))),(7,.av (.int .i64) (.i .i64 k))] [] (fun _=>0) [])
   (fun k=>k<=l.length) (fun k=>l.length-k) 0 ?_ ?_ ?_
  ·apply Le.of<;>simp[le9,hsl,Y0,W0]<;>try omega
   exact i64_in (by omega) (by omega)
  ·simp
  rintro k hk KL hN hE
  obtain⟨hw1,hw2⟩:=XA (if true=true then -(W0 0 (l.take k):Int) else W0 0 (l.take k))
  refine zrd cf0 ?_
  by_cases hlt:k<l.length
  ·have hlt':(k:Int)<l.length:=by omega
   obtain⟨c,hc⟩:∃c,l[k]=c:=⟨_,rfl⟩
   have hsn:=zc3 (l.take k) (c:=c)
   rw[<-hc,<-List.take_succ_eq_append_getElem hlt,hc]at hsn
   have hc256:c.toNat<256:=c.toNat_lt
   by_cases hdg:QJ c=true
   ·have hd48:48<=c.toNat:=by simp only[QJ,Bool.and_eq_true,decide_eq_true_eq]at hdg;exact hdg.1
    have hsub:IntKind.i64.wrap ((c.toNat:Int)-48)=((c.toNat-48:Nat):Int):=by rw[i64_in (by omega) (by omega)];omega
    have hsub2:((c.toNat:Int)-48)=((c.toNat-48:Nat):Int):=by omega
    simp (disch:=omega) [zz,hlt',hc]
    refine zcv (UB c) ?_
    simp (disch:=omega) [zz,hdg,hlt,hc,hsub,hsub2]
    refine hN _ (k+1) ?_ (by omega) (by omega)
    apply Le.of<;>simp[le9,hsn]<;>try omega
   ·have hR0:=hm1 (.inr (.inr ⟨c,by rw[<-hc];exact List.getElem_mem hlt,by simpa using hdg⟩))
    simp (disch:=omega) [zz,hlt',hc]
    refine zcv (UB c) ?_
    simp (disch:=omega) [zz,hdg]
    refine hE _ _ (by simp) ?_
    simp (disch:=omega) [zz,Tryz.f137,hR0,yU]
  have hlt':¬(k:Int)<l.length:=by omega
  rw[show l.take k=l from List.take_of_length_le (by omega)]at *
  simp (disch:=omega) [zz,hlt']
  refine hE _ _ (by simp) ?_
  clear hN hE
  have hw:=XA (if true=true then -(W0 0 l:Int) else W0 0 l)
  simp (disch:=omega) [zz]
  refine zcv (zed _ (Y0 true l) (Nat.le_refl _) hw.1 hw.2) ?_
  by_cases hi:Lib.itoa (Y0 true l)=s
  ·rw[if_pos hi]at hm2
   simp (disch:=omega) [zz,hi,hm2,Tryz.f137,yU]
  ·rw[if_neg hi]at hm2
   simp (disch:=omega) [zz,hi,hm2,Tryz.f137,yU]
 ·replace hs45:∀l,s≠45::l:=fun l h=>hs45 ⟨l,h⟩
  have hv0:∀v,YF s=some v->(s≠[]/\s.length<=19/\(∀c∈s,QJ c=true)/\Y0 false s=v):=by
   intro v hv
   obtain⟨u,hu|hu,hu2⟩:=zcm hv
   ·exact absurd hu.2.2 (hs45 _)
   ·obtain⟨_,hu1,hu3⟩:=hu
    have hv63:=(XL hv).2.2.2
    rw[hu3]
    exact⟨yK u,ziO u (by omega),ZE u,(acc_pos u (by omega)).trans hu1.symm⟩
  obtain⟨hm1,hm2⟩:=main false s (Nat.le_refl _) hv0
  by_cases hl0:s=[]
  ·have hR0:=hm1 (.inl hl0)
   subst hl0
   simp (disch:=omega) [zz]
   simp (disch:=omega) [zz,Tryz.f137,hR0,yU]
  have hpos:0<s.length:=List.length_pos_iff.2 hl0
  have hpos':(0:Int)<s.length:=by omega
  obtain⟨c0,hc0⟩:∃c,s[0]=c:=⟨_,rfl⟩
  have h45:¬c0=45:=by
   rintro rfl
   exact hs45 (s.drop 1) (by rw[<-hc0,List.getElem_cons_drop];simp)
  have h45':¬(c0.toNat:Int)=45:=by have:=zfe (n:=45) (by omega) h45;simpa using this
  have hl0':¬(s.length:Int)=0:=by
   intro e;exact hl0 (List.length_eq_zero_iff.1 (by omega))
  by_cases hl19:19<s.length
  ·have hR0:=hm1 (.inr (.inl hl19))
   have hl19':(19:Int)<s.length:=by omega
   simp (disch:=omega) [zz,hpos,hpos',hc0,h45',hl0,hl0',hl19']
   simp (disch:=omega) [zz,Tryz.f137,hR0,yU]
  have hl19':¬(19:Int)<s.length:=by omega
  simp (disch:=omega) [zz,hpos,hpos',hc0,h45',hl0,hl0',hl19']
  refine AT.loop' (α:=Nat) (fun k=>St.of [(0,.av .str (.s s)),(4,.av .bool (.b false)),(5,.av .str (.s s)),(6,.av (.int .i64) (.i .i64 (Y0 false (s.take k)))),(7,.av (.int .i64) (.i .i64 k))] [] (fun _=>0) [])
   (fun k=>k<=s.length) (fun k=>s.length-k) 0 ?_ ?_ ?_
  ·apply Le.of<;>simp[le9,Y0,W0]<;>try omega
   exact i64_in (by omega) (by omega)
  ·simp
  rintro k hk KL hN hE
  obtain⟨hw1,hw2⟩:=XA (if false=true then -(W0 0 (s.take k):Int) else W0 0 (s.take k))
  refine zrd cf0 ?_
  by_cases hlt:k<s.length
  ·have hlt':(k:Int)<s.length:=by omega
   obtain⟨c,hc⟩:∃c,s[k]=c:=⟨_,rfl⟩
   have hsn:=zbK (s.take k) (c:=c)
   rw[<-hc,<-List.take_succ_eq_append_getElem hlt,hc]at hsn
   have hc256:c.toNat<256:=c.toNat_lt
   by_cases hdg:QJ c=true
   ·have hd48:48<=c.toNat:=by simp only[QJ,Bool.and_eq_true,decide_eq_true_eq]at hdg;exact hdg.1
    have hsub:IntKind.i64.wrap ((c.toNat:Int)-48)=((c.toNat-48:Nat):Int):=by rw[i64_in (by omega) (by omega)];omega
    have hsub2:((c.toNat:Int)-48)=((c.toNat-48:Nat):Int):=by omega
    simp (disch:=omega) [zz,hlt',hc]
    refine zcv (UB c) ?_
    simp (disch:=omega) [zz,hdg,hlt,hc,hsub,hsub2]
    refine hN _ (k+1) ?_ (by omega) (by omega)
    apply Le.of<;>simp[le9,hsn]<;>try omega
   ·have hR0:=hm1 (.inr (.inr ⟨c,by rw[<-hc];exact List.getElem_mem hlt,by simpa using hdg⟩))
    simp (disch:=omega) [zz,hlt',hc]
    refine zcv (UB c) ?_
    simp (disch:=omega) [zz,hdg]
    refine hE _ _ (by simp) ?_
    simp (disch:=omega) [zz,Tryz.f137,hR0,yU]
  have hlt':¬(k:Int)<s.length:=by omega
  rw[show s.take k=s from List.take_of_length_le (by omega)]at *
  simp (disch:=omega) [zz,hlt']
  refine hE _ _ (by simp) ?_
  clear hN hE
  have hw:=XA (if false=true then -(W0 0 s:Int) else W0 0 s)
  simp (disch:=omega) [zz]
  refine zcv (zed _ (Y0 false s) (Nat.le_refl _) hw.1 hw.2) ?_
  by_cases hi:Lib.itoa (Y0 false s)=s
  ·rw[if_pos hi]at hm2
   simp (disch:=omega) [zz,hi,hm2,Tryz.f137,yU]
  ·rw[if_neg hi]at hm2
   simp (disch:=omega) [zz,hi,hm2,Tryz.f137,yU]
end
end Go.Proofs.YtognnffjdckalaaGreatDoor
