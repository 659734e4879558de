/- The document's Same. No condition. -/
import Derived.Test.YtdkieabmeiojjaaGreatDoorRW6ToSE0
import Derived.Test.YtdkieabmeiojjaaGreatDoorSR0ToSX2
set_option linter.unusedSimpArgs false
set_option linter.unusedVariables false
set_option linter.unusedSectionVars false
set_option maxHeartbeats 64000000
set_option maxRecDepth 100000
namespace Go.Proofs.YtdkieabmeiojjaaGreatDoor
open Go Go.Ab
open Classical
section
variable [Sel] [SelPow] [SelMax]
def zoD (o:wZ):Prop:=o.outs.length<=9223372036854775807/\o.reads.length<=9223372036854775807
theorem zaX (a b:List jK) (ha:a.length<=9223372036854775807) (hb:b.length<=9223372036854775807) :
  PC Tryz.prog 18 [.av (.slice 43) (qL a),.av (.slice 43) (qL b)] (.av .bool (.b (decide (a=b)))):=by
 refine zow Tryz.func18 cf0 fun imm0 w0=>?_
 by_cases hn:a.length=b.length
 rotate_left
 ·have hn':¬(a.length:Int)=b.length:=by omega
  have hne:¬a=b:=fun e=>hn (by rw[e])
  simp (disch:=omega) [zz,hn',qL,hne,Tryz.f18]
 have hn':(a.length:Int)=b.length:=by omega
 simp (disch:=omega) [zz,hn',qL]
 refine AT.loop' (α:=Nat) (fun k=>St.of [(0,.av (.slice 43) (qL a)),(1,.av (.slice 43) (qL b)),(4,.cst (.bool false)),(5,.av (.int .i64) (.i .i64 k))] [] (fun _=>0) [])
  (fun k=>k<=b.length/\∀i,i<k->∀(h1:i<a.length) (h2:i<b.length),a[i]=b[i]) (fun k=>b.length-k) 0 ?_ ?_ ?_
 ·apply Le.of<;>simp[le9,qL]<;>try omega
 ·exact⟨by omega,fun i h=>by omega⟩
 rintro k ⟨hk,hall⟩ KL hN hE
 refine zrd cf0 ?_
 by_cases hlt:k<b.length
 ·have hlt':(k:Int)<b.length:=by omega
  have hga:=kG zK a k (by omega)
  have hgb:=kG zK b k hlt
  have hlta:(k:Int)<a.length:=by omega
  by_cases hc:a[k]=b[k]
  ·simp (disch:=omega) [zz,hlt',hlta,hga,hgb,qL,WS,hc]
   (repeat with_reducible refine om ?_)
   refine hN _ (k+1) ?_ ⟨by omega,fun i hi h1 h2=>?_⟩ (by omega)
   ·apply Le.of<;>simp[le9,qL]<;>try omega
   ·rcases Nat.lt_or_ge i k with h|h
    ·exact hall i h h1 h2
    ·have:i=k:=by omega
     subst this;exact hc
  ·have hne:¬a=b:=fun e=>hc (by subst e;rfl)
   simp (disch:=omega) [zz,hlt',hlta,hga,hgb,qL,WS,hc]
   (repeat with_reducible refine om ?_)
   refine hE _ _ (by simp) ?_
   simp (disch:=omega) [zz,Tryz.f18,hne]
 ·have hlt':¬(k:Int)<b.length:=by omega
  have hlta:¬(k:Int)<a.length:=by omega
  simp (disch:=omega) [zz,hlt',hlta,qL]
  refine hE _ _ (by simp) ?_
  have:a=b:=zr7 hn fun i h1 h2=>hall i (by omega) h1 h2
  simp (disch:=omega) [zz,Tryz.f18,this]
theorem zdq (a b:wZ) (ha:zoD a) (hb:zoD b) :
  PC Tryz.prog 17 [.av (q9 Tryz.prog 31) (z7 a),.av (q9 Tryz.prog 31) (z7 b)] (.av .bool (.b (decide (a=b)))):=by
 have hf:=zaX a.outs b.outs ha.1 hb.1
 have hbr:=hb.2
 have har:=ha.2
 have e1:=j6 a.outs
 have e2:=j6 b.outs
 have hd:=zkN (a:=a) (b:=b)
 refine zow Tryz.func17 cf0 fun imm0 w0=>?_
 by_cases h1:a.kind=b.kind
 rotate_left
 ·have hne:¬a=b:=fun e=>h1 (by rw[e])
  simp (disch:=omega) [zz,z7,h1,hne,Tryz.f17]
 by_cases h2:a.why=b.why
 rotate_left
 ·have hne:¬a=b:=fun e=>h2 (by rw[e])
  simp (disch:=omega) [zz,z7,h1,h2,hne,Tryz.f17]
 by_cases hn:a.reads.length=b.reads.length
 rotate_left
 ·have hn':¬(a.reads.length:Int)=b.reads.length:=by omega
  have hne:¬a=b:=fun e=>hn (by rw[e])
  simp (disch:=omega) [zz,z7,zC,h1,h2,hn',hne,Tryz.f17]
 have hn':(a.reads.length:Int)=b.reads.length:=by omega
 simp (disch:=omega) [zz,z7,zC,h1,h2,hn']
 refine AT.loop' (α:=Nat) (fun k=>St.of [(2,.loc 2 []),(3,.loc 3 []),(4,.cst (.bool false)),(5,.av (.int .i64) (.i .i64 k))] [(2,(q9 Tryz.prog 31,.agg [.i .i64 b.kind,.i .i64 b.why,qL a.outs,.sl .no (a.reads.map qX)])),(3,(q9 Tryz.prog 31,.agg [.i .i64 b.kind,.i .i64 b.why,qL b.outs,.sl .no (b.reads.map qX)]))] (fun _=>0) [])
  (fun k=>k<=b.reads.length/\∀i,i<k->∀(h1:i<a.reads.length) (h2:i<b.reads.length),a.reads[i]=b.reads[i]) (fun k=>b.reads.length-k) 0 ?_ ?_ ?_
 ·apply Le.of<;>simp[zR,qI,z6]<;>try omega
 ·exact⟨by omega,fun i h=>by omega⟩
 rintro k ⟨hk,hall⟩ KL hN hE
 refine zrd cf0 ?_
 by_cases hlt:k<b.reads.length
 ·have hlt':(k:Int)<b.reads.length:=by omega
  have hga:=kG qX a.reads k (by omega)
  have hgb:=kG qX b.reads k hlt
  have hlta:(k:Int)<a.reads.length:=by omega
  by_cases hc:a.reads[k]=b.reads[k]
  ·simp (disch:=omega) [zz,hlt',hlta,hga,hgb,WZ,hc]
   (repeat with_reducible refine om ?_)
   refine hN _ (k+1) ?_ ⟨by omega,fun i hi h1 h2=>?_⟩ (by omega)
   ·apply Le.of<;>simp[zR,qI,z6]<;>try omega
   ·rcases Nat.lt_or_ge i k with h|h
    ·exact hall i h h1 h2
    ·have:i=k:=by omega
     subst this;exact hc
  ·have hne:¬a=b:=fun e=>hc (by subst e;rfl)
   simp (disch:=omega) [zz,hlt',hlta,hga,hgb,WZ,hc]
   (repeat with_reducible refine om ?_)
   refine hE _ _ (by simp) ?_
   simp (disch:=omega) [zz,Tryz.f17,hne]
 ·have hlt':¬(k:Int)<b.reads.length:=by omega
  have hlta:¬(k:Int)<a.reads.length:=by omega
  simp (disch:=omega) [zz,hlt',hlta]
  refine hE _ _ (by simp) ?_
  have h4:a.reads=b.reads:=zr7 hn fun i h1 h2=>hall i (by omega) h1 h2
  simp (disch:=omega) [zz]
  refine qO hf rfl rfl (by simp) (by simp[qR,TV.er,AV.er,e1,e2]) ?_
  by_cases h3:a.outs=b.outs
  ·have he:a=b:=hd.2 ⟨h1,h2,h3,h4⟩
   simp (disch:=omega) [zz,h3,he,Tryz.f17]
  ·have hne:¬a=b:=fun e=>h3 (by rw[e])
   simp (disch:=omega) [zz,h3,hne,Tryz.f17]
structure zlx (r:V9):Prop where
 o:r.outs.length<=9223372036854775807
 f:r.files.length<=9223372036854775807
 d:∀o∈r.outs,zoD o
theorem zlx.l {r:V9} (h:zlx r):zob r:=⟨h.o,h.f,fun o ho=>by
 obtain⟨h1,h2⟩:=h.d o ho
 exact⟨by omega,by omega⟩⟩
theorem zkA (a b:V9) (ha:zlx a) (hb:zlx b) :
  PC Tryz.prog 7 [.av YQ (kB a),.av YQ (kB b)] (.av .bool (.b (decide (a.outs=b.outs)&&decide (a.files=b.files)))):=by
 have hf:=zaX a.files b.files ha.f hb.f
 have e1:=j6 a.files
 have e2:=j6 b.files
 have hbo:=hb.o
 refine zow Tryz.func7 cf0 fun imm0 w0=>?_
 by_cases hn:a.outs.length=b.outs.length
 rotate_left
 ·have hn':¬(a.outs.length:Int)=b.outs.length:=by omega
  have hne:¬a.outs=b.outs:=fun e=>hn (by rw[e])
  simp (disch:=omega) [zz,kB,yA,hn',hne,Tryz.f7]
 have hn':(a.outs.length:Int)=b.outs.length:=by omega
 simp (disch:=omega) [zz,kB,yA,hn']
 refine AT.loop' (α:=Nat) (fun k=>St.of [(2,.loc 2 []),(3,.loc 3 []),(4,.cst (.bool false)),(5,.av (.int .i64) (.i .i64 k))] [(2,(YQ,kB a)),(3,(YQ,kB b))] (fun _=>0) [])
  (fun k=>k<=b.outs.length/\∀i,i<k->∀(h1:i<a.outs.length) (h2:i<b.outs.length),a.outs[i]=b.outs[i]) (fun k=>b.outs.length-k) 0 ?_ ?_ ?_
 ·apply Le.of<;>simp[zR,qI,z6,kB,yA]<;>try omega
 ·exact⟨by omega,fun i h=>by omega⟩
 rintro k ⟨hk,hall⟩ KL hN hE
 refine zrd cf0 ?_
 by_cases hlt:k<b.outs.length
 ·have hlt':(k:Int)<b.outs.length:=by omega
  have hlt2:k<a.outs.length:=by omega
  have hga:=kG z7 a.outs k hlt2
  have hgb:=kG z7 b.outs k hlt
  have hlta:(k:Int)<a.outs.length:=by omega
  have ho:=zdq a.outs[k] b.outs[k] (ha.d _ (List.getElem_mem hlt2)) (hb.d _ (List.getElem_mem hlt))
  obtain⟨m,hm⟩:∃m,m=a.outs[k]:=⟨_,rfl⟩
  obtain⟨f,hfm⟩:∃f,f=b.outs[k]:=⟨_,rfl⟩
  rw[<-hm]at hga ho
  rw[<-hfm]at hgb ho
  have hme:=Q5 m
  have hfe:=Q5 f
  obtain⟨X,hX⟩:∃X,X=z7 m:=⟨_,rfl⟩
  obtain⟨Y,hY⟩:∃Y,Y=z7 f:=⟨_,rfl⟩
  rw[<-hX]at hga ho hme
  rw[<-hY]at hgb ho hfe
  simp (disch:=omega) [zz,hlt',hlta,hga,hgb,kB,yA]
  (repeat with_reducible refine om ?_)
  refine kP ho rfl rfl (by simp) (by simp[qR,coC,TV.er,hme,hfe]) ?_
  by_cases hc:m=f
  ·simp (disch:=omega) [zz,hc]
   (repeat with_reducible refine om ?_)
   refine hN _ (k+1) ?_ ⟨by omega,fun i hi h1 h2=>?_⟩ (by omega)
   ·apply Le.of<;>simp[zR,qI,z6,kB,yA]<;>try omega
   ·rcases Nat.lt_or_ge i k with h|h
    ·exact hall i h h1 h2
    ·have:i=k:=by omega
     subst this;rw[<-hm,<-hfm];exact hc
  ·have hne:¬a.outs=b.outs:=fun e=>hc (by rw[hm,hfm];simp only[e])
   simp (disch:=omega) [zz,hc]
   (repeat with_reducible refine om ?_)
   refine hE _ _ (by simp) ?_
   simp (disch:=omega) [zz,Tryz.f7,hne]
 ·have hlt':¬(k:Int)<b.outs.length:=by omega
  have hlta:¬(k:Int)<a.outs.length:=by omega
  simp (disch:=omega) [zz,hlt',hlta,kB,yA]
  refine hE _ _ (by simp) ?_
  have h4:a.outs=b.outs:=zr7 hn fun i h1 h2=>hall i (by omega) h1 h2
  simp (disch:=omega) [zz]
  refine qO hf rfl rfl (by simp) (by simp[qR,TV.er,AV.er,e1,e2]) ?_
  simp (disch:=omega) [zz,h4,Tryz.f7]
end
section
variable [Sel]
def zqU (ver:Nat->Nat):Option Nat->Ab.Tok
 | none=>.full
 | some k=>.own k (ver k)
theorem zs6 {P:Program} {s:St} {d:Nat} {o:Option Nat} {e:TypeId} {xs ys:List AV} {K:St->Prop} (h1:2*(xs.length+ys.length)*P.bytesOf e<=281474976710656) (h2:xs.length+ys.length<=4611686018427387904) (h3:zB P e=true) (h4:jC P e=true)
  (hk:∀ver',K (({ s with ver:=ver' }:St).put (some d) (.av (.slice e) (.sl (zqU ver' (some d)) (xs++ys))))):yT P s d e (zqU s.ver o) xs ys K:=by
 refine⟨h1,h2,h3,h4,?_⟩
 cases o with
 | none=>simpa[zqU,upd]using hk (upd s.ver d (s.ver d+1))
 | some k=>exact⟨rfl,by simpa[zqU,upd]using hk (upd (upd s.ver k (s.ver k+1)) d (s.ver d+1))⟩
end
section
variable [Sel] [SelPow] [SelMax]
theorem zto {w:zV} (hw:zd8 w) {i:Nat} (hi:i<w.acts.length):(kS (qW w) i).reads.length<=500:=by
 obtain⟨⟨b,hb⟩,kn,hk⟩:=zcU hw hi
 obtain⟨kn',hk'⟩:=znp (zgE hw) 600 hk hb
 have hr:=hk'.rl
 have hbx:xF (qW w) i=b:=by unfold xF;rw[hb];rfl
 unfold kS
 cases h:jL (qW w) i with
 | none=>simp only[Option.getD_none,hbx];exact hr
 | some o =>
  rw[za0]at h
  unfold uK at h
  rw[hb]at h
  simp only at h
  by_cases ho:b.over=true
  ·rw[if_pos ho]at h
   cases h
   simp only[Option.getD_some,zfo ho];exact hr
  ·rw[if_neg ho]at h
   split at h
   ·cases h
   split at h
   ·cases h
   split at h
   ·cases h;exact hr
   ·cases h
theorem zt7 {w:zV} (hw:zd8 w) {i:Nat} (hi:i<w.acts.length):zlx ⟨[kS (qW w) i],[],[],[]⟩:=by
 have h1:=(zj4 hw i).2
 have h2:=zto hw hi
 refine⟨by simp,by simp,fun o ho=>?_⟩
 rw[List.mem_singleton.1 ho]
 exact⟨by omega,by omega⟩
theorem zrl {P:Program} {s:St} {d:Nat} {o:Option Nat} {e:TypeId} {xs ys:List AV} {K:St->Prop} (h1:2*(xs.length+ys.length)*P.bytesOf e<=281474976710656) (h2:xs.length+ys.length<=4611686018427387904) (h3:zB P e=true) (h4:jC P e=true)
  (hk:∀ver',(∀p:Option Nat,p≠some d->p≠o\/o=none->zqU ver' p=zqU s.ver p)->K (({ s with ver:=ver' }:St).put (some d) (.av (.slice e) (.sl (zqU ver' (some d)) (xs++ys))))):yT P s d e (zqU s.ver o) xs ys K:=by
 refine⟨h1,h2,h3,h4,?_⟩
 cases o with
 | none =>
  have:=hk (upd s.ver d (s.ver d+1)) fun p hp _=>by
   cases p with
   | none=>rfl
   | some j =>
    have:j≠d:=fun e=>hp (by rw[e])
    simp[zqU,upd,this]
  simpa[zqU,upd]using this
 | some k =>
  have:=hk (upd (upd s.ver k (s.ver k+1)) d (s.ver d+1)) fun p hp hq=>by
   cases p with
   | none=>rfl
   | some j =>
    have h5:j≠d:=fun e=>hp (by rw[e])
    have h6:j≠k:=fun e=>by
     rcases hq with hq|hq
     ·exact hq (by rw[e])
     ·cases hq
    simp[zqU,upd,h5,h6]
  exact⟨rfl,by simpa[zqU,upd]using this⟩
noncomputable def gF (w:zV) (k:Nat):List jK:=w.files++(List.range k).flatMap fun i=>(kS (qW w) i).outs
noncomputable def oF (w:zV) (k:Nat):List wZ:=(List.range k).map (kS (qW w))
theorem zsn (w:zV) (k:Nat):gF w (k+1)=gF w k++(kS (qW w) k).outs:=by
 unfold gF
 rw[List.range_succ,List.flatMap_append,<-List.append_assoc]
 simp
theorem ztc (w:zV) (k:Nat):oF w (k+1)=oF w k++[kS (qW w) k]:=by
 unfold oF
 rw[List.range_succ,List.map_append];rfl
theorem zsU (w:zV) (k:Nat):(oF w k).length=k:=by simp[oF]
theorem ztn {w:zV} (hw:zd8 w) (k:Nat):(gF w k).length<=w.files.length+k*2000000:=by
 induction k with
 | zero=>simp[gF]
 | succ k ih =>
  have:=(zj4 hw k).2
  rw[zsn,List.length_append,Nat.add_mul];omega
abbrev zt3:Cfg:=⟨fun _=>false,fun _=>false⟩
theorem zrn (w:zV) (hb:WkB w) (hc:zr0 w=false->WkC w):PC Tryz.prog 4 [.av CZ (yV w)] (.av .bool (.b true)):=by
 have hfx:=zg4
 have hgr:=zsh w hb
 have hew:=cS w
 obtain⟨W,hW⟩:∃W,W=yV w:=⟨_,rfl⟩
 have hWE:W=.agg [.sl .no (w.files.map zK),.sl .no (w.acts.map wW),.sl .no (strs w.wants),.b w.keep]:=hW
 rw[<-hW]at hgr hew |-
 refine zow Tryz.func4 zt3 fun imm0 w0=>?_
 simp (disch:=omega) [zz]
 refine qO hgr rfl rfl (by simp) (by simp[qR,TV.er,hew]) ?_
 by_cases hg:zr0 w=true
 ·simp (disch:=omega) [zz,hg]
  refine zcv hfx ?_
  simp (disch:=omega) [zz,Tryz.f4]
 have hg':zr0 w=false:=by simpa using hg
 replace hc:=hc hg'
 have hck:=zs5 w hc
 have hof:=ztz w hc
 rw[<-hW]at hck hof
 simp (disch:=omega) [zz,hg']
 refine qO hck rfl rfl (by simp) (by simp[qR,TV.er,hew]) ?_
 by_cases h0:X0 w=0
 rotate_left
 ·simp (disch:=omega) [zz,h0]
  refine zcv hfx ?_
  simp (disch:=omega) [zz,Tryz.f4]
 have hw:=hc.ok h0
 have hz:=zst h0
 have hn8:w.acts.length<=8:=by
  unfold zr0 at hg'
  simp only[Bool.or_eq_false_iff,decide_eq_false_iff_not]at hg'
  omega
 have hfn:=hb.fn
 have hgl:∀k,k<=8->(gF w k).length<=20000000:=fun k hk=>by
  have h1:=ztn hw k
  have h2:k*2000000<=8*2000000:=Nat.mul_le_mul_right _ hk
  omega
 have hg0:gF w 0=w.files:=by simp[gF]
 simp (disch:=omega) [zz,h0,hWE]
 refine zs6 (o:=none) (by simp;omega) (by simp;omega) (by simp) (by simp) ?_
 intro ver1
 simp (disch:=omega) [zz]
 refine AT.loopV (α:=Nat × Option Nat × Option Nat) (fun x ver=>St.of [(1,.loc 1 []),(3,.av (.slice 43) (.sl (zqU ver x.2.1) ((gF w x.1).map zK))),(4,.av (.slice 31) (.sl (zqU ver x.2.2) ((oF w x.1).map z7))),(28,.av (.int .i64) (.i .i64 w.acts.length)),(29,.av (.int .i64) (.i .i64 x.1))] [(1,(CZ,W))] ver [])
  (fun x=>x.1<=w.acts.length/\(x.2.1=some 25\/x.2.1=some 54)/\(x.2.2=none\/x.2.2=some 43)) (fun x=>w.acts.length-x.1) (0,some 25,none) ?_ ?_ ?_
 ·have ho0:oF w 0=[]:=rfl
  apply Le.of<;>simp[zR,qI,z6,hWE,zqU,hg0,ho0]<;>try omega
 ·simp
 rintro⟨k,o1,o2⟩ ver2 ⟨hk,q1,q2⟩ KL hN hE
 simp only at hk hN q1 q2
 refine zrd zt3 ?_
 by_cases hlt:k<w.acts.length
 ·have hlt':(k:Int)<w.acts.length:=by omega
  have hofk:=hof k
  have hofv:ofV w k=(kS (qW w) k,0):=by
   unfold ofV
   rw[if_neg (by simp[h0]),if_neg (by omega),Int.toNat_natCast]
  rw[hofv]at hofk
  have hgk:=hgl k (by omega)
  have hgk1:=hgl (k+1) (by omega)
  have hol:=zsU w k
  have hos:=ztc w k
  have hgs:=zsn w k
  obtain⟨o,ho⟩:∃o,o=kS (qW w) k:=⟨_,rfl⟩
  rw[<-ho]at hofk hos hgs
  simp (disch:=omega) [zz,hlt']
  refine qO hofk rfl rfl (by simp) (by simp[qR,TV.er,hew]) ?_
  simp (disch:=omega) [zz]
  refine zrl (by simp;omega) (by simp;omega) (by simp) (by simp) ?_
  intro ver3 hv3
  have ht1:zqU ver3 o1=zqU ver2 o1:=hv3 o1 (by rcases q1 with rfl|rfl<;>simp) (by rcases q2 with rfl|rfl<;>rcases q1 with rfl|rfl<;>simp)
  clear hv3
  simp (disch:=omega) [zz,z7,qL]
  refine AT.loopV (α:=Nat × Option Nat) (fun x ver=>St.of [(1,.loc 1 []),(3,.av (.slice 43) (.sl (zqU ver x.2) ((gF w k++o.outs.take x.1).map zK))),(4,.av (.slice 31) (.sl (zqU ver (some 43)) ((oF w (k+1)).map z7))),(28,.av (.int .i64) (.i .i64 w.acts.length)),(29,.av (.int .i64) (.i .i64 k)),(45,.av (.slice 43) (qL o.outs)),(46,.av (.int .i64) (.i .i64 o.outs.length)),(47,.av (.int .i64) (.i .i64 x.1))] [(1,(CZ,W))] ver [])
   (fun x=>x.1<=o.outs.length/\(x.2=some 25\/x.2=some 54)) (fun x=>o.outs.length-x.1) (0,o1) ?_ ?_ ?_
  ·apply Le.of<;>simp[zR,qI,z6,hWE,ht1,hos,z7,qL]<;>try omega
  ·exact⟨by simp,q1⟩
  rintro⟨j,o3⟩ ver4 ⟨hj,q3⟩ KL2 hN2 hE2
  simp only at hj hN2 q3
  rw[hgs,List.length_append]at hgk1
  refine zrd zt3 ?_
  by_cases hjl:j<o.outs.length
  ·have hjl':(j:Int)<o.outs.length:=by omega
   have hgo:=kG zK o.outs j hjl
   have htk:o.outs.take (j+1)=o.outs.take j++[o.outs[j]]:=List.take_succ_eq_append_getElem hjl
   obtain⟨f,hf⟩:∃f,f=o.outs[j]:=⟨_,rfl⟩
   rw[<-hf]at hgo htk
   have htl:(o.outs.take j).length<=o.outs.length:=List.length_take_le' ..
   have hap:(gF w k++o.outs.take (j+1)).map zK=(gF w k++o.outs.take j).map zK++[zK f]:=by rw[htk,<-List.append_assoc,List.map_append];rfl
   obtain⟨G,hG⟩:∃G,G=(gF w k++o.outs.take j).map zK:=⟨_,rfl⟩
   have hGl:G.length<=20000000:=by rw[hG,List.length_map,List.length_append];omega
   rw[<-hG]at hap |-
   simp (disch:=omega) [zz,hjl',hgo,qL]
   refine zrl (by simp;omega) (by simp;omega) (by simp) (by simp) ?_
   intro ver5 hv5
   have ht2:zqU ver5 (some 43)=zqU ver4 (some 43):=hv5 (some 43) (by simp) (by rcases q3 with rfl|rfl<;>simp)
   clear hv5
   simp (disch:=omega) [zz]
   refine hN2 _ (j+1,some 54) ?_ ⟨by simp only;omega,.inr rfl⟩ (by simp only;omega)
   rw[hap]
   apply Le.of<;>simp[zR,qI,z6,hWE,ht2,qL]<;>try omega
  ·have hjl':¬(j:Int)<o.outs.length:=by omega
   have hap:gF w k++o.outs.take j=gF w (k+1):=by rw[hgs,List.take_of_length_le (by omega)]
   rw[hap]
   simp (disch:=omega) [zz,hjl']
   refine hE2 _ _ (by simp) ?_
   clear hN2 hE2
   simp (disch:=omega) [zz]
   refine hN _ (k+1,o3,some 43) ?_ ⟨by simp only;omega,q3,.inr rfl⟩ (by simp only;omega)
   apply Le.of<;>simp[zR,qI,z6,hWE]<;>try omega
 ·have hkn:k=w.acts.length:=by omega
  subst hkn
  have hlt':¬(w.acts.length:Int)<w.acts.length:=by omega
  have hol:=zsU w w.acts.length
  have hall:gF w w.acts.length=zrz w:=rfl
  have hgk:=hgl w.acts.length hn8
  rw[hall]at hgk
  simp (disch:=omega) [zz,hlt']
  refine hE _ _ (by simp) ?_
  clear hN hE
  rw[hall]
  simp (disch:=omega) [zz,hol]
  refine AT.loop' (α:=Nat) (fun k=>St.of [(1,.loc 1 []),(3,.av (.slice 43) (qL (zrz w))),(57,.av (.slice 31) (.sl .no ((oF w w.acts.length).map z7))),(58,.av (.int .i64) (.i .i64 w.acts.length)),(59,.av (.int .i64) (.i .i64 k))] [(1,(CZ,W))] ver2 [])
   (fun k=>k<=w.acts.length) (fun k=>w.acts.length-k) 0 ?_ (by omega) ?_
  ·apply Le.of<;>simp[zR,qI,z6,hWE,qL]<;>try omega
  rintro k hk KL hN hE
  refine zrd zt3 ?_
  by_cases hlt:k<w.acts.length
  ·have hlt':(k:Int)<w.acts.length:=by omega
   have hg1:((oF w w.acts.length).map z7)[k]?=some (z7 (kS (qW w) k)):=by
    rw[kG z7 _ k (by rw[hol];exact hlt)];simp[oF]
   have hga:=kG wW w.acts k hlt
   have hea:=zsC hw hz hlt
   have hfa:=zt4 w.acts[k] (hw.a _ (List.getElem_mem hlt)).b (zrz w) (by omega)
   have hrm:=zt7 hw hlt
   have hsm:=zkA _ _ hrm hrm
   have hae:=pC w.acts[k]
   have hfe:=j6 (zrz w)
   obtain⟨o,ho⟩:∃o,o=kS (qW w) k:=⟨_,rfl⟩
   rw[<-ho]at hea hg1 hsm
   obtain⟨A,hA⟩:∃A,A=wW w.acts[k]:=⟨_,rfl⟩
   rw[<-hA]at hga hfa hae
   obtain⟨F,hF⟩:∃F,F=qL (zrz w):=⟨_,rfl⟩
   rw[<-hF]at hfa hfe |-
   have hoe:=Q5 o
   by_cases hk1:o.kind=1
   ·rw[hea hk1]at hfa
    simp only at hfa
    have hee:z7 o=.agg [.i .i64 1,.i .i64 o.why,qL o.outs,zC o.reads]:=by rw[<-hk1];rfl
    rw[hee]at hoe
    have hfo:AV.ers (o.outs.map zK)=o.outs.map zK:=by simp[AV.ers_eq,Function.comp_def]
    simp (disch:=omega) [zz,hlt',hg1,hol,z7,hk1,hWE,hga]
    refine qO hfa rfl rfl (by simp) (by simp[qR,TV.er,hae,hfe]) ?_
    simp (disch:=omega) [zz]
    refine qO hsm rfl rfl (by simp) (by simp[qR,TV.er,AV.er,AV.ers,kB,yA,qL,hee,hfo]) ?_
    simp (disch:=omega) [zz]
    refine hN _ (k+1) ?_ (by omega) (by omega)
    apply Le.of<;>simp[zR,qI,z6,hWE,hF]<;>try omega
   ·simp (disch:=omega) [zz,hlt',hg1,hol,z7,hk1]
    refine hN _ (k+1) ?_ (by omega) (by omega)
    apply Le.of<;>simp[zR,qI,z6,hWE,hF]<;>try omega
  ·have hlt':¬(k:Int)<w.acts.length:=by omega
   simp (disch:=omega) [zz,hlt']
   refine hE _ _ (by simp) ?_
   clear hN hE
   simp (disch:=omega) [zz]
   refine zcv hfx ?_
   simp (disch:=omega) [zz,Tryz.f4]
end
section
variable [Sel]
theorem uO {α:Type} {f:α->AV} {q:AV->Prop} {r:α->Prop} {xs:List AV} (h:∀y∈xs,q y) (hd:∀y,q y->∃a,y=f a/\r a):∃l:List α,xs=l.map f/\∀a∈l,r a:=by
 induction xs with
 | nil=>exact⟨[],rfl,by simp⟩
 | cons y ys ih =>
  obtain⟨a,ha,hr⟩:=hd y (h y (by simp))
  obtain⟨l,hl,hl2⟩:=ih fun z hz=>h z (by simp[hz])
  exact⟨a::l,by simp[ha,hl],by simpa using⟨hr,hl2⟩⟩
end
end Go.Proofs.YtdkieabmeiojjaaGreatDoor
