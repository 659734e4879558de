/- What comes of an action: scratch. No condition. -/
import Derived.Test.YtdkieabmeiojjaaGreatDoorSB3ToSBE
set_option linter.unusedSimpArgs false
set_option linter.unusedVariables false
set_option linter.unusedSectionVars false
set_option maxHeartbeats 64000000
set_option maxRecDepth 100000
namespace Go.Proofs.YtdkieabmeiojjaaGreatDoor
open Go Go.Ab
open Classical
section
variable [Sel] [SelPow] [SelMax]
theorem zaP {fs:List jK} (h:XW fs=0):fs.length<=1024/\∀j (hj:j<fs.length),JC fs j hj=0:=by
 have h0:¬1024<fs.length:=fun h0=>by unfold XW at h;rw[if_pos h0]at h;omega
 refine⟨by omega,fun j=>?_⟩
 induction j using Nat.strongRecOn with
 | ind j ih =>
  intro hj
  by_cases hs:JC fs j hj=0
  ·exact hs
  ·rw[zgN h0 hj hs fun m hm=>ih m hm (by omega)]at h
   exact absurd h hs
theorem zfp {fs:List jK} {j:Nat} {hj:j<fs.length} (h:JC fs j hj=0):fs[j].data.length<=65536:=by
 unfold JC at h
 split at h
 ·omega
 ·split at h
  ·split at h
   ·omega
   ·split at h
    ·omega
    ·split at h<;>omega
  ·split at h<;>omega
theorem zi4 {fs:List jK} (h:XW fs=0):pS fs=false:=by
 obtain⟨_,h2⟩:=zaP h
 unfold pS
 rw[List.any_eq_false]
 intro f hf
 obtain⟨j,hj,rfl⟩:=List.getElem_of_mem hf
 have:=zfp (h2 j hj)
 simp;omega
theorem zds:∀ {l:List QT} {k:Nat} {L:List Txt},(goC k L l).1=0->∀a∈l,(Y3 a.tool).1=0
 | [],_,_,_,a,ha=>by simp at ha
 | b::l,k,L,h,a,ha=>by
  unfold goC at h
  by_cases h0:pF b L=0
  ·rw[if_pos h0]at h
   rcases List.mem_cons.1 ha with rfl|ha
   ·unfold pF at h0
    by_cases h1:(Y3 a.tool).1=0
    ·exact h1
    ·rw[if_pos h1]at h0;exact absurd h0 h1
   ·exact zds h a ha
  ·rw[if_neg h0]at h;exact absurd h h0
theorem zfQ {t:Txt} (h:(Y3 t).1=0):∃cs,zL t=.ok cs:=by
 unfold Y3 at h
 cases hc:zL t with
 | ok cs=>exact⟨cs,rfl⟩
 | error e =>
  rw[hc]at h
  obtain⟨e,n⟩:=e
  have:=YO hc
  simp only at h
  omega
theorem WkC.ok {w:zV} (hc:WkC w) (h:X0 w=0):zd8 w:=by
 unfold X0 at h
 by_cases h1:XW w.files=0
 rotate_left
 ·rw[if_pos h1]at h;exact absurd h h1
 rw[if_neg (by simp[h1])]at h
 by_cases h2:(gO w.acts).1=0
 rotate_left
 ·rw[if_pos h2]at h;exact absurd h h2
 have hn:¬500<w.acts.length:=fun hn=>by unfold gO at h2;rw[if_pos hn]at h2;simp at h2
 unfold gO at h2
 rw[if_neg hn]at h2
 obtain⟨hl,_⟩:=zaP h1
 exact⟨by omega,fun a ha=>⟨(hc.a a ha).b,zfQ (zds h2 a ha),(hc.a a ha).o⟩,by omega,zi4 h1⟩
end
section
variable [Sel]
theorem zeW (a b:List KH) (ha:a.length<=9223372036854775807) (hb:b.length<=9223372036854775807) :
  PC Tryz.prog 41 [.av (.slice 97) (zC a),.av (.slice 97) (zC b)] (.av .bool (.b (decide (a=b)))):=by
 refine zow Tryz.func41 cf0 fun imm0 w0=>?_
 by_cases hab:a.length=b.length
 rotate_left
 ·have h1:¬(a.length:Int)=b.length:=by omega
  have h2:¬a=b:=fun e=>hab (by rw[e])
  simp (disch:=omega) [zz,h1,zC,Tryz.f41,h2]
 have h1:(a.length:Int)=b.length:=by omega
 simp (disch:=omega) [zz,h1,zC]
 refine AT.loop' (α:=Nat) (fun k=>St.of [(0,.av (.slice 97) (zC a)),(1,.av (.slice 97) (zC b)),(12,.av (.int .i64) (.i .i64 b.length)),(13,.av (.int .i64) (.i .i64 k))] [] (fun _=>0) [])
  (fun k=>k<=b.length/\∀i,i<k->∀(h1:i<a.length) (h2:i<b.length),a[i]=b[i]) (fun k=>b.length-k) 0 ?_ ?_ ?_
 ·apply Le.of<;>simp[le9,zC]<;>try omega
 ·exact⟨by omega,fun i h=>by omega⟩
 rintro k ⟨hk,hall⟩ KL hN hE
 refine zrd cf0 ?_
 by_cases hlt:k<b.length
 ·have hlt':(k:Int)<b.length:=by omega
  have hga:=kG qX a k (by omega)
  have hgb:=kG qX b k hlt
  have hlta:(k:Int)<a.length:=by omega
  by_cases hc:a[k]=b[k]
  ·simp (disch:=omega) [zz,hlt',hlta,hga,hgb,zC,WZ,hc]
   (repeat with_reducible refine om ?_)
   refine hN _ (k+1) ?_ ⟨by omega,fun i hi h1 h2=>?_⟩ (by omega)
   ·apply Le.of<;>simp[le9,zC]<;>try omega
   ·rcases Nat.lt_or_ge i k with h|h
    ·exact hall i h h1 h2
    ·have:i=k:=by omega
     subst this;exact hc
  ·have hne:¬a=b:=fun e=>hc (by subst e;rfl)
   simp (disch:=omega) [zz,hlt',hlta,hga,hgb,zC,WZ,hc]
   (repeat with_reducible refine om ?_)
   refine hE _ _ (by simp) ?_
   simp (disch:=omega) [zz,Tryz.f41,hne]
 ·have hlt':¬(k:Int)<b.length:=by omega
  simp (disch:=omega) [zz,hlt',zC]
  refine hE _ _ (by simp) ?_
  have:a=b:=WI hab fun i h1 h2=>hall i (by omega) h1 h2
  simp (disch:=omega) [zz,Tryz.f41,this]
end
section
variable [Sel] [SelPow] [SelMax]
theorem za3 (a b:List jK) (ha:a.length<=9223372036854775807) (hb:b.length<=9223372036854775807) :
  PC Tryz.prog 16 [.av (.slice 43) (qL a),.av (.slice 43) (qL b)] (.av .bool (.b (decide (a=b)))):=by
 refine zow Tryz.func16 cf0 fun imm0 w0=>?_
 by_cases hab:a.length=b.length
 rotate_left
 ·have h1:¬(a.length:Int)=b.length:=by omega
  have h2:¬a=b:=fun e=>hab (by rw[e])
  simp (disch:=omega) [zz,h1,qL,Tryz.f16,h2]
 have h1:(a.length:Int)=b.length:=by omega
 simp (disch:=omega) [zz,h1,qL]
 refine AT.loop' (α:=Nat) (fun k=>St.of [(0,.av (.slice 43) (qL a)),(1,.av (.slice 43) (qL b)),(12,.av (.int .i64) (.i .i64 b.length)),(13,.av (.int .i64) (.i .i64 k))] [] (fun _=>0) [])
  (fun k=>k<=b.length/\∀i,i<k->∀(h1:i<a.length) (h2:i<b.length),a[i]=b[i]) (fun k=>b.length-k) 0 ?_ ?_ ?_
 ·apply Le.of<;>simp[le9,qL]<;>try omega
 ·exact⟨by omega,fun i h=>by omega⟩
 rintro k ⟨hk,hall⟩ KL hN hE
 refine zrd cf0 ?_
 by_cases hlt:k<b.length
 ·have hlt':(k:Int)<b.length:=by omega
  have hga:=kG zK a k (by omega)
  have hgb:=kG zK b k hlt
  have hlta:(k:Int)<a.length:=by omega
  by_cases hc:a[k]=b[k]
  ·simp (disch:=omega) [zz,hlt',hlta,hga,hgb,qL,WS,hc]
   (repeat with_reducible refine om ?_)
   refine hN _ (k+1) ?_ ⟨by omega,fun i hi h1 h2=>?_⟩ (by omega)
   ·apply Le.of<;>simp[le9,qL]<;>try omega
   ·rcases Nat.lt_or_ge i k with h|h
    ·exact hall i h h1 h2
    ·have:i=k:=by omega
     subst this;exact hc
  ·have hne:¬a=b:=fun e=>hc (by subst e;rfl)
   simp (disch:=omega) [zz,hlt',hlta,hga,hgb,qL,WS,hc]
   (repeat with_reducible refine om ?_)
   refine hE _ _ (by simp) ?_
   simp (disch:=omega) [zz,Tryz.f16,hne]
 ·have hlt':¬(k:Int)<b.length:=by omega
  simp (disch:=omega) [zz,hlt',qL]
  refine hE _ _ (by simp) ?_
  have:a=b:=WI hab fun i h1 h2=>hall i (by omega) h1 h2
  simp (disch:=omega) [zz,Tryz.f16,this]
theorem zkN {a b:wZ}:a=b<->a.kind=b.kind/\a.why=b.why/\a.outs=b.outs/\a.reads=b.reads:=by
 cases a;cases b;simp
def zjw (o:wZ):Prop:=o.outs.length<=9223372036854775807/\o.reads.length<=9223372036854775807
theorem zlp (a b:wZ) (ha:zjw a) (hb:zjw b):PC Tryz.prog 15 [.av (q9 Tryz.prog 31) (z7 a),.av (q9 Tryz.prog 31) (z7 b)] (.av .bool (.b (decide (a=b)))):=by
 have hf:=za3 a.outs b.outs ha.1 hb.1
 have hr:=zeW a.reads b.reads ha.2 hb.2
 have e1:=j6 a.outs
 have e2:=j6 b.outs
 have e3:=YA a.reads
 have e4:=YA b.reads
 have hd:=zkN (a:=a) (b:=b)
 refine zow Tryz.func15 cf0 fun imm0 w0=>?_
 by_cases h1:a.kind=b.kind
 rotate_left
 ·have hne:¬a=b:=fun e=>h1 (by rw[e])
  simp (disch:=omega) [zz,z7,h1,hne,Tryz.f15]
 by_cases h2:a.why=b.why
 rotate_left
 ·have hne:¬a=b:=fun e=>h2 (by rw[e])
  simp (disch:=omega) [zz,z7,h1,h2,hne,Tryz.f15]
 simp (disch:=omega) [zz,z7,h1,h2]
 refine qO hf rfl rfl (by simp) (by simp[qR,TV.er,AV.er,e1,e2]) ?_
 by_cases h3:a.outs=b.outs
 rotate_left
 ·have hne:¬a=b:=fun e=>h3 (by rw[e])
  simp (disch:=omega) [zz,h3,hne,Tryz.f15]
 simp (disch:=omega) [zz,h3]
 refine qO hr rfl rfl (by simp) (by simp[qR,TV.er,AV.er,e3,e4]) ?_
 by_cases h4:a.reads=b.reads
 ·have he:a=b:=hd.2 ⟨h1,h2,h3,h4⟩
  simp (disch:=omega) [zz,h4,he,Tryz.f15]
 ·have hne:¬a=b:=fun e=>h4 (by rw[e])
  simp (disch:=omega) [zz,h4,hne,Tryz.f15]
end
end Go.Proofs.YtdkieabmeiojjaaGreatDoor
