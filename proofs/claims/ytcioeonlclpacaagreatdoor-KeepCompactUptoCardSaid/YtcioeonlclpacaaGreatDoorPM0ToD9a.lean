/- The reference's May, Dir, Under: the walks. No condition beyond each theorem's own. -/
import Derived.Test.YtcioeonlclpacaaGreatDoorSH2ToP16
import Derived.Test.YtcioeonlclpacaaGreatDoorVCaToP14
import Derived.Test.YtcioeonlclpacaaGreatDoorP25ToG2
set_option linter.unusedSimpArgs false
set_option linter.unusedVariables false
set_option linter.unusedSectionVars false
section
set_option maxRecDepth 100000
namespace Go.Proofs.YtcioeonlclpacaaGreatDoor
open Go Go.Ab
open Classical
variable [Sel]
theorem zh6 (p:List (List UInt8)) (k:Nat) (h:k<p.length):(strs p)[k]?=some (.s p[k]):=by simp[strs,List.getElem?_eq_getElem h]
set_option maxHeartbeats 8000000 in
theorem zl8 (l:List UInt8) (hl:l.length≤1000000000):PC Tryz.prog 45 [.av .str (.s l)] (.av .bool (.b (yV l))):=by
 refine zow Tryz.func45 cf0 fun imm0 w0=>?_
 simp (disch:=omega) [zz]
 refine zcv (u9 l hl) ?_
 simp (disch:=omega) [zz]
 have hle:=QQ 47 l
 obtain⟨p,hp⟩:∃p,p=qT 47 l:=⟨_,rfl⟩
 have hlen:∀x∈p,x.length≤l.length:=fun x hx=>kU 47 l x (by rw[←hp];exact hx)
 rw[←hp]at hle ⊢
 refine AT.loop' (α:=Nat) (fun k=>St.of [(3,.av (.slice 9) (.sl .no (strs p))),(4,.av (.int .i64) (.i .i64 k))] [] (fun _=>0) []) (fun k=>k≤p.length∧∀x∈p.take k,Q0 x=true) (fun k=>p.length-k) 0 ?_ ?_ ?_
 ·apply Le.of<;>simp[qU,qG,qO,qH,qP,qK,qF,qI,qJ,qN,zX]<;>try omega
 ·simp
 rintro k ⟨hk,hall⟩ KL hN hE
 refine qM (cf:=cf0) laid mixed _ _ _ (by kernel_rfl) ?_
 by_cases hlt:k<p.length
 ·have hlt':(k:Int)<p.length:=by omega
  have hx:=hlen p[k] (List.getElem_mem _)
  have hg:=zh6 p k hlt
  simp (disch:=omega) [zz,hlt',hg]
  refine zcv (zcA p[k] (by omega)) ?_
  cases hpv:Q0 p[k]
  ·simp (disch:=omega) [zz]
   refine hE _ _ (by simp) ?_
   have:yV l=false:=by
    simp only[yV,Bool.and_eq_false_iff]
    right
    rw[List.all_eq_false]
    exact⟨p[k],by rw[←hp];exact List.getElem_mem _,by simp[hpv]⟩
   simp (disch:=omega) [zz,Tryz.f45,this]
  ·simp (disch:=omega) [zz]
   refine hN _ (k+1) ?_ ⟨by omega,by rw[Z2 hlt];exact⟨hall,hpv⟩⟩ (by omega)
   apply Le.of<;>simp[qU,qG,qO,qH,qP,qK,qF,qI,qJ,qN,zX]<;>try omega
 ·have hlt':¬(k:Int)<p.length:=by omega
  simp (disch:=omega) [zz,hlt']
  refine hE _ _ (by simp) ?_
  rw[List.take_of_length_le (by omega)]at hall
  have hal:p.all Q0=true:=by simpa using hall
  simp (disch:=omega) [zz,Tryz.f45,yV,←hp,hal]
  omega
theorem zvw (p:List (List UInt8)) (k:Nat):(zuL (p.take k)).length≤(zuL p).length:=by
 by_cases h1:p.take k=[]
 ·rw[h1];simp[zuL]
 by_cases h2:p.drop k=[]
 ·have:=List.take_append_drop k p
  rw[h2,List.append_nil]at this
  rw[this];exact Nat.le_refl _
 ·have:=zv1 _ _ h1 h2
  rw[List.take_append_drop]at this
  rw[this];simp
set_option maxHeartbeats 8000000 in
theorem zwx (l:List UInt8) (hl:l.length≤1000000000):PC Tryz.prog 101 [.av .str (.s l)] (.av .str (.s (zuX l))):=by
 refine zow Tryz.func101 cf0 fun imm0 w0=>?_
 (simp (maxSteps:=2000000) (disch:=first|omega|assumption) [zz])
 refine zcv (u9 l hl) ?_
 (simp (maxSteps:=2000000) (disch:=first|omega|assumption) [zz])
 refine zcv (zl8 l hl) ?_
 have hle:=QQ 47 l
 have hne:=JJ 47 l
 obtain⟨p,hp⟩:∃p,p=qT 47 l:=⟨_,rfl⟩
 have hlen:∀x∈p,x.length≤l.length:=fun x hx=>kU 47 l x (by rw[←hp];exact hx)
 have hjl:zuL p=l:=by rw[hp];exact zuR l
 have hjt:=fun k=>zvw p k
 rw[hjl]at hjt
 have hd:zuX l=if yV l=true∧p.length≠1 then zuL p.dropLast else []:=by rw[hp];rfl
 rw[←hp]at hle hne ⊢
 have hpos:0<p.length:=List.length_pos_iff.2 hne
 cases hm:yV l
 ·(simp (maxSteps:=2000000) (disch:=first|omega|assumption) [zz,Tryz.f101,hd,hm])
 by_cases h1:p.length=1
 ·(simp (maxSteps:=2000000) (disch:=first|omega|assumption) [zz,h1,Tryz.f101,hd,hm])
 have h1':¬(p.length:Int)=1:=by omega
 have hg0:=zh6 p 0 hpos
 (simp (maxSteps:=2000000) (disch:=first|omega|assumption) [zz,h1',hg0])
 refine⟨hpos,?_⟩
 refine AT.loop' (α:=Nat) (fun k=>St.of [(3,.av (.slice 9) (.sl .no (strs p))),(4,.av .str (.s (zuL (p.take k)))),(5,.av (.int .i64) (.i .i64 k))] [] (fun _=>0) []) (fun k=>1≤k∧k+1≤p.length) (fun k=>p.length-k) 1 ?_ ?_ ?_
 ·have e:zuL (p.take 1)=p[0]:=by
   cases p with
   | nil=>exact absurd rfl hne
   | cons x r=>simp[zuL]
  apply Le.of<;>simp[qU,qG,qO,qH,qP,qK,qF,qI,qJ,qN,zX,e]<;>try omega
 ·omega
 rintro k ⟨hk1,hk2⟩ KL hN hE
 refine qM (cf:=cf0) laid mixed _ _ _ (by kernel_rfl) ?_
 by_cases hlt:k+1<p.length
 ·have hlt':(k:Int)<(p.length:Int)-1:=by omega
  have hx:=hlen p[k] (List.getElem_mem _)
  have hg:=zh6 p k (by omega)
  have hj:=hjt k
  have hsn:zuL (p.take (k+1))=zuL (p.take k)++47::p[k]:=by
   rw[List.take_succ_eq_append_getElem (by omega),zv1 _ _ (by
    intro h
    rcases List.take_eq_nil_iff.1 h with h|h
    ·omega
    ·exact hne h) (by simp)]
   rfl
  (simp (maxSteps:=2000000) (disch:=first|omega|assumption) [zz,hlt',hg])
  (repeat with_reducible refine om ?_)
  refine hN _ (k+1) ?_ ⟨by omega,by omega⟩ (by omega)
  apply Le.of<;>simp[qU,qG,qO,qH,qP,qK,qF,qI,qJ,qN,zX,hsn]<;>try omega
 ·have hlt':¬(k:Int)<(p.length:Int)-1:=by omega
  (simp (maxSteps:=2000000) (disch:=first|omega|assumption) [zz,hlt'])
  refine hE _ _ (by simp) ?_
  have e:p.take k=p.dropLast:=by rw[List.dropLast_eq_take];congr 1;omega
  (simp (maxSteps:=2000000) (disch:=first|omega|assumption) [zz,Tryz.f101,hd,hm,h1,e])
set_option maxHeartbeats 8000000 in
theorem zvB (d:List UInt8) (hdl:d.length≤1000000000):∀(n:Nat) (l:List UInt8),l.length≤n→l.length≤1000000000→PC Tryz.prog 46 [.av .str (.s l),.av .str (.s d)] (.av .bool (.b (zuT l d)))
 | 0,l,hn,hl=>by
  obtain rfl:l=[]:=List.eq_nil_of_length_eq_zero (by omega)
  refine zow Tryz.func46 cf0 fun imm0 w0=>?_
  (simp (maxSteps:=2000000) (disch:=first|omega|assumption) [zz])
  refine qL (zl8 [] (by simp)) rfl rfl (by simp) (by simp[qS,TV.er,AV.er,coC]) ?_
  have hm:yV []=false:=by decide
  (simp (maxSteps:=2000000) (disch:=first|omega|assumption) [zz,Tryz.f46,zuT,hm])
 | n+1,l,hn,hl=>by
  refine zow Tryz.func46 cf0 fun imm0 w0=>?_
  (simp (maxSteps:=2000000) (disch:=first|omega|assumption) [zz])
  refine qL (zl8 l hl) rfl rfl (by simp) (by simp[qS,TV.er,AV.er,coC]) ?_
  cases hm:yV l
  ·(simp (maxSteps:=2000000) (disch:=first|omega|assumption) [zz,Tryz.f46,zuT,hm])
  by_cases hd:d=[]
  ·(simp (maxSteps:=2000000) (disch:=first|omega|assumption) [zz,Tryz.f46,zuT,hm,hd])
  (simp (maxSteps:=2000000) (disch:=first|omega|assumption) [zz,hd])
  refine qL (zwx l hl) rfl rfl (by simp) (by simp[qS,TV.er,AV.er,coC]) ?_
  have hst:=zvW hm hd
  have hlt:=zwv (l:=l)
  generalize hu:zuX l=u at *
  by_cases h1:u=[]
  ·(simp (maxSteps:=2000000) (disch:=first|omega|assumption) [zz,Tryz.f46,hst,h1])
  by_cases h2:u=d
  ·(simp (maxSteps:=2000000) (disch:=first|omega|assumption) [zz,Tryz.f46,hst,h1,h2,hd])
  have hlu:=hlt h1
  (simp (maxSteps:=2000000) (disch:=first|omega|assumption) [zz,h1,h2])
  refine qL (zvB d hdl n u (by omega) (by omega)) rfl rfl (by simp) (by simp[qS,TV.er,AV.er,coC]) ?_
  (simp (maxSteps:=2000000) (disch:=first|omega|assumption) [zz,Tryz.f46,hst,h1,h2])
theorem zR1:∀(a b:List UInt8),a≠b→Op.bytesLess a b=!Op.bytesLess b a
 | [],[],h=>absurd rfl h
 | [],_::_,_=>by simp[Op.bytesLess]
 | _::_,[],_=>by simp[Op.bytesLess]
 | a::x,b::y,h=>by
  simp only[Op.bytesLess]
  by_cases hab:a=b
  ·subst hab
   have:=zR1 x y (fun e=>h (by rw[e]))
   simp[this]
  ·have hba:¬b=a:=fun e=>hab e.symm
   simp only[beq_iff_eq,hab,hba,Bool.false_and,Bool.or_false,beq_eq_false_iff_ne.2 hab,beq_eq_false_iff_ne.2 hba]
   rw[Bool.eq_iff_iff]
   simp only[decide_eq_true_eq,Bool.not_eq_true',decide_eq_false_iff_not,UInt8.lt_iff_toNat_lt]
   have:a.toNat≠b.toNat:=fun e=>hab (UInt8.toNat_inj.1 e)
   omega
set_option maxHeartbeats 16000000 in
theorem zLw (t:zaP) (ht:TrP t) (hr2:∀r∈t.reads,r.path.length≤1000000000) (ho2:∀r∈t.outs,r.path.length≤1000000000):PC Tryz.prog 15 [.av (qD Tryz.prog 49) (qK t)] (.av (.int .i64) (.i .i64 (zCW t))):=by
 obtain⟨⟨hr1,_⟩,ho1,_⟩:=ht
 refine zow Tryz.func15 cf0 fun imm0 w0=>?_
 by_cases h1:500<t.reads.length
 ·have h1':(500:Int)<t.reads.length:=by omega
  (simp (maxSteps:=2000000) (disch:=first|omega|assumption) [zz,qK,qF,qJ,h1',Tryz.f15,zCW,h1])
 have h1':¬(500:Int)<t.reads.length:=by omega
 by_cases h2:1000<t.outs.length
 ·have h2':(1000:Int)<t.outs.length:=by omega
  (simp (maxSteps:=2000000) (disch:=first|omega|assumption) [zz,qK,qF,qJ,h1',h2',Tryz.f15,zCW,h1,h2])
 have h2':¬(1000:Int)<t.outs.length:=by omega
 have hcv:zCW t=if zD1 [] t.reads≠0 then zD1 [] t.reads else zD4 none t.outs:=by simp[zCW,h1,h2]
 (simp (maxSteps:=2000000) (disch:=first|omega|assumption) [zz,qK,qF,qJ,h1',h2'])
 refine AT.loop' (α:=Nat) (fun k=>St.of [(1,.loc 1 []),(3,.av (.int .i64) (.i .i64 k))] [(1,(qD Tryz.prog 49,qK t))] (fun _=>0) [])
  (fun k=>k≤t.reads.length∧zD1 [] t.reads=zD1 ((t.reads.take k).map (·.path)) (t.reads.drop k)) (fun k=>t.reads.length-k) 0 ?_ ?_ ?_
 ·apply Le.of<;>simp[qU,qG,qO,qH,qP,qK,qF,qI,qJ,qN,qK,qF,qJ]<;>try omega
 ·simp
 rintro k ⟨hk,hpk⟩ KL hN hE
 refine qM (cf:=cf0) laid mixed _ _ _ (by kernel_rfl) ?_
 by_cases hlt:k<t.reads.length
 ·have hlt':(k:Int)<t.reads.length:=by omega
  have hdr:t.reads.drop k=t.reads[k]::t.reads.drop (k+1):=(List.getElem_cons_drop hlt).symm
  have htk:(t.reads.take (k+1)).map (·.path)=(t.reads.take k).map (·.path)++[t.reads[k].path]:=by
   rw[List.take_succ_eq_append_getElem hlt]
   simp only[List.map_append,List.map_cons,List.map_nil]
  have hg:=KB qI t.reads k hlt
  have hpl:=hr2 t.reads[k] (List.getElem_mem _)
  obtain⟨r,hr⟩:∃r,r=t.reads[k]:=⟨_,rfl⟩
  rw[←hr]at hdr htk hg hpl
  have hml:((t.reads.take k).map (·.path)).length=k:=by simp;omega
  have hmg:∀j (hj:j<k) (hj2:j<t.reads.length),t.reads[j].path=((t.reads.take k).map (·.path))[j]'(by rw[hml];exact hj):=by
   intro j hj hj2;simp
  obtain⟨met,hmet⟩:∃met,met=(t.reads.take k).map (·.path):=⟨_,rfl⟩
  have hin0:r.path∈met↔∃j,∃(hj:j<k) (hj2:j<t.reads.length),t.reads[j].path=r.path:=by
   rw[hmet]
   constructor
   ·intro h
    obtain⟨j,hj,he⟩:=List.mem_iff_getElem.1 h
    rw[hml]at hj
    exact⟨j,hj,by omega,by rw[hmg j hj (by omega)];exact he⟩
   ·rintro⟨j,hj,hj2,he⟩
    rw[←he,hmg j hj hj2]
    exact List.getElem_mem _
  rw[←hmet]at hpk htk
  rw[hdr,zD1]at hpk
  (simp (maxSteps:=2000000) (disch:=first|omega|assumption) [zz,hlt',hg,qK,qF,qI])
  refine zcv (zl8 r.path (by omega)) ?_
  cases hm:yV r.path
  ·rw[if_pos hm]at hpk
   (simp (maxSteps:=2000000) (disch:=first|omega|assumption) [zz])
   refine hE _ _ (by simp) ?_
   (simp (maxSteps:=2000000) (disch:=first|omega|assumption) [zz,Tryz.f15,hcv,hpk])
  rw[if_neg (by simp[hm])]at hpk
  (simp (maxSteps:=2000000) (disch:=first|omega|assumption) [zz])
  refine AT.loop' (α:=Nat) (fun j=>St.of [(1,.loc 1 []),(3,.av (.int .i64) (.i .i64 k)),(4,.loc 4 []),(5,.av (.int .i64) (.i .i64 j))] [(1,(qD Tryz.prog 49,qK t)),(4,(qD Tryz.prog 105,qI r))] (fun _=>0) [])
   (fun j=>j≤k∧∀i,i<j→∀(h:i<t.reads.length),t.reads[i].path≠r.path) (fun j=>k-j) 0 ?_ ?_ ?_
  ·apply Le.of<;>simp[qU,qG,qO,qH,qP,qK,qF,qI,qJ,qN,qK,qF,qJ,qI]<;>try omega
  ·exact⟨by omega,fun i h=>by omega⟩
  rintro j ⟨hj,hall⟩ KL2 hN2 hE2
  refine qM (cf:=cf0) laid mixed _ _ _ (by kernel_rfl) ?_
  by_cases hjk:j<k
  ·have hjk':(j:Int)<k:=by omega
   have hjl:j<t.reads.length:=by omega
   have hjl':(j:Int)<t.reads.length:=by omega
   have hgj:=KB qI t.reads j hjl
   obtain⟨q,hq⟩:∃q,q=t.reads[j]:=⟨_,rfl⟩
   rw[←hq]at hgj
   by_cases he:q.path=r.path
   ·have hin:r.path∈met:=hin0.2 ⟨j,hjk,hjl,by rw[←hq];exact he⟩
    rw[if_pos hin]at hpk
    (simp (maxSteps:=2000000) (disch:=first|omega|assumption) [zz,hjk,hjk',hjl',hgj,qK,qF,qI,he])
    (repeat with_reducible refine om ?_)
    refine hE2 _ _ (by simp) ?_
    (simp (maxSteps:=2000000) (disch:=first|omega|assumption) [zz])
    refine hE _ _ (by simp) ?_
    (simp (maxSteps:=2000000) (disch:=first|omega|assumption) [zz,Tryz.f15,hcv,hpk])
   ·(simp (maxSteps:=2000000) (disch:=first|omega|assumption) [zz,hjk,hjk',hjl',hgj,qK,qF,qI,he])
    (repeat with_reducible refine om ?_)
    refine hN2 _ (j+1) ?_ ⟨by omega,fun i hi h=>?_⟩ (by omega)
    ·apply Le.of<;>simp[qU,qG,qO,qH,qP,qK,qF,qI,qJ,qN,qK,qF,qJ,qI]<;>try omega
    ·rcases Nat.lt_or_ge i j with h3|h3
     ·exact hall i h3 h
     ·have:i=j:=by omega
      subst this;rw[←hq];exact he
  have hjk':¬(j:Int)<k:=by omega
  have hin:¬r.path∈met:=fun h=>by
   obtain⟨i,hi,hi2,he⟩:=hin0.1 h
   exact hall i (by omega) hi2 he
  rw[if_neg hin]at hpk
  (simp (maxSteps:=2000000) (disch:=first|omega|assumption) [zz,hjk,hjk'])
  refine hE2 _ _ (by simp) ?_
  cases his:r.is
  ·by_cases hz:r.sum=zc4
   ·rw[if_neg (by simp[hz])]at hpk
    (simp (maxSteps:=2000000) (disch:=first|omega|assumption) [zz,qI,his,hz,zCZ,-List.reduceReplicate])
    refine hN _ (k+1) ?_ ⟨by omega,by rw[htk];exact hpk⟩ (by omega)
    apply Le.of<;>simp[qU,qG,qO,qH,qP,qK,qF,qI,qJ,qN,qK,qF,qJ]<;>try omega
   ·rw[if_pos ⟨his,hz⟩]at hpk
    have hz':¬r.sum.map (fun b=>AV.i .u8 b.toNat)=List.replicate 32 (.i .u8 0):=by
     intro h
     have:=zCZ
     simp only[KW,AV.agg.injEq]at this
     exact hz (zDL.1 (h.trans this.symm))
    (simp (maxSteps:=2000000) (disch:=first|omega|assumption) [zz,qI,his,KW,hz',-List.reduceReplicate])
    refine hE _ _ (by simp) ?_
    (simp (maxSteps:=2000000) (disch:=first|omega|assumption) [zz,Tryz.f15,hcv,hpk])
  ·rw[if_neg (by simp[his])]at hpk
   (simp (maxSteps:=2000000) (disch:=first|omega|assumption) [zz,qI,his])
   refine hN _ (k+1) ?_ ⟨by omega,by rw[htk];exact hpk⟩ (by omega)
   apply Le.of<;>simp[qU,qG,qO,qH,qP,qK,qF,qI,qJ,qN,qK,qF,qJ]<;>try omega
 have hlt':¬(k:Int)<t.reads.length:=by omega
 rw[List.drop_of_length_le (by omega),zD1]at hpk
 have hcv2:zCW t=zD4 none t.outs:=by rw[hcv,hpk];simp
 (simp (maxSteps:=2000000) (disch:=first|omega|assumption) [zz,hlt',qK,qF])
 refine hE _ _ (by simp) ?_
 (simp (maxSteps:=2000000) (disch:=first|omega|assumption) [zz,qK,qJ])
 refine AT.loop' (α:=Nat) (fun k=>St.of [(1,.loc 1 []),(6,.av (.int .i64) (.i .i64 k))] [(1,(qD Tryz.prog 49,qK t))] (fun _=>0) [])
  (fun k=>k≤t.outs.length∧zD4 none t.outs=zD4 (zEf t.outs k) (t.outs.drop k)) (fun k=>t.outs.length-k) 0 ?_ ?_ ?_
 ·apply Le.of<;>simp[qU,qG,qO,qH,qP,qK,qF,qI,qJ,qN,qK,qF,qJ]<;>try omega
 ·simp[zEf]
 rintro k2 ⟨hk2,hpk2⟩ KL2 hN2 hE2
 refine qM (cf:=cf0) laid mixed _ _ _ (by kernel_rfl) ?_
 by_cases hlt2:k2<t.outs.length
 ·have hlt2':(k2:Int)<t.outs.length:=by omega
  have hdr:t.outs.drop k2=t.outs[k2]::t.outs.drop (k2+1):=(List.getElem_cons_drop hlt2).symm
  have hpn:zEf t.outs (k2+1)=some t.outs[k2].path:=by simp[zEf,List.getElem?_eq_getElem hlt2]
  have hg:=KB qN t.outs k2 hlt2
  have hpl:=ho2 t.outs[k2] (List.getElem_mem _)
  obtain⟨m,hm⟩:∃m,m=t.outs[k2]:=⟨_,rfl⟩
  rw[←hm]at hdr hpn hg hpl
  by_cases h0:k2=0
  ·have h0':¬0<k2:=by omega
   rw[hdr,zEf,if_pos h0,zD4]at hpk2
   (simp (maxSteps:=2000000) (disch:=first|omega|assumption) [zz,hlt2',hg,qK,qJ,qN])
   refine qL (zvB zwB (by decide) m.path.length m.path (by omega) (by omega)) rfl rfl (by simp) (by simp[qS,TV.er,AV.er,coC,zwB]) ?_
   cases hu:zuT m.path zwB
   ·rw[if_pos hu]at hpk2
    (simp (maxSteps:=2000000) (disch:=first|omega|assumption) [zz])
    refine hE2 _ _ (by simp) ?_
    (simp (maxSteps:=2000000) (disch:=first|omega|assumption) [zz,Tryz.f15,hcv2,hpk2])
   ·rw[if_neg (by simp[hu])]at hpk2
    (simp (maxSteps:=2000000) (disch:=first|omega|assumption) [zz,h0'])
    refine hN2 _ (k2+1) ?_ ⟨by omega,by rw[hpn];exact hpk2⟩ (by omega)
    apply Le.of<;>simp[qU,qG,qO,qH,qP,qK,qF,qI,qJ,qN,qK,qF,qJ]<;>try omega
  ·have h0':0<k2:=by omega
   have hk1:k2-1<t.outs.length:=by omega
   have hk1':(k2:Int)-1<t.outs.length:=by omega
   have hk1'':(1:Int)≤k2:=by omega
   have hgp:=KB qN t.outs (k2-1) hk1
   have hprev:zEf t.outs k2=some t.outs[k2-1].path:=by simp[zEf,h0,List.getElem?_eq_getElem hk1]
   obtain⟨q,hq⟩:∃q,q=t.outs[k2-1]:=⟨_,rfl⟩
   rw[←hq]at hgp hprev
   rw[hdr,hprev,zD4]at hpk2
   (simp (maxSteps:=2000000) (disch:=first|omega|assumption) [zz,hlt2',hg,qK,qJ,qN])
   refine qL (zvB zwB (by decide) m.path.length m.path (by omega) (by omega)) rfl rfl (by simp) (by simp[qS,TV.er,AV.er,coC,zwB]) ?_
   cases hu:zuT m.path zwB
   ·rw[if_pos hu]at hpk2
    (simp (maxSteps:=2000000) (disch:=first|omega|assumption) [zz])
    refine hE2 _ _ (by simp) ?_
    (simp (maxSteps:=2000000) (disch:=first|omega|assumption) [zz,Tryz.f15,hcv2,hpk2])
   rw[if_neg (by simp[hu])]at hpk2
   by_cases he:m.path=q.path
   ·rw[if_pos he]at hpk2
    (simp (maxSteps:=2000000) (disch:=first|omega|assumption) [zz,h0',hk1',hk1'',hgp,he,qK,qJ,qN])
    (repeat with_reducible refine om ?_)
    refine hE2 _ _ (by simp) ?_
    (simp (maxSteps:=2000000) (disch:=first|omega|assumption) [zz,Tryz.f15,hcv2,hpk2])
   rw[if_neg he]at hpk2
   have he':¬q.path=m.path:=fun e=>he e.symm
   have hbn:=zR1 m.path q.path he
   cases hbl:Op.bytesLess m.path q.path
   ·rw[if_neg (by simp[hbl])]at hpk2
    have hbl2:Op.bytesLess q.path m.path=true:=by rw[hbl]at hbn;simpa using hbn.symm
    (simp (maxSteps:=2000000) (disch:=first|omega|assumption) [zz,h0',hk1',hk1'',hgp,he',qK,qJ,qN,hbl2])
    (repeat with_reducible refine om ?_)
    refine hN2 _ (k2+1) ?_ ⟨by omega,by rw[hpn];exact hpk2⟩ (by omega)
    apply Le.of<;>simp[qU,qG,qO,qH,qP,qK,qF,qI,qJ,qN,qK,qF,qJ]<;>try omega
   ·rw[if_pos hbl]at hpk2
    have hbl2:Op.bytesLess q.path m.path=false:=by rw[hbl]at hbn;simpa using hbn.symm
    (simp (maxSteps:=2000000) (disch:=first|omega|assumption) [zz,h0',hk1',hk1'',hgp,he',qK,qJ,qN,hbl2])
    (repeat with_reducible refine om ?_)
    refine hE2 _ _ (by simp) ?_
    (simp (maxSteps:=2000000) (disch:=first|omega|assumption) [zz,Tryz.f15,hcv2,hpk2])
 ·have hlt2':¬(k2:Int)<t.outs.length:=by omega
  (simp (maxSteps:=2000000) (disch:=first|omega|assumption) [zz,hlt2',qK,qJ])
  refine hE2 _ _ (by simp) ?_
  rw[List.drop_of_length_le (by omega)]at hpk2
  have hz:∀o,zD4 o []=0:=fun o=>by cases o<;>rfl
  rw[hz]at hpk2
  (simp (maxSteps:=2000000) (disch:=first|omega|assumption) [zz,Tryz.f15,hcv2,hpk2])
def TrW (t:zaP):Prop:=TrP t∧(∀r∈t.reads,r.path.length≤1000000000)∧∀r∈t.outs,r.path.length≤1000000000
theorem TrW.ok {t:zaP} (h:TrW t):zG2 t:=⟨h.1.1.1,h.1.2.1⟩
theorem TrW.check {t:zaP} (h:TrW t):PC Tryz.prog 15 [.av (qD Tryz.prog 49) (qK t)] (.av (.int .i64) (.i .i64 (zCW t))):=zLw t h.1 h.2.1 h.2.2
end Go.Proofs.YtcioeonlclpacaaGreatDoor
end
