/- A trace's bytes: the program. No condition beyond each theorem's own. -/
import Derived.Test.YtcioeonlclpacaaGreatDoorQ0ToP0
import Derived.Test.YtcioeonlclpacaaGreatDoorSH2ToP16
set_option linter.unusedSimpArgs false
set_option linter.unusedVariables false
set_option linter.unusedSectionVars false
section
set_option maxRecDepth 100000
namespace Go.Proofs.YtcioeonlclpacaaGreatDoor
open Go Go.Ab
open Classical
variable [Sel] [SelPow]
theorem zFs {P:Program} {g g':Gh} {w:World} {b m:Nat} {e:TypeId} {ys:List AV} (hf:∀d x v,VV P g w d x v→VV P g' w d (fzA b m e ys x) v):∀ {xs:List TV} {vs:List Value},ARs P g w xs vs→ARs P g' w (xs.map (zho b m e ys)) vs
 | [],[],_=>trivial
 | x::xs,v::vs,h=>by
  refine⟨?_,zFs hf h.2⟩
  have h1:=h.1
  cases x with
  | av d x=>exact hf d x v h1
  | cst c=>exact h1
  | tup l=>obtain⟨us,h3,h4⟩:=h1;exact⟨us,h3,zij hf h4⟩
  | _=>exact h1.elim
 | [],_::_,h=>h.elim
 | _::_,[],h=>h.elim
theorem q7.fzArgs {P:Program} (hl:laidOutB P=true) {f:FuncId} {args:List TV} {H:q8} {R:TV→q8→Prop} {b m:Nat} {e:TypeId} {xs:List AV}
  (h:q7 P f (args.map (zho b m e xs)) H R):q7 P f args ((b,.var (.arr m e) (.agg xs))::H) R:=by
 intro imm w vs hrep hargs
 obtain⟨h0,cs,⟨E,fz,hc,_,_⟩,hvc⟩:=hrep.obj b (.var (.arr m e) (.agg xs)) (by simp)
 simp only[VC]at hvc
 obtain⟨hm,hvl⟩:=hvc
 have hsz:=QP hl _ _ _ hvl
 rw[Array.length_toList,hm]at hsz
 have h00:imm b=0:=h0
 have hle:(g0 imm).le (g0 (upd imm b (m*P.cellsOf e))):=by
  refine⟨fun x=>?_,fun _ _ _ e=>by cases e⟩
  simp only[g0,upd];split
  ·rename_i ee;rw[ee,h00];exact Nat.zero_le _
  ·exact Nat.le_refl _
 have hk:k5 (g0 imm) w w:=fun b cs E fz _ hb=>⟨cs,E,fz,hb,rfl,fun _ _=>rfl⟩
 have hi:QO (g0 imm) w:=hrep.imm
 have hcell:zP w b 0 (m*P.cellsOf e)=cs.toList:=by
  unfold zP
  rw[hc]
  simp only[List.drop_zero]
  rw[List.take_of_length_le (by simp[hsz])]
 have hv2:VL P (g0 (upd imm b (m*P.cellsOf e))) w e xs (zP w b 0 (m*P.cellsOf e)):=by
  rw[hcell];exact ZU hle hi hk _ _ _ hvl
 have hb2:m*P.cellsOf e≤(g0 (upd imm b (m*P.cellsOf e))).imm b:=by simp[g0,upd]
 have hfz:∀d x v,VV P (g0 imm) w d x v→VV P (g0 (upd imm b (m*P.cellsOf e))) w d (fzA b m e xs x) v:=fun d x v hx =>
  ⟨hx.1,zeO hl hle hi hb2 hv2 hm x d _ hx.2⟩
 have hnd:=hrep.nodup
 simp only[q8.keys,List.map_cons,List.nodup_cons]at hnd
 have hrep2:Rep P (g0 (upd imm b (m*P.cellsOf e))) w H:=by
  refine⟨fun x hx=>?_,hnd.2,fun x o ho=>?_,hrep.tab.keep (g:=g0 imm) (g':=g0 (upd imm b (m*P.cellsOf e))) hle hi hk⟩
  ·simp only[g0,upd]at hx ⊢
   split
   ·rename_i ee;rw[ee];exact⟨cs,E,fz,hc,by rw[hsz];exact Nat.le_refl _⟩
   ·rename_i ee;rw[if_neg ee]at hx;exact hrep.imm x hx
  ·have hne:x≠b:=fun ee=>hnd.1 (by rw[←ee];exact List.mem_map.2 ⟨(x,o),ho,rfl⟩)
   have himm:upd imm b (m*P.cellsOf e) x=imm x:=by simp[upd,hne]
   have hob:=hrep.obj x o (List.mem_cons_of_mem _ ho)
   cases o with
   | var d y=>obtain⟨q1,cs',q2,q3⟩:=hob;exact⟨himm.trans q1,cs',q2,j6 hle hi hk _ _ _ q3⟩
   | map k e es=>obtain⟨q1,en,ck,q2,q3⟩:=hob;exact⟨himm.trans q1,en,ck,q2,xO hle hi hk q3.1,q3.2⟩
   | raw o i0 w0=>obtain⟨q1,q2,q3⟩:=hob;exact⟨himm.trans q1,q2,kX q3 hle hk⟩
 refine(h _ w vs hrep2 (zFs hfz hargs)).mono ?_
 rintro e' w' ⟨v,r,imm',H',a,hR,hv,hrep',st⟩
 refine⟨v,r,imm',H',a,hR,hv,hrep',?_⟩
 exact {
  os:=st.os,tape:=st.tape,output:=st.output,size:=st.size,drawn:=st.drawn
  frame:=fun x hx hn=>by
   simp only[q8.keys,List.map_cons,List.mem_cons,not_or]at hn
   obtain⟨q1,q2⟩:=st.frame x hx hn.2
   exact⟨q1,q2.trans (by simp[upd,hn.1])⟩
  imm:=fun x=>Nat.le_trans (hle.1 x) (st.imm x)
  kept:=fun x cs' E' fz' h1 h2=>by
   have hne:x≠b:=fun ee=>by rw[ee]at h1;omega
   have:=st.kept x cs' E' fz' (by simp[upd,hne];exact h1) h2
   simpa[upd,hne]using this
  dom:=fun x hx=>by
   rcases st.dom x hx with h1|h1
   ·left;simp only[q8.keys,List.map_cons,List.mem_cons];exact .inr h1
   ·exact .inr h1 }
@[simp] theorem zyo:qZ Tryz.prog 47=true:=by kernel_rfl
@[simp] theorem zyy:z8 Tryz.prog (.func 47)=false:=q9 zyo
def zD8 (r:XF):List (List UInt8):=[r.path,if r.is then r.sum else []]
def zDa (m:Made):List (List UInt8):=[m.path,m.sum]
def zCY (t:zaP):List (List UInt8):=[t.key,Lib.itoa t.reads.length]++t.reads.flatMap zD8++t.outs.flatMap zDa
def TrD (t:zaP):Prop:=t.key.length=32∧(∀r∈t.reads,r.sum.length=32)∧∀m∈t.outs,m.sum.length=32
theorem zDe (a b:List (List UInt8)):zz6 (a++b)=zz6 a++zz6 b:=by simp[zz6]
theorem zE8 (l:List (List UInt8)) (n:Nat):(zz6 l).take n=zz6 (l.take n):=by simp[zz6,List.map_take]
theorem zE1 (l:List (List UInt8)) (n:Nat):(zz6 l).drop n=zz6 (l.drop n):=by simp[zz6,List.map_drop]
theorem zDG (n:Nat):List.replicate n (AV.s [])=zz6 (List.replicate n []):=by simp[zz6]
@[simp] theorem zEO (l:List (List UInt8)):AV.erks (zz6 l)=zz6 l:=by simp[zz6,AV.erks_eq,AV.erk,Function.comp_def]
@[simp] theorem zGg (l:List (List UInt8)):AV.ers (zz6 l)=zz6 l:=by simp[zz6,AV.ers_eq,AV.er,Function.comp_def]
theorem zD3 (x:List UInt8) (l:List (List UInt8)):AV.s x::zz6 l=zz6 (x::l):=rfl
theorem zFm (a:List (List UInt8)) (p q x:List UInt8) (r:List (List UInt8)):(zz6 (a++p::q::r)).set (a.length+1) (.s x)=zz6 (a++p::x::r):=by
 simp only[zz6]
 rw[←List.map_set]
 congr 1
 rw[List.set_append_right _ _ (by omega)]
 simp
noncomputable def zDc (t:zaP):TV:=if zCW t=0 then .tup [(.str,.s (WI (zCY t))),(.int .i64,.i .i64 0)] else .tup [(.str,.s []),(.int .i64,.i .i64 (zCW t))]
theorem zDf {t:zaP} (h:zCW t=0):t.reads.length≤500∧t.outs.length≤1000:=by
 unfold zCW at h
 split at h
 ·cases h
 ·omega
abbrev zEr:Cfg:=⟨fun _=>false,fun n=>n==22⟩
set_option maxHeartbeats 16000000 in
theorem zEC (t:zaP) (ht:TrP t) (hd:TrD t) (hb:zCW t=0→(WI (zCY t)).length≤10000000000):PC Tryz.prog 47 [.av (qD Tryz.prog 49) (qK t)] (zDc t):=by
 unfold PC
 refine q7.sub (R:=fun r H'=>r=zDc t) ?_ (fun r H' hr _=>⟨[],HSub.of_sub (List.nil_sublist _),hr,rfl⟩)
 refine zov Tryz.func47 zEr fun imm0 w0=>?_
 simp (disch:=omega) [zz,qK]
 refine qL (zDX t ht) rfl rfl (by simp) (by simp[qS,TV.er,AV.er,AV.ers,qK]) ?_
 by_cases hc:zCW t=0
 rotate_left
 ·simp (disch:=omega) [zz,hc,Tryz.f47,zDc]
 obtain⟨hrl,hol⟩:=zDf hc
 obtain⟨hd1,hd2,hd3⟩:=hd
 simp (disch:=omega) [zz,hc]
 (repeat with_reducible refine om ?_)
 refine jC (zDz t.key hd1) rfl rfl (by simp) (by simp[qS,TV.er]) ?_
 simp (disch:=omega) [zz,qF]
 (repeat with_reducible refine om ?_)
 refine jC (zFF t.reads.length (by omega) (by omega)) rfl rfl (by simp) (by simp[qS,TV.er,AV.er]) ?_
 simp (disch:=omega) [zz]
 refine⟨(show UZ _ _=true by kernel_rfl),?_⟩
 intro b0
 refine AT.loopV (α:=Nat × Nat × Nat × List (List UInt8) × List (List UInt8)) (fun x ver=>St.of [(1,.loc 1 []),(5,.av (.slice 9) (.msl x.2.1 9 0 x.2.2.2.1.length x.2.2.1)),(24,.av (.slice 105) (qF t.reads)),(25,.av (.int .i64) (.i .i64 t.reads.length)),(26,.av (.int .i64) (.i .i64 x.1))] [(1,(qD Tryz.prog 49,qK t))] ver [(x.2.1,.var (.arr x.2.2.1 9) (.agg (zz6 (x.2.2.2.1++x.2.2.2.2))))])
  (fun x=>x.1≤t.reads.length∧x.2.2.2.1=[t.key,Lib.itoa t.reads.length]++(t.reads.take x.1).flatMap zD8∧x.2.2.2.1.length+x.2.2.2.2.length=x.2.2.1∧x.2.2.2.1.length=2+2*x.1) (fun x=>t.reads.length-x.1) (0,b0,2,[t.key,Lib.itoa t.reads.length],[]) ?_ ?_ ?_
 ·apply Le.of<;>simp[qU,qG,qO,qH,qP,qK,qF,qI,qJ,qN,qK,qF,zz6]<;>try omega
 ·simp
 ·rintro⟨k,b,cap,ps,rs⟩ ver ⟨hk,hps,hcap,hpl⟩ KL hN hE
  simp only at hk hps hcap hpl hN
  have e1:(zz6 (ps++rs)).take ps.length=zz6 ps:=by rw[zE8,List.take_left]
  have e2:(zz6 (ps++rs)).drop (ps.length+2)=zz6 (rs.drop 2):=by
   rw[zE1,List.drop_append,List.drop_eq_nil_of_le (by omega)];simp
  have e5:∀(p x:List UInt8) r',(zz6 ps++zz6 (p::[]::r')).set (ps.length+1) (.s x)=zz6 (ps++p::x::r'):=by
   intro p x r'
   rw[←zDe,zFm]
  refine qM (cf:=zEr) laid mixed _ _ _ (by kernel_rfl) ?_
  by_cases hlt:k<t.reads.length
  ·have hlt':(k:Int)<t.reads.length:=by omega
   have hg:=KB qI t.reads k hlt
   have hds:=hd2 t.reads[k] (List.getElem_mem _)
   have htk:(t.reads.take (k+1)).flatMap zD8=(t.reads.take k).flatMap zD8++zD8 t.reads[k]:=by
    rw[List.take_succ_eq_append_getElem hlt,List.flatMap_append];simp
   obtain⟨r,hr⟩:∃r,r=t.reads[k]:=⟨_,rfl⟩
   rw[←hr]at hg hds htk
   have hnew:∀q,q=(if r.is then r.sum else [])→ps++[r.path,q]=[t.key,Lib.itoa t.reads.length]++(t.reads.take (k+1)).flatMap zD8:=by
    intro q hq;rw[htk,hps,hq];simp[zD8]
   simp (disch:=omega) [zz,hlt',hg,qF,qI,e1,e2]
   have hmin:min ps.length (ps.length+rs.length)=ps.length:=by omega
   cases his:r.is
   ·refine⟨by omega,⟨by omega,by omega⟩,fun hcp=>?_,fun hcp b' cap' hb' hcp'=>?_⟩
    ·simp (disch:=omega) [zz,his,zD3]
     refine hN _ (k+1,b,cap,ps++[r.path,[]],rs.drop 2) ?_ ⟨by omega,hnew [] (by simp[his]),by simp;omega,by simp;omega⟩ (by simp;omega)
     apply Le.of<;>simp[qU,qG,qO,qH,qP,qK,qF,qI,qJ,qN,qK,qF,zDe,zD3,e1,e2]<;>try omega
    ·simp (disch:=omega) [zz,his,zD3,hmin]
     refine hN _ (k+1,b',cap',ps++[r.path,[]],List.replicate (cap'-(ps.length+2)) []) ?_ ⟨by omega,hnew [] (by simp[his]),by simp at hcp' ⊢;omega,by simp;omega⟩ (by simp;omega)
     apply Le.of<;>simp[qU,qG,qO,qH,qP,qK,qF,qI,qJ,qN,qK,qF,zDe,zD3,zDG,e1,e2,hmin]<;>try omega
   ·refine⟨by omega,⟨by omega,by omega⟩,fun hcp=>?_,fun hcp b' cap' hb' hcp'=>?_⟩
    ·simp (disch:=omega) [zz,his,zD3]
     refine qE (R:=fun r' H'=>r'=.av .str (.s r.sum)∧H'=[]) [] [(b,.var (.arr cap 9) (.agg (zz6 ps++zz6 (r.path::[]::rs.drop 2))))] (by simp) rfl (by simp[qQ]) (by simp) ?_ ?_
     ·exact q7.args (zDz r.sum hds) (by simp[qS,TV.er])
     rintro r' H' ⟨rfl,rfl⟩ _
     refine⟨_,HSub.refl _,?_⟩
     simp (disch:=omega) [zz]
     (repeat with_reducible refine om ?_)
     refine hN _ (k+1,b,cap,ps++[r.path,r.sum],rs.drop 2) ?_ ⟨by omega,hnew r.sum (by simp[his]),by simp;omega,by simp;omega⟩ (by simp;omega)
     apply Le.of<;>simp[qU,qG,qO,qH,qP,qK,qF,qI,qJ,qN,qK,qF,e5]<;>try omega
    ·simp (disch:=omega) [zz,his,zD3,hmin,zDG]
     refine qE (R:=fun r' H'=>r'=.av .str (.s r.sum)∧H'=[]) [] [(b',.var (.arr cap' 9) (.agg (zz6 ps++zz6 (r.path::[]::List.replicate (cap'-(ps.length+2)) [])))),(b,.var (.arr cap 9) (.agg (zz6 (ps++rs))))] (by simp) rfl (by simp[qQ]) (by simp) ?_ ?_
     ·exact q7.args (zDz r.sum hds) (by simp[qS,TV.er])
     rintro r' H' ⟨rfl,rfl⟩ _
     refine⟨_,HSub.refl _,?_⟩
     simp (disch:=omega) [zz,hb']
     (repeat with_reducible refine om ?_)
     refine hN _ (k+1,b',cap',ps++[r.path,r.sum],List.replicate (cap'-(ps.length+2)) []) ?_ ⟨by omega,hnew r.sum (by simp[his]),by simp at hcp' ⊢;omega,by simp;omega⟩ (by simp;omega)
     apply Le.of<;>simp[qU,qG,qO,qH,qP,qK,qF,qI,qJ,qN,qK,qF,e5]<;>try omega
  ·have hlt':¬(k:Int)<t.reads.length:=by omega
   have hkn:k=t.reads.length:=by omega
   simp (disch:=omega) [zz,hlt',qF,qK]
   refine hE _ _ (by simp) ?_
   rw[hkn,List.take_length]at hps
   rw[hkn]at hpl
   simp (disch:=omega) [zz,qK,qJ]
   refine AT.loopV (α:=Nat × Nat × Nat × List (List UInt8) × List (List UInt8)) (fun x ver=>St.of [(1,.loc 1 []),(5,.av (.slice 9) (.msl x.2.1 9 0 x.2.2.2.1.length x.2.2.1)),(47,.av (.slice 95) (qJ t.outs)),(48,.av (.int .i64) (.i .i64 t.outs.length)),(49,.av (.int .i64) (.i .i64 x.1))] [(1,(qD Tryz.prog 49,qK t))] ver [(x.2.1,.var (.arr x.2.2.1 9) (.agg (zz6 (x.2.2.2.1++x.2.2.2.2))))])
    (fun x=>x.1≤t.outs.length∧x.2.2.2.1=[t.key,Lib.itoa t.reads.length]++t.reads.flatMap zD8++(t.outs.take x.1).flatMap zDa∧x.2.2.2.1.length+x.2.2.2.2.length=x.2.2.1∧x.2.2.2.1.length=2+2*t.reads.length+2*x.1) (fun x=>t.outs.length-x.1) (0,b,cap,ps,rs) ?_ ?_ ?_
   ·apply Le.of<;>simp[qU,qG,qO,qH,qP,qK,qF,qI,qJ,qN,qK,qF,qJ]<;>try omega
   ·refine⟨by simp,by simp[hps],hcap,by simp[hpl]⟩
   clear hN hE
   clear e1 e2 e5
   rintro⟨k2,b2,cap2,ps2,rs2⟩ ver2 ⟨hk2,hps2,hcap2,hpl2⟩ KL2 hN2 hE2
   simp only at hk2 hps2 hcap2 hpl2 hN2
   have e1:(zz6 (ps2++rs2)).take ps2.length=zz6 ps2:=by rw[zE8,List.take_left]
   have e2:(zz6 (ps2++rs2)).drop (ps2.length+2)=zz6 (rs2.drop 2):=by
    rw[zE1,List.drop_append,List.drop_eq_nil_of_le (by omega)];simp
   refine qM (cf:=zEr) laid mixed _ _ _ (by kernel_rfl) ?_
   by_cases hlt2:k2<t.outs.length
   ·have hlt2':(k2:Int)<t.outs.length:=by omega
    have hg:=KB qN t.outs k2 hlt2
    have hds:=hd3 t.outs[k2] (List.getElem_mem _)
    have htk:(t.outs.take (k2+1)).flatMap zDa=(t.outs.take k2).flatMap zDa++zDa t.outs[k2]:=by
     rw[List.take_succ_eq_append_getElem hlt2,List.flatMap_append];simp
    obtain⟨m,hm⟩:∃m,m=t.outs[k2]:=⟨_,rfl⟩
    rw[←hm]at hg hds htk
    have hnew:ps2++[m.path,m.sum]=[t.key,Lib.itoa t.reads.length]++t.reads.flatMap zD8++(t.outs.take (k2+1)).flatMap zDa:=by
     rw[htk,hps2];simp[zDa]
    have hmin:min ps2.length (ps2.length+rs2.length)=ps2.length:=by omega
    simp (disch:=omega) [zz,hlt2',hg,qJ,qN]
    (repeat with_reducible refine om ?_)
    refine jC (zDz m.sum hds) rfl rfl (by simp) (by simp[qS,TV.er]) ?_
    simp (disch:=omega) [zz,e1,e2]
    refine⟨by omega,⟨by omega,by omega⟩,fun hcp=>?_,fun hcp b' cap' hb' hcp'=>?_⟩
    ·refine hN2 _ (k2+1,b2,cap2,ps2++[m.path,m.sum],rs2.drop 2) ?_ ⟨by omega,hnew,by simp;omega,by simp;omega⟩ (by simp;omega)
     apply Le.of<;>simp[qU,qG,qO,qH,qP,qK,qF,qI,qJ,qN,qK,qJ,zDe,zD3]<;>try omega
    ·refine hN2 _ (k2+1,b',cap',ps2++[m.path,m.sum],List.replicate (cap'-(ps2.length+2)) []) ?_ ⟨by omega,hnew,by simp at hcp' ⊢;omega,by simp;omega⟩ (by simp;omega)
     apply Le.of<;>simp[qU,qG,qO,qH,qP,qK,qF,qI,qJ,qN,qK,qJ,zDe,zD3,zDG,hmin]<;>try omega
   ·have hlt2':¬(k2:Int)<t.outs.length:=by omega
    have hkn2:k2=t.outs.length:=by omega
    have hbl:ps2=zCY t:=by rw[hps2,hkn2,List.take_length];rfl
    simp (disch:=omega) [zz,hlt2']
    refine hE2 _ _ (by simp) ?_
    simp (disch:=omega) [zz]
    refine jP (R:=fun r H'=>r=.av .str (.s (WI (zCY t)))) rfl (by simp[qQ]) (by simp) ?_ ?_
    ·simp only[q8.er_cons,q8.er_nil,HObj.er,AV.erk,zEO]
     refine q7.fzArgs laid ?_
     have:=zzx (zCY t) (by rw[←hbl];omega) (hb hc)
     have:=q7.sub this (R':=fun r H'=>r=.av .str (.s (WI (zCY t)))) (fun r H' h _=>⟨H',HSub.refl _,h.1⟩)
     have harg:fzA b2 cap2 9 (zz6 (ps2++rs2)) (.msl b2 9 0 ps2.length cap2)=.sl .no (zz6 (zCY t)):=by
      simp only[fzA]
      rw[if_pos ⟨trivial,trivial,by omega,by omega⟩,List.drop_zero,e1,hbl]
     have hgo:∀l:List TV,l=[.av (.slice 9) (.sl .no (zz6 (zCY t)))]→q7 Tryz.prog 51 l [] (fun r H'=>r=.av .str (.s (WI (zCY t)))):=fun l e=>by rw[e];exact this
     refine hgo _ ?_
     show [TV.av _ (fzA _ _ _ _ _)]=_
     simp only[AV.er]
     rw[harg]
    rintro r H' rfl
    simp (disch:=omega) [zz,Tryz.f47,zDc,hc]
@[simp] theorem zlP:qZ Tryz.prog 162=true:=by kernel_rfl
@[simp] theorem zpX:z8 Tryz.prog (.func 162)=false:=q9 zlP
@[simp] theorem zkS:qZ Tryz.prog 107=true:=by kernel_rfl
@[simp] theorem zqo:z8 Tryz.prog (.func 107)=false:=q9 zkS
@[simp] theorem zmW:qZ Tryz.prog 151=true:=by kernel_rfl
@[simp] theorem zq9:z8 Tryz.prog (.func 151)=false:=q9 zmW
@[simp] theorem zoC:qZ Tryz.prog 94=true:=by kernel_rfl
@[simp] theorem zsj:z8 Tryz.prog (.func 94)=false:=q9 zoC
def zQs (B:Nat) (p l:List UInt8):Nat→q8→Prop
 | 0,H=>H=[(B,zJp B h8 .nsl 0)]
 | 1,H=>zL0 B p H
 | _,H=>H=jE B (QA (p++l) ((p++l).length / 64)) (QH ((p++l).drop (64*((p++l).length / 64)))) (p++l).length
theorem zMj (B:Nat) (s:List UInt32) (n:Nat) {op:AV} (h:op.erk=op):(zJp B s op n).er=zJp B s op n:=by
 have hew:AV.erks (s.map w6)=s.map w6:=by simp[AV.erks_eq,Function.comp_def,AV.erk]
 simp only[zJp,HObj.er_var,AV.erk,AV.erks,hew,h]
theorem zL0.er {B:Nat} {l:List UInt8} {H:q8} (h:zL0 B l H):H.er=H:=by
 obtain⟨b,cap,hb,hc,hp⟩:=h
 have e:∀p∈H,(p.1,p.2.er)=p:=by
  intro p hpm
  have:=hp.mem_iff.1 hpm
  simp only[List.mem_cons,List.not_mem_nil,or_false]at this
  rcases this with rfl|rfl
  ·exact congrArg (Prod.mk B) (zMj B h8 _ rfl)
  ·exact congrArg (Prod.mk b) (zQy cap l _)
 unfold q8.er
 exact(List.map_congr_left e).trans (List.map_id _)
set_option maxHeartbeats 4000000 in
theorem zRA (p l:List UInt8) (h0:0<p.length) (hp:p.length<64) (hl:l.length≤100000000000):PC Tryz.prog 106 [.av (.slice 9) (.sl .no [.s p,.s l])] (.av (qD Tryz.prog 46) (KW (sha (p++l)))):=by
 have hbe:∀x,QH x=.sl .no (x.map K3):=fun _=>rfl
 obtain⟨t,ht⟩:∃t,t=p++l:=⟨_,rfl⟩
 have htl:t.length=p.length+l.length:=by rw[ht];simp
 refine zow Tryz.func106 cf0 fun imm0 w0=>?_
 simp (disch:=omega) [zz]
 refine jP (R:=fun r H'=>∃B,r=.av .ptr (.ptr B U0 [])∧H'=[(B,zJp B h8 .nsl 0)]) rfl (by simp[qQ]) (by simp) ?_ ?_
 ·simpa[q8.er_nil]using zPC
 rintro r H' ⟨B,rfl,rfl⟩
 simp (disch:=omega) [zz]
 refine AT.loopV (α:=Nat × q8) (fun x ver=>St.of [(2,.loc 2 []),(3,.av .ptr (.ptr B U0 [])),(7,.av (.slice 9) (.sl .no [.s p,.s l])),(8,.av (.int .i64) (.i .i64 2)),(9,.av (.int .i64) (.i .i64 x.1))] [(2,(qD Tryz.prog 46,.agg (List.replicate 32 (.i .u8 0))))] ver x.2)
  (fun x=>x.1≤2∧zQs B p l x.1 x.2) (fun x=>2-x.1) (0,[(B,zJp B h8 .nsl 0)]) ?_ ?_ ?_
 ·apply Le.of<;>simp[qU,qG,qO,qH,qP,qK,qF,qI,qJ,qN,]<;>try omega
 ·exact⟨by simp,rfl⟩
 rintro⟨k,H⟩ ver ⟨hk,hH⟩ KL hN hE
 simp only at hk hH hN
 refine qM (cf:=cf0) laid mixed _ _ _ (by kernel_rfl) ?_
 match k,hk,hH with
 | 0,_,hH =>
  simp only[zQs]at hH
  subst hH
  simp (disch:=omega) [zz]
  refine jP (R:=fun r H'=>r=.tup []∧zL0 B p H') rfl (by simp[qQ]) (by simp) ?_ ?_
  ·have:=zPw B p h0 hp
   rw[q8.er_cons,zMj B h8 0 rfl]
   simpa[TV.er,AV.er,q8.er_nil]using this
  rintro r H' ⟨rfl,hR⟩
  simp (disch:=omega) [zz]
  refine hN _ (1,H') ?_ ⟨by simp,hR⟩ (by simp)
  apply Le.of<;>simp[qU,qG,qO,qH,qP,qK,qF,qI,qJ,qN,]<;>try omega
 | 1,_,hH =>
  have her:=zL0.er hH
  obtain⟨b,cap,hb,hc,hpm⟩:=hH
  have h2:=zPt B b cap hb p l h0 hp hc (by omega)
  obtain⟨HO,hHO⟩:∃HO,HO=jE B (QA (p++l) ((p++l).length / 64)) (QH ((p++l).drop (64*((p++l).length / 64)))) (p++l).length:=⟨_,rfl⟩
  rw[←hHO]at h2
  simp (disch:=omega) [zz]
  refine qE (R:=fun r H'=>r=.tup []∧H'=HO) [(B,zJp B h8 (.msl b 5 0 p.length cap) p.length),(b,u8O cap p (cap-p.length))] [] (by simpa using hpm) rfl (by simp[qQ]) (by simp) ?_ ?_
  ·rw[q8.er_cons,q8.er_cons,zMj B h8 _ rfl,zQy]
   simpa[TV.er,AV.er,q8.er_nil]using h2
  rintro r H' ⟨rfl,rfl⟩ _
  refine⟨_,HSub.refl _,?_⟩
  simp (disch:=omega) [zz]
  refine hN _ (2,_) ?_ ⟨by simp,hHO⟩ (by simp)
  apply Le.of<;>simp[qU,qG,qO,qH,qP,qK,qF,qI,qJ,qN,]<;>try omega
 | 2,_,hH =>
  simp only[zQs]at hH
  subst hH
  rw[←ht]
  simp (disch:=omega) [zz]
  refine hE _ _ (by simp) ?_
  simp (disch:=omega) [zz]
  refine jP (R:=fun r H'=>r=.av (qD Tryz.prog 46) (KW (sha t))∧H'=jE B (QA t (t.length / 64)) (QH (t.drop (64*(t.length / 64)))) t.length) rfl (by simp[qQ]) (by simp) ?_ ?_
  ·have:=zkt B (QA t (t.length / 64)) (t.drop (64*(t.length / 64))) t.length (gT t _) (by simp;omega) (by omega)
   rw[zgU]at this
   simpa[jE,TV.er,AV.er,AV.ers_eq,AV.erk,AV.erks,AV.erks_eq,q8.er_cons,q8.er_nil,HObj.er_var,Function.comp_def,Tok.k]using this
  ·rintro r H' ⟨rfl,rfl⟩
   simp (disch:=omega) [zz,Tryz.f106,ht]
theorem w8 (n c:Nat):IntKind.u8.wrap ((n:Int) / (c:Int))=((UInt8.ofNat (n / c)).toNat:Int):=by rw[←Int.natCast_ediv];exact znm _
theorem w80 (n:Nat):UInt8.ofNat ((n:Int) % 256).toNat=UInt8.ofNat n:=by
 have e:((n:Int) % 256).toNat=n % 256:=by omega
 rw[e]
 apply UInt8.toNat_inj.1
 simp
theorem w81 (n c:Nat):UInt8.ofNat ((n:Int) / (c:Int) % 256).toNat=UInt8.ofNat (n / c):=by rw[←Int.natCast_ediv];exact w80 _
theorem w82 (n:Nat):UInt8.ofNat (IntKind.u8.wrap (n:Int)).toNat=UInt8.ofNat n:=by rw[znm,Int.toNat_natCast,UInt8.ofNat_toNat]
abbrev zTy:Cfg:=⟨fun n=>n==5,fun _=>false⟩
theorem fdv (n k:Nat) (hk:k≤24):((n:Int).fdiv (2 ^ min k IntKind.i64.bits))=(n:Int) / ((2 ^ k:Nat):Int):=by
 have e:min k IntKind.i64.bits=k:=Nat.min_eq_left (Nat.le_trans hk (by decide))
 have e2:((2:Int) ^ k)=((2 ^ k:Nat):Int):=by simp
 rw[e,e2,Int.fdiv_eq_ediv_of_nonneg _ (Int.natCast_nonneg _)]
set_option maxHeartbeats 4000000 in
theorem zMh (r:List UInt8) (hr:r.length≤10000000000):PC Tryz.prog 162 [.av .str (.s r)] (.av .str (.s (zKL r))):=by
 have f1:=fdv r.length 24 (by omega)
 have f2:=fdv r.length 16 (by omega)
 have f3:=fdv r.length 8 (by omega)
 have g1:IntKind.u8.wrap ((r.length:Int) / 16777216)=((UInt8.ofNat (r.length / 16777216)).toNat:Int):=w8 _ 16777216
 have g2:IntKind.u8.wrap ((r.length:Int) / 65536)=((UInt8.ofNat (r.length / 65536)).toNat:Int):=w8 _ 65536
 have g3:IntKind.u8.wrap ((r.length:Int) / 256)=((UInt8.ofNat (r.length / 256)).toNat:Int):=w8 _ 256
 have h4:(be4 r.length).length=4:=rfl
 have hsl:(sha (be4 r.length++r)).length=32:=zKU _
 have hs2:=zRA (be4 r.length) r (by omega) (by omega) (by omega)
 have hbe:∀l:List UInt8,bytesOf (l.map fun b=>AV.i .u8 b.toNat)=some l:=vX
 obtain⟨S,hS⟩:∃S,S=sha (be4 r.length++r):=⟨_,rfl⟩
 have hh:zKL r=be4 r.length++S.take 8:=by rw[hS];rfl
 rw[←hS]at hs2 hsl
 rw[hh]
 have htk:(S.map fun b=>AV.i .u8 b.toNat).take 8=(S.take 8).map fun b=>AV.i .u8 b.toNat:=by rw[List.map_take]
 have k1:UInt8.ofNat ((r.length:Int) / 16777216 % 256).toNat=UInt8.ofNat (r.length / 16777216):=w81 _ 16777216
 have k2:UInt8.ofNat ((r.length:Int) / 65536 % 256).toNat=UInt8.ofNat (r.length / 65536):=w81 _ 65536
 have k3:UInt8.ofNat ((r.length:Int) / 256 % 256).toNat=UInt8.ofNat (r.length / 256):=w81 _ 256
 refine zow Tryz.func162 zTy fun imm0 w0=>?_
 simp (disch:=omega) [zz,f1,f2,f3,g1,g2,g3,w80]
 refine qL hs2 rfl rfl (by simp) (by simp[qS,TV.er,AV.er,AV.ers,be4,w80,w82,g1,g2,g3,k1,k2,k3]) ?_
 simp (disch:=omega) [zz]
 intro b
 have hE:KW S=.agg (S.map fun b=>.i .u8 b.toNat):=rfl
 rw[hE]
 dsimp only
 rw[htk,hbe]
 have hl8:(S.take 8).length=8:=by rw[List.length_take];omega
 obtain⟨q,hq⟩:∃q,q=S.take 8:=⟨_,rfl⟩
 rw[←hq]at hl8 ⊢
 dsimp only
 have hb4:be4 r.length=[UInt8.ofNat (r.length / 16777216),UInt8.ofNat (r.length / 65536),UInt8.ofNat (r.length / 256),UInt8.ofNat r.length]:=rfl
 simp (disch:=omega) [zz,Tryz.f162,hb4,hl8]
 exact⟨k1,k2,k3,w82 _⟩
theorem zQl (r:List UInt8) (hr:r.length≤10000000000):PC Tryz.prog 107 [.av .str (.s r)] (.tup [(.str,.s (if 1048576<r.length then [] else frame r)),(.int .i64,.i .i64 (if 1048576<r.length then 6 else 0))]):=by
 have hh:=zMh r hr
 have hl:=zK0 r
 refine zow Tryz.func107 cf0 fun imm0 w0=>?_
 by_cases h:1048576<r.length
 ·have h':(1048576:Int)<r.length:=by omega
  simp (disch:=omega) [zz,h,h',Tryz.f107]
 ·have h':¬(1048576:Int)<r.length:=by omega
  simp (disch:=omega) [zz,h,h']
  refine zcv hh ?_
  simp (disch:=omega) [zz,hl,Tryz.f107,frame,h]
  omega
theorem orI (x y k:Nat) (hx:2 ^ k*(x / 2 ^ k)=x) (hy:y<2 ^ k) (hxy:x+y≤9223372036854775807):IntKind.i64.wrap ((((x:Int) % 2 ^ IntKind.i64.bits).toNat ||| ((y:Int) % 2 ^ IntKind.i64.bits).toNat:Nat):Int)=((x+y:Nat):Int):=by
 have e:IntKind.i64.bits=64:=rfl
 have e1:((x:Int) % 2 ^ IntKind.i64.bits).toNat=x:=by rw[e];omega
 have e2:((y:Int) % 2 ^ IntKind.i64.bits).toNat=y:=by rw[e];omega
 rw[e1,e2]
 have e3:=Nat.two_pow_add_eq_or_of_lt hy (x / 2 ^ k)
 rw[hx]at e3
 rw[←e3,i64_in (by omega) (by omega)]
theorem shI (x k c:Nat) (hk:min k IntKind.i64.bits=k) (hc:2 ^ k=c) (h:x*c≤9223372036854775807):IntKind.i64.wrap ((x:Int)*2 ^ min k IntKind.i64.bits)=((x*c:Nat):Int):=by
 have e2:((2:Int) ^ k)=((c:Nat):Int):=by rw[←hc];simp
 rw[hk,e2,←Int.natCast_mul,i64_in (by omega) (by omega)]
theorem zSU {b:List UInt8} {b0 b1 b2 b3:UInt8} (h:4≤b.length) (h0:b[0]?=some b0) (h1:b[1]?=some b1) (h2:b[2]?=some b2) (h3:b[3]?=some b3):b.take 4=[b0,b1,b2,b3]:=by
 match b,h with
 | x0::x1::x2::x3::R,_=>simp_all
def zOn (b:List UInt8):List UInt8:=if b.length<12 then [] else if 1048576<zL9 (b.take 4)∨b.length-12<zL9 (b.take 4) then [] else(b.drop 12).take (zL9 (b.take 4))
theorem zNH {b r:List UInt8} (h:g9 b=some r):zOn b=r:=by
 unfold g9 at h
 unfold zOn
 split at h
 ·cases h
 rename_i h1
 rw[if_neg h1]
 split at h
 ·cases h
 rename_i h2
 rw[if_neg h2]
 split at h
 ·exact Option.some.inj h
 ·cases h
set_option maxHeartbeats 4000000 in
theorem zQW (b:List UInt8) (hb:b.length≤1000000000):PC Tryz.prog 151 [.av .str (.s b)] (.tup [(.str,.s (if b.length<12 then [] else if 1048576<zL9 (b.take 4)∨b.length-12<zL9 (b.take 4) then [] else(b.drop 12).take (zL9 (b.take 4)))),(.bool,.b (g9 b).isSome)]):=by
 refine zow Tryz.func151 cf0 fun imm0 w0=>?_
 by_cases h12:b.length<12
 ·have h12':(b.length:Int)<12:=by omega
  have hf:g9 b=none:=by unfold g9;rw[if_pos h12]
  simp (disch:=omega) [zz,h12,h12',hf,Tryz.f151]
 have h12':¬(b.length:Int)<12:=by omega
 have q0:0<b.length:=by omega
 obtain⟨b0,g0⟩:∃x,b[0]=x:=⟨_,rfl⟩
 have q1:1<b.length:=by omega
 obtain⟨b1,g1⟩:∃x,b[1]=x:=⟨_,rfl⟩
 have q2:2<b.length:=by omega
 obtain⟨b2,g2⟩:∃x,b[2]=x:=⟨_,rfl⟩
 have q3:3<b.length:=by omega
 obtain⟨b3,g3⟩:∃x,b[3]=x:=⟨_,rfl⟩
 have ht4:=zSU (b:=b) (b0:=b0) (b1:=b1) (b2:=b2) (b3:=b3) (by omega) (by rw[List.getElem?_eq_getElem q0,g0]) (by rw[List.getElem?_eq_getElem q1,g1]) (by rw[List.getElem?_eq_getElem q2,g2]) (by rw[List.getElem?_eq_getElem q3,g3])
 have u0:=UInt8.toNat_lt b0
 have u1:=UInt8.toNat_lt b1
 have u2:=UInt8.toNat_lt b2
 have u3:=UInt8.toNat_lt b3
 have c0:=i64_in (n:=(b0.toNat:Int)) (by omega) (by omega)
 have c1:=i64_in (n:=(b1.toNat:Int)) (by omega) (by omega)
 have c2:=i64_in (n:=(b2.toNat:Int)) (by omega) (by omega)
 have c3:=i64_in (n:=(b3.toNat:Int)) (by omega) (by omega)
 have s0:=shI b0.toNat 24 16777216 rfl rfl (by omega)
 have s1:=shI b1.toNat 16 65536 rfl rfl (by omega)
 have s2:=shI b2.toNat 8 256 rfl rfl (by omega)
 have o1:=orI (b0.toNat*16777216) (b1.toNat*65536) 24 (by omega) (by omega) (by omega)
 have o2:=orI (b0.toNat*16777216+b1.toNat*65536) (b2.toNat*256) 16 (by omega) (by omega) (by omega)
 have o3:=orI (b0.toNat*16777216+b1.toNat*65536+b2.toNat*256) b3.toNat 8 (by omega) (by omega) (by omega)
 have hn:b0.toNat*16777216+b1.toNat*65536+b2.toNat*256+b3.toNat=zL9 (b.take 4):=by rw[ht4];rfl
 rw[hn]at o3
 obtain⟨n,hnn⟩:∃n,n=zL9 (b.take 4):=⟨_,rfl⟩
 rw[←hnn]at o3 ⊢
 obtain⟨B0,hB0⟩:∃B0:Int,B0=b0.toNat:=⟨_,rfl⟩
 obtain⟨B1,hB1⟩:∃B0:Int,B0=b1.toNat:=⟨_,rfl⟩
 obtain⟨B2,hB2⟩:∃B0:Int,B0=b2.toNat:=⟨_,rfl⟩
 obtain⟨B3,hB3⟩:∃B0:Int,B0=b3.toNat:=⟨_,rfl⟩
 obtain⟨X0,hX0⟩:∃X:Int,X=(b0.toNat*16777216:Nat):=⟨_,rfl⟩
 obtain⟨X1,hX1⟩:∃X:Int,X=(b1.toNat*65536:Nat):=⟨_,rfl⟩
 obtain⟨X2,hX2⟩:∃X:Int,X=(b2.toNat*256:Nat):=⟨_,rfl⟩
 obtain⟨Y1,hY1⟩:∃X:Int,X=(b0.toNat*16777216+b1.toNat*65536:Nat):=⟨_,rfl⟩
 obtain⟨Y2,hY2⟩:∃X:Int,X=(b0.toNat*16777216+b1.toNat*65536+b2.toNat*256:Nat):=⟨_,rfl⟩
 rw[←hB0]at s0 c0
 rw[←hB1]at s1 c1
 rw[←hB2]at s2 c2
 rw[←hB3]at c3 o3
 rw[←hX0]at s0 o1
 rw[←hX1]at s1 o1
 rw[←hX2]at s2 o2
 rw[←hY1]at o1 o2
 rw[←hY2]at o2 o3
 have hf:g9 b=if 1048576<n∨b.length-12<n then none else if zKL ((b.drop 12).take n)=b.take 12 then some ((b.drop 12).take n) else none:=by
  unfold g9;rw[if_neg h12,←hnn]
 have hl0:(0:Int)<b.length:=by omega
 have hl1:(1:Int)<b.length:=by omega
 have hl2:(2:Int)<b.length:=by omega
 have hl3:(3:Int)<b.length:=by omega
 by_cases hm:1048576<n
 ·have hm':(1048576:Int)<n:=by omega
  have hf':g9 b=none:=by rw[hf,if_pos (.inl hm)]
  (simp (maxSteps:=2000000) (disch:=first|omega|assumption) [zz,-List.reduceReplicate,h12,h12',g0,g1,g2,g3,hl0,hl1,hl2,hl3,q0,q1,q2,q3,←hB0,←hB1,←hB2,←hB3,c0,c1,c2,c3,s0,s1,s2,o1,o2,o3,hm,hm'])
  (repeat with_reducible refine om ?_)
  simp (disch:=omega) [zz,hm,hf',Tryz.f151,h12]
 have hm':¬(1048576:Int)<n:=by omega
 by_cases hr:b.length-12<n
 ·have hr':(b.length:Int)-12<n:=by omega
  have hf':g9 b=none:=by rw[hf,if_pos (.inr hr)]
  (simp (maxSteps:=2000000) (disch:=first|omega|assumption) [zz,-List.reduceReplicate,h12,h12',g0,g1,g2,g3,hl0,hl1,hl2,hl3,q0,q1,q2,q3,←hB0,←hB1,←hB2,←hB3,c0,c1,c2,c3,s0,s1,s2,o1,o2,o3,hm,hm',hr'])
  (repeat with_reducible refine om ?_)
  simp (disch:=omega) [zz,hm,hr,hf',Tryz.f151,h12]
 have hr':¬(b.length:Int)-12<n:=by omega
 have hrl:((b.drop 12).take n).length=n:=by rw[List.length_take,List.length_drop];omega
 have hh:=zMh ((b.drop 12).take n) (by omega)
 have hor:¬(1048576<n∨b.length-12<n):=by omega
 rw[if_neg hor]at hf
 obtain⟨rec,hrec⟩:∃rec,rec=(b.drop 12).take n:=⟨_,rfl⟩
 have htn:(12+(n:Int)).toNat=12+n:=by omega
 have hdt:(b.take (12+n)).drop 12=rec:=by rw[hrec,List.drop_take];congr 1;omega
 rw[←hrec]at hh hf
 have he1:(12:Int)+n≤b.length:=by omega
 (simp (maxSteps:=2000000) (disch:=first|omega|assumption) [zz,-List.reduceReplicate,h12,h12',g0,g1,g2,g3,hl0,hl1,hl2,hl3,q0,q1,q2,q3,←hB0,←hB1,←hB2,←hB3,c0,c1,c2,c3,s0,s1,s2,o1,o2,o3,hm,hm',hr',htn,hdt,he1])
 refine⟨by omega,by omega,?_⟩
 refine jC hh rfl rfl (by simp) (by simp[qS,TV.er,AV.er]) ?_
 have ht12:b.take 12=b.take (12:Int).toNat:=rfl
 by_cases he:zKL rec=b.take 12
 ·have hf':g9 b=some rec:=by rw[hf,if_pos he]
  simp (disch:=omega) [zz,hm,hm',hr,hr',hf',Tryz.f151,h12,he,htn,hdt]
  exact⟨by omega,hrec⟩
 ·have hf':g9 b=none:=by rw[hf,if_neg he]
  simp (disch:=omega) [zz,hm,hm',hr,hr',hf',Tryz.f151,h12,he,htn,hdt]
  exact⟨by omega,hrec⟩
theorem zPp (b:List UInt8) (hb:b.length≤1000000000):PC Tryz.prog 151 [.av .str (.s b)] (.tup [(.str,.s (zOn b)),(.bool,.b (g9 b).isSome)]):=zQW b hb
set_option maxHeartbeats 4000000 in
theorem zgl (b:List UInt8) (hb:b.length≤1000000000):PC Tryz.prog 94 [.av .str (.s b)] (.tup [(.slice 9,.sl .no (zz6 (zJc b))),(.int .i64,.i .i64 (q5 (zJc b)).length)]):=by
 refine zow Tryz.func94 cf0 fun imm0 w0=>?_
 simp (disch:=omega) [zz]
 refine AT.loopV (α:=List (List UInt8) × Option Nat) (fun x ver=>St.of [(0,.av .str (.s b)),(4,.av (.slice 9) (.sl (zIu ver x.2) (zz6 x.1))),(5,.av (.int .i64) (.i .i64 (q5 x.1).length))] [] ver [])
  (fun x=>zJc b=x.1++zJc (b.drop (q5 x.1).length)∧(q5 x.1).length≤b.length∧12*x.1.length≤(q5 x.1).length) (fun x=>b.length-(q5 x.1).length) ([],none) ?_ ?_ ?_
 ·apply Le.of<;>simp[qU,qG,qO,qH,qP,qK,qF,qI,qJ,qN,zz6,q5,zIu]<;>try omega
 ·simp[q5]
 rintro⟨l,o⟩ ver ⟨h1,h2,h3⟩ KL hN hE
 simp only at h1 h2 h3 hN
 have hdl:(b.drop (q5 l).length).length≤1000000000:=by rw[List.length_drop];omega
 have hfo:=zPp (b.drop (q5 l).length) hdl
 obtain⟨R,hR⟩:∃R,R=b.drop (q5 l).length:=⟨_,rfl⟩
 rw[←hR]at hfo h1
 have hRl:R.length=b.length-(q5 l).length:=by rw[hR,List.length_drop]
 have htk:List.take b.length b=b:=List.take_of_length_le (by omega)
 have h2':((q5 l).length:Int)≤b.length:=by omega
 obtain⟨q,hq⟩:∃q,q=(q5 l).length:=⟨_,rfl⟩
 rw[←hq]at hRl h2 h2' hR h3 ⊢
 refine qM (cf:=cf0) laid mixed _ _ _ (by kernel_rfl) ?_
 simp (disch:=omega) [zz,h2',htk,←hR]
 refine zcv hfo ?_
 cases hf:g9 R with
 | none =>
  have hsn:zJc b=l:=by rw[h1,zKl hf,List.append_nil]
  simp (disch:=omega) [zz,hf]
  refine hE _ _ (by simp) ?_
  simp (disch:=omega) [zz,Tryz.f94,hsn,hq]
 | some r =>
  have hfr:=zNH hf
  obtain⟨hl1,hl2⟩:=zKq hf
  have hsr:zJc b=(l++[r])++zJc (R.drop (12+r.length)):=by rw[h1,zL4 hf];simp
  have hfl:(q5 (l++[r])).length=q+(12+r.length):=by
   have:q5 (l++[r])=q5 l++frame r:=by simp[q5]
   rw[this,List.length_append,zJq,hq]
  have hdd:R.drop (12+r.length)=b.drop (q+(12+r.length)):=by rw[hR,List.drop_drop]
  have hslen:(zz6 l).length=l.length:=zAo l
  simp (disch:=omega) [zz,hf,hfr]
  refine zIo (by rw[hslen,show Tryz.prog.bytesOf 9=16 by kernel_rfl];simp;omega) (by rw[hslen];simp;omega) (by kernel_rfl) (by kernel_rfl) fun ver'=>?_
  simp (disch:=omega) [zz]
  refine hN _ (l++[r],some 22) ?_ ⟨by simp only;rw[hfl,←hdd];exact hsr,by simp only;rw[hfl];omega,by simp only[List.length_append,List.length_cons,List.length_nil];rw[hfl];omega⟩ (by simp only;rw[hfl];omega)
  apply Le.of<;>simp[qU,qG,qO,qH,qP,qK,qF,qI,qJ,qN,hfl,zDe,zz6,zIu]<;>try omega
end Go.Proofs.YtcioeonlclpacaaGreatDoor
end
