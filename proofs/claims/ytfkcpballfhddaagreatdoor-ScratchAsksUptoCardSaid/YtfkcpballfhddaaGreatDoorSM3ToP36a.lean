/- What else is wanted plays no part; plain. No condition. -/
import Derived.Test.YtfkcpballfhddaaGreatDoorSG0ToSNa
import Derived.Test.YtfkcpballfhddaaGreatDoorPDa
set_option linter.unusedSimpArgs false
set_option linter.unusedVariables false
set_option linter.unusedSectionVars false
set_option maxHeartbeats 64000000
set_option maxRecDepth 100000
namespace Go.Proofs.YtfkcpballfhddaaGreatDoor
open Go Go.Ab
open Classical
section
variable [Sel] [SelPow] [SelMax]
def zh3 (w:qQ) (b:Bool):qQ:=⟨w.files,w.acts,w.wants,b⟩
theorem znU (w:qQ) (b:Bool):k9 (zh3 w b)=k9 w/\QP (zh3 w b)=QP w:=by cases w;exact⟨rfl,rfl⟩
def JG (w:qQ) (b:Bool) (p:Txt):qQ:=⟨w.files,w.acts,[p],b⟩
theorem WkL.want {w:qQ} (h:WkL w) (b:Bool) {i:Nat} (hi:i<w.acts.length) {p:Txt} (hp:p∈w.acts[i].outs):WkL (JG w b p) :=
 ⟨h.c0,h.n,h.one,by simp[JG],fun q hq=>by rw[show q=p from by simpa[JG]using hq];exact zqf h hi hp⟩
theorem zgQ {w:qQ} {i:Nat} (hi:i<w.acts.length):(kY w)[i]?=some (if wT w i then jH (qL w) i else zh4):=by
 unfold kY
 rw[List.getElem?_map,List.getElem?_range hi];rfl
theorem zoP {w:qQ} (h:WkL w) (b:Bool) {i:Nat} (hi:i<w.acts.length) {p:Txt} (hp:p∈w.acts[i].outs):(kY (JG w b p))[i]?=some (jH (qL w) i):=by
 rw[zgQ (w:=JG w b p) hi,if_pos]
 ·rfl
 ·exact⟨p,by simp[JG],i,h.maker hi hp,.inl rfl⟩
theorem zk3 {w:qQ} {k:Nat} (hk:k<w.acts.length):(∃o,(kY w)[k]?=some o/\o.kind=0)\/(kY w)[k]?=some (jH (qL w) k)/\(jH (qL w) k).kind≠0:=by
 rw[zgQ hk]
 by_cases h:wT w k
 ·rw[if_pos h]
  refine .inr ⟨rfl,?_⟩
  rcases vJ (qL w) k with⟨h1,_⟩|⟨_,h1⟩<;>omega
 ·rw[if_neg h]
  exact .inl ⟨_,rfl,rfl⟩
theorem zk9.of {w:qQ} (hw:gA w) (hz:WkL w):zk9 (k9 w):=by
 refine⟨by simp[k9,kY];have:=hw.n;omega,Nat.le_trans (V9 _ _) (by have:=uL w;have:=hz.wl;omega),fun o ho=>?_⟩
 obtain⟨i,hi,rfl⟩:=List.mem_map.1 ho
 have hi:=List.mem_range.1 hi
 split
 ·have h1:=(zap hw i).2
  have h2:=zio hw hi
  exact⟨by omega,by omega⟩
 ·exact⟨by simp[zh4],by simp[zh4]⟩
abbrev zsd:Cfg:=⟨fun _=>false,fun _=>false⟩
theorem zb8 (w:qQ) (i:Int) (hb:WkB w) (hc:ZE w=false->WkC w):PC Tryz.prog 6 [.av Q7 (j7 w),.av (.int .i64) (.i .i64 i)] (.av .bool (.b true)):=by
 have hfx:=uZ
 have hgr:=uR w hb
 have hew:=JW w
 obtain⟨W,hW⟩:∃W,W=j7 w:=⟨_,rfl⟩
 have hWE:W=.agg [.sl .no (w.files.map qS),.sl .no (w.acts.map zI),.sl .no (strs w.wants),.b w.keep]:=hW
 rw[<-hW]at hgr hew |-
 refine zow Tryz.func6 zsd fun imm0 w0=>?_
 simp (disch:=omega) [zz]
 refine qG hgr rfl rfl (by simp) (by simp[qM,TV.er,hew]) ?_
 by_cases hg:ZE w=true
 ·simp (disch:=omega) [zz,hg]
  refine zcv hfx ?_
  simp (disch:=omega) [zz,Tryz.f6]
 have hg':ZE w=false:=by simpa using hg
 replace hc:=hc hg'
 have hck:=WN w hc
 rw[<-hW]at hck
 simp (disch:=omega) [zz,hg']
 refine qG hck rfl rfl (by simp) (by simp[qM,TV.er,hew]) ?_
 by_cases h0:QP w=0
 rotate_left
 ·simp (disch:=omega) [zz,h0]
  refine zcv hfx ?_
  simp (disch:=omega) [zz,Tryz.f6]
 by_cases h1:i<0
 ·simp (disch:=omega) [zz,h0,h1]
  refine zcv hfx ?_
  simp (disch:=omega) [zz,Tryz.f6]
 by_cases h2:(w.acts.length:Int)<=i
 ·simp (disch:=omega) [zz,h0,h1,hWE,h2]
  refine zcv hfx ?_
  simp (disch:=omega) [zz,Tryz.f6]
 obtain⟨n,rfl⟩:∃n:Nat,i=n:=⟨i.toNat,by omega⟩
 have hn:n<w.acts.length:=by omega
 have hw:=hc.ok h0
 have hz:=d8 h0
 have hn8:=P4 hg'
 obtain⟨p,ps,hps⟩:∃p ps,w.acts[n].outs=p::ps:=by
  have:=(XR (hz.one n hn)).2.1
  cases ho:w.acts[n].outs with
  | nil=>exact absurd ho this
  | cons p ps=>exact⟨p,ps,rfl⟩
 have hp:p∈w.acts[n].outs:=by rw[hps];simp
 have hpl:=(hc.a _ (List.getElem_mem hn)).o p hp
 obtain⟨S,hS⟩:∃S,S=strs w.acts[n].outs:=⟨_,rfl⟩
 have hS0:S[0]?=some (.s p):=by rw[hS,hps];rfl
 have hSne:¬S=[]:=by rw[hS,hps];simp[strs]
 have hSl:0<S.length:=List.length_pos_iff.2 hSne
 have hS1:S[0]'hSl=.s p:=Option.some.inj (by rw[<-hS0,List.getElem?_eq_getElem])
 obtain⟨Q1,hQ1⟩:∃Q1,Q1=AV.agg [.s w.acts[n].pkg,.s w.acts[n].name]:=⟨_,rfl⟩
 obtain⟨Q2,hQ2⟩:∃Q2,Q2=j6 w.acts[n].env:=⟨_,rfl⟩
 obtain⟨Q3,hQ3⟩:∃Q3,Q3=AV.sl .no (strs w.acts[n].ins):=⟨_,rfl⟩
 obtain⟨Q4,hQ4⟩:∃Q4,Q4=AV.sl .no (strs w.acts[n].asks):=⟨_,rfl⟩
 have hga:(w.acts.map zI)[n]?=some (.agg [Q1,.s w.acts[n].tool,Q2,Q3,Q4,.sl .no S]):=by
  rw[jY zI w.acts n hn,hQ1,hQ2,hQ3,hQ4,hS];rfl
 clear hQ1 hQ2 hQ3 hQ4 hS
 have hb1:=XQ w hc
 have hc2:WkC (zh3 w (!w.keep)):=hc.same rfl hc.a hc.an hc.p hc.wn
 have hb2:=XQ (zh3 w (!w.keep)) hc2
 have hc3:WkC (JG w (!w.keep) p):=hc.same rfl hc.a hc.an (fun q hq=>by rw[show q=p from by simpa[JG]using hq];exact hpl) (by simp[JG])
 have hb3:=XQ (JG w (!w.keep) p) hc3
 have hz3:=hz.want (!w.keep) hn hp
 have hof:=zjr (JG w (!w.keep) p) hc3
 obtain⟨k1,k2⟩:=znU w (!w.keep)
 rw[PX h0]at hb1
 rw[PX (by rw[k2];exact h0),k1]at hb2
 rw[PX hz3.chk]at hb3
 have hrl:=zk9.of hw hz
 have hss:=znM (k9 w) (k9 w) hrl hrl
 rw[show (decide ((k9 w).outs=(k9 w).outs)&&decide ((k9 w).files=(k9 w).files))=true from by simp]at hss
 rw[<-hW]at hb1
 have hK:j7 (zh3 w (!w.keep))=.agg [.sl .no (w.files.map qS),.sl .no (w.acts.map zI),.sl .no (strs w.wants),.b (!w.keep)]:=rfl
 have hT:j7 (JG w (!w.keep) p)=.agg [.sl .no (w.files.map qS),.sl .no (w.acts.map zI),.sl .no [.s p],.b (!w.keep)]:=rfl
 rw[hK]at hb2
 rw[hT]at hb3 hof
 have hse:AV.ers (w.acts.map zI)=w.acts.map zI:=YV _
 have hfe:AV.ers (w.files.map qS)=w.files.map qS:=by simp[AV.ers_eq,Function.comp_def]
 have hwe:AV.ers (strs w.wants)=strs w.wants:=by simp[strs,AV.ers_eq,Function.comp_def,AV.er]
 have hs:qL (JG w (!w.keep) p)=qL w:=rfl
 have hofn:=hof n
 rw[of_at hz3.chk (w:=JG w (!w.keep) p) hn,hs]at hofn
 have hol:(kY w).length=w.acts.length:=by simp[kY]
 have hol3:(kY (JG w (!w.keep) p)).length=w.acts.length:=by simp[kY,JG]
 have hg3:=zoP hz (!w.keep) hn hp
 have hone:=d5 hw hn
 have hkd:=fun k hk=>zk3 (w:=w) (k:=k) hk
 obtain⟨O1,hO1⟩:∃O1,O1=(kY w).map qU:=⟨_,rfl⟩
 obtain⟨O3,hO3⟩:∃O3,O3=(kY (JG w (!w.keep) p)).map qU:=⟨_,rfl⟩
 have l1:O1.length=w.acts.length:=by rw[hO1,List.length_map,hol]
 have l3:O3.length=w.acts.length:=by rw[hO3,List.length_map,hol3]
 obtain⟨E,hEo⟩:∃E,E=qU (jH (qL w) n):=⟨_,rfl⟩
 have hEe:E.er=E:=by rw[hEo];exact wM _
 have g3:O3[n]?=some E:=by rw[hO3,List.getElem?_map,hg3,hEo];rfl
 have g1:∀k,k<w.acts.length->(∃o:yH,O1[k]?=some (qU o)/\o.kind=0)\/O1[k]?=some (qU (jH (qL w) k))/\(jH (qL w) k).kind≠0:=fun k hk=>by
  rw[hO1,List.getElem?_map]
  rcases hkd k hk with⟨o,h,h'⟩|⟨h,h'⟩
  ·exact .inl ⟨o,by rw[h];rfl,h'⟩
  ·exact .inr ⟨by rw[h];rfl,h'⟩
 rw[<-hEo]at hofn hone
 obtain⟨A1,hA1⟩:∃A1,A1=AV.sl .no ((k9 w).ran.map (.i .i64 ·)):=⟨_,rfl⟩
 obtain⟨F1,hF1⟩:∃F1,F1=qH (k9 w).files:=⟨_,rfl⟩
 obtain⟨A3,hA3⟩:∃A3,A3=AV.sl .no ((k9 (JG w (!w.keep) p)).ran.map (.i .i64 ·)):=⟨_,rfl⟩
 obtain⟨F3,hF3⟩:∃F3,F3=qH (k9 (JG w (!w.keep) p)).files:=⟨_,rfl⟩
 have hR1:wE (k9 w)=.agg [.sl .no O1,A1,.sl .no [],F1]:=by rw[hO1,hA1,hF1];rfl
 have hR3:wE (k9 (JG w (!w.keep) p))=.agg [.sl .no O3,A3,.sl .no [],F3]:=by rw[hO3,hA3,hF3];rfl
 rw[hR1]at hb1 hb2 hss
 rw[hR3]at hb3
 rw[hWE]at hb1
 have eO1:AV.ers O1=O1:=by rw[hO1];simp[AV.ers_eq,Function.comp_def]
 have eA1:A1.er=A1:=by rw[hA1];simp[AV.er,AV.ers_eq,Function.comp_def]
 have eF1:F1.er=F1:=by rw[hF1];exact jJ _
 clear hO1 hO3 hA1 hA3 hF1 hF3 hkd hR1 hR3 hK hT hg3
 simp (disch:=omega) [zz,h0,h1,hWE,h2,hga,hn,hSne,hSl]
 refine qG hb1 rfl rfl (by simp) (by simp[qM,TV.er,AV.er,AV.ers,hse,hfe,hwe]) ?_
 simp (disch:=omega) [zz]
 refine qG hb2 rfl rfl (by simp) (by simp[qM,TV.er,AV.er,AV.ers,hse,hfe,hwe]) ?_
 simp (disch:=omega) [zz]
 refine qG hss rfl rfl (by simp) (by simp[qM,TV.er,AV.er,AV.ers,eO1,eA1,eF1]) ?_
 simp (disch:=omega) [zz,hga,hn,hSl,hS0,hS1]
 refine qG hb3 rfl rfl (by simp) (by simp[qM,TV.er,AV.er,AV.ers,hse,hfe,hwe]) ?_
 simp (disch:=omega) [zz]
 refine qG hofn rfl rfl (by simp) (by simp[qM,TV.er,AV.er,AV.ers,hse,hfe,hwe]) ?_
 have g3':O3[n]'(by omega)=E:=Option.some.inj (by rw[<-g3,List.getElem?_eq_getElem])
 simp (disch:=omega) [zz,l3,g3,g3',hn]
 (repeat with_reducible refine om ?_)
 refine y9 hone rfl rfl (by simp) (by simp[qM,coC,TV.er,AV.er,AV.ers,hEe]) ?_
 simp (disch:=omega) [zz]
 (repeat with_reducible refine om ?_)
 refine AT.loop' (α:=Nat) (fun k=>St.of [(2,.loc 2 []),(123,.av (.slice 46) (.sl .no O1)),(124,.av (.int .i64) (.i .i64 w.acts.length)),(125,.av (.int .i64) (.i .i64 k))] [(2,(Q7,.agg [.sl .no (w.files.map qS),.sl .no (w.acts.map zI),.sl .no [.s p],.b (!w.keep)]))] (fun _=>0) [])
  (fun k=>k<=w.acts.length) (fun k=>w.acts.length-k) 0 ?_ (by omega) ?_
 ·apply Le.of<;>simp[zA,qF,qJ,l1]<;>try omega
  simp only[KJ]
  exact⟨QY _,QY _,⟨.inr (.inl rfl),KZ _⟩,QY _,trivial⟩
 rintro k hk KL hN hE
 refine zrd zsd ?_
 by_cases hlt:k<w.acts.length
 rotate_left
 ·have hlt':¬(k:Int)<w.acts.length:=by omega
  simp (disch:=omega) [zz,hlt']
  refine hE _ _ (by simp) ?_
  clear hN hE
  simp (disch:=omega) [zz]
  refine zcv hfx ?_
  simp (disch:=omega) [zz,Tryz.f6]
 have hlt':(k:Int)<w.acts.length:=by omega
 have hofk:=hof k
 rw[of_at hz3.chk (w:=JG w (!w.keep) p) hlt,hs]at hofk
 have hok:=d5 hw hlt
 have hoe2:=wM (jH (qL w) k)
 rcases g1 k hlt with⟨o,h3,h4⟩|⟨h3,h4⟩
 ·have hoE:qU o=.agg [.i .i64 0,.i .i64 o.why,qH o.outs,zO o.reads]:=by rw[<-h4];rfl
  rw[hoE]at h3
  have h3':=Option.some.inj (h3.symm.trans (List.getElem?_eq_getElem (l:=O1) (by omega:k<O1.length)))
  simp (disch:=omega) [zz,hlt',h3,<-h3',l1,hlt]
  refine qG hofk rfl rfl (by simp) (by simp[qM,TV.er,AV.er,AV.ers,hse,hfe]) ?_
  simp (disch:=omega) [zz]
  refine hN _ (k+1) ?_ (by omega) (by omega)
  apply Le.of<;>simp[zA,qF,qJ]<;>try omega
 ·obtain⟨x,hx⟩:∃x,x=jH (qL w) k:=⟨_,rfl⟩
  rw[<-hx]at hofk hok hoe2 h3 h4
  have hxE:qU x=.agg [.i .i64 x.kind,.i .i64 x.why,qH x.outs,zO x.reads]:=rfl
  have hf2:=jJ x.outs
  have hf3:=WU x.reads
  rw[hxE]at h3 hok hofk
  have h3':=Option.some.inj (h3.symm.trans (List.getElem?_eq_getElem (l:=O1) (by omega:k<O1.length)))
  simp (disch:=omega) [zz,hlt',h3,<-h3',l1,hlt]
  refine qG hofk rfl rfl (by simp) (by simp[qM,TV.er,AV.er,AV.ers,hse,hfe]) ?_
  simp (disch:=omega) [zz,h4]
  refine qG hok rfl rfl (by simp) (by simp[qM,TV.er,AV.er,AV.ers,hf2,hf3]) ?_
  simp (disch:=omega) [zz]
  refine hN _ (k+1) ?_ (by omega) (by omega)
  apply Le.of<;>simp[zA,qF,qJ]<;>try omega
end
section
variable [Sel]
theorem ztn {n:Nat} {x:AV} (h:WTy Tryz.prog (n+1) 3 x):∃m:Int,x=.i .i64 m:=by
 simp only[WTy,ty3]at h
 obtain⟨m,rfl,hm⟩:=h
 exact⟨m,rfl⟩
end
end Go.Proofs.YtfkcpballfhddaaGreatDoor
