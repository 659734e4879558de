/- Files that are asked of a path: closures. No condition. -/
import Derived.Test.YtfkcpballfhddaaGreatDoorBE1aToSC1
set_option linter.unusedSimpArgs false
set_option linter.unusedVariables false
set_option linter.unusedSectionVars false
set_option maxHeartbeats 64000000
section
set_option maxRecDepth 100000
namespace Go.Proofs.YtfkcpballfhddaaGreatDoor
open Go Go.Ab
open Classical
variable [Sel] [SelPow] [SelMax]
abbrev zo3:TyD:=.struct [9,9]
def zol (f:AV) (Hs:q8) (g:jM->Bool) (ts:List jM):Prop:=Hs.er=Hs/\f.er=f/\∀x∈ts,VC1 f [.av zo3 (qS x)] Hs fun r H'=>r=.av .bool (.b (g x))/\H'=Hs
theorem zpV (g:jM->Bool) (f:AV) (Hs:q8) (ts:List jM) (hf:zol f Hs g ts) (hn:ts.length<=1000000000) :
  q7 Tryz.prog 74 [.av (.slice 57) (qH ts),.av .func f] Hs
   fun r H'=>r=.av (.int .i64) (.i .i64 (ZP g ts))/\H'=Hs:=by
 obtain⟨ho,hfe,hff⟩:=hf
 refine zov Tryz.func74 cf0 fun imm0 w0=>?_
 simp (disch:=omega) [zz,qH]
 refine AT.loop' (α:=Nat) (fun k=>St.of [(0,.av (.slice 57) (.sl .no (ts.map qS))),(1,.av .func f),(7,.av (.int .i64) (.i .i64 ts.length)),(8,.av (.int .i64) (.i .i64 k))] [] (fun _=>0) Hs)
  (fun k=>k<=ts.length/\∀x∈ts.take k,g x=false) (fun k=>ts.length-k) 0 ?_ ?_ ?_
 ·apply Le.of<;>simp[zA,qF]
 ·simp
 rintro k ⟨hk',hpk⟩ KL hN hE
 refine zrd cf0 ?_
 by_cases hlt:k<ts.length
 ·have hlt':(k:Int)<ts.length:=by omega
  have hg:=jY qS ts k hlt
  simp (disch:=omega) [zz,hlt',hg]
  refine ZB (R:=fun r' H'=>r'=.av .bool (.b (g ts[k]))/\H'=Hs) Hs [] (by simp) ho (by simp[qI]) (hff _ (List.getElem_mem hlt)) ?_
  rintro r' H' ⟨rfl,rfl⟩ _
  refine⟨H',by simpa using HSub.refl _,?_⟩
  by_cases hp:g ts[k]=true
  ·simp (disch:=omega) [zz,hp]
   refine hE _ _ (by simp) ?_
   simp (disch:=omega) [zz,Tryz.f74,W6 hlt hpk hp,ho]
  ·simp (disch:=omega) [zz,hp]
   refine hN _ (k+1) ?_ ⟨by omega,by rw[yG hlt];exact⟨hpk,by simpa using hp⟩⟩ (by omega)
   apply Le.of<;>simp[zA,qF]
 ·have hlt':¬(k:Int)<ts.length:=by omega
  simp (disch:=omega) [zz,hlt']
  refine hE _ _ (by simp) ?_
  rw[List.take_of_length_le (by omega)]at hpk
  simp (disch:=omega) [zz,Tryz.f74,K0 hpk,ho]
end Go.Proofs.YtfkcpballfhddaaGreatDoor
end
section
set_option maxRecDepth 100000
namespace Go.Proofs.YtfkcpballfhddaaGreatDoor
open Go Go.Ab
open Classical
variable [Sel] [SelPow] [SelMax]
def OvD (r:qN):Prop:=r.over.data.length<=65536
theorem OvD.fail (e:Int) (r:qN):OvD (wY e r):=by simp[OvD,wY]
section
variable {r:qN} (h:OvD r)
include h
theorem OvD.add (s:Txt):OvD (yS s r):=by
 unfold yS
 split
 ·exact .fail _ _
 ·exact h
theorem OvD.th:∀t d,OvD (thR t d r)
 | .add,d=>h.add d
 | .scan _,_=>h
theorem OvD.co:∀k x,OvD (coR k x r)
 | .there t,x=>by
  rw[coR]
  split
  ·exact h.th _ _
  ·exact .fail _ _
 | .tr,x=>by
  rw[coR]
  split
  ·exact h.add _
  ·exact h
theorem OvD.ask (p:Txt) (k:CoV):OvD (QT p k r):=by
 unfold QT
 split
 ·exact h.co _ _
 split
 ·exact .fail _ _
 ·exact h
theorem OvD.scan (p w:Txt) (l:List Txt):OvD (JL p w { r with seen:=l }):=OvD.ask (r:={ r with seen:=l++[p] }) h _ _
theorem OvD.set (l:List Txt):OvD (wB l r):=OvD.add (r:={ r with buf:=[] }) h _
theorem OvD.turn (a b:Txt):OvD (wV a b r):=by
 unfold wV
 split
 ·exact h.set _
 split
 ·exact h.set _
 split
 ·exact h
 split
 ·exact h
 split
 ·exact h.set _
 ·exact h
theorem OvD.td (hb:r.buf.length<=65536):∀t,OvD (tdR t r)
 | .cmd c=>by
  show OvD (doR c r)
  unfold doR
  simp only
  split
  ·exact h.ask _ _
  split
  ·exact h.ask _ _
  split
  ·exact h.scan _ _ _
  split
  ·exact h.add _
  split
  ·split
   ·exact h.add _
   ·exact .fail _ _
  split
  ·exact hb
  split
  ·split
   ·exact h
   ·exact .fail _ _
  split
  ·exact .fail _ _
  ·exact h.turn _ _
 | .ans k p=>h.co _ _
 | .line s w=>by
  show OvD (J1 s w r)
  unfold J1
  split
  ·split
   ·exact h.add _
   split
   ·exact h
   ·exact h.scan _ _ r.seen
  ·exact h.add _
theorem OvD.step (hb:r.buf.length<=65536):OvD (Z1 r):=by
 unfold Z1
 split
 ·simp[OvD]
 ·exact OvD.td (r:={ r with todo:=r.todo.dropLast }) h hb _
end
theorem OvD.runN:∀(n:Nat) {r r':qN},runN n r=some r'->wF r->OvD r->OvD r'
 | 0,_,_,h,_,_=>by cases h
 | n+1,r,r',h,hg,ho=>by
  rw[Go.Proofs.YtfkcpballfhddaaGreatDoor.runN]at h
  by_cases hs:w8 r=true
  ·rw[if_pos hs]at h;cases h;exact ho
  ·rw[if_neg hs]at h
   exact OvD.runN n h (hg.step (by simpa using hs)) (ho.step hg.inv.s.2.2.1)
theorem OvD.settle {r:qN} (h:OvD r) (hg:wF r):OvD (kZ r):=.runN _ (yZ hg.inv).1 hg h
structure UH (b:j9):Prop where
 ov:OvD b.run
 wr:∀w∈b.wrote,w.2.length<=65536
 asks:b.asks.length<=1040
 rd:∀r∈b.reads,r.path.length<=1040
theorem UH.round {b:j9} (h:UH b) (hg:ZN b):UH (roundB b).1:=by
 have h1:OvD (wI b.run).2/\(wI b.run).1.data.length<=65536:=by
  have:=h.ov.settle hg.good
  unfold wI
  simp only
  split
  ·exact⟨this,by simp⟩
  ·refine⟨?_,this⟩
   split
   ·simp[OvD,do0]
   ·exact this
 have h0:=hg.round.2
 have h3:(roundB b).1.reads=b.reads/\(roundB b).1.asks.length<=1040:=by
  unfold roundB Y2 Q0
  simp only
  split
  ·rename_i hk
   split
   ·exact⟨rfl,h0 hk⟩
   ·exact⟨rfl,h.asks⟩
  split
  ·split<;>exact⟨rfl,h.asks⟩
  split
  ·split<;>exact⟨rfl,h.asks⟩
  ·exact⟨rfl,h.asks⟩
 have h2:(roundB b).1.run=(wI b.run).2/\((roundB b).1.wrote=b.wrote\/(roundB b).1.wrote=b.wrote++[((wI b.run).1.path,(wI b.run).1.data)]):=by
  unfold roundB Y2 Q0
  simp only
  split
  ·split<;>exact⟨rfl,.inl rfl⟩
  split
  ·split
   ·exact⟨rfl,.inl rfl⟩
   ·exact⟨rfl,.inr rfl⟩
  split
  ·split<;>exact⟨rfl,.inl rfl⟩
  ·exact⟨rfl,.inl rfl⟩
 refine⟨by rw[h2.1];exact h1.1,fun w hw=>?_,h3.2,by rw[h3.1];exact h.rd⟩
 rcases h2.2 with e|e<;>rw[e]at hw
 ·exact h.wr w hw
 ·rcases List.mem_append.1 hw with hw|hw
  ·exact h.wr w hw
  ·rw[List.mem_singleton.1 hw];exact h1.2
theorem UH.goN:∀(n:Nat) {b b':j9},goN n b=some b'->ZN b->UH b->UH b'
 | 0,b,b',h,_,_=>by cases h
 | n+1,b,b',h,hg,hd=>by
  rw[Go.Proofs.YtfkcpballfhddaaGreatDoor.goN]at h
  by_cases ho:b.over=true
  ·rw[if_pos ho]at h;cases h;exact hd
  rw[if_neg ho]at h
  by_cases h2:(roundB b).2=true
  ·rw[if_pos h2]at h;cases h;exact hd.round hg
  ·rw[if_neg h2]at h
   exact UH.goN n h hg.roundB (hd.round hg)
theorem UH.goOn {b:j9} (hg:ZN b) (h:UH b):UH (ZS b):=by
 unfold ZS
 cases e:Go.Proofs.YtfkcpballfhddaaGreatDoor.goN (ccR b.run+2) b with
 | none=>exact h
 | some b'=>exact UH.goN _ e hg h
theorem UH.give {b:j9} (h:UH b) (hg:ZN b) {k:KnV} (hk:b.over=false->k.path=b.asks->ZN (zaM k b)):UH (yN k b).2:=by
 unfold yN
 split
 ·exact h
 rename_i g1
 split
 ·exact h
 rename_i g2
 split
 ·exact h
 rename_i g3
 have g2:k.path=b.asks:=by simpa using g2
 refine UH.goOn (hk (by simpa using g1) g2) ⟨?_,h.wr,h.asks,fun r hr=>?_⟩
 ·have:=h.ov.settle hg.good
  unfold J7
  simp only
  split
  ·exact this
  split
  ·exact this
  exact this
 ·rcases List.mem_append.1 hr with hr|hr
  ·exact h.rd r hr
  ·rw[List.mem_singleton.1 hr]
   show k.path.length<=1040
   rw[g2];exact h.asks
theorem zg0 {f:Txt->Option KnV} (hf:Ans f):∀(n:Nat) {b b':j9},goF f n b=some b'->(∀r∈b.reads,∃k,f r.path=some k/\QU k=r)->∀r∈b'.reads,∃k,f r.path=some k/\QU k=r
 | 0,_,_,h,_=>by cases h
 | n+1,b,b',h,hp=>by
  rw[goF]at h
  by_cases ho:b.over=true
  ·rw[if_pos ho]at h;cases h;exact hp
  rw[if_neg ho]at h
  have ho':b.over=false:=by simpa using ho
  cases hk:f b.asks with
  | none=>rw[hk]at h;cases h;exact hp
  | some k =>
   rw[hk]at h
   obtain⟨h1,h2⟩:=hf _ _ hk
   refine zg0 hf n h fun r hr=>?_
   rw[zf6 ho' h1 h2]at hr
   rcases List.mem_append.1 hr with hr|hr
   ·exact hp r hr
   ·rw[List.mem_singleton.1 hr]
    exact⟨k,by rw[show (QU k).path=b.asks from h1];exact hk,rfl⟩
theorem zjB {env:List (Txt × Txt)} {cs:List CmdV} {outs:List Txt} {may:Txt->Bool} {f:Txt->Option KnV} (hf:Ans f):∀(n:Nat) {kn:List KnV} {b b':j9},YO env cs outs may kn b->UH b->goF f n b=some b'->UH b'
 | 0,_,_,_,_,_,h=>by cases h
 | n+1,kn,b,b',hk,hd,h=>by
  rw[goF]at h
  by_cases ho:b.over=true
  ·rw[if_pos ho]at h;cases h;exact hd
  rw[if_neg ho]at h
  have ho':b.over=false:=by simpa using ho
  cases hfk:f b.asks with
  | none=>rw[hfk]at h;cases h;exact hd
  | some k =>
   rw[hfk]at h
   simp only at h
   obtain⟨hk1,hk2⟩:=hf _ _ hfk
   exact zjB hf n (hk.give k ho' hk1 (fun _=>hk2)).2 (hd.give hk.g fun h3 h2=>(hk.can k h3 h2 (fun _=>hk2)).good) h
theorem zkO {a:wD} (ha:zpy a) (hw:∀p∈a.outs,p.length<=2000000) {cs:List CmdV} (hcs:jB a.tool=.ok cs) {f:Txt->Option KnV} (hf:Ans f) {b:j9} (h:goF f 600 (U0 a.env a.outs (Z8 a) cs)=some b) (g2:b.over=true) :
  (∀r∈(JH b).1.reads,∃k,f r.path=some k/\QU k=r)/\(JH b).1.reads.length<=500/\(∀r∈(JH b).1.reads,r.path.length<=1040)/\
  (JH b).1.outs.length<=2000000/\∀f∈(JH b).1.outs,f.path.length<=2000000/\f.data.length<=65536:=by
 have g3:=zbc hcs (env:=a.env) (by have:=ha.be;omega) ha.bev a.outs (Z8 a)
 obtain⟨kn',hk⟩:=zmP hf 600 g3 h
 have hd:=zjB hf 600 g3 (UH.goOn (DG hcs (by have:=ha.be;omega) ha.bev _ _) ⟨by simp[OvD,dX,do0],by simp[dX],by simp[dX],by simp[dX]⟩) h
 have hn0:(U0 a.env a.outs (Z8 a) cs).reads=[]:=by
  obtain⟨m,h⟩:=zh9 a.env a.outs (Z8 a) cs (ZC hcs)
  exact h.reads
 have ht:=zg0 hf 600 h (by rw[hn0];simp)
 simp only[GP g2]
 obtain⟨wr,hs⟩:=hk.s
 refine⟨ht,hk.rl,hd.rd,?_,fun f hf=>?_⟩
 ·have:=hk.wl ha.bo
  unfold JH
  split
  ·simp
  split
  ·simp only[KB,List.length_map,ZA];omega
  ·simp
 ·have hf':f∈KB b:=by
   unfold JH at hf
   rw[if_neg (by rw[g2];decide)]at hf
   split at hf
   ·exact hf
   ·cases hf
  obtain⟨p,hp,rfl⟩:=List.mem_map.1 hf'
  have hp:=(JU _).mem_iff.1 hp
  refine⟨hw _ ?_,?_⟩
  ·rw[hs.wrote]at hp
   simp only[List.map_map,List.mem_map]at hp
   obtain⟨w,h1,rfl⟩:=hp
   exact hs.own w h1
  ·show ((b.wrote.find? fun x=>decide (x.1=p)).getD ([],[])).2.length<=_
   cases e:b.wrote.find? (fun x=>decide (x.1=p))with
   | none=>simp
   | some x=>exact hd.wr _ (List.mem_of_find?_eq_some e)
end Go.Proofs.YtfkcpballfhddaaGreatDoor
end
section
set_option maxRecDepth 100000
namespace Go.Proofs.YtfkcpballfhddaaGreatDoor
open Go Go.Ab
open Classical
variable [Sel] [SelPow] [SelMax]
theorem zm5 (b:Nat) (p:Txt) (x:jM):q7 Tryz.prog 75 [.av zo3 (qS x),.av .ptr (.ptr b .str [])] [(b,zE p)] fun r H'=>r=.av .bool (.b (decide (x.path=p)))/\H'=[(b,zE p)]:=by
 refine zov Tryz.func75 cf0 fun imm0 w0=>?_
 simp (disch:=omega) [zz,zE,qS]
 simp (disch:=omega) [zz,Tryz.f75]
abbrev ztv:Cfg:=⟨fun n=>n==3,fun _=>false⟩
theorem zjV (fs:List jM) (hn:fs.length<=1000000000) (p:Txt):PC Tryz.prog 44 [.av (.slice 57) (qH fs),.av .str (.s p)] (.tup [(.str,.s (ZK fs p).data),(.bool,.b (ZK fs p).is)]):=by
 have hef:=jJ fs
 refine q7.sub (R:=fun r H'=>r=.tup [(.str,.s (ZK fs p).data),(.bool,.b (ZK fs p).is)]) ?_ (fun r H' hr _=>⟨[],HSub.of_sub (List.nil_sublist _),hr,rfl⟩)
 refine zov Tryz.func44 ztv fun imm0 w0=>?_
 simp (disch:=omega) [zz]
 intro b
 have hf:zol (.fn 75 [.ptr b .str []]) [(b,zE p)] (fun x=>decide (x.path=p)) fs:=⟨rfl,rfl,fun x hx=>⟨_,rfl,by simp,by simpa[TV.er,AV.er]using zm5 b p x⟩⟩
 refine qD (R:=fun r' H'=>r'=.av (.int .i64) (.i .i64 (ZP (fun x:jM=>decide (x.path=p)) fs))/\H'=[(b,zE p)]) [(b,zE p)] [] (by simp[zE]) rfl (by simp[qI]) (by simp) ?_ ?_
 ·have:=zpV _ _ _ fs hf hn
  simpa[TV.er,AV.er,hef,q8.er_cons,zE,HObj.er_var,AV.erk]using this
 rintro r' H' ⟨rfl,rfl⟩ _
 refine⟨_,HSub.refl _,?_⟩
 rcases zat (fun x:jM=>decide (x.path=p)) fs with⟨he,hf⟩|⟨i,hi,he,hf⟩
 ·have ht:ZK fs p=⟨p,false,[]⟩:=by unfold ZK;rw[hf]
  rw[he,ht]
  simp (disch:=omega) [zz,Tryz.f44]
 ·have ht:ZK fs p=⟨p,true,fs[i].data⟩:=by unfold ZK;rw[hf]
  have hg:=jY qS fs i hi
  have hi':(i:Int)<fs.length:=by omega
  have hi0:¬(i:Int)<0:=by omega
  rw[he,ht]
  simp (disch:=omega) [zz,hi',hi0,qH,hg,qS,Tryz.f44]
def zqO (f:AV) (Hs:q8) (g:wD->Bool) (ts:List wD):Prop:=Hs.er=Hs/\f.er=f/\∀x∈ts,VC1 f [.av zcw (zI x)] Hs fun r H'=>r=.av .bool (.b (g x))/\H'=Hs
def jC (l:List wD):AV:=.sl .no (l.map zI)
theorem ZY (l:List wD):(jC l).er=jC l:=by simp[jC,AV.er,AV.ers_eq,Function.comp_def]
theorem zoW (g:wD->Bool) (f:AV) (Hs:q8) (ts:List wD) (hf:zqO f Hs g ts) (hn:ts.length<=1000000000) :
  q7 Tryz.prog 50 [.av (.slice 34) (jC ts),.av .func f] Hs
   fun r H'=>r=.av (.int .i64) (.i .i64 (ZP g ts))/\H'=Hs:=by
 obtain⟨ho,hfe,hff⟩:=hf
 refine zov Tryz.func50 cf0 fun imm0 w0=>?_
 simp (disch:=omega) [zz,jC]
 refine AT.loop' (α:=Nat) (fun k=>St.of [(0,.av (.slice 34) (.sl .no (ts.map zI))),(1,.av .func f),(7,.av (.int .i64) (.i .i64 ts.length)),(8,.av (.int .i64) (.i .i64 k))] [] (fun _=>0) Hs)
  (fun k=>k<=ts.length/\∀x∈ts.take k,g x=false) (fun k=>ts.length-k) 0 ?_ ?_ ?_
 ·apply Le.of<;>simp[zA,qF]
 ·simp
 rintro k ⟨hk',hpk⟩ KL hN hE
 refine zrd cf0 ?_
 by_cases hlt:k<ts.length
 ·have hlt':(k:Int)<ts.length:=by omega
  have hg:=jY zI ts k hlt
  simp (disch:=omega) [zz,hlt',hg]
  refine ZB (R:=fun r' H'=>r'=.av .bool (.b (g ts[k]))/\H'=Hs) Hs [] (by simp) ho (by simp[qI]) (hff _ (List.getElem_mem hlt)) ?_
  rintro r' H' ⟨rfl,rfl⟩ _
  refine⟨H',by simpa using HSub.refl _,?_⟩
  by_cases hp:g ts[k]=true
  ·simp (disch:=omega) [zz,hp]
   refine hE _ _ (by simp) ?_
   simp (disch:=omega) [zz,Tryz.f50,W6 hlt hpk hp,ho]
  ·simp (disch:=omega) [zz,hp]
   refine hN _ (k+1) ?_ ⟨by omega,by rw[yG hlt];exact⟨hpk,by simpa using hp⟩⟩ (by omega)
   apply Le.of<;>simp[zA,qF]
 ·have hlt':¬(k:Int)<ts.length:=by omega
  simp (disch:=omega) [zz,hlt']
  refine hE _ _ (by simp) ?_
  rw[List.take_of_length_le (by omega)]at hpk
  simp (disch:=omega) [zz,Tryz.f50,K0 hpk,ho]
theorem zrN (b:Nat) (p:Txt) (x:wD) (hx:x.outs.length<=2000000):q7 Tryz.prog 51 [.av zcw (zI x),.av .ptr (.ptr b .str [])] [(b,zE p)] fun r H'=>r=.av .bool (.b (decide (p∈x.outs)))/\H'=[(b,zE p)]:=by
 have hc:=JJ x.outs p (by omega)
 refine zov Tryz.func51 cf0 fun imm0 w0=>?_
 simp (disch:=omega) [zz,zE,zI]
 refine qG hc rfl rfl (by simp) (by simp[qM,TV.er,AV.er,AV.ers_eq,strs,Function.comp_def]) ?_
 simp (disch:=omega) [zz,Tryz.f51]
def jK (l:List wD) (p:Txt):Option Nat:=l.findIdx? fun a=>decide (p∈a.outs)
abbrev zs1:Cfg:=⟨fun n=>n==3,fun _=>false⟩
theorem zgB (l:List wD) (hl:l.length<=2000000) (ho:∀a∈l,a.outs.length<=2000000) (p:Txt):PC Tryz.prog 28 [.av (.slice 34) (jC l),.av .str (.s p)] (.tup [(.int .i64,.i .i64 ((jK l p).getD 0:Nat)),(.bool,.b (jK l p).isSome)]):=by
 have hef:=ZY l
 refine q7.sub (R:=fun r H'=>r=.tup [(.int .i64,.i .i64 ((jK l p).getD 0:Nat)),(.bool,.b (jK l p).isSome)]) ?_ (fun r H' hr _=>⟨[],HSub.of_sub (List.nil_sublist _),hr,rfl⟩)
 refine zov Tryz.func28 zs1 fun imm0 w0=>?_
 simp (disch:=omega) [zz]
 intro b
 have hf:zqO (.fn 51 [.ptr b .str []]) [(b,zE p)] (fun x=>decide (p∈x.outs)) l:=⟨rfl,rfl,fun x hx=>⟨_,rfl,by simp,by simpa[TV.er,AV.er]using zrN b p x (ho x hx)⟩⟩
 refine qD (R:=fun r' H'=>r'=.av (.int .i64) (.i .i64 (ZP (fun x:wD=>decide (p∈x.outs)) l))/\H'=[(b,zE p)]) [(b,zE p)] [] (by simp[zE]) rfl (by simp[qI]) (by simp) ?_ ?_
 ·have:=zoW _ _ _ l hf (by omega)
  simpa[TV.er,AV.er,hef,q8.er_cons,zE,HObj.er_var,AV.erk]using this
 rintro r' H' ⟨rfl,rfl⟩ _
 refine⟨_,HSub.refl _,?_⟩
 have hix:ZP (fun x:wD=>decide (p∈x.outs)) l=match jK l p with|some i=>(i:Int)|none=>-1:=rfl
 rw[hix]
 cases hm:jK l p with
 | none=>simp (disch:=omega) [zz,Tryz.f28]
 | some i =>
  have h0:(0:Int)<=i:=by omega
  have hmx:max (i:Int) 0=i:=by omega
  simp (disch:=omega) [zz,h0,hmx,Tryz.f28]
  omega
theorem zmY (k:KnV) (hk:k.data.length<=1000000000000):PC Tryz.prog 48 [.av KnT (kA k)] (.av (q9 Tryz.prog 53) (zG (QU k))):=by
 have hs:=zo6 k.data hk
 refine zow Tryz.func48 cf0 fun imm0 w0=>?_
 by_cases h:k.is=true
 ·simp (disch:=omega) [zz,kA,h]
  (repeat with_reducible refine om ?_)
  refine y9 hs rfl rfl (by simp) (by simp[qM,coC,TV.er,AV.er,AV.ers,zgF]) ?_
  simp (disch:=omega) [zz]
  (repeat with_reducible refine om ?_)
  simp (disch:=omega) [zz,Tryz.f48,zG,QU,h]
 ·have h':k.is=false:=by simpa using h
  simp (disch:=omega) [zz,kA,h',Tryz.f48,zG,QU]
  rfl
def flW:List jM->Nat
 | []=>0
 | x::l=>x.path.length+x.data.length+1+flW l
theorem ze9:∀l:List jM,l.length<=flW l
 | []=>by simp[flW]
 | x::l=>by have:=ze9 l;simp only[List.length_cons,flW];omega
theorem zj4 {l:List jM} {x:jM} (h:x∈l):x.path.length+x.data.length+1<=flW l:=by
 induction l with
 | nil=>cases h
 | cons y r ih =>
  simp only[flW]
  rcases List.mem_cons.1 h with rfl|h
  ·omega
  ·have:=ih h;omega
end Go.Proofs.YtfkcpballfhddaaGreatDoor
end
section
set_option maxRecDepth 100000
namespace Go.Proofs.YtfkcpballfhddaaGreatDoor
open Go Go.Ab
open Classical
variable [Sel]
theorem dW (p:List (List UInt8)) (k:Nat) (h:k<p.length):(strs p)[k]?=some (.s p[k]):=by simp[strs,List.getElem?_eq_getElem h]
theorem WF (l:List UInt8) (hl:l.length<=1000000000):PC Tryz.prog 18 [.av .str (.s l)] (.av .bool (.b (jQ l))):=by
 refine zow Tryz.func18 cf0 fun imm0 w0=>?_
 simp (disch:=omega) [zz]
 refine zcv (D9 l hl) ?_
 simp (disch:=omega) [zz]
 have hle:=K4 47 l
 obtain⟨p,hp⟩:∃p,p=qE 47 l:=⟨_,rfl⟩
 have hlen:∀x∈p,x.length<=l.length:=fun x hx=>y6 47 l x (by rw[<-hp];exact hx)
 rw[<-hp]at hle |-
 refine AT.loop' (α:=Nat) (fun k=>St.of [(3,.av (.slice 9) (.sl .no (strs p))),(4,.av (.int .i64) (.i .i64 k))] [] (fun _=>0) []) (fun k=>k<=p.length/\∀x∈p.take k,QM x=true) (fun k=>p.length-k) 0 ?_ ?_ ?_
 ·apply Le.of<;>simp[le9,qJ]<;>try omega
 ·simp
 rintro k ⟨hk,hall⟩ KL hN hE
 refine zrd cf0 ?_
 by_cases hlt:k<p.length
 ·have hlt':(k:Int)<p.length:=by omega
  have hx:=hlen p[k] (List.getElem_mem _)
  have hg:=dW p k hlt
  simp (disch:=omega) [zz,hlt',hg]
  refine zcv (zgg p[k] (by omega)) ?_
  cases hpv:QM p[k]
  ·simp (disch:=omega) [zz]
   refine hE _ _ (by simp) ?_
   have:jQ l=false:=by
    simp only[jQ,Bool.and_eq_false_iff]
    right
    rw[List.all_eq_false]
    exact⟨p[k],by rw[<-hp];exact List.getElem_mem _,by simp[hpv]⟩
   simp (disch:=omega) [zz,Tryz.f18,this]
  ·simp (disch:=omega) [zz]
   refine hN _ (k+1) ?_ ⟨by omega,by rw[yG hlt];exact⟨hall,hpv⟩⟩ (by omega)
   apply Le.of<;>simp[le9,qJ]<;>try omega
 ·have hlt':¬(k:Int)<p.length:=by omega
  simp (disch:=omega) [zz,hlt']
  refine hE _ _ (by simp) ?_
  rw[List.take_of_length_le (by omega)]at hall
  have hal:p.all QM=true:=by simpa using hall
  simp (disch:=omega) [zz,Tryz.f18,jQ,<-hp,hal]
  omega
theorem zcc (p:List (List UInt8)) (k:Nat):(ZM (p.take k)).length<=(ZM p).length:=by
 by_cases h1:p.take k=[]
 ·rw[h1];simp[ZM]
 by_cases h2:p.drop k=[]
 ·have:=List.take_append_drop k p
  rw[h2,List.append_nil]at this
  rw[this];exact Nat.le_refl _
 ·have:=V8 _ _ h1 h2
  rw[List.take_append_drop]at this
  rw[this];simp
theorem zpl (l:List UInt8) (hl:l.length<=1000000000):PC Tryz.prog 55 [.av .str (.s l)] (.av .str (.s (UJ l))):=by
 refine zow Tryz.func55 cf0 fun imm0 w0=>?_
 simp (disch:=omega) [zz]
 refine zcv (D9 l hl) ?_
 simp (disch:=omega) [zz]
 refine zcv (WF l hl) ?_
 have hle:=K4 47 l
 have hne:=yU 47 l
 obtain⟨p,hp⟩:∃p,p=qE 47 l:=⟨_,rfl⟩
 have hlen:∀x∈p,x.length<=l.length:=fun x hx=>y6 47 l x (by rw[<-hp];exact hx)
 have hjl:ZM p=l:=by rw[hp];exact X5 l
 have hjt:=fun k=>zcc p k
 rw[hjl]at hjt
 have hd:UJ l=if jQ l=true/\p.length≠1 then ZM p.dropLast else []:=by rw[hp];rfl
 rw[<-hp]at hle hne |-
 have hpos:0<p.length:=List.length_pos_iff.2 hne
 cases hm:jQ l
 ·simp (disch:=omega) [zz,Tryz.f55,hd,hm]
 by_cases h1:p.length=1
 ·simp (disch:=omega) [zz,h1,Tryz.f55,hd,hm]
 have h1':¬(p.length:Int)=1:=by omega
 have hg0:=dW p 0 hpos
 simp (disch:=omega) [zz,h1',hg0]
 refine⟨hpos,?_⟩
 refine AT.loop' (α:=Nat) (fun k=>St.of [(3,.av (.slice 9) (.sl .no (strs p))),(4,.av .str (.s (ZM (p.take k)))),(5,.av (.int .i64) (.i .i64 k))] [] (fun _=>0) []) (fun k=>1<=k/\k+1<=p.length) (fun k=>p.length-k) 1 ?_ ?_ ?_
 ·have e:ZM (p.take 1)=p[0]:=by
   cases p with
   | nil=>exact absurd rfl hne
   | cons x r=>simp[ZM]
  apply Le.of<;>simp[le9,qJ,e]<;>try omega
 ·omega
 rintro k ⟨hk1,hk2⟩ KL hN hE
 refine zrd cf0 ?_
 by_cases hlt:k+1<p.length
 ·have hlt':(k:Int)<(p.length:Int)-1:=by omega
  have hx:=hlen p[k] (List.getElem_mem _)
  have hg:=dW p k (by omega)
  have hj:=hjt k
  have hsn:ZM (p.take (k+1))=ZM (p.take k)++47::p[k]:=by
   rw[List.take_succ_eq_append_getElem (by omega),V8 _ _ (by
    intro h
    rcases List.take_eq_nil_iff.1 h with h|h
    ·omega
    ·exact hne h) (by simp)]
   rfl
  simp (disch:=omega) [zz,hlt',hg]
  (repeat with_reducible refine om ?_)
  refine hN _ (k+1) ?_ ⟨by omega,by omega⟩ (by omega)
  apply Le.of<;>simp[le9,qJ,hsn]<;>try omega
 ·have hlt':¬(k:Int)<(p.length:Int)-1:=by omega
  simp (disch:=omega) [zz,hlt']
  refine hE _ _ (by simp) ?_
  have e:p.take k=p.dropLast:=by rw[List.dropLast_eq_take];congr 1;omega
  simp (disch:=omega) [zz,Tryz.f55,hd,hm,h1,e]
theorem D6 (d:List UInt8) (hdl:d.length<=1000000000):∀(n:Nat) (l:List UInt8),l.length<=n->l.length<=1000000000->PC Tryz.prog 35 [.av .str (.s l),.av .str (.s d)] (.av .bool (.b (kN l d)))
 | 0,l,hn,hl=>by
  obtain rfl:l=[]:=List.eq_nil_of_length_eq_zero (by omega)
  refine zow Tryz.func35 cf0 fun imm0 w0=>?_
  simp (disch:=omega) [zz]
  refine qG (WF [] (by simp)) rfl rfl (by simp) (by simp[qM,TV.er,AV.er,coC]) ?_
  have hm:jQ []=false:=by decide
  simp (disch:=omega) [zz,Tryz.f35,kN,hm]
 | n+1,l,hn,hl=>by
  refine zow Tryz.func35 cf0 fun imm0 w0=>?_
  simp (disch:=omega) [zz]
  refine qG (WF l hl) rfl rfl (by simp) (by simp[qM,TV.er,AV.er,coC]) ?_
  cases hm:jQ l
  ·simp (disch:=omega) [zz,Tryz.f35,kN,hm]
  by_cases hd:d=[]
  ·simp (disch:=omega) [zz,Tryz.f35,kN,hm,hd]
  simp (disch:=omega) [zz,hd]
  refine qG (zpl l hl) rfl rfl (by simp) (by simp[qM,TV.er,AV.er,coC]) ?_
  have hst:=zgp hm hd
  have hlt:=zps (l:=l)
  generalize hu:UJ l=u at *
  by_cases h1:u=[]
  ·simp (disch:=omega) [zz,Tryz.f35,hst,h1]
  by_cases h2:u=d
  ·simp (disch:=omega) [zz,Tryz.f35,hst,h1,h2,hd]
  have hlu:=hlt h1
  simp (disch:=omega) [zz,h1,h2]
  refine qG (D6 d hdl n u (by omega) (by omega)) rfl rfl (by simp) (by simp[qM,TV.er,AV.er,coC]) ?_
  simp (disch:=omega) [zz,Tryz.f35,hst,h1,h2]
end Go.Proofs.YtfkcpballfhddaaGreatDoor
end
section
set_option maxRecDepth 100000
namespace Go.Proofs.YtfkcpballfhddaaGreatDoor
open Go Go.Ab
open Classical
variable [Sel] [SelPow] [SelMax]
def JY:Txt:=[111,117,116]
def QD (fs:List jM) (i:Nat) (h:i<fs.length):Int :=
 if jQ fs[i].path=false\/fs[i].path=JY\/kN fs[i].path JY=true then 7
 else if h0:0<i then(if fs[i].path=(fs[i-1]'(by omega)).path then 8 else if Op.bytesLess fs[i].path (fs[i-1]'(by omega)).path=true then 2 else if 65536<fs[i].data.length then 6 else 0)
 else if 65536<fs[i].data.length then 6 else 0
noncomputable def YE (fs:List jM):Int:=if 1024<fs.length then 6 else if h:∃i,∃hi:i<fs.length,QD fs i hi≠0/\∀j (hj:j<i),QD fs j (by omega)=0 then QD fs h.choose h.choose_spec.choose else 0
theorem zdZ {fs:List jM} (h0:¬1024<fs.length) {k:Nat} (hk:k<fs.length) (h1:QD fs k hk≠0) (h2:∀j (hj:j<k),QD fs j (by omega)=0):YE fs=QD fs k hk:=by
 have hex:∃i,∃hi:i<fs.length,QD fs i hi≠0/\∀j (hj:j<i),QD fs j (by omega)=0:=⟨k,hk,h1,h2⟩
 unfold YE
 rw[if_neg h0,dif_pos hex]
 obtain⟨hi,hne,hall⟩:=hex.choose_spec
 have:hex.choose=k:=by
  rcases Nat.lt_trichotomy hex.choose k with h|h|h
  ·exact absurd (h2 _ h) hne
  ·exact h
  ·exact absurd (hall k h) h1
 simp only[this]
theorem dY {fs:List jM} (h0:¬1024<fs.length) (h2:∀j (hj:j<fs.length),QD fs j hj=0):YE fs=0:=by
 unfold YE
 rw[if_neg h0,dif_neg]
 rintro⟨i,hi,h,_⟩
 exact h (h2 i hi)
theorem zh5 (fs:List jM) (hp:∀f∈fs,f.path.length<=2000000) (hn:fs.length<=1000000000):PC Tryz.prog 16 [.av (.slice 57) (qH fs)] (.av (.int .i64) (.i .i64 (YE fs))):=by
 refine zow Tryz.func16 cf0 fun imm0 w0=>?_
 by_cases h0:1024<fs.length
 ·have h0':(1024:Int)<fs.length:=by omega
  have hv:YE fs=6:=by unfold YE;rw[if_pos h0]
  (simp (maxSteps:=2000000) (disch:=first|omega|assumption) [zz,-List.reduceReplicate,qH,h0',hv,Tryz.f16])
 have h0':¬(1024:Int)<fs.length:=by omega
 (simp (maxSteps:=2000000) (disch:=first|omega|assumption) [zz,-List.reduceReplicate,qH,h0'])
 refine AT.loop' (α:=Nat) (fun k=>St.of [(0,.av (.slice 57) (qH fs)),(9,.av (.int .i64) (.i .i64 fs.length)),(10,.av (.int .i64) (.i .i64 k))] [] (fun _=>0) [])
  (fun k=>k<=fs.length/\∀j (hj:j<fs.length),j<k->QD fs j hj=0) (fun k=>fs.length-k) 0 ?_ ?_ ?_
 ·apply Le.of<;>simp[zA,qF,qH]<;>try omega
 ·exact⟨by omega,fun j hj h=>by omega⟩
 rintro k ⟨hk,hall⟩ KL hN hE
 refine zrd cf0 ?_
 by_cases hlt:k<fs.length
 ·have hlt':(k:Int)<fs.length:=by omega
  have hg:=jY qS fs k hlt
  have hpl:=hp _ (List.getElem_mem hlt)
  have hsc:QD fs k hlt=QD fs k hlt:=rfl
  conv at hsc=>rhs;unfold QD
  have hbad:QD fs k hlt≠0->YE fs=QD fs k hlt:=fun h=>zdZ h0 hlt h fun j hj=>hall j (by omega) hj
  obtain⟨f,hf⟩:∃f,f=fs[k]:=⟨_,rfl⟩
  rw[<-hf]at hg hpl
  simp only[<-hf]at hsc
  have hmy:=WF f.path (by omega)
  have hun:=D6 JY (by decide) f.path.length f.path (Nat.le_refl _) (by omega)
  rw[show JY=[111,117,116] from rfl]at hun hsc
  (simp (maxSteps:=2000000) (disch:=first|omega|assumption) [zz,-List.reduceReplicate,hlt',hg,qS,qH])
  refine zcv hmy ?_
  cases hm:jQ f.path with
  | false =>
   have hs:QD fs k hlt=7:=by rw[hsc,if_pos (.inl hm)]
   have hv:=hbad (by omega)
   rw[hs]at hv
   (simp (maxSteps:=2000000) (disch:=first|omega|assumption) [zz,-List.reduceReplicate,hm])
   refine hE _ _ (by simp) ?_
   (simp (maxSteps:=2000000) (disch:=first|omega|assumption) [zz,-List.reduceReplicate,hv,Tryz.f16])
  | true =>
  by_cases ho:f.path=[111,117,116]
  ·have hs:QD fs k hlt=7:=by rw[hsc,if_pos (.inr (.inl ho))]
   have hv:=hbad (by omega)
   rw[hs]at hv
   (simp (maxSteps:=2000000) (disch:=first|omega|assumption) [zz,-List.reduceReplicate,hm,ho])
   refine hE _ _ (by simp) ?_
   (simp (maxSteps:=2000000) (disch:=first|omega|assumption) [zz,-List.reduceReplicate,hv,Tryz.f16])
  (simp (maxSteps:=2000000) (disch:=first|omega|assumption) [zz,-List.reduceReplicate,hm,ho])
  refine qG hun rfl rfl (by simp) (by simp[qM,coC,TV.er,AV.er]) ?_
  cases hu:kN f.path [111,117,116]with
  | true =>
   have hs:QD fs k hlt=7:=by rw[hsc,if_pos (.inr (.inr hu))]
   have hv:=hbad (by omega)
   rw[hs]at hv
   (simp (maxSteps:=2000000) (disch:=first|omega|assumption) [zz,-List.reduceReplicate,hu])
   refine hE _ _ (by simp) ?_
   (simp (maxSteps:=2000000) (disch:=first|omega|assumption) [zz,-List.reduceReplicate,hv,Tryz.f16])
  | false =>
  rw[if_neg (by simp[hm,ho,hu])]at hsc
  cases k with
  | zero =>
   rw[dif_neg (by omega)]at hsc
   by_cases hd:65536<f.data.length
   ·have hd':(65536:Int)<f.data.length:=by omega
    rw[if_pos hd]at hsc
    have hv:=hbad (by omega)
    rw[hsc]at hv
    (simp (maxSteps:=2000000) (disch:=first|omega|assumption) [zz,-List.reduceReplicate,hu,hlt,hlt',hg,qS,qH,hd'])
    refine hE _ _ (by simp) ?_
    (simp (maxSteps:=2000000) (disch:=first|omega|assumption) [zz,-List.reduceReplicate,hv,Tryz.f16])
   ·have hd':¬(65536:Int)<f.data.length:=by omega
    rw[if_neg hd]at hsc
    (simp (maxSteps:=2000000) (disch:=first|omega|assumption) [zz,-List.reduceReplicate,hu,hlt,hlt',hg,qS,qH,hd'])
    refine hN _ 1 ?_ ⟨by omega,fun j hj h=>by
                           obtain rfl:j=0:=by omega
                           exact hsc⟩ (by omega)
    apply Le.of<;>simp[zA,qF,qH]<;>try omega
  | succ k =>
   rw[dif_pos (by omega)]at hsc
   have hg2:=jY qS fs k (by omega)
   have hkk:(k:Int)<fs.length:=by omega
   have hk0:(0:Int)<(k:Int)+1:=by omega
   simp only[Nat.add_sub_cancel]at hsc
   obtain⟨g,hgg⟩:∃g,g=fs[k]:=⟨_,rfl⟩
   rw[<-hgg]at hg2
   simp only[<-hgg]at hsc
   by_cases e1:f.path=g.path
   ·rw[if_pos e1]at hsc
    have hv:=hbad (by omega)
    rw[hsc]at hv
    (simp (maxSteps:=2000000) (disch:=first|omega|assumption) [zz,-List.reduceReplicate,hu,hlt,hlt',hkk,hk0,hg,hg2,qS,qH,e1])
    refine hE _ _ (by simp) ?_
    (simp (maxSteps:=2000000) (disch:=first|omega|assumption) [zz,-List.reduceReplicate,hv,Tryz.f16])
   rw[if_neg e1]at hsc
   cases e2:Op.bytesLess f.path g.path with
   | true =>
    rw[if_pos e2]at hsc
    have hv:=hbad (by omega)
    rw[hsc]at hv
    (simp (maxSteps:=2000000) (disch:=first|omega|assumption) [zz,-List.reduceReplicate,hu,hlt,hlt',hkk,hk0,hg,hg2,qS,qH,e1,e2])
    refine hE _ _ (by simp) ?_
    (simp (maxSteps:=2000000) (disch:=first|omega|assumption) [zz,-List.reduceReplicate,hv,Tryz.f16])
   | false =>
   rw[if_neg (by simp[e2])]at hsc
   by_cases hd:65536<f.data.length
   ·have hd':(65536:Int)<f.data.length:=by omega
    rw[if_pos hd]at hsc
    have hv:=hbad (by omega)
    rw[hsc]at hv
    (simp (maxSteps:=2000000) (disch:=first|omega|assumption) [zz,-List.reduceReplicate,hu,hlt,hlt',hkk,hk0,hg,hg2,qS,qH,e1,e2,hd'])
    (repeat with_reducible refine om ?_)
    refine hE _ _ (by simp) ?_
    (simp (maxSteps:=2000000) (disch:=first|omega|assumption) [zz,-List.reduceReplicate,hv,Tryz.f16])
   ·have hd':¬(65536:Int)<f.data.length:=by omega
    rw[if_neg hd]at hsc
    (simp (maxSteps:=2000000) (disch:=first|omega|assumption) [zz,-List.reduceReplicate,hu,hlt,hlt',hkk,hk0,hg,hg2,qS,qH,e1,e2,hd'])
    (repeat with_reducible refine om ?_)
    refine hN _ (k+2) ?_ ⟨by omega,fun j hj h=>?_⟩ (by omega)
    ·apply Le.of<;>simp[zA,qF,qH]<;>try omega
    ·rcases Nat.lt_or_ge j (k+1)with h'|h'
     ·exact hall j hj h'
     ·obtain rfl:j=k+1:=by omega
      exact hsc
 ·have hlt':¬(k:Int)<fs.length:=by omega
  have hv:=dY h0 fun j hj=>hall j hj (by omega)
  (simp (maxSteps:=2000000) (disch:=first|omega|assumption) [zz,-List.reduceReplicate,hlt',qH])
  refine hE _ _ (by simp) ?_
  (simp (maxSteps:=2000000) (disch:=first|omega|assumption) [zz,-List.reduceReplicate,hv,Tryz.f16])
def UB (f:jM) (ahead:Txt) (first:Bool):Int :=
 if jQ f.path=false\/f.path=JY\/kN f.path JY=true then 7 else
 if first=false/\f.path=ahead then 8 else if first=false/\Op.bytesLess f.path ahead=true then 2 else if 65536<f.data.length then 6 else 0
theorem znY (f:jM) (ahead:Txt) (first:Bool) (hl:f.path.length<=9223372036854775807):PC Tryz.prog 59 [.av zo3 (qS f),.av .str (.s ahead),.av .bool (.b first)] (.av (.int .i64) (.i .i64 (UB f ahead first))):=by
 have hm:=XJ f.path hl
 have hu:=zeT f.path JY hl (by simp[JY])
 refine zow Tryz.func59 cf0 fun imm0 w0=>?_
 simp (disch:=omega) [zz,qS]
 refine zcv hm ?_
 by_cases h1:jQ f.path=true
 rotate_left
 ·have h1':jQ f.path=false:=by simpa using h1
  simp (disch:=omega) [zz,h1',Tryz.f59,UB]
 by_cases h2:f.path=JY
 ·have h2':f.path=[111,117,116]:=h2
  simp (disch:=omega) [zz,h1,h2',Tryz.f59,UB,JY]
 have h2':¬f.path=[111,117,116]:=h2
 simp (disch:=omega) [zz,h1,h2']
 refine qG hu rfl rfl (by simp) (by simp[qM,TV.er,AV.er,JY]) ?_
 by_cases h3:kN f.path JY=true
 ·simp (disch:=omega) [zz,h3,Tryz.f59,UB]
 have h3':kN f.path JY=false:=by simpa using h3
 cases first with
 | true =>
  by_cases h6:65536<f.data.length
  ·have h6':(65536:Int)<f.data.length:=by omega
   simp (disch:=omega) [zz,h3',h6',Tryz.f59,UB,h1,h2,h6]
  ·have h6':¬(65536:Int)<f.data.length:=by omega
   simp (disch:=omega) [zz,h3',h6',Tryz.f59,UB,h1,h2,h6]
 | false =>
  by_cases h4:f.path=ahead
  ·rw[h4]at h1 h2 h3'
   simp (disch:=omega) [zz,h3',h4,Tryz.f59,UB,h1,h2]
  by_cases h5:Op.bytesLess f.path ahead=true
  ·simp (disch:=omega) [zz,h3',h4,h5,Tryz.f59,UB,h1,h2]
  have h5':Op.bytesLess f.path ahead=false:=by simpa using h5
  by_cases h6:65536<f.data.length
  ·have h6':(65536:Int)<f.data.length:=by omega
   simp (disch:=omega) [zz,h3',h4,h5',h6',Tryz.f59,UB,h1,h2,h6]
  ·have h6':¬(65536:Int)<f.data.length:=by omega
   simp (disch:=omega) [zz,h3',h4,h5',h6',Tryz.f59,UB,h1,h2,h6]
def vX (fs:List jM):Nat->Txt
 | 0=>[]
 | k+1=>match fs[k]? with
  | some f=>f.path
  | none=>[]
theorem zlp (fs:List jM) (k:Nat) (h:k<fs.length):UB fs[k] (vX fs k) (decide (k=0))=QD fs k h:=by
 unfold UB QD
 cases k with
 | zero=>simp
 | succ n =>
  have h2:vX fs (n+1)=(fs[n]'(by omega)).path:=by simp[vX,List.getElem?_eq_getElem (show n<fs.length by omega)]
  simp[h2]
theorem zl5 (fs:List jM) (hn:fs.length<=1000000000) (hl:∀f∈fs,f.path.length<=9223372036854775807) :
  PC Tryz.prog 39 [.av (.slice 57) (qH fs)] (.av (.int .i64) (.i .i64 (YE fs))):=by
 refine zow Tryz.func39 cf0 fun imm0 w0=>?_
 by_cases h6:1024<fs.length
 ·have h6':(1024:Int)<fs.length:=by omega
  have hv:YE fs=6:=by unfold YE;rw[if_pos h6]
  simp (disch:=omega) [zz,qH,h6',hv,Tryz.f39]
 have h6':¬(1024:Int)<fs.length:=by omega
 simp (disch:=omega) [zz,qH,h6']
 refine AT.loop' (α:=Nat) (fun k=>St.of [(3,.av .str (.s (vX fs k))),(10,.av (.slice 57) (qH fs)),(11,.av (.int .i64) (.i .i64 fs.length)),(12,.av (.int .i64) (.i .i64 k))] [] (fun _=>0) [])
  (fun k=>k<=fs.length/\∀j (hj:j<fs.length),j<k->QD fs j hj=0) (fun k=>fs.length-k) 0 ?_ ?_ ?_
 ·apply Le.of<;>simp[zA,qF,qJ,qH,vX]<;>try omega
 ·exact⟨by omega,fun j hj h=>by omega⟩
 rintro k ⟨hk,hall⟩ KL hN hE
 refine zrd cf0 ?_
 by_cases hlt:k<fs.length
 ·have hlt':(k:Int)<fs.length:=by omega
  have hg:=jY qS fs k hlt
  have hlk:=znY fs[k] (vX fs k) (decide (k=0)) (hl _ (List.getElem_mem hlt))
  rw[zlp]at hlk
  have hah:vX fs (k+1)=fs[k].path:=by simp[vX,List.getElem?_eq_getElem hlt]
  have hbad:QD fs k hlt≠0->YE fs=QD fs k hlt:=fun h=>zdZ h6 hlt h fun j hj=>hall j (by omega) hj
  obtain⟨f,hf⟩:∃f,f=fs[k]:=⟨_,rfl⟩
  obtain⟨e,he⟩:∃e,e=QD fs k hlt:=⟨_,rfl⟩
  rw[<-hf]at hg hlk hah
  rw[<-he]at hlk hbad
  have hfe:=zbX f
  have hk0:((k:Int)=0)<->k=0:=by omega
  simp (disch:=omega) [zz,hlt',hg,qH]
  (repeat with_reducible refine om ?_)
  refine qG hlk rfl rfl (by simp) (by simp[qM,TV.er,AV.er,hfe]) ?_
  by_cases h0:e=0
  ·simp (disch:=omega) [zz,h0,qS]
   (repeat with_reducible refine om ?_)
   refine hN _ (k+1) ?_ ⟨by omega,fun j hj h=>?_⟩ (by omega)
   ·apply Le.of<;>simp[zA,qF,qJ,qH,hah]<;>try omega
   ·rcases Nat.lt_or_ge j k with h1|h1
    ·exact hall j hj h1
    ·have:j=k:=by omega
     subst this;rw[<-he];exact h0
  ·have hv:=hbad h0
   simp (disch:=omega) [zz,h0]
   (repeat with_reducible refine om ?_)
   refine hE _ _ (by simp) ?_
   simp (disch:=omega) [zz,hv,Tryz.f39]
 ·have hlt':¬(k:Int)<fs.length:=by omega
  have hv:YE fs=0:=dY h6 fun j hj=>hall j hj (by omega)
  simp (disch:=omega) [zz,hlt',qH]
  refine hE _ _ (by simp) ?_
  simp (disch:=omega) [zz,hv,Tryz.f39]
def KT (t:Txt):Int × Int:=match jB t with
 | .ok _=>(0,0)
 | .error (e,n)=>(e,n)
theorem zis (t:Txt) (hl:t.length<=1000000):PC Tryz.prog 93 [.av .str (.s t)] (.tup [(.int .i64,.i .i64 (KT t).1),(.int .i64,.i .i64 (KT t).2)]):=by
 have hc:=cQ t hl
 refine zow Tryz.func93 cf0 fun imm0 w0=>?_
 unfold zbW at hc
 unfold KT
 cases hcv:jB t with
 | ok cs =>
  rw[hcv]at hc
  simp (disch:=omega) [zz]
  refine zcv hc ?_
  simp (disch:=omega) [zz,Tryz.f93]
 | error e =>
  rw[hcv]at hc
  simp (disch:=omega) [zz]
  refine zcv hc ?_
  simp (disch:=omega) [zz,Tryz.f93]
theorem znK (p:Txt) (hl:p.length<=2000000):PC Tryz.prog 94 [.av .str (.s p)] (.av .bool (.b (!kN p JY))):=by
 have hu:=zeT p JY (by omega) (by simp[JY])
 refine zow Tryz.func94 cf0 fun imm0 w0=>?_
 simp (disch:=omega) [zz]
 refine qG hu rfl rfl (by simp) (by simp[qM,TV.er,AV.er,JY]) ?_
 simp (disch:=omega) [zz,Tryz.f94]
theorem zoK (p:Txt) (hl:p.length<=2000000):PC Tryz.prog 95 [.av .str (.s p)] (.av .bool (.b (!jQ p))):=by
 have hu:=XJ p (by omega)
 refine zow Tryz.func95 cf0 fun imm0 w0=>?_
 simp (disch:=omega) [zz]
 refine zcv hu ?_
 simp (disch:=omega) [zz,Tryz.f95]
theorem zmi (p:Txt) (hl:p.length<=2000000):PC Tryz.prog 96 [.av .str (.s p)] (.av .bool (.b (!xD p))):=by
 have hu:=ziW p hl
 refine zow Tryz.func96 cf0 fun imm0 w0=>?_
 simp (disch:=omega) [zz]
 refine zcv hu ?_
 simp (disch:=omega) [zz,Tryz.f96]
def xI:List Txt->List Txt->Bool
 | _,[]=>false
 | L,p::r=>if p∈L then true else xI (L++[p]) r
noncomputable def Y1 (a:wD) (L:List Txt):Int :=
 if (KT a.tool).1≠0 then(KT a.tool).1 else
 if a.outs=[]\/a.outs.any (fun p=>!kN p JY)=true\/a.ins.any (fun p=>!jQ p)=true\/a.asks.any (fun p=>!xD p)=true then 1 else
 if xI L a.outs=true then 8 else 0
def obE (L:List Txt):List (AV × AV):=L.map fun p=>(AV.s p,AV.b true)
def obO (L:List Txt):HObj:=.map 9 4 (obE L)
structure zkS (a:wD):Prop where
 b:zpy a
 o:∀p∈a.outs,p.length<=2000000
 i:∀p∈a.ins,p.length<=2000000
theorem zfC (p:Txt):∀L:List Txt,yK (.s p) (obE L)=if p∈L then some (.b true) else none
 | []=>rfl
 | x::l=>by
  have ih:=zfC p l
  unfold obE at ih |-
  simp only[List.map_cons,yK]
  by_cases h:x=p
  ·simp[h]
  ·have h2:¬p=x:=fun e=>h e.symm
   simp[h,h2,ih]
theorem zjs (p:Txt):∀L:List Txt,p∉L->WG (.s p) (.b true) (obE L)=obE (L++[p])
 | [],_=>rfl
 | x::l,h=>by
  have ih:=zjs p l fun h'=>h (by simp[h'])
  have hx:¬x=p:=fun e=>h (by simp[e])
  unfold obE at ih |-
  simp only[List.map_cons,WG,List.cons_append,ih]
  simp[hx]
theorem zlS (a:wD) (ha:zkS a) (M:Nat) (L:List Txt) :
  q7 Tryz.prog 60 [.av zcw (zI a),.av (.map 9 4) (.map (some M))] [(M,obO L)] fun r H'=>r=.av (.int .i64) (.i .i64 (Y1 a L))/\∃L2,H'=[(M,obO L2)]/\(Y1 a L=0->L2=L++a.outs):=by
 have hbt:=ha.b.bt
 have hbo:=ha.b.bo
 have hbi:=ha.b.bi
 have hba:=ha.b.ba
 have htl:=zis a.tool hbt
 have ho1:Y1 a L=Y1 a L:=rfl
 conv at ho1=>rhs;unfold Y1
 have an1:=VB (fun x=>!kN x JY) (.fn 94 []) [] a.outs ⟨rfl,rfl,fun x hx=>⟨[],rfl,by simp,by have h9:=znK x (ha.o x hx);unfold PC at h9;simpa[TV.er,AV.er]using h9⟩⟩ (by omega)
 have an2:=VB (fun x=>!jQ x) (.fn 95 []) [] a.ins ⟨rfl,rfl,fun x hx=>⟨[],rfl,by simp,by have h9:=zoK x (ha.i x hx);unfold PC at h9;simpa[TV.er,AV.er]using h9⟩⟩ (by omega)
 have an3:=VB (fun x=>!xD x) (.fn 96 []) [] a.asks ⟨rfl,rfl,fun x hx=>⟨[],rfl,by simp,by have h9:=zmi x (by have:=ha.b.bae x hx;omega);unfold PC at h9;simpa[TV.er,AV.er]using h9⟩⟩ (by omega)
 have oer:(obO L).er=obO L:=by simp[obO,HObj.er_map,obE,AV.er,Function.comp_def]
 refine zov Tryz.func60 cf0 fun imm0 w0=>?_
 simp (disch:=omega) [zz,zI]
 refine zcv htl ?_
 by_cases h1:(KT a.tool).1=0
 rotate_left
 ·rw[if_pos h1]at ho1
  simp (disch:=omega) [zz,h1,Tryz.f60,ho1]
  exact⟨L,oer⟩
 rw[if_neg (by simp[h1])]at ho1
 by_cases h2:a.outs=[]
 ·rw[if_pos (.inl h2)]at ho1
  simp (disch:=omega) [zz,h1,h2,Tryz.f60,ho1]
  exact⟨L,oer⟩
 have h2':¬(a.outs.length:Int)=0:=by simp[h2]
 have h2d:decide (a.outs=[])=false:=by simp[h2]
 have h2e:decide ((a.outs.length:Int)=0)=false:=by simp[h2]
 simp (disch:=omega) [zz,h1,h2,h2',h2d,h2e]
 refine qD (R:=fun r H'=>r=.av .bool (.b (a.outs.any fun x=>!kN x JY))/\H'=[]) [] [(M,obO L)] (List.Perm.refl _) rfl (by simp[qI]) (by simp) ?_ ?_
 ·simpa[TV.er,AV.er,q8.er_nil,pU]using an1
 rintro r H' ⟨rfl,rfl⟩ _
 refine⟨[(M,obO L)],HSub.refl _,?_⟩
 cases h3:a.outs.any (fun x=>!kN x JY)with
 | true =>
  rw[if_pos (.inr (.inl h3))]at ho1
  simp (disch:=omega) [zz,h1,h2,Tryz.f60,ho1]
  exact⟨L,oer⟩
 | false =>
 simp (disch:=omega) [zz]
 refine qD (R:=fun r H'=>r=.av .bool (.b (a.ins.any fun x=>!jQ x))/\H'=[]) [] [(M,obO L)] (List.Perm.refl _) rfl (by simp[qI]) (by simp) ?_ ?_
 ·simpa[TV.er,AV.er,q8.er_nil,pU]using an2
 rintro r H' ⟨rfl,rfl⟩ _
 refine⟨[(M,obO L)],HSub.refl _,?_⟩
 cases h4:a.ins.any (fun x=>!jQ x)with
 | true =>
  rw[if_pos (.inr (.inr (.inl h4)))]at ho1
  simp (disch:=omega) [zz,h1,h2,Tryz.f60,ho1]
  exact⟨L,oer⟩
 | false =>
 simp (disch:=omega) [zz]
 refine qD (R:=fun r H'=>r=.av .bool (.b (a.asks.any fun x=>!xD x))/\H'=[]) [] [(M,obO L)] (List.Perm.refl _) rfl (by simp[qI]) (by simp) ?_ ?_
 ·simpa[TV.er,AV.er,q8.er_nil,pU]using an3
 rintro r H' ⟨rfl,rfl⟩ _
 refine⟨[(M,obO L)],HSub.refl _,?_⟩
 cases h5:a.asks.any (fun x=>!xD x)with
 | true =>
  rw[if_pos (.inr (.inr (.inr h5)))]at ho1
  simp (disch:=omega) [zz,h1,h2,Tryz.f60,ho1]
  exact⟨L,oer⟩
 | false =>
 simp (disch:=omega) [zz]
 rw[if_neg (by simp[h2,h3,h4,h5])]at ho1
 refine AT.loop' (α:=Nat) (fun k=>St.of [(1,.av (.map 9 4) (.map (some M))),(44,.av (.slice 9) (.sl .no (strs a.outs))),(45,.av (.int .i64) (.i .i64 a.outs.length)),(46,.av (.int .i64) (.i .i64 k))] [] (fun _=>0) [(M,obO (L++a.outs.take k))])
  (fun k=>k<=a.outs.length/\xI L a.outs=xI (L++a.outs.take k) (a.outs.drop k)) (fun k=>a.outs.length-k) 0 ?_ ?_ ?_
 ·apply Le.of<;>simp[zA,qF,qJ]<;>try omega
 ·exact⟨by omega,by simp⟩
 rintro k ⟨hk,hdu⟩ KL hN hE
 refine zrd cf0 ?_
 by_cases hlt:k<a.outs.length
 ·have hlt':(k:Int)<a.outs.length:=by omega
  have hg:=jY AV.s a.outs k hlt
  have htk:a.outs.take (k+1)=a.outs.take k++[a.outs[k]]:=List.take_succ_eq_append_getElem hlt
  rw[List.drop_eq_getElem_cons hlt]at hdu
  obtain⟨p,hp⟩:∃p,p=a.outs[k]:=⟨_,rfl⟩
  rw[<-hp]at hg htk hdu
  obtain⟨L1,hL1⟩:∃L1,L1=L++a.outs.take k:=⟨_,rfl⟩
  rw[<-hL1]at hdu
  have hL2:L++a.outs.take (k+1)=L1++[p]:=by rw[htk,hL1,List.append_assoc]
  have hfd:=zfC p L1
  rw[<-hL1]
  by_cases hin:p∈L1
  ·have hd:xI L a.outs=true:=by rw[hdu];unfold xI;rw[if_pos hin]
   rw[if_pos hin]at hfd
   rw[if_pos hd]at ho1
   have oer1:(obO L1).er=obO L1:=by simp[obO,HObj.er_map,obE,AV.er,Function.comp_def]
   simp (disch:=omega) [zz,hlt',hg,strs,obO,hfd]
   (repeat with_reducible refine om ?_)
   refine hE _ _ (by simp) ?_
   simp (disch:=omega) [zz,Tryz.f60,ho1]
   exact⟨L1,oer1⟩
  ·rw[if_neg hin]at hfd
   have hd:xI L a.outs=xI (L1++[p]) (a.outs.drop (k+1)):=by
    rw[hdu];conv=>lhs;unfold xI
    rw[if_neg hin]
   have hpt:=zjs p L1 hin
   simp (disch:=omega) [zz,hlt',hg,strs,obO,hfd,hpt]
   (repeat with_reducible refine om ?_)
   refine hN _ (k+1) ?_ ⟨by omega,by rw[hL2];exact hd⟩ (by omega)
   apply Le.of<;>simp[zA,qF,qJ,hL2,strs,obO]<;>try omega
 ·have hlt':¬(k:Int)<a.outs.length:=by omega
  have hk2:a.outs.length<=k:=by omega
  have hd:xI L a.outs=false:=by rw[hdu,List.drop_of_length_le hk2];rfl
  rw[if_neg (by simp[hd])]at ho1
  rw[List.take_of_length_le hk2]
  have oer2:(obO (L++a.outs)).er=obO (L++a.outs):=by simp[obO,HObj.er_map,obE,AV.er,Function.comp_def]
  simp (disch:=omega) [zz,hlt']
  refine hE _ _ (by simp) ?_
  simp (disch:=omega) [zz,Tryz.f60,ho1]
  exact oer2
end Go.Proofs.YtfkcpballfhddaaGreatDoor
end
