/- What a box wrote is not too long; what it read is what files tell: plain. No condition beyond each theorem's own. -/
import Derived.Test.YtooipdkilgpojaaGreatDoorBE1aToFK2
import Derived.Test.YtooipdkilgpojaaGreatDoorBX2ToBL0
set_option linter.unusedSimpArgs false
set_option linter.unusedVariables false
set_option linter.unusedSectionVars false
section
set_option maxRecDepth 100000
namespace Go.Proofs.YtooipdkilgpojaaGreatDoor
open Go Go.Ab
open Classical
variable [Sel] [SelPow] [SelMax]
def OvD (r:RunV):Prop:=r.over.data.length≤65536
theorem OvD.fail (e:Int) (r:RunV):OvD (wC e r):=by simp[OvD,wC]
section
variable {r:RunV} (h:OvD r)
include h
theorem OvD.add (s:Txt):OvD (wW s r):=by
 unfold wW
 split
 ·exact .fail _ _
 ·exact h
theorem OvD.th:∀t d,OvD (thR t d r)
 | .add,d=>h.add d
 | .scan _,_=>h
theorem OvD.co:∀k x,OvD (coR k x r)
 | .there t,x=>by
  rw[coR]
  split
  ·exact h.th _ _
  ·exact .fail _ _
 | .tr,x=>by
  rw[coR]
  split
  ·exact h.add _
  ·exact h
theorem OvD.ask (p:Txt) (k:CoV):OvD (Q6 p k r):=by
 unfold Q6
 split
 ·exact h.co _ _
 split
 ·exact .fail _ _
 ·exact h
theorem OvD.scan (p w:Txt) (l:List Txt):OvD (ZL p w { r with seen:=l }):=OvD.ask (r:={ r with seen:=l++[p] }) h _ _
theorem OvD.set (l:List Txt):OvD (kS l r):=OvD.add (r:={ r with buf:=[] }) h _
theorem OvD.turn (a b:Txt):OvD (wK a b r):=by
 unfold wK
 split
 ·exact h.set _
 split
 ·exact h.set _
 split
 ·exact h
 split
 ·exact h
 split
 ·exact h.set _
 ·exact h
theorem OvD.td (hb:r.buf.length≤65536):∀t,OvD (tdR t r)
 | .cmd c=>by
  show OvD (doR c r)
  unfold doR
  simp only
  split
  ·exact h.ask _ _
  split
  ·exact h.ask _ _
  split
  ·exact h.scan _ _ _
  split
  ·exact h.add _
  split
  ·split
   ·exact h.add _
   ·exact .fail _ _
  split
  ·exact hb
  split
  ·split
   ·exact h
   ·exact .fail _ _
  split
  ·exact .fail _ _
  ·exact h.turn _ _
 | .ans k p=>h.co _ _
 | .line s w=>by
  show OvD (Z1 s w r)
  unfold Z1
  split
  ·split
   ·exact h.add _
   split
   ·exact h
   ·exact h.scan _ _ r.seen
  ·exact h.add _
theorem OvD.step (hb:r.buf.length≤65536):OvD (QL r):=by
 unfold QL
 split
 ·simp[OvD]
 ·exact OvD.td (r:={ r with todo:=r.todo.dropLast }) h hb _
end
theorem OvD.runN:∀(n:Nat) {r r':RunV},runN n r=some r'→wH r→OvD r→OvD r'
 | 0,_,_,h,_,_=>by cases h
 | n+1,r,r',h,hg,ho=>by
  rw[Go.Proofs.YtooipdkilgpojaaGreatDoor.runN]at h
  by_cases hs:kL r=true
  ·rw[if_pos hs]at h;cases h;exact ho
  ·rw[if_neg hs]at h
   exact OvD.runN n h (hg.step (by simpa using hs)) (ho.step hg.inv.s.2.2.1)
theorem OvD.settle {r:RunV} (h:OvD r) (hg:wH r):OvD (kI r):=.runN _ (yW hg.inv).1 hg h
structure zD4 (b:BoxV):Prop where
 ov:OvD b.run
 wr:∀w∈b.wrote,w.2.length≤65536
 asks:b.asks.length≤1040
 rd:∀r∈b.reads,r.path.length≤1040
theorem zD4.round {b:BoxV} (h:zD4 b) (hg:ZJ b):zD4 (roundB b).1:=by
 have h1:OvD (w9 b.run).2∧(w9 b.run).1.data.length≤65536:=by
  have:=h.ov.settle hg.good
  unfold w9
  simp only
  split
  ·exact⟨this,by simp⟩
  ·refine⟨?_,this⟩
   split
   ·simp[OvD,do0]
   ·exact this
 have h0:=hg.round.2
 have h3:(roundB b).1.reads=b.reads∧(roundB b).1.asks.length≤1040:=by
  unfold roundB JA QM
  simp only
  split
  ·rename_i hk
   split
   ·exact⟨rfl,h0 hk⟩
   ·exact⟨rfl,h.asks⟩
  split
  ·split<;>exact⟨rfl,h.asks⟩
  split
  ·split<;>exact⟨rfl,h.asks⟩
  ·exact⟨rfl,h.asks⟩
 have h2:(roundB b).1.run=(w9 b.run).2∧((roundB b).1.wrote=b.wrote∨(roundB b).1.wrote=b.wrote++[((w9 b.run).1.path,(w9 b.run).1.data)]):=by
  unfold roundB JA QM
  simp only
  split
  ·split<;>exact⟨rfl,.inl rfl⟩
  split
  ·split
   ·exact⟨rfl,.inl rfl⟩
   ·exact⟨rfl,.inr rfl⟩
  split
  ·split<;>exact⟨rfl,.inl rfl⟩
  ·exact⟨rfl,.inl rfl⟩
 refine⟨by rw[h2.1];exact h1.1,fun w hw=>?_,h3.2,by rw[h3.1];exact h.rd⟩
 rcases h2.2 with e|e<;>rw[e]at hw
 ·exact h.wr w hw
 ·rcases List.mem_append.1 hw with hw|hw
  ·exact h.wr w hw
  ·rw[List.mem_singleton.1 hw];exact h1.2
theorem zD4.goN:∀(n:Nat) {b b':BoxV},goN n b=some b'→ZJ b→zD4 b→zD4 b'
 | 0,b,b',h,_,_=>by cases h
 | n+1,b,b',h,hg,hd=>by
  rw[Go.Proofs.YtooipdkilgpojaaGreatDoor.goN]at h
  by_cases ho:b.over=true
  ·rw[if_pos ho]at h;cases h;exact hd
  rw[if_neg ho]at h
  by_cases h2:(roundB b).2=true
  ·rw[if_pos h2]at h;cases h;exact hd.round hg
  ·rw[if_neg h2]at h
   exact zD4.goN n h hg.roundB (hd.round hg)
theorem zD4.goOn {b:BoxV} (hg:ZJ b) (h:zD4 b):zD4 (yQ b):=by
 unfold yQ
 cases e:Go.Proofs.YtooipdkilgpojaaGreatDoor.goN (ccR b.run+2) b with
 | none=>exact h
 | some b'=>exact zD4.goN _ e hg h
theorem zD4.give {b:BoxV} (h:zD4 b) (hg:ZJ b) {k:KnV} (hk:b.over=false→k.path=b.asks→ZJ (c9 k b)):zD4 (kB k b).2:=by
 unfold kB
 split
 ·exact h
 rename_i g1
 split
 ·exact h
 rename_i g2
 split
 ·exact h
 rename_i g3
 have g2:k.path=b.asks:=by simpa using g2
 refine zD4.goOn (hk (by simpa using g1) g2) ⟨?_,h.wr,h.asks,fun r hr=>?_⟩
 ·have:=h.ov.settle hg.good
  unfold QB
  simp only
  split
  ·exact this
  split
  ·exact this
  exact this
 ·rcases List.mem_append.1 hr with hr|hr
  ·exact h.rd r hr
  ·rw[List.mem_singleton.1 hr]
   show k.path.length≤1040
   rw[g2];exact h.asks
theorem zya {fs:List U1} (hf:zuK fs=false):∀(n:Nat) {b b':BoxV},goF (zuM fs) n b=some b'→(∀r∈b.reads,J9 (z1 fs r.path)=r)→∀r∈b'.reads,J9 (z1 fs r.path)=r
 | 0,_,_,h,_=>by cases h
 | n+1,b,b',h,hp=>by
  rw[goF]at h
  by_cases ho:b.over=true
  ·rw[if_pos ho]at h;cases h;exact hp
  rw[if_neg ho]at h
  have ho':b.over=false:=by simpa using ho
  simp only[zuM]at h
  have hk:=zuU hf b.asks _ rfl
  refine zya hf n h fun r hr=>?_
  rw[zuS ho' hk.1 hk.2]at hr
  rcases List.mem_append.1 hr with hr|hr
  ·exact hp r hr
  ·rw[List.mem_singleton.1 hr]
   show J9 (z1 fs (z1 fs b.asks).path)=_
   rw[zvy]
theorem zDN {env:List (Txt × Txt)} {cs:List CmdV} {outs:List Txt} {may:Txt→Bool} {f:Txt→Option KnV} (hf:Ans f):∀(n:Nat) {kn:List KnV} {b b':BoxV},Z4 env cs outs may kn b→zD4 b→goF f n b=some b'→zD4 b'
 | 0,_,_,_,_,_,h=>by cases h
 | n+1,kn,b,b',hk,hd,h=>by
  rw[goF]at h
  by_cases ho:b.over=true
  ·rw[if_pos ho]at h;cases h;exact hd
  rw[if_neg ho]at h
  have ho':b.over=false:=by simpa using ho
  cases hfk:f b.asks with
  | none=>rw[hfk]at h;cases h;exact hd
  | some k =>
   rw[hfk]at h
   simp only at h
   obtain⟨hk1,hk2⟩:=hf _ _ hfk
   exact zDN hf n (hk.give k ho' hk1 (fun _=>hk2)).2 (hd.give hk.g fun h3 h2=>(hk.can k h3 h2 (fun _=>hk2)).good) h
theorem zDY {a:xW} (ha:zky a) (hw:∀p∈a.outs,p.length≤1000000) {fs:List U1} (h:(zuI a fs).2=0):(∀r∈(zuI a fs).1.reads,J9 (z1 fs r.path)=r)∧(zuI a fs).1.reads.length≤500∧(∀r∈(zuI a fs).1.reads,r.path.length≤1040)∧
  (zuI a fs).1.outs.length≤1000000∧∀f∈(zuI a fs).1.outs,f.path.length≤1000000∧f.data.length≤65536:=by
 obtain⟨cs,hcs,hl,he⟩:=zvF h
 obtain⟨g1,g2,g3⟩:=zv2 ha hcs hl
 obtain⟨kn',hk⟩:=zwK (zuU hl) 600 g3 g1
 have hd:=zDN (zuU hl) 600 g3 (zD4.goOn (za8 hcs (by have:=ha.be;omega) ha.bev _ _) ⟨by simp[OvD,CE,W7,do0],by simp[CE],by simp[CE],by simp[CE]⟩) g1
 have hn0:(ZR a.env a.outs (jI a) cs).reads=[]:=by
  obtain⟨m,h⟩:=zec a.env a.outs (jI a) cs (y8 hcs)
  exact h.reads
 have ht:=zya hl 600 g1 (by rw[hn0];simp)
 rw[he]
 simp only[zew g2]
 obtain⟨wr,hs⟩:=hk.s
 refine⟨ht,hk.rl,hd.rd,?_,fun f hf=>?_⟩
 ·have:=hk.wl ha.bo
  unfold yD
  split
  ·simp
  split
  ·simp only[ZH,List.length_map,ZO];exact this
  ·simp
 ·have hf':f∈ZH (zuJ (zuM fs) a cs):=by
   unfold yD at hf
   rw[if_neg (by rw[g2];decide)]at hf
   split at hf
   ·exact hf
   ·cases hf
  obtain⟨p,hp,rfl⟩:=List.mem_map.1 hf'
  have hp:=(W0 _).mem_iff.1 hp
  refine⟨hw _ ?_,?_⟩
  ·rw[hs.wrote]at hp
   simp only[List.map_map,List.mem_map]at hp
   obtain⟨w,h1,rfl⟩:=hp
   exact hs.own w h1
  ·show (((zuJ (zuM fs) a cs).wrote.find? fun x=>decide (x.1=p)).getD ([],[])).2.length≤_
   cases e:(zuJ (zuM fs) a cs).wrote.find? (fun x=>decide (x.1=p))with
   | none=>simp
   | some x=>exact hd.wr _ (List.mem_of_find?_eq_some e)
end Go.Proofs.YtooipdkilgpojaaGreatDoor
end
section
set_option maxRecDepth 100000
namespace Go.Proofs.YtooipdkilgpojaaGreatDoor
open Go Go.Ab
open Classical
variable [Sel] [SelPow] [SelMax]
abbrev SeS:TyD:=.slice 85
abbrev SeT:TyD:=.struct [9,9]
def sts (l:List (Txt × Txt)):List AV:=l.map Z7
theorem zzd (l:List (Txt × Txt)):AV.ers (sts l)=sts l:=by simp[sts,Z7,AV.ers_eq,Function.comp_def,AV.er,AV.ers]
noncomputable def seO (l:List (Txt × Txt)):HObj:=.var SeS (.sl .no (sts l))
theorem zzz (l:List (Txt × Txt)):(seO l).er=seO l:=by simp[seO,HObj.er_var,AV.erk,zzd]
abbrev zBp:Cfg:=⟨fun n=>n==1,fun _=>false⟩
theorem zze (l:List (Txt × Txt)):q7 Tryz.prog 142 [.av SeS (.sl .no (sts l))] [] fun r H'=>∃c,r=.av .func (.fn 186 [.ptr c SeS []])∧H'=[(c,seO l)]:=by
 refine q7.of_vc laid mixed Tryz.func142 rfl zBp (by kernel_rfl) (by simp[Tryz.ntmps142]) fun imm0 w0=>?_
 (simp (maxSteps:=2000000) (disch:=first|omega|assumption) [zz,-List.reduceReplicate])
 intro c
 (simp (maxSteps:=2000000) (disch:=first|omega|assumption) [zz,-List.reduceReplicate,Tryz.f142,seO,AV.ers,zzd])
set_option maxHeartbeats 4000000 in
theorem zzv {G:Nat→q8→Prop} (y c:Nat) (l:List (Txt × Txt)) (hl:l.length≤1000000000) (hGe:∀k H,G k H→H.er=H)
  (hY:∀k (hk:k<l.length) H,G k H→YC Tryz.prog y [.av (.int .i64) (.i .i64 (l.length-1-k:Nat)),.av SeT (Z7 (l[l.length-1-k]'(by omega)))] H fun r H'=>r=.av .bool (.b true)∧G (k+1) H') :
  ∀H,G 0 H→q7 Tryz.prog 186 [.av .func (.yl y),.av .ptr (.ptr c SeS [])] ((c,seO l)::H)
   fun r H'=>r=.tup []∧∃H1,G l.length H1∧H'=(c,seO l)::H1:=by
 intro H hG
 have hbe:=zzz l
 have hsl:∀x:List (Txt × Txt),(sts x).length=x.length:=fun x=>by simp[sts]
 refine q7.of_vc laid mixed Tryz.func186 rfl cf0 (by kernel_rfl) (by simp[Tryz.ntmps186]) fun imm0 w0=>?_
 (simp (maxSteps:=2000000) (disch:=first|omega|assumption) [zz,-List.reduceReplicate,seO,hsl])
 refine AT.loop' (α:=Nat × q8) (fun p=>St.of [(0,.av .func (.yl y)),(1,.av .ptr (.ptr c SeS [])),(3,.av (.int .i64) (.i .i64 ((l.length:Int)-1-p.1)))] [] (fun _=>0) ((c,seO l)::p.2))
  (fun p=>p.1≤l.length∧G p.1 p.2) (fun p=>l.length-p.1) (0,H) ?_ ?_ ?_
 ·refine Le.of ?_ ?_ ?_ ?_ ?_<;>simp[qU,qG,seO]<;>try omega
 ·exact⟨by omega,hG⟩
 rintro⟨k,H1⟩ ⟨hk,hG1⟩ KL hN hE
 simp only at hk hG1 hN
 refine qM (cf:=cf0) laid mixed _ _ _ (by kernel_rfl) ?_
 by_cases hlt:k<l.length
 ·obtain⟨i,hi⟩:∃i:Nat,i=l.length-1-k:=⟨_,rfl⟩
  have hii:(l.length:Int)-1-k=i:=by omega
  have hil:i<l.length:=by omega
  have hgi:(sts l)[i]?=some (Z7 l[i]):=by simp[sts,List.getElem?_eq_getElem hil]
  rw[hii]
  have hge:(0:Int)≤i:=by omega
  (simp (maxSteps:=2000000) (disch:=first|omega|assumption) [zz,-List.reduceReplicate,hge,seO,hgi,hsl,hil])
  refine JY (R:=fun r H'=>r=.av .bool (.b true)∧G (k+1) H') H1 [(c,seO l)] (List.perm_append_comm (l₁:=[_])) (by simp[qQ]) ?_ ?_
  ·rw[hGe _ _ hG1]
   have:=hY k hlt _ hG1
   simpa[TV.er,←hi]using this
  rintro r H2 ⟨rfl,hG2⟩ _
  refine⟨(c,seO l)::H2,HSub.of_perm (List.perm_append_comm (l₂:=[_])),?_⟩
  (simp (maxSteps:=2000000) (disch:=first|omega|assumption) [zz,-List.reduceReplicate])
  refine hN _ (k+1,H2) ?_ ⟨by omega,hG2⟩ (by simp only;omega)
  refine Le.of ?_ ?_ ?_ ?_ ?_<;>simp[qU,qG,seO]<;>try omega
 ·have hge:(l.length:Int)-1-k=-1:=by omega
  rw[hge]
  (simp (maxSteps:=2000000) (disch:=first|omega|assumption) [zz,-List.reduceReplicate])
  refine hE _ _ (by simp) ?_
  have hkl:k=l.length:=by omega
  subst hkl
  have hH:=hGe _ _ hG1
  (simp (maxSteps:=2000000) (disch:=first|omega|assumption) [zz,-List.reduceReplicate,Tryz.f186,hH,hbe])
  exact⟨hG1,by first|rfl|simp[seO]⟩
def zzg (l:List (Txt × Txt)) (k:Nat):List (Txt × Txt):=zyG (l.drop (l.length-k))
theorem zzu (l:List (Txt × Txt)) (k:Nat) (h:k<l.length):zzg l (k+1)=zyY (l[l.length-1-k]'(by omega)).1 (l[l.length-1-k]'(by omega)).2 (zzg l k):=by
 have e:l.length-(k+1)=l.length-1-k:=by omega
 have e2:l.length-k=(l.length-1-k)+1:=by omega
 unfold zzg
 rw[e,e2,List.drop_eq_getElem_cons (by omega)]
 rfl
theorem zzF (l:List (Txt × Txt)):zzg l l.length=zyG l:=by simp[zzg]
def tkE (d:Nat):Nat→Tok
 | 0=>.full
 | k+1=>.own d (k+1)
theorem zzn (m:List (Txt × Txt)) (l:List Txt) (k:Nat) (h:k<l.length):strs (zyD m (l.take (k+1)))=strs (zyD m (l.take k))++[.s l[k],.s (zzl m l[k])]:=by
 rw[List.take_succ_eq_append_getElem h];simp only[zyD,strs,List.flatMap_append,List.map_append,List.flatMap_cons,List.flatMap_nil,List.append_nil,List.map_cons,List.map_nil]
theorem zyS (m:List (Txt × Txt)):∀l:List Txt,(zyD m l).length=2*l.length
 | []=>rfl
 | x::l=>by have:=zyS m l;simp only[zyD,List.flatMap_cons,List.length_append,List.length_cons,List.length_nil]at this ⊢;omega
abbrev zzy:Cfg:=⟨fun n=>n==3,fun _=>false⟩
set_option maxHeartbeats 16000000 in
theorem zAu (l:List (Txt × Txt)) (hl:l.length≤1000000):PC Tryz.prog 103 [.av SeS (zS l)] (.av TxS (.sl .no (strs (zyK l)))):=by
 unfold PC
 have hse2:AV.ers (l.map Z7)=l.map Z7:=zzd l
 have hse:(zS l).er=zS l:=v8 l
 refine q7.sub (R:=fun r H'=>r=.av TxS (.sl .no (strs (zyK l)))) ?_ (fun r H' hr _=>⟨[],HSub.of_sub (List.nil_sublist _),hr,rfl⟩)
 refine q7.of_vc laid mixed Tryz.func103 rfl zzy (by kernel_rfl) (by simp[Tryz.ntmps103]) fun imm0 w0=>?_
 (simp (maxSteps:=2000000) (disch:=first|omega|assumption) [zz,-List.reduceReplicate])
 intro M b3 m1
 have m1':¬M=b3:=fun e=>m1 e.symm
 refine qE (R:=fun r' H'=>∃c,r'=.av .func (.fn 186 [.ptr c SeS []])∧H'=[(c,seO l)]) [] [(b3,wbO M),(M,wrO [])] (List.Perm.refl _) rfl (by simp[qQ]) (by simp) ?_ ?_
 ·have:=zze l
  simpa[TV.er,AV.er,hse2,zS,sts]using this
 rintro r' H' ⟨c,rfl,rfl⟩ hnd2
 have hc1:(¬c=b3∧¬c=M)∧¬b3=M:=by simpa using hnd2
 obtain⟨⟨hc1,hc2⟩,_⟩:=hc1
 refine⟨[(c,seO l),(b3,wbO M),(M,wrO [])],HSub.refl _,?_⟩
 (simp (maxSteps:=2000000) (disch:=first|omega|assumption) [zz,-List.reduceReplicate])
 refine AT.absE (fun E=>E 3=.av .ptr (.ptr b3 WrT [])∧E 11=.av .func (.fn 186 [.ptr c SeS []])) (by simp) ?_
 rintro E ⟨hE3,hE11⟩
 refine AT.range (gf:=186) rfl (by simpa using hE11) rfl (by simp) ?_
 intro y D rr i0 w1 hy hrec hready hpend hpar has hbo
 simp at hy
 obtain⟨y1,y2,y3⟩:=hy
 have y2':¬b3=y:=fun e=>y2 e.symm
 have y3':¬M=y:=fun e=>y3 e.symm
 obtain⟨G,hG⟩:∃G:Nat→q8→Prop,G=fun k H=>H=[(y,.lrec rr i0 w1),(b3,wbO M),(M,wrO (zzg l k))]:=⟨_,rfl⟩
 have hwe:=fun l=>QZ l
 have hbe:(wbO M).er=wbO M:=rfl
 have hce:=zzz l
 have hmm:∀l:List (Txt × Txt),List.map (fun p=>(p.1.er,p.2.er)) (wrE l)=wrE l:=by simp[wrE,AV.er,Function.comp_def]
 refine⟨(c,seO l)::[(y,.lrec rr i0 w1),(b3,wbO M),(M,wrO [])],[],fun t H'=>t=.tup []∧∃H1,G l.length H1∧H'=(c,seO l)::H1,?_,?_,?_⟩
 ·rw[List.append_nil]
  exact List.Perm.swap _ _ _
 ·have he:q8.er ((c,seO l)::[(y,.lrec rr i0 w1),(b3,wbO M),(M,wrO [])])=(c,seO l)::[(y,.lrec rr i0 w1),(b3,wbO M),(M,wrO [])]:=by
   simp only[q8.er_cons,q8.er_nil,hwe,hbe,hce];rfl
  rw[he]
  refine zzv (G:=G) y c l (by omega) ?_ ?_ _ ?_
  ·rw[hG]
   rintro k H rfl
   simp only[q8.er_cons,q8.er_nil,hwe,hbe];rfl
  ·rw[hG]
   rintro k hk H rfl
   obtain⟨x,hx⟩:∃x,x=l[l.length-1-k]'(by omega):=⟨_,rfl⟩
   have hnx:=zzu l k hk
   rw[←hx]at hnx ⊢
   refine zeS (R:=fun rrr H'=>rrr=.av .bool (.b true)∧Ab.HSub [(y,.lrec rr i0 w1),(b3,wbO M),(M,wrO (zzg l (k+1)))] H') ?_ (fun rrr H' ⟨e1,e7⟩ _=>⟨_,e7,e1,rfl⟩)
   refine YC.of_round (l:=y) hrec hready (by rw[hpar];rfl) (by rw[hpar];simp) (fun imm wd=>?_)
   rw[has,hbo,hpar]
   have hrl:∀(pp:Array Nat) (a b:Code),pp=rr.params→a=rr.assign→b=rr.body→({ state:=.ready,pending:=none,fn:=rr.fn,tmps:=rr.tmps,params:=pp,assign:=a,body:=b,defers:=rr.defers }:Loop)=rr:=by
    rintro _ _ _ rfl rfl rfl;exact u7 hready hpend
   have her:∀r',(HObj.lrec r' i0 w1).er=HObj.lrec r' i0 w1:=fun _=>rfl
   refine qM (cf:=zzy) laid mixed _ _ _ (by kernel_rfl) ?_
   (simp (maxSteps:=2000000) (disch:=first|omega|assumption) [zz,-List.reduceReplicate,QW,yL,vS,Z7])
   refine qM (cf:=zzy) laid mixed _ _ _ (by kernel_rfl) ?_
   (simp (maxSteps:=2000000) (disch:=first|omega|assumption) [zz,-List.reduceReplicate,hE3,y2,y2',y3,y3',m1,m1',wbO,wrO,zz7,WR,uV])
   rw[her,hrl _ _ _ hpar.symm has.symm hbo.symm,hnx,hmm]
   exact HSub.refl _
  ·rw[hG]
   show _=_
   simp[zzg,zyG]
 ·rintro t H' ⟨rfl,H1,hG1,rfl⟩ hnd3
  rw[hG]at hG1
  subst hG1
  refine⟨rr,[(b3,wbO M),(M,wrO (zyG l)),(c,seO l)],HSub.of_perm (by rw[List.append_nil,zzF];exact List.perm_append_comm (l₁:=[_]) (l₂:=[_,_,_])),by rw[hready];simp,?_⟩
  rw[hpend]
  (simp (maxSteps:=2000000) (disch:=first|omega|assumption) [zz,-List.reduceReplicate,PR,hE3,wbO])
  refine qE (R:=fun r H'=>∃c2,r=.av .func (.fn 95 [.ptr c2 WrT []])∧H'=[(c2,wbO M)]) [] [(b3,wbO M),(M,wrO (zyG l)),(c,seO l)] (List.Perm.refl _) rfl (by simp[qQ]) (by simp) ?_ ?_
  ·simpa[TV.er,AV.er]using zk4 M
  rintro r' H' ⟨c2,rfl,rfl⟩ hnd4
  have n2:¬c2=M:=fun e=>by simp[e]at hnd4
  obtain⟨m,hm⟩:∃m,m=zyG l:=⟨_,rfl⟩
  have hml:m.length≤1000000:=by rw[hm];exact Nat.le_trans (zz0 l) hl
  have hek:zyK l=zyD m (kK (m.map (·.1))):=by rw[hm];rfl
  rw[←hm]
  refine⟨[(c2,wbO M),(b3,wbO M),(M,wrO m),(c,seO l)],HSub.refl _,?_⟩
  (simp (maxSteps:=2000000) (disch:=first|omega|assumption) [zz,-List.reduceReplicate])
  refine qE (R:=wS (m.map (·.1)) [(M,wrO m),(c2,wbO M)]) [(M,wrO m),(c2,wbO M)] [(b3,wbO M),(c,seO l)] (List.perm_iff_count.2 fun a=>by simp only[List.count_append,List.count_cons,List.count_nil];omega) rfl (by simp[qQ]) (by simp) ?_ ?_
  ·have:=ze9 (zz8 c2 M n2 m) (by simpa using hml)
   simpa[TV.er,AV.er,AV.ers,q8.er_cons,q8.er_nil,hwe,hbe]using this
  rintro r' H' ⟨v,HR,rfl,hrow,rfl⟩ hnd5
  obtain⟨ks,hks⟩:∃ks,ks=kK (m.map (·.1)):=⟨_,rfl⟩
  rw[←hks]at hrow hek
  have hkl:ks.length≤1000000:=by rw[hks,ZO];simpa using hml
  refine⟨HR++[(b3,wbO M),(M,wrO m),(c2,wbO M),(c,seO l)],HSub.of_perm (List.perm_iff_count.2 fun a=>by simp only[List.count_append,List.count_cons,List.count_nil];omega),?_⟩
  rcases hrow with⟨hk0,rfl,rfl⟩|⟨b,cap,j,hj,rfl,hcap,rfl⟩
  ·(simp (maxSteps:=2000000) (disch:=first|omega|assumption) [zz,-List.reduceReplicate])
   have h0:zyK l=[]:=by rw[hek,hk0];rfl
   refine AT.loop' (α:=Unit) (fun _=>St.of [(6,.cst (.slice none 0 0)),(22,.av (.int .i64) (.i .i64 0)),(23,.av (.int .i64) (.i .i64 0))] [] (fun _=>0) [] [D]) (fun _=>True) (fun _=>0) () ?_ trivial ?_
   ·refine Le.of ?_ ?_ ?_ ?_ ?_<;>simp[qU,qG,zX]<;>try omega
   rintro _ _ KL hN hE
   refine qM (cf:=zzy) laid mixed _ _ _ (by kernel_rfl) ?_
   (simp (maxSteps:=2000000) (disch:=first|omega|assumption) [zz,-List.reduceReplicate])
   refine hE _ _ (by simp) ?_
   (simp (maxSteps:=2000000) (disch:=first|omega|assumption) [zz,-List.reduceReplicate,h0,strs,Tryz.f103])
  ·(simp (maxSteps:=2000000) (disch:=first|omega|assumption) [zz,-List.reduceReplicate])
   refine AT.loop' (α:=Nat) (fun k=>St.of [(3,.av .ptr (.ptr b3 WrT [])),(6,.av TxS (.sl (tkE 33 k) (strs (zyD m (ks.take k))))),(21,.av TxS (.msl b 9 0 ks.length cap)),(22,.av (.int .i64) (.i .i64 ks.length)),(23,.av (.int .i64) (.i .i64 k))] [] (fun j=>if j=33 then k else 0) [(b,wY cap ks j),(b3,wbO M),(M,wrO m)] [D])
    (fun k=>k≤ks.length) (fun k=>ks.length-k) 0 ?_ ?_ ?_
   ·refine Le.of ?_ ?_ ?_ ?_ ?_<;>simp[qU,qG,zX,tkE,zyD,strs,wY,hE3]<;>try omega
   ·omega
   rintro k hk KL hN hE
   refine qM (cf:=zzy) laid mixed _ _ _ (by kernel_rfl) ?_
   by_cases hlt:k<ks.length
   ·have hlt':(k:Int)<ks.length:=by omega
    have hg:=YT ks j k hlt
    have hst:=zzn m ks k hlt
    have hpl:=zyS m (ks.take k)
    have htl:(ks.take k).length=k:=by rw[List.length_take];omega
    rw[htl]at hpl
    have hfd:=VO ks[k] m
    have hme:ks[k]∈m.map (·.1):=by rw[←(W0 (m.map (·.1))).mem_iff,←hks];exact List.getElem_mem hlt
    obtain⟨z,hz⟩:=zcf hme
    have hvz:zzl m ks[k]=z.2:=by unfold zzl;rw[hz];rfl
    rw[hz]at hfd
    rw[hvz]at hst
    simp only[Option.map_some]at hfd
    obtain⟨x,hx⟩:∃x,x=ks[k]:=⟨_,rfl⟩
    rw[←hx]at hg hst hfd
    have nb:¬b=b3:=fun e=>by simp[e]at hnd5
    have nb2:¬b=M:=fun e=>by simp[e]at hnd5
    have nb':¬b3=b:=fun e=>nb e.symm
    have nb2':¬M=b:=fun e=>nb2 e.symm
    cases k with
    | zero =>
     have hp0:zyD m []=[]:=rfl
     have hst1:strs (zyD m (ks.take 1))=[.s x,.s z.2]:=hst
     have hs0:strs []=[]:=rfl
     (simp (maxSteps:=2000000) (disch:=first|omega|assumption) [zz,hlt,hg,wY,wbO,wrO,nb,nb',nb2,nb2',m1,m1',hfd,tkE,qX,hp0])
     (simp (maxSteps:=2000000) (disch:=first|omega|assumption) [zz,wB,hp0])
     (repeat with_reducible refine om ?_)
     refine hN _ 1 ?_ (by omega) (by omega)
     refine Le.of ?_ ?_ ?_ ?_ ?_<;>simp[qU,qG,tkE,hst1,wY,wbO,wrO,hs0,hp0]<;>try omega
    | succ k =>
     have hlI:(k:Int)+1<ks.length:=by omega
     (simp (maxSteps:=2000000) (disch:=first|omega|assumption) [zz,hlI,hlt,hg,wY,wbO,wrO,nb,nb',nb2,nb2',m1,m1',hfd,tkE,qX,hpl])
     (simp (maxSteps:=2000000) (disch:=first|omega|assumption) [zz,wB,hpl])
     (repeat with_reducible refine om ?_)
     refine hN _ (k+2) ?_ (by omega) (by omega)
     refine Le.of ?_ ?_ ?_ ?_ ?_<;>simp[qU,qG,tkE,hst,wY,wbO,wrO]<;>try omega
     all_goals (intro j;by_cases hj:j=33<;>simp[hj])
   have hlt':¬(k:Int)<ks.length:=by omega
   (simp (maxSteps:=2000000) (disch:=first|omega|assumption) [zz,-List.reduceReplicate,hlt'])
   refine hE _ _ (by simp) ?_
   rw[List.take_of_length_le (by omega)]
   (simp (maxSteps:=2000000) (disch:=first|omega|assumption) [zz,-List.reduceReplicate,hek,zyQ,Tryz.f103])
theorem zyW {N:Nat} (hN:N≤1000000000000000):∀l:List Txt,(∀x∈l,x.length≤N)→(WI l).length≤(N+22)*l.length
 | [],_=>by simp[WI]
 | x::l,h=>by
  have ih:=zyW hN l fun y hy=>h y (by simp[hy])
  have hx:=h x (by simp)
  have hi:(Lib.itoa (x.length:Int)).length≤21:=Lib.itoa_length_le _ (by omega) (by omega)
  simp only[WI,List.length_append,List.length_cons,Nat.mul_add,Nat.mul_one]
  omega
theorem zyN (l:List Txt):(zyE l).length≤l.length:=by
 have:=zaW (kK l)
 rw[ZO]at this;exact this
theorem zzj (l:List (Txt × Txt)):(zyK l).length≤2*l.length:=by
 have:=zz0 l
 rw[zyK,zyS,ZO,List.length_map];omega
theorem zzD {l:List (Txt × Txt)} {x:Txt} (h:x∈zyK l):∃s∈l,x=s.1∨x=s.2:=by
 obtain⟨n,hn,hx⟩:=List.mem_flatMap.1 h
 have hn:=(W0 _).mem_iff.1 hn
 rw[zz9,zyF]at hn
 obtain⟨s,hs⟩:=Option.isSome_iff_exists.1 hn
 refine⟨s,List.mem_of_find?_eq_some hs,?_⟩
 have h1:s.1=n:=by simpa using List.find?_some hs
 have h2:zzl (zyG l) n=s.2:=by unfold zzl;rw[zyF,hs];rfl
 simp only[h2,List.mem_cons,List.not_mem_nil,or_false]at hx
 rcases hx with rfl|rfl
 ·exact .inl h1.symm
 ·exact .inr rfl
theorem zzC {a:xW} (ha:vA a≤2000):(WI (zyK a.env)).length≤10000000∧(WI (zyE a.ins)).length≤10000000∧(WI (zyE a.asks)).length≤10000000∧(WI (zyE a.outs)).length≤10000000:=by
 have hb:=zbN ha
 unfold vA at ha
 have e1:=pU a.env
 have e2:=WB a.ins
 have e3:=WB a.asks
 have e4:=WB a.outs
 have st:∀l:List Txt,txW l≤2000→(WI (zyE l)).length≤10000000:=fun l hl=>by
  have h1:=zyW (N:=2000) (by decide) (zyE l) fun x hx=>by
   have:=zll ((zyX x l).1 hx);omega
  have h2:=zyN l
  have h3:=WB l
  have h4:(2000+22)*(zyE l).length≤(2000+22)*2000:=Nat.mul_le_mul_left _ (by omega)
  omega
 refine⟨?_,st _ (by omega),st _ (by omega),st _ (by omega)⟩
 have h1:=zyW (N:=2000) (by decide) (zyK a.env) fun x hx=>by
  obtain⟨s,hs,hx⟩:=zzD hx
  have:=zmB hs
  rcases hx with rfl|rfl<;>omega
 have h2:=zzj a.env
 have h4:(2000+22)*(zyK a.env).length≤(2000+22)*4000:=Nat.mul_le_mul_left _ (by omega)
 omega
abbrev zAz:Cfg:=⟨fun _=>false,fun _=>false⟩
set_option maxHeartbeats 16000000 in
theorem zzq (a:xW) (ha:vA a≤2000):PC Tryz.prog 60 [.av UI (kT a)] (.av .str (.s (zz5 a))):=by
 have hb:=zbN ha
 obtain⟨l1,l2,l3,l4⟩:=zzC ha
 have he:=zAu a.env hb.be
 have hi:=zzm a.ins hb.bi
 have hk:=zzm a.asks hb.ba
 have ho:=zzm a.outs hb.bo
 have hkv:zz5 a=WI [a.tool,WI (zyK a.env),WI (zyE a.ins),WI (zyE a.asks),WI (zyE a.outs)]:=rfl
 obtain⟨E,hE⟩:∃E,E=zyK a.env:=⟨_,rfl⟩
 obtain⟨I,hI⟩:∃E,E=zyE a.ins:=⟨_,rfl⟩
 obtain⟨K0,hK⟩:∃E,E=zyE a.asks:=⟨_,rfl⟩
 obtain⟨O,hO⟩:∃E,E=zyE a.outs:=⟨_,rfl⟩
 rw[←hE]at he hkv l1
 rw[←hI]at hi hkv l2
 rw[←hK]at hk hkv l3
 rw[←hO]at ho hkv l4
 refine PC.of <| q7.of_vc laid mixed Tryz.func60 rfl zAz (by kernel_rfl) (by simp[Tryz.ntmps60]) fun imm0 w0=>?_
 (simp (maxSteps:=2000000) (disch:=first|omega|assumption) [zz,-List.reduceReplicate,kT])
 (repeat with_reducible refine om ?_)
 have e1:=v8 a.env
 have e2:=fun l=>zyQ l
 refine jC he rfl rfl (by simp) (by simp[qS,coC,TV.er,AV.er,e1]) ?_
 (simp (maxSteps:=2000000) (disch:=first|omega|assumption) [zz,-List.reduceReplicate])
 (repeat with_reducible refine om ?_)
 refine jC hi rfl rfl (by simp) (by simp[qS,coC,TV.er,AV.er,e2]) ?_
 (simp (maxSteps:=2000000) (disch:=first|omega|assumption) [zz,-List.reduceReplicate])
 (repeat with_reducible refine om ?_)
 refine jC hk rfl rfl (by simp) (by simp[qS,coC,TV.er,AV.er,e2]) ?_
 (simp (maxSteps:=2000000) (disch:=first|omega|assumption) [zz,-List.reduceReplicate])
 (repeat with_reducible refine om ?_)
 refine jC ho rfl rfl (by simp) (by simp[qS,coC,TV.er,AV.er,e2]) ?_
 (simp (maxSteps:=2000000) (disch:=first|omega|assumption) [zz])
 (repeat with_reducible refine om ?_)
 obtain⟨rows,hrows⟩:∃r:List (List Txt),r=[E,I,K0,O]:=⟨_,rfl⟩
 have hrm:[AV.sl Tok.no (strs E),.sl .no (strs I),.sl .no (strs K0),.sl .no (strs O)]=rows.map UY:=by rw[hrows];rfl
 have hrl:rows.length=4:=by rw[hrows];rfl
 obtain⟨Rt,hRt⟩:∃r:List Txt,r=rows.map WI:=⟨_,rfl⟩
 have hRl:Rt.length=4:=by rw[hRt,List.length_map,hrl]
 have hkw:zz5 a=WI (a.tool::Rt):=by rw[hkv,hRt,hrows];rfl
 have hrb:∀x∈rows,(WI x).length≤10000000∧x.length≤1000000000:=by
  have q1:E.length≤1000000000:=by have:=zzj a.env;have:=hb.be;rw[hE];omega
  have q2:I.length≤1000000000:=by have:=zyN a.ins;have:=hb.bi;rw[hI];omega
  have q3:K0.length≤1000000000:=by have:=zyN a.asks;have:=hb.ba;rw[hK];omega
  have q4:O.length≤1000000000:=by have:=zyN a.outs;have:=hb.bo;rw[hO];omega
  rw[hrows]
  simp only[List.mem_cons,List.not_mem_nil,or_false]
  rintro x (rfl|rfl|rfl|rfl)
  ·exact⟨l1,q1⟩
  ·exact⟨l2,q2⟩
  ·exact⟨l3,q3⟩
  ·exact⟨l4,q4⟩
 clear hE hI hK hO he hi hk ho l1 l2 l3 l4 hkv
 rw[hrm]
 clear hrm hrows
 refine AT.loop' (α:=Nat) (fun k=>St.of [(4,.av TxS (.sl (tkE 33 k) (strs (a.tool::Rt.take k)))),(23,.av (.slice 25) (.sl .full (rows.map UY))),(24,.av (.int .i64) (.i .i64 4)),(25,.av (.int .i64) (.i .i64 k))] [] (fun j=>if j=33 then k else 0) [])
  (fun k=>k≤4) (fun k=>4-k) 0 ?_ ?_ ?_
 ·refine Le.of ?_ ?_ ?_ ?_ ?_<;>simp[qU,qG,zX,tkE,strs]<;>try omega
 ·omega
 rintro k hk4 KL hN hE
 refine qM (cf:=zAz) laid mixed _ _ _ (by kernel_rfl) ?_
 by_cases hlt:k<4
 ·have hlt':(k:Int)<4:=by omega
  have hg:=zm7 rows k (by omega)
  obtain⟨x,hx⟩:∃x,x=rows[k]'(by omega):=⟨_,rfl⟩
  have hxb:=hrb x (by rw[hx];exact List.getElem_mem _)
  have hRk:Rt[k]'(by omega)=WI x:=by simp only[hRt,List.getElem_map,hx]
  have hst:strs (a.tool::Rt.take (k+1))=strs (a.tool::Rt.take k)++[AV.s (WI x)]:=by
   rw[List.take_succ_eq_append_getElem (by omega),hRk];simp only[strs,List.map_append,List.map_cons,List.map_nil,List.cons_append]
  rw[←hx]at hg
  have hrow:PC Tryz.prog 105 [.av (.slice 9) (.sl .no (strs x))] (.av .str (.s (WI x))):=zzx x (by omega) (by omega)
  have htl:(strs (a.tool::Rt.take k)).length=k+1:=by rw[qX,List.length_cons,List.length_take];omega
  (simp (maxSteps:=2000000) (disch:=first|omega|assumption) [zz,-List.reduceReplicate,hlt',hg,hrl,UY])
  refine qL hrow rfl rfl (by simp) (by simp[qS,TV.er,AV.er,e2]) ?_
  cases k with
  | zero =>
   (simp (maxSteps:=2000000) (disch:=first|omega|assumption) [zz,tkE])
   (simp (maxSteps:=2000000) (disch:=first|omega|assumption) [zz,wB,htl])
   (repeat with_reducible refine om ?_)
   have hst1:strs (a.tool::Rt.take 1)=strs [a.tool]++[AV.s (WI x)]:=hst
   refine hN _ 1 ?_ (by omega) (by omega)
   refine Le.of ?_ ?_ ?_ ?_ ?_<;>simp[qU,qG,tkE,hst1]<;>try omega
  | succ k =>
   (simp (maxSteps:=2000000) (disch:=first|omega|assumption) [zz,tkE])
   (simp (maxSteps:=2000000) (disch:=first|omega|assumption) [zz,wB,htl])
   (repeat with_reducible refine om ?_)
   refine hN _ (k+2) ?_ (by omega) (by omega)
   refine Le.of ?_ ?_ ?_ ?_ ?_<;>simp[qU,qG,tkE,hst]<;>try omega
   all_goals (intro j;by_cases hj:j=33<;>simp[hj])
 ·have hkn:k=4:=by omega
  subst hkn
  have htk:Rt.take 4=Rt:=List.take_of_length_le (by omega)
  have hrow:PC Tryz.prog 105 [.av (.slice 9) (.sl .no (strs (a.tool::Rt)))] (.av .str (.s (zz5 a))):=by
   rw[hkw]
   refine zzx (a.tool::Rt) (by simp[hRl]) ?_
   have:=zyW (N:=10000000) (by decide) (a.tool::Rt) fun x hx=>by
    rcases List.mem_cons.1 hx with rfl|hx
    ·have:=hb.bt;omega
    ·rw[hRt]at hx
     obtain⟨y,hy,rfl⟩:=List.mem_map.1 hx
     exact(hrb y hy).1
   simp only[List.length_cons,hRl]at this
   omega
  (simp (maxSteps:=2000000) (disch:=first|omega|assumption) [zz,-List.reduceReplicate,htk])
  refine hE _ _ (by simp) ?_
  (simp (maxSteps:=2000000) (disch:=first|omega|assumption) [zz,-List.reduceReplicate,htk])
  refine qL hrow rfl rfl (by simp) (by simp[qS,TV.er,AV.er,e2]) ?_
  (simp (maxSteps:=2000000) (disch:=first|omega|assumption) [zz,-List.reduceReplicate,Tryz.f60])
@[simp] theorem zor:qZ Tryz.prog 22=true:=by kernel_rfl
@[simp] theorem zsb:z8 Tryz.prog (.func 22)=false:=q9 zor
@[simp] theorem zo3:qZ Tryz.prog 54=true:=by kernel_rfl
@[simp] theorem zrg:z8 Tryz.prog (.func 54)=false:=q9 zo3
@[simp] theorem zos:qZ Tryz.prog 55=true:=by kernel_rfl
@[simp] theorem zrK:z8 Tryz.prog (.func 55)=false:=q9 zos
@[simp] theorem zEn:qZ Tryz.prog 53=true:=by kernel_rfl
@[simp] theorem zEF:z8 Tryz.prog (.func 53)=false:=q9 zEn
@[simp] theorem znt:qZ Tryz.prog 56=true:=by kernel_rfl
@[simp] theorem zrk:z8 Tryz.prog (.func 56)=false:=q9 znt
@[simp] theorem zo5:qZ Tryz.prog 58=true:=by kernel_rfl
@[simp] theorem zrN:z8 Tryz.prog (.func 58)=false:=q9 zo5
@[simp] theorem zEt:qZ Tryz.prog 52=true:=by kernel_rfl
@[simp] theorem zEO:z8 Tryz.prog (.func 52)=false:=q9 zEt
@[simp] theorem znU:qZ Tryz.prog 57=true:=by kernel_rfl
@[simp] theorem zrA:z8 Tryz.prog (.func 57)=false:=q9 znU
abbrev zvS:TyD:=.struct [9,9]
def zw0 (f:AV) (Hs:q8) (g:U1→Bool) (ts:List U1):Prop:=Hs.er=Hs∧f.er=f∧∀x∈ts,VC1 f [.av zvS (jZ x)] Hs fun r H'=>r=.av .bool (.b (g x))∧H'=Hs
set_option maxHeartbeats 4000000 in
theorem zw3 (g:U1→Bool) (f:AV) (Hs:q8) (ts:List U1) (hf:zw0 f Hs g ts) (hn:ts.length≤1000000000) :
  q7 Tryz.prog 57 [.av (.slice 63) (zU ts),.av .func f] Hs
   fun r H'=>r=.av (.int .i64) (.i .i64 (J7 g ts))∧H'=Hs:=by
 obtain⟨ho,hfe,hff⟩:=hf
 refine q7.of_vc laid mixed Tryz.func57 rfl cf0 (by kernel_rfl) (by simp[Tryz.ntmps57]) fun imm0 w0=>?_
 (simp (maxSteps:=2000000) (disch:=first|omega|assumption) [zz,-List.reduceReplicate,zU])
 refine AT.loop' (α:=Nat) (fun k=>St.of [(0,.av (.slice 63) (.sl .no (ts.map jZ))),(1,.av .func f),(7,.av (.int .i64) (.i .i64 ts.length)),(8,.av (.int .i64) (.i .i64 k))] [] (fun _=>0) Hs)
  (fun k=>k≤ts.length∧∀x∈ts.take k,g x=false) (fun k=>ts.length-k) 0 ?_ ?_ ?_
 ·refine Le.of ?_ ?_ ?_ ?_ ?_<;>simp[qU,qG]
 ·simp
 rintro k ⟨hk',hpk⟩ KL hN hE
 refine qM (cf:=cf0) laid mixed _ _ _ (by kernel_rfl) ?_
 by_cases hlt:k<ts.length
 ·have hlt':(k:Int)<ts.length:=by omega
  have hg:=KB jZ ts k hlt
  (simp (maxSteps:=2000000) (disch:=first|omega|assumption) [zz,-List.reduceReplicate,hlt',hg])
  refine ZG (R:=fun r' H'=>r'=.av .bool (.b (g ts[k]))∧H'=Hs) Hs [] (by simp) ho (by simp[qQ]) (hff _ (List.getElem_mem hlt)) ?_
  rintro r' H' ⟨rfl,rfl⟩ _
  refine⟨H',by simpa using HSub.refl _,?_⟩
  by_cases hp:g ts[k]=true
  ·(simp (maxSteps:=2000000) (disch:=first|omega|assumption) [zz,-List.reduceReplicate,hp])
   refine hE _ _ (by simp) ?_
   (simp (maxSteps:=2000000) (disch:=first|omega|assumption) [zz,-List.reduceReplicate,Tryz.f57,uL hlt hpk hp,ho])
  ·(simp (maxSteps:=2000000) (disch:=first|omega|assumption) [zz,-List.reduceReplicate,hp])
   refine hN _ (k+1) ?_ ⟨by omega,by rw[Z2 hlt];exact⟨hpk,by simpa using hp⟩⟩ (by omega)
   refine Le.of ?_ ?_ ?_ ?_ ?_<;>simp[qU,qG]
 ·have hlt':¬(k:Int)<ts.length:=by omega
  (simp (maxSteps:=2000000) (disch:=first|omega|assumption) [zz,-List.reduceReplicate,hlt'])
  refine hE _ _ (by simp) ?_
  rw[List.take_of_length_le (by omega)]at hpk
  (simp (maxSteps:=2000000) (disch:=first|omega|assumption) [zz,-List.reduceReplicate,Tryz.f57,x9 hpk,ho])
theorem zwj (x:U1):PC Tryz.prog 53 [.av zvS (jZ x)] (.av .bool (.b (decide (65536<x.data.length)))):=by
 refine PC.of <| q7.of_vc laid mixed Tryz.func53 rfl cf0 (by kernel_rfl) (by simp[Tryz.ntmps53]) fun imm0 w0=>?_
 (simp (maxSteps:=2000000) (disch:=first|omega|assumption) [zz,-List.reduceReplicate,jZ])
 by_cases h:65536<x.data.length
 ·have h':(65536:Int)<x.data.length:=by omega
  (simp (maxSteps:=2000000) (disch:=first|omega|assumption) [zz,-List.reduceReplicate,h,h',Tryz.f53])
 ·have h':¬(65536:Int)<x.data.length:=by omega
  (simp (maxSteps:=2000000) (disch:=first|omega|assumption) [zz,-List.reduceReplicate,h,h',Tryz.f53])
theorem zvK (ts:List U1) (hn:ts.length≤1000000000):PC Tryz.prog 52 [.av (.slice 63) (zU ts),.av .func (.fn 53 [])] (.av .bool (.b (zuK ts))):=by
 have hf:zw0 (.fn 53 []) [] (fun x=>decide (65536<x.data.length)) ts:=⟨rfl,rfl,fun x hx=>⟨[],rfl,by simp,by have h9:=zwj x;unfold PC at h9;simpa[TV.er,AV.er]using h9⟩⟩
 have hef:=zdW ts
 refine PC.of <| q7.of_vc laid mixed Tryz.func52 rfl cf0 (by kernel_rfl) (by simp[Tryz.ntmps52]) fun imm0 w0=>?_
 (simp (maxSteps:=2000000) (disch:=first|omega|assumption) [zz,-List.reduceReplicate])
 refine qE (R:=fun r' H'=>r'=.av (.int .i64) (.i .i64 (J7 (fun x=>decide (65536<x.data.length)) ts))∧H'=[]) [] [] (by simp) rfl (by simp[qQ]) (by simp) ?_ ?_
 ·have:=zw3 _ _ _ ts hf hn
  simpa[TV.er,AV.er,hef]using this
 rintro r' H' ⟨rfl,rfl⟩ _
 refine⟨[],by simpa using HSub.refl _,?_⟩
 rcases YV (fun x:U1=>decide (65536<x.data.length)) ts with⟨he,hall⟩|⟨i,hi,he,hs,_⟩
 ·have hl:zuK ts=false:=by unfold zuK;rw[List.any_eq_false];intro x hx;have:=hall x hx;simpa using this
  rw[he,hl]
  (simp (maxSteps:=2000000) (disch:=first|omega|assumption) [zz,-List.reduceReplicate,Tryz.f52])
 ·have hl:zuK ts=true:=by unfold zuK;exact List.any_eq_true.2 ⟨_,List.getElem_mem hi,hs⟩
  rw[he,hl]
  have hi':(0:Int)≤i:=by omega
  (simp (maxSteps:=2000000) (disch:=first|omega|assumption) [zz,-List.reduceReplicate,hi',Tryz.f52])
theorem zwi (b:Nat) (p:Txt) (x:U1):q7 Tryz.prog 58 [.av zvS (jZ x),.av .ptr (.ptr b .str [])] [(b,zF p)] fun r H'=>r=.av .bool (.b (decide (x.path=p)))∧H'=[(b,zF p)]:=by
 refine q7.of_vc laid mixed Tryz.func58 rfl cf0 (by kernel_rfl) (by simp[Tryz.ntmps58]) fun imm0 w0=>?_
 (simp (maxSteps:=2000000) (disch:=first|omega|assumption) [zz,-List.reduceReplicate,zF,jZ])
 (simp (maxSteps:=2000000) (disch:=first|omega|assumption) [zz,-List.reduceReplicate,Tryz.f58])
noncomputable def zuP (fs:List U1):HObj:=.var (.slice 63) (zU fs)
theorem zvR (fs:List U1):(zuP fs).er=zuP fs:=by simp[zuP,HObj.er_var]
abbrev zxa:Cfg:=⟨fun n=>n==2,fun _=>false⟩
set_option maxHeartbeats 4000000 in
theorem zwu (bf:Nat) (fs:List U1) (hn:fs.length≤1000000000) (p:Txt) :
  q7 Tryz.prog 56 [.av .str (.s p),.av .ptr (.ptr bf (.slice 63) [])] [(bf,zuP fs)] fun r H'=>r=.tup [(KnT,zH (z1 fs p)),(.bool,.b true)]∧H'=[(bf,zuP fs)]:=by
 have hef:=zdW fs
 have hbe:=zvR fs
 refine q7.sub (R:=fun r H'=>r=.tup [(KnT,zH (z1 fs p)),(.bool,.b true)]∧∃H2,Ab.HSub H2 H'∧H2=[(bf,zuP fs)]) ?_ fun y H' ⟨h1,H2,h2,h3⟩ _=>⟨H2,h2,h1,h3⟩
 refine q7.of_vc laid mixed Tryz.func56 rfl zxa (by kernel_rfl) (by simp[Tryz.ntmps56]) fun imm0 w0=>?_
 (simp (maxSteps:=2000000) (disch:=first|omega|assumption) [zz,-List.reduceReplicate])
 intro b m1
 have m1':¬bf=b:=fun e=>m1 e.symm
 rw[show zuP fs=.var (.slice 63) (zU fs) from rfl]at hbe ⊢
 (simp (maxSteps:=2000000) (disch:=first|omega|assumption) [zz,-List.reduceReplicate,m1,m1'])
 have hf:zw0 (.fn 58 [.ptr b .str []]) [(b,zF p)] (fun x=>decide (x.path=p)) fs:=⟨rfl,rfl,fun x hx=>⟨_,rfl,by simp,by simpa[TV.er,AV.er]using zwi b p x⟩⟩
 refine qE (R:=fun r' H'=>r'=.av (.int .i64) (.i .i64 (J7 (fun x:U1=>decide (x.path=p)) fs))∧H'=[(b,zF p)]) [(b,zF p)] [(bf,zuP fs)] (by simp[zuP,zF]) rfl (by simp[qQ]) (by simp) ?_ ?_
 ·have:=zw3 _ _ _ fs hf hn
  simpa[TV.er,AV.er,hef,q8.er_cons,zF,HObj.er_var,AV.erk]using this
 rintro r' H' ⟨rfl,rfl⟩ _
 refine⟨_,HSub.refl _,?_⟩
 rcases ze8 (fun x:U1=>decide (x.path=p)) fs with⟨he,hf⟩|⟨i,hi,he,hf⟩
 ·have ht:z1 fs p=⟨p,false,[]⟩:=by unfold z1;rw[hf]
  rw[he,ht]
  (simp (maxSteps:=2000000) (disch:=first|omega|assumption) [zz,-List.reduceReplicate,zF,zuP,m1,m1',hbe,zH,Tryz.f56])
  exact HSub.of_sub ((List.Sublist.refl _).cons _)
 ·have ht:z1 fs p=⟨p,true,fs[i].data⟩:=by unfold z1;rw[hf]
  have hg:=KB jZ fs i hi
  have hee:AV.ers (fs.map jZ)=fs.map jZ:=by simp[AV.ers_eq,Function.comp_def]
  have hi':(i:Int)<fs.length:=by omega
  have hi0:¬(i:Int)<0:=by omega
  rw[he,ht]
  (simp (maxSteps:=2000000) (disch:=first|omega|assumption) [zz,-List.reduceReplicate,zF,zuP,m1,m1',hi',hi0,zU,hg,jZ])
  (repeat with_reducible refine om ?_)
  (simp (maxSteps:=2000000) (disch:=first|omega|assumption) [zz,-List.reduceReplicate,hbe,hee,zH,Tryz.f56])
  exact HSub.of_sub ((List.Sublist.refl _).cons _)
end Go.Proofs.YtooipdkilgpojaaGreatDoor
end
