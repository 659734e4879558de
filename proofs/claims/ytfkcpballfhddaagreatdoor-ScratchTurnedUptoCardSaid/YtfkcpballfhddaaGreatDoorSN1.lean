/- The law walked. No condition. -/
import Derived.Test.YtfkcpballfhddaaGreatDoorSM1
import Derived.Test.YtfkcpballfhddaaGreatDoorSG0ToSNa
set_option linter.unusedSimpArgs false
set_option linter.unusedVariables false
set_option linter.unusedSectionVars false
set_option maxHeartbeats 64000000
set_option maxRecDepth 100000
namespace Go.Proofs.YtfkcpballfhddaaGreatDoor
open Go Go.Ab
open Classical
variable [Sel] [SelPow] [SelMax]
theorem WkC.turn {w:qQ} (h:WkC w):WkC (kS w) :=
 h.same rfl (fun a ha=>h.a a (List.mem_reverse.1 ha)) (by rw[Z6];exact h.an) h.p h.wn
theorem zlc {w:qQ} {k:Nat} (hk:k<w.acts.length):w.acts.reverse.take (k+1)=w.acts.reverse.take k++[w.acts[w.acts.length-1-k]]:=by
 rw[List.take_succ_eq_append_getElem (by simpa using hk),List.getElem_reverse]
theorem zjb {α:Type} (l:List α) (i:Nat) (h:i<l.length):(l.take (i+1)).drop i=[l[i]]:=by
 rw[List.take_succ_eq_append_getElem h,List.drop_append_of_le_length (by rw[List.length_take];omega),List.drop_of_length_le (by rw[List.length_take];omega)]
 rfl
theorem zme {w:qQ} (hw:gA w) {i:Nat} (hi:i<(kY w).length):PC Tryz.prog 12 [.av XE (.agg [.sl .no [qU (kY w)[i]],.sl .no [],.sl .no [],.sl .no []]),.av XE (.agg [.sl .no [qU (kY w)[i]],.sl .no [],.sl .no [],.sl .no []])] (.av .bool (.b true)):=by
 have a0:i<w.acts.length:=by simpa[kY]using hi
 have hg:(kY w)[i]=if wT w i then jH (qL w) i else zh4:=by simp[kY]
 rw[hg]
 split
 ·exact d5 hw a0
 ·have hz:zlq ⟨[zh4],[],[],[]⟩:=⟨by simp,by simp,fun o ho=>by rw[List.mem_singleton.1 ho];exact⟨by simp[zh4],by simp[zh4]⟩⟩
  have:=zgd _ _ hz hz
  simpa[wE,yP,qH]using this
abbrev zlT:Cfg:=⟨fun _=>false,fun n=>n==41⟩
theorem DV (w:qQ) (hb:WkB w) (hc:ZE w=false->WkC w):PC Tryz.prog 3 [.av Q7 (j7 w)] (.av .bool (.b true)):=by
 have ad:=uZ
 have ap:=uR w hb
 have a5:=JW w
 obtain⟨W,hW⟩:∃W,W=j7 w:=⟨_,rfl⟩
 have a6:W=.agg [.sl .no (w.files.map qS),.sl .no (w.acts.map zI),.sl .no (strs w.wants),.b w.keep]:=hW
 rw[<-hW]at ap a5 |-
 refine zow Tryz.func3 zlT fun b3 w0=>?_
 simp (disch:=omega) [zz]
 refine qG ap rfl rfl (by simp) (by simp[qM,TV.er,a5]) ?_
 by_cases hg:ZE w=true
 ·simp (disch:=omega) [zz,hg]
  refine zcv ad ?_
  simp (disch:=omega) [zz,Tryz.f3]
 have hg':ZE w=false:=by simpa using hg
 replace hc:=hc hg'
 have aw:=WN w hc
 have a8:=XQ w hc
 rw[<-hW]at aw a8
 simp (disch:=omega) [zz,hg']
 refine qG aw rfl rfl (by simp) (by simp[qM,TV.er,a5]) ?_
 by_cases h0:QP w=0
 rotate_left
 ·simp (disch:=omega) [zz,h0]
  refine zcv ad ?_
  simp (disch:=omega) [zz,Tryz.f3]
 have hw:=hc.ok h0
 have hz:=d8 h0
 have bc:=P4 hg'
 have a3:=XQ (kS w) hc.turn
 rw[PX h0]at a8
 rw[PX hz.turn.chk]at a3
 simp (disch:=omega) [zz,h0,a6]
 refine AT.loop' (α:=Nat) (fun k=>St.of [(1,.loc 1 []),(3,.loc 3 []),(23,.av (.int .i64) (.i .i64 w.acts.length)),(24,.av (.int .i64) (.i .i64 k))] [(1,(Q7,W)),(3,(Q7,.agg [.sl .no (w.files.map qS),.sl (tkG 40 k) ((w.acts.reverse.take k).map zI),.sl .no (strs w.wants),.b w.keep]))] (fun j=>if j=40 then k else 0) [])
  (fun k=>k<=w.acts.length) (fun k=>w.acts.length-k) 0 ?_ (by omega) ?_
 ·apply Le.of<;>simp[zA,qF,qJ,a6,tkG]<;>try omega
 rintro k hk KL hN hE
 refine zrd zlT ?_
 by_cases ae:k<w.acts.length
 ·have hlt':(k:Int)<w.acts.length:=by omega
  have an:=congrArg (List.map zI) (zlc ae)
  rw[List.map_append,List.map_cons,List.map_nil]at an
  have b9:(w.acts.map zI)[w.acts.length-1-k]?=some (zI w.acts[w.acts.length-1-k]):=jY zI _ _ (by omega)
  have b6:((w.acts.length:Int)-1-k).toNat=w.acts.length-1-k:=by omega
  have b2:¬((w.acts.length:Int)-1-k<0):=by omega
  have ay:((w.acts.length:Int)-1-k<w.acts.length):=by omega
  have b1:(0:Int)<=(w.acts.length:Int)-1-k:=by omega
  have b8:w.acts.length-1-k<w.acts.length:=by omega
  have bb:((w.acts.reverse.take k).map zI).length<=8:=by rw[List.length_map];exact Nat.le_trans (List.length_take_le ..) (by omega)
  generalize (w.acts.reverse.take k).map zI=R at *
  simp (disch:=omega) [zz,hlt',a6,b6,b2,ay,b1,b8,b9]
  (repeat with_reducible refine om ?_)
  refine KX (by simp) (by simp;omega) (by simp;omega) (by simp) (by simp) ?_
  simp (disch:=omega) [zz]
  (repeat with_reducible refine om ?_)
  refine hN _ (k+1) ?_ (by omega) (by omega)
  rw[an]
  apply Le.of<;>simp[zA,qF,qJ,a6]<;>try omega
  all_goals (intro j;by_cases hj:j=40<;>simp[hj])
 have ba:k=w.acts.length:=by omega
 subst ba
 have hlt':¬(w.acts.length:Int)<w.acts.length:=by omega
 have ar:w.acts.reverse.take w.acts.length=w.acts.reverse:=List.take_of_length_le (by simp)
 simp (disch:=omega) [zz,hlt']
 refine hE _ _ (by simp) ?_
 clear hN hE
 have b7:j7 (kS w)=.agg [.sl .no (w.files.map qS),.sl .no (w.acts.reverse.map zI),.sl .no (strs w.wants),.b w.keep]:=rfl
 rw[b7]at a3
 have ai:AV.ers (w.acts.reverse.map zI)=w.acts.reverse.map zI:=YV _
 have b4:AV.ers (w.files.map qS)=w.files.map qS:=by simp[AV.ers_eq,Function.comp_def]
 have az:AV.ers (strs w.wants)=strs w.wants:=by simp[strs,AV.ers_eq,Function.comp_def,AV.er]
 have b0:AV.ers (List.take w.acts.length (w.acts.map zI).reverse)=(w.acts.map zI).reverse:=by rw[List.take_of_length_le (by simp),<-List.map_reverse];exact ai
 simp (disch:=omega) [zz,ar]
 refine qG a8 rfl rfl (by simp) (by simp[qM,TV.er,a5]) ?_
 simp (disch:=omega) [zz,ar]
 refine qG a3 rfl rfl (by simp) (by simp[qM,TV.er,AV.er,AV.ers,ai,b4,az,b0]) ?_
 have a7:=dI (k9 w).files (k9 (kS w)).files (Nat.le_trans (V9 _ _) (by have:=uL w;have:=hz.wl;omega)) (Nat.le_trans (V9 _ _) (by have:=uL (kS w);have:=hz.turn.wl;omega))
 have af:(k9 (kS w)).files=(k9 w).files:=zhI hz
 rw[af]at a7
 rw[decide_eq_true (rfl:(k9 w).files=(k9 w).files)]at a7
 have ac:(kY w).length=w.acts.length:=by simp[kY]
 have a0:(kY (kS w)).length=w.acts.length:=by simp[kY,Z6]
 have al:wE (k9 w)=.agg [.sl .no ((kY w).map qU),.sl .no ((k9 w).ran.map (.i .i64 ·)),.sl .no [],qH (k9 w).files]:=rfl
 have au:wE (k9 (kS w))=.agg [.sl .no ((kY (kS w)).map qU),.sl .no ((k9 (kS w)).ran.map (.i .i64 ·)),.sl .no [],qH (k9 w).files]:=by rw[<-af];rfl
 have ag:=jJ (k9 w).files
 obtain⟨R1,a9⟩:∃R1,R1=wE (k9 w):=⟨_,rfl⟩
 obtain⟨R2,aa⟩:∃R2,R2=wE (k9 (kS w)):=⟨_,rfl⟩
 have a1:=a9.trans al
 have a2:=aa.trans au
 simp only[<-a9,<-aa]
 simp (disch:=omega) [zz,a1,a2,ac,a0]
 refine qG a7 rfl rfl (by simp) (by simp[qM,TV.er,AV.er,ag]) ?_
 obtain⟨O1,ah⟩:∃O1,O1=(kY w).map qU:=⟨_,rfl⟩
 obtain⟨O2,ab⟩:∃O2,O2=(kY (kS w)).map qU:=⟨_,rfl⟩
 have l1:O1.length=w.acts.length:=by rw[ah,List.length_map,ac]
 have l2:O2.length=w.acts.length:=by rw[ab,List.length_map,a0]
 simp only[<-ah,<-ab]
 simp (disch:=omega) [zz,l1,l2,ac,a0]
 obtain⟨A1,aq⟩:∃A1,A1=AV.sl .no ((k9 w).ran.map (.i .i64 ·)):=⟨_,rfl⟩
 obtain⟨A2,ak⟩:∃A2,A2=AV.sl .no ((k9 (kS w)).ran.map (.i .i64 ·)):=⟨_,rfl⟩
 refine AT.loop' (α:=Nat) (fun k=>St.of [(5,.loc 5 []),(7,.loc 7 []),(9,.av (.int .i64) (.i .i64 w.acts.length)),(79,.av (.int .i64) (.i .i64 w.acts.length)),(80,.av (.int .i64) (.i .i64 k))] [(5,(XE,.agg [.sl .no O1,A1,.sl .no [],qH (k9 w).files])),(7,(XE,.agg [.sl .no O2,A2,.sl .no [],qH (k9 w).files]))] (fun j=>if j=40 then w.acts.length else 0) [])
  (fun k=>k<=w.acts.length) (fun k=>w.acts.length-k) 0 ?_ (by omega) ?_
 ·apply Le.of<;>simp[zA,qF,qJ,aq,ak]<;>try omega
 clear aq ak a1 a2 al au a9 aa a8 a3 a7 af
 rintro k hk KL hN hE
 refine zrd zlT ?_
 by_cases ae:k<w.acts.length
 ·have hlt':(k:Int)<w.acts.length:=by omega
  have ao:k<(kY w).length:=by omega
  have b5:w.acts.length-1-k<(kY (kS w)).length:=by omega
  have aj:=zme hw ao
  have a4:=zku hz ae
  rw[List.getElem?_eq_getElem ao,List.getElem?_eq_getElem b5]at a4
  have a4:=Option.some.inj a4
  have c1:List.drop k (List.take (k+1) O1)=[qU (kY w)[k]]:=by
   rw[zjb O1 k (by omega)];simp[ah]
  have c2:List.drop (w.acts.length-1-k) (List.take (w.acts.length-k) O2)=[qU (kY w)[k]]:=by
   rw[show w.acts.length-k=w.acts.length-1-k+1 from by omega,zjb O2 _ (by omega),<-a4];simp[ab]
  obtain⟨E,am⟩:∃E,E=qU (kY w)[k]:=⟨_,rfl⟩
  have ax:E.er=E:=by rw[am];exact wM _
  rw[<-am]at aj c1 c2
  have i1:((w.acts.length:Int)-1-k).toNat=w.acts.length-1-k:=by omega
  have i2:((w.acts.length:Int)-k).toNat=w.acts.length-k:=by omega
  have i3:((k:Int)+1).toNat=k+1:=by omega
  have j1:(0:Int)<=(w.acts.length:Int)-1-k:=by omega
  have j2:(w.acts.length:Int)-1-k<=(w.acts.length:Int)-k:=by omega
  have j3:(w.acts.length:Int)-k<=w.acts.length:=by omega
  have j4:(k:Int)+1<=w.acts.length:=by omega
  have j5:(0:Int)<=(w.acts.length:Int)-k:=by omega
  simp (disch:=omega) [zz,hlt',l1,l2,i1,i2,i3,j1,j2,j3,j4,j5,c1,c2]
  (repeat with_reducible refine om ?_)
  refine y9 aj rfl rfl (by simp) (by simp[qM,coC,TV.er,AV.er,AV.ers,ax]) ?_
  simp (disch:=omega) [zz]
  (repeat with_reducible refine om ?_)
  refine hN _ (k+1) ?_ (by omega) (by omega)
  apply Le.of<;>simp[zA,qF,qJ]<;>try omega
 ·have hlt':¬(k:Int)<w.acts.length:=by omega
  simp (disch:=omega) [zz,hlt']
  refine hE _ _ (by simp) ?_
  clear hN hE
  simp (disch:=omega) [zz]
  refine zcv ad ?_
  simp (disch:=omega) [zz,Tryz.f3]
end Go.Proofs.YtfkcpballfhddaaGreatDoor
