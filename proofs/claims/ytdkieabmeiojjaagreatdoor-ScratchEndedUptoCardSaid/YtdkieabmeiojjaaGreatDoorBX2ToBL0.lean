/- A box in the heap: what it may read, its end, what it writes. No condition. -/
import Derived.Test.YtdkieabmeiojjaaGreatDoorKTgToKS2
set_option linter.unusedSimpArgs false
set_option linter.unusedVariables false
set_option linter.unusedSectionVars false
set_option maxHeartbeats 64000000
set_option maxRecDepth 100000
namespace Go.Proofs.YtdkieabmeiojjaaGreatDoor
open Go Go.Ab
open Classical
section
variable [Sel] [SelPow] [SelMax]
abbrev UN:TyD:=.struct [129,35,59,136,29,9,4,28]
def wrE (l:List (Txt × Txt)):List (AV × AV):=l.map fun x=>(.s x.1,.s x.2)
noncomputable def zF (R:Nat) (outs:List Txt) (mf:AV) (W:Nat) (rd:AV) (asks:Txt) (over:Bool) (why:Int):HObj:=.var UN (.agg [.ptr R kO [],.sl .no (strs outs),mf,.map (some W),rd,.s asks,.b over,.i .i64 why])
noncomputable def wrO (l:List (Txt × Txt)):HObj:=.map 9 9 (wrE l)
theorem J2 {R:Nat} {outs:List Txt} {mf:AV} {W:Nat} {rd:AV} {asks:Txt} {over:Bool} {why:Int} (h1:mf.erk=mf) (h2:rd.erk=rd):(zF R outs mf W rd asks over why).er=zF R outs mf W rd asks over why:=by
 simp[zF,HObj.er_var,AV.erk,AV.erks,h1,h2]
theorem JO (l:List (Txt × Txt)):(wrO l).er=wrO l:=by
 simp[wrO,HObj.er_map,wrE,AV.er,Function.comp_def]
theorem gA (p:Txt):∀l:List (Txt × Txt),wQ (.s p) (wrE l)=(l.find? fun x=>decide (x.1=p)).map fun x=>.s x.2
 | []=>rfl
 | x::l=>by
  have ih:=gA p l
  simp only[wrE,List.map_cons,wQ,AV.s.injEq,List.find?_cons]at ih |-
  by_cases h:x.1=p
  ·simp[h]
  ·simp only[h,if_false,decide_false,Bool.false_eq_true];exact ih
theorem zcC {p:Txt} {l:List (Txt × Txt)}:p∈l.map (·.1)->∃x,l.find? (fun x=>decide (x.1=p))=some x:=by
 intro h
 obtain⟨x,h1,h2⟩:=List.mem_map.1 h
 cases hf:l.find? fun x=>decide (x.1=p)with
 | none=>have:=List.find?_eq_none.1 hf x h1;simp[h2]at this
 | some y=>exact⟨y,rfl⟩
theorem zd0 {p:Txt} {l:List (Txt × Txt)} (h:p∉l.map (·.1)):l.find? (fun x=>decide (x.1=p))=none:=by
 refine List.find?_eq_none.2 fun x hx=>?_
 simp only[decide_eq_true_eq]
 exact fun e=>h (List.mem_map.2 ⟨x,hx,e⟩)
theorem zh6 (p d:Txt):∀l:List (Txt × Txt),p∉l.map (·.1)->K3 (.s p) (.s d) (wrE l)=wrE (l++[(p,d)])
 | [],_=>rfl
 | x::l,h=>by
  simp only[List.map_cons,List.mem_cons,not_or]at h
  have ih:=zh6 p d l h.2
  have hx:¬x.1=p:=fun e=>h.1 e.symm
  simp only[wrE,List.map_cons,K3,List.cons_append,AV.s.injEq,hx,if_false]at ih |-
  rw[ih]
theorem VM (B:Nat) (e:Int) (R:Nat) (outs:List Txt) (mf:AV) (W:Nat) (rd:AV) (asks:Txt) (over:Bool) (why:Int) (h1:mf.erk=mf) (h2:rd.erk=rd) :
  q7 Tryz.prog 78 [.av .ptr (.ptr B UN []),.av (.int .i64) (.i .i64 e)] [(B,zF R outs mf W rd asks over why)] fun r H'=>r=.tup []/\H'=[(B,zF R outs mf W rd asks true e)]:=by
 refine zov Tryz.func78 cf0 fun imm0 w0=>?_
 simp (disch:=omega) [zz,zF]
 simp (disch:=omega) [zz,Tryz.f78,h1,h2]
def zap (outs ins asks:List Txt) (p:Txt):Bool:=!decide (p∈outs)&&(decide (p∈ins)||asks.any fun a=>uF a p)
theorem zfW (b:Nat) (p x:Txt) (hp:p.length<=1900000) (hx:x.length<=1900000):q7 Tryz.prog 113 [.av .str (.s x),.av .ptr (.ptr b .str [])] [(b,qS p)] fun r H'=>r=.av .bool (.b (uF x p))/\H'=[(b,qS p)]:=by
 refine zov Tryz.func113 cf0 fun imm0 w0=>?_
 simp (disch:=omega) [zz,qS]
 refine zcv (zlI x p hx hp) ?_
 simp (disch:=omega) [zz,Tryz.f113]
noncomputable def WK (bo bi ba:Nat) (outs ins asks:List Txt):q8:=[(bo,WR outs),(bi,WR ins),(ba,WR asks)]
theorem zj1 (l:List Txt):(WR l).er=WR l:=by simp[WR,HObj.er_var,AV.erk]
theorem gK (bo bi ba:Nat) (outs ins asks:List Txt):(WK bo bi ba outs ins asks).er=WK bo bi ba outs ins asks:=by
 simp only[WK,q8.er_cons,q8.er_nil,zj1]
abbrev zqw:Cfg:=⟨fun n=>n==4,fun _=>false⟩
structure zpm (outs ins asks:List Txt):Prop where
 o:outs.length<=2000000
 i:ins.length<=2000000
 a:asks.length<=2000000
 e:∀x∈asks,x.length<=1900000
theorem zf2 (bo bi ba:Nat) (outs ins asks:List Txt) (hb:zpm outs ins asks) (p:Txt) (hp:p.length<=1900000) :
  q7 Tryz.prog 112 [.av .str (.s p),.av .ptr (.ptr bo TsT []),.av .ptr (.ptr bi TsT []),.av .ptr (.ptr ba TsT [])] (WK bo bi ba outs ins asks) fun r H'=>r=.av .bool (.b (zap outs ins asks p))/\H'=WK bo bi ba outs ins asks:=by
 obtain⟨ho,hi,ha,he⟩:=hb
 refine q7.nodup fun hnd=>?_
 simp[WK,q8.keys]at hnd
 obtain⟨⟨n1,n2⟩,n3⟩:=hnd
 have sy:∀ {a b:Nat},¬a=b->¬b=a:=fun h e=>h e.symm
 have n1':=sy n1;have n2':=sy n2;have n3':=sy n3
 refine q7.sub (R:=fun r H'=>r=.av .bool (.b (zap outs ins asks p))/\∃H2,Ab.HSub H2 H'/\H2=WK bo bi ba outs ins asks) ?_ fun y H' ⟨h1,H2,h2,h3⟩ _=>⟨H2,h2,h1,h3⟩
 refine zov Tryz.func112 zqw fun imm0 w0=>?_
 simp (disch:=omega) [zz]
 intro b4 m1
 rw[show WK bo bi ba outs ins asks=[(bo,.var TsT (.sl .no (strs outs))),(bi,.var TsT (.sl .no (strs ins))),(ba,.var TsT (.sl .no (strs asks)))] from rfl]at m1 |-
 simp[q8.keys]at m1
 obtain⟨m1,m2,m3⟩:=m1
 have m1':=sy m1;have m2':=sy m2;have m3':=sy m3
 simp (disch:=omega) [zz,n1,n1',n2,n2',n3,n3',m1,m1',m2,m2',m3,m3']
 refine zcv (ZC outs p (by omega)) ?_
 by_cases h1:p∈outs
 ·simp (disch:=omega) [zz,h1,Tryz.f112,zap]
  exact HSub.of_sub ((List.Sublist.refl _).cons _)
 simp (disch:=omega) [zz,h1,n1,n1',n2,n2',n3,n3',m1,m1',m2,m2',m3,m3']
 refine zcv (ZC ins p (by omega)) ?_
 by_cases h2:p∈ins
 ·simp (disch:=omega) [zz,h2,Tryz.f112,zap,h1]
  exact HSub.of_sub ((List.Sublist.refl _).cons _)
 simp (disch:=omega) [zz,h2,n1,n1',n2,n2',n3,n3',m1,m1',m2,m2',m3,m3']
 have hany:=U2 (fun a=>uF a p) (.fn 113 [.ptr b4 .str []]) [(b4,qS p)] asks ⟨rfl,rfl,fun x hx=>⟨_,rfl,by simp,by simpa[TV.er,AV.er]using zfW b4 p x hp (he x hx)⟩⟩ (by omega)
 obtain⟨q,hq⟩:∃q,q=asks.any fun a=>uF a p:=⟨_,rfl⟩
 rw[<-hq]at hany
 refine qD (R:=fun r' H'=>r'=.av .bool (.b q)/\H'=[(b4,qS p)]) [(b4,qS p)] (WK bo bi ba outs ins asks) (by simp[WK,qS,WR]) rfl (by simp[qE]) (by simp) ?_ ?_
 ·simpa[TV.er,AV.er,q8.er_cons,qS,HObj.er_var,AV.erk]using hany
 rintro r' H' ⟨rfl,rfl⟩ _
 refine⟨_,HSub.refl _,?_⟩
 have hm:zap outs ins asks p=q:=by simp[zap,h1,h2,hq]
 have hme:=gK bo bi ba outs ins asks
 simp (disch:=omega) [zz,hm,hme,Tryz.f112]
 exact HSub.of_sub ((List.Sublist.refl _).cons _)
theorem zjF (B:Nat) (p d:Txt) (R:Nat) (outs:List Txt) (ho:outs.length<=2000000) (mf:AV) (W:Nat) (rd:AV) (asks:Txt) (over:Bool) (why:Int) (wrote:List (Txt × Txt)) (h1:mf.erk=mf) (h2:rd.erk=rd) :
  q7 Tryz.prog 116 [.av .ptr (.ptr B UN []),.av .str (.s p),.av .str (.s d)] [(B,zF R outs mf W rd asks over why),(W,wrO wrote)] fun r H'=>r=.tup []/\
   H'=if p∈wrote.map (·.1)\/p∉outs then [(B,zF R outs mf W rd asks true 14),(W,wrO wrote)] else [(B,zF R outs mf W rd asks over why),(W,wrO (wrote++[(p,d)]))]:=by
 have hw:=JO wrote
 have hw2:=JO (wrote++[(p,d)])
 have hbe:=fun e=>J2 (R:=R) (outs:=outs) (W:=W) (asks:=asks) (over:=true) (why:=e) h1 h2
 have hbe2:=J2 (R:=R) (outs:=outs) (W:=W) (asks:=asks) (over:=over) (why:=why) h1 h2
 have hmf:=gA p wrote
 refine q7.nodup fun hnd=>?_
 simp[q8.keys]at hnd
 have hnd':¬W=B:=fun e=>hnd e.symm
 have hfl:=VM B 14 R outs mf W rd asks over why h1 h2
 refine zov Tryz.func116 cf0 fun imm0 w0=>?_
 by_cases hp:p∈wrote.map (·.1)
 ·obtain⟨x,hx⟩:=zcC hp
  rw[hx]at hmf
  rw[if_pos (.inl hp)]
  simp (disch:=omega) [zz,zF,wrO,hnd,hnd',hmf]
  refine qD (R:=fun r H'=>r=.tup []/\H'=[(B,zF R outs mf W rd asks true 14)]) [(B,zF R outs mf W rd asks over why)] [(W,wrO wrote)] (by simp[zF,wrO]) rfl (by simp[qE]) (by simp) ?_ ?_
  ·rw[q8.er_cons,hbe2]
   refine q7.args hfl (by simp[qR,coC,TV.er,AV.er])
  rintro r H' ⟨rfl,rfl⟩ _
  refine⟨_,HSub.refl _,?_⟩
  simp (disch:=omega) [zz,Tryz.f116,hbe,hw]
  simp[zF,wrO]
 have hfn:=zd0 hp
 rw[hfn]at hmf
 by_cases hpo:p∈outs
 ·rw[if_neg (by simp only[not_or,not_not];exact⟨hp,hpo⟩)]
  have hmp:=zh6 p d wrote hp
  simp (disch:=omega) [zz,zF,wrO,hnd,hnd',hmf]
  refine zcv (ZC outs p (by omega)) ?_
  simp (disch:=omega) [zz,hpo,hnd,hnd',hmf,hmp]
  simp only[zF]at hbe2
  simp only[wrO]at hw2
  simp (disch:=omega) [zz,Tryz.f116,hbe2,hw2,h1,h2]
  simpa[HObj.er_map]using hw2
 ·rw[if_pos (.inr hpo)]
  simp (disch:=omega) [zz,zF,wrO,hnd,hnd',hmf]
  refine zcv (ZC outs p (by omega)) ?_
  simp (disch:=omega) [zz,hpo,hnd,hnd',hmf]
  refine qD (R:=fun r H'=>r=.tup []/\H'=[(B,zF R outs mf W rd asks true 14)]) [(B,zF R outs mf W rd asks over why)] [(W,wrO wrote)] (by simp[zF,wrO]) rfl (by simp[qE]) (by simp) ?_ ?_
  ·rw[q8.er_cons,hbe2]
   refine q7.args hfl (by simp[qR,coC,TV.er,AV.er])
  rintro r H' ⟨rfl,rfl⟩ _
  refine⟨_,HSub.refl _,?_⟩
  simp (disch:=omega) [zz,Tryz.f116,hbe,hw]
  simp[zF,wrO]
noncomputable def yL (B:Nat):HObj:=.var .ptr (.ptr B UN [])
theorem zhr (bb B:Nat) (x:Txt) (R:Nat) (outs:List Txt) (mf:AV) (W:Nat) (rd:AV) (asks:Txt) (over:Bool) (why:Int) (wrote:List (Txt × Txt)) (h1:mf.erk=mf) (h2:rd.erk=rd) :
  q7 Tryz.prog 117 [.av .str (.s x),.av .ptr (.ptr bb .ptr [])] [(bb,yL B),(B,zF R outs mf W rd asks over why),(W,wrO wrote)] fun r H'=>r=.av .bool (.b (decide (x∉wrote.map (·.1))))/\
   H'=[(bb,yL B),(B,zF R outs mf W rd asks over why),(W,wrO wrote)]:=by
 have hw:=JO wrote
 have hbe2:=J2 (R:=R) (outs:=outs) (W:=W) (asks:=asks) (over:=over) (why:=why) h1 h2
 have hmf:=gA x wrote
 refine q7.nodup fun hnd=>?_
 simp[q8.keys]at hnd
 obtain⟨⟨n1,n2⟩,n3⟩:=hnd
 have n1':¬B=bb:=fun e=>n1 e.symm
 have n2':¬W=bb:=fun e=>n2 e.symm
 have n3':¬W=B:=fun e=>n3 e.symm
 simp only[zF]at hbe2
 simp only[wrO]at hw
 by_cases hp:x∈wrote.map (·.1)
 ·obtain⟨y,hy⟩:=zcC hp
  rw[hy]at hmf
  have hd:decide (x∉wrote.map (·.1))=false:=by simpa using hp
  rw[hd]
  refine zov Tryz.func117 cf0 fun imm0 w0=>?_
  simp (disch:=omega) [zz,yL,zF,wrO,n1,n1',n2,n2',n3,n3',hmf]
  simp (disch:=omega) [zz,Tryz.f117,h1,h2]
  simpa[HObj.er_map]using hw
 ·have hfn:=zd0 hp
  rw[hfn]at hmf
  have hd:decide (x∉wrote.map (·.1))=true:=by simpa using hp
  rw[hd]
  refine zov Tryz.func117 cf0 fun imm0 w0=>?_
  simp (disch:=omega) [zz,yL,zF,wrO,n1,n1',n2,n2',n3,n3',hmf]
  simp (disch:=omega) [zz,Tryz.f117,h1,h2]
  simpa[HObj.er_map]using hw
def zpV (c:CmdV):Prop:=(c.words.getD 0 []=zU\/c.words.getD 0 []=wF\/c.words.getD 0 []=jM)->w5 (c.words.getD 1 [])=true
def znc:TdV->Prop
 | .cmd c=>zpV c
 | _=>True
structure QG (r:qG):Prop where
 td:∀t∈r.todo,znc t
 ak:r.waits=true->w5 r.asks=true
structure JH (r r':qG):Prop where
 td:∀t∈r'.todo,t∈r.todo\/znc t
 ak:(r'.waits=r.waits/\r'.asks=r.asks)\/w5 r'.asks=true
theorem JH.ok {r r':qG} (h:JH r r') (ho:QG r):QG r' :=
 ⟨fun t ht=>(h.td t ht).elim (ho.td t) id,fun hw=>h.ak.elim (fun e=>by rw[e.2];exact ho.ak (e.1▸hw)) id⟩
theorem JH.same {r r':qG} (h1:r'.todo=r.todo) (h2:r'.waits=r.waits) (h3:r'.asks=r.asks):JH r r':=⟨fun t ht=>.inl (h1▸ht),.inl ⟨h2,h3⟩⟩
theorem JH.fail (e:Int) (r:qG):JH r (w6 e r):=.same rfl rfl rfl
theorem JH.add (s:Txt) (r:qG):JH r (y6 s r):=by unfold y6;split<;>exact .same rfl rfl rfl
theorem JH.lines (l:List Txt) (r:qG):JH r (kH l r):=by
 have h:=JH.add (l.flatMap (·++[10])) { r with buf:=[] }
 exact⟨h.td,h.ak⟩
theorem JH.co (k:CoV) (x:KnV) (r:qG):JH r (coR k x r):=by
 cases hi:x.is with
 | false =>
  cases k with
  | tr=>simp[coR,hi,same]
  | there t=>grind [coR,fail]
 | true =>
  cases k with
  | tr=>grind [coR,add]
  | there t=>cases t with
   | add=>grind [coR,add,thR]
   | scan w =>
    rw[show coR (.there (.scan w)) x r={ r with todo:=r.todo++(qU x.data).reverse.map fun s=>.line s w } by simp[coR,hi,thR]]
    refine⟨fun t ht=>?_,.inl ⟨rfl,rfl⟩⟩
    rcases List.mem_append.1 ht with ht|ht
    ·exact .inl ht
    ·obtain⟨s,_,rfl⟩:=List.mem_map.1 ht
     exact .inr trivial
theorem JH.ask (p:Txt) (k:CoV) (r:qG) (hp:w5 p=true):JH r (yN p k r):=by
 unfold yN
 split
 ·simp[co]
 ·split
  ·simp[fail]
  ·refine⟨fun t ht=>?_,.inr hp⟩
   rcases List.mem_append.1 ht with ht|ht
   ·exact .inl ht
   ·rw[List.mem_singleton.1 ht];exact .inr trivial
theorem JH.scan (p w:Txt) (r:qG) (hp:w5 p=true):JH r (ZD p w r):=by
 have h:=JH.ask p (.there (.scan w)) { r with seen:=r.seen++[p] } hp
 exact⟨h.td,h.ak⟩
theorem JH.line (s w:Txt) (r:qG):JH r (QP s w r):=by
 unfold QP
 split
 ·split
  ·simp[add]
  ·rename_i h
   split
   ·simp[same]
   simp_all[scan]
 simp[add]
theorem JH.turn (n a:Txt) (r:qG):JH r (kX n a r):=by
 unfold kX
 split
 ·simp[lines]
 split
 ·simp[lines]
 split
 ·simp[same]
 split
 ·simp[same]
 split
 ·simp[lines]
 simp[same]
theorem JH.cmd (c:CmdV) (r:qG) (hc:zpV c):JH r (doR c r):=by
 unfold doR
 simp only
 split
 ·rename_i h;exact .ask _ _ _ (hc (.inl h))
 split
 ·rename_i h;exact .ask _ _ _ (hc (.inr (.inl h)))
 split
 ·rename_i h
  have h:=JH.scan (c.words.getD 1 []) (c.words.getD 2 []) { r with seen:=[] } (hc (.inr (.inr h)))
  exact⟨h.td,h.ak⟩
 split
 ·simp[add]
 split
 ·grind [add,fail]
 split
 ·simp[same]
 split
 ·split
  ·simp[same]
  simp[fail]
 grind [fail,turn]
theorem QG.step {r:qG} (h:QG r):QG (yX r):=by
 rcases List.eq_nil_or_concat r.todo with ht|⟨l,t,ht⟩
 ·rw[W7 ht];exact⟨h.td,h.ak⟩
 ·rw[List.concat_eq_append]at ht
  rw[W9 ht]
  have h0:QG { r with todo:=l }:=⟨fun x hx=>h.td x (by simp_all),h.ak⟩
  have hc:znc t:=h.td t (by rw[ht];simp)
  cases t with
  | cmd c=>exact(JH.cmd c _ hc).ok h0
  | line s w=>exact(JH.line s w _).ok h0
  | ans k p=>exact(JH.co k _ _).ok h0
theorem QG.runN:∀(n:Nat) {r r':qG},runN n r=some r'->QG r->QG r'
 | 0,r,r',h,_=>by cases h
 | n+1,r,r',h,hg=>by
  rw[Go.Proofs.YtdkieabmeiojjaaGreatDoor.runN]at h
  by_cases hs:kE r=true
  ·simp_all
  ·rw[if_neg hs]at h
   exact QG.runN n h hg.step
theorem QG.settle {r:qG} (hi:JN r) (h:QG r):QG (k9 r):=QG.runN _ (y9 hi).1 h
theorem QG.next {r:qG} (hi:JN r) (h:QG r):QG (kN r).2/\((kN r).2.waits=true->w5 (kN r).2.asks=true):=by
 have hs:=h.settle hi
 have:QG (kN r).2:=by
  unfold kN
  simp only
  split
  ·exact hs
  ·split
   ·exact⟨hs.td,hs.ak⟩
   ·exact hs
 exact⟨this,this.ak⟩
theorem QG.give {r:qG} (hi:JN r) (h:QG r) (k:KnV):QG (Z2 k r).2:=by
 have hs:=h.settle hi
 unfold Z2
 simp only
 split
 ·exact hs
 split
 ·exact hs
 split
 ·exact hs
 ·exact⟨hs.td,fun e=>by cases e⟩
theorem zbQ:∀l:List UInt8,l.length+1=((qK 47 l).map fun x=>x.length+1).sum
 | []=>rfl
 | b::l=>by
  have ih:=zbQ l
  unfold qK
  split
  ·simp only[List.length_cons,List.map_cons,List.length_nil,List.sum_cons];omega
  ·cases hs:qK 47 l with
   | nil=>exact absurd hs (xG _ _)
   | cons y q =>
    rw[hs]at ih
    simp only[List.length_cons,List.map_cons,List.sum_cons]at ih |-;omega
theorem zdr {p:List UInt8} (h:w5 p=true):p.length<=1040:=by
 simp only[w5,Bool.and_eq_true,decide_eq_true_eq,List.all_eq_true]at h
 have h1:=zbQ p
 have h2:∀l:List (List UInt8),(∀x∈l,XC x=true)->(l.map fun x=>x.length+1).sum<=l.length*65:=by
  intro l
  induction l with
  | nil=>simp
  | cons x r ih =>
   intro hx
   have h3:=hx x (by simp)
   have h4:x.length<=64:=by
    simp_all[XC]
   grind
 grind
structure QE (b:zJ):Prop where
 good:kK b.run
 ask:QG b.run
 ov:OV b.run
 no2:b.run.over.kind≠2
theorem QE.at_ {b:zJ} (h:QE b):AtR b.run.env (jV [] b.run) b.run.known [] b.run:=⟨h.good.inv,h.ov,rfl,rfl,fun _ _=>.refl _⟩
theorem QE.round {b:zJ} (h:QE b):(kK (kN b.run).2/\QG (kN b.run).2/\OV (kN b.run).2/\(kN b.run).2.over.kind≠2)/\((kN b.run).1.kind=1->(kN b.run).1.path.length<=1040):=by
 have h1:=h.ask.next h.good.inv
 rcases h.at_.next h.no2 with⟨g1,g2,g3,g4⟩|hs
 ·exact⟨⟨h.good.next,h1.1,g2.ov,by omega⟩,fun e=>by omega⟩
 ·refine⟨⟨h.good.next,h1.1,hs.at_.ov,hs.no2⟩,fun e=>?_⟩
  have hw:=hs.waits.1 e
  rw[hs.asks hw]
  simp_all[zdr]
theorem QE.roundB {b:zJ} (h:QE b):QE (roundB b).1:=by
 obtain⟨h1,h2,h3,h4⟩:=h.round.1
 have hr:(Go.Proofs.YtdkieabmeiojjaaGreatDoor.roundB b).1.run=(kN b.run).2:=by
  grind [Go.Proofs.YtdkieabmeiojjaaGreatDoor.roundB,KI,y8]
 exact⟨by simp_all,by simp_all,by simp_all,by simp_all⟩
theorem QE.goN:∀(n:Nat) {b b':zJ},goN n b=some b'->QE b->QE b'
 | 0,b,b',h,_=>by cases h
 | n+1,b,b',h,hg=>by
  rw[Go.Proofs.YtdkieabmeiojjaaGreatDoor.goN]at h
  by_cases ho:b.over=true
  ·simp_all
  rw[if_neg ho]at h
  by_cases h2:(Go.Proofs.YtdkieabmeiojjaaGreatDoor.roundB b).2=true
  ·rw[if_pos h2]at h;cases h;exact hg.roundB
  ·rw[if_neg h2]at h
   exact QE.goN n h hg.roundB
structure zqF (outs':List Txt) (may':Txt->Bool) (b:zJ):Prop where
 o:∀p,p∈b.outs<->p∈outs'
 m:∀p,b.may p=may' p
theorem zew (b:zJ):(roundB b).1.outs=b.outs/\(roundB b).1.may=b.may/\(roundB b).1.reads=b.reads:=by
 unfold roundB KI y8
 grind
theorem zdC:∀(n:Nat) {b b':zJ},goN n b=some b'->b'.outs=b.outs/\b'.may=b.may/\b'.reads=b.reads
 | 0,b,b',h=>by cases h
 | n+1,b,b',h=>by
  have hk:=zew b
  rw[goN]at h
  by_cases ho:b.over=true
  ·simp_all
  rw[if_neg ho]at h
  by_cases h2:(roundB b).2=true
  ·simp_all
  ·rw[if_neg h2]at h
   obtain⟨g1,g2,g3⟩:=zdC n h
   exact⟨g1.trans hk.1,g2.trans hk.2.1,g3.trans hk.2.2⟩
theorem zfg (b:zJ):(QX b).outs=b.outs/\(QX b).may=b.may/\(QX b).reads=b.reads:=by
 unfold QX
 cases h:goN (ccR b.run+2) b with
 | none=>simp
 | some b'=>exact zdC _ h
end
end Go.Proofs.YtdkieabmeiojjaaGreatDoor
