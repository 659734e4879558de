/- A box in the heap: what it may read, its end, what it writes. No condition beyond each theorem's own. -/
import Derived.Test.YtcgpcfcbienapaaGreatDoorK20ToBX1
import Derived.Test.YtcgpcfcbienapaaGreatDoorGB4ToKT3
import Derived.Test.YtcgpcfcbienapaaGreatDoorKTgToKS2
import Derived.Test.YtcgpcfcbienapaaGreatDoorAbSToSk
set_option linter.unusedSimpArgs false
set_option linter.unusedVariables false
set_option linter.unusedSectionVars false
section
set_option maxRecDepth 100000
namespace Go.Proofs.YtcgpcfcbienapaaGreatDoor
open Go Go.Ab
open Classical
variable [Sel] [SelPow] [SelMax]
@[simp] theorem zyp:qZ Tryz.prog 17=true:=by kernel_rfl
@[simp] theorem zyA:z8 Tryz.prog (.func 17)=false:=q9 zyp
@[simp] theorem zG6:qZ Tryz.prog 38=true:=by kernel_rfl
@[simp] theorem zGw:z8 Tryz.prog (.func 38)=false:=q9 zG6
@[simp] theorem zx3:qZ Tryz.prog 67=true:=by kernel_rfl
@[simp] theorem zxn:z8 Tryz.prog (.func 67)=false:=q9 zx3
@[simp] theorem zx0:qZ Tryz.prog 70=true:=by kernel_rfl
@[simp] theorem zxh:z8 Tryz.prog (.func 70)=false:=q9 zx0
@[simp] theorem zAC:qZ Tryz.prog 39=true:=by kernel_rfl
@[simp] theorem zBk:z8 Tryz.prog (.func 39)=false:=q9 zAC
@[simp] theorem zwR:qZ Tryz.prog 74=true:=by kernel_rfl
@[simp] theorem zxl:z8 Tryz.prog (.func 74)=false:=q9 zwR
@[simp] theorem zx2:qZ Tryz.prog 73=true:=by kernel_rfl
@[simp] theorem zxA:z8 Tryz.prog (.func 73)=false:=q9 zx2
@[simp] theorem zAv:qZ Tryz.prog 41=true:=by kernel_rfl
@[simp] theorem zBl:z8 Tryz.prog (.func 41)=false:=q9 zAv
@[simp] theorem zoL:qZ Tryz.prog 18=true:=by kernel_rfl
@[simp] theorem zs1:z8 Tryz.prog (.func 18)=false:=q9 zoL
@[simp] theorem zAB:qZ Tryz.prog 19=true:=by kernel_rfl
@[simp] theorem zBs:z8 Tryz.prog (.func 19)=false:=q9 zAB
@[simp] theorem zop:qZ Tryz.prog 20=true:=by kernel_rfl
@[simp] theorem zs2:z8 Tryz.prog (.func 20)=false:=q9 zop
abbrev KD:TyD:=.struct [94,25,99,101,39,9,4,37]
def wrE (l:List (Txt × Txt)):List (AV × AV):=l.map fun x=>(.s x.1,.s x.2)
noncomputable def zO (R:Nat) (outs:List Txt) (mf:AV) (W:Nat) (rd:AV) (asks:Txt) (over:Bool) (why:Int):HObj:=.var KD (.agg [.ptr R kQ [],.sl .no (strs outs),mf,.map (some W),rd,.s asks,.b over,.i .i64 why])
noncomputable def wrO (l:List (Txt × Txt)):HObj:=.map 9 9 (wrE l)
theorem J2 {R:Nat} {outs:List Txt} {mf:AV} {W:Nat} {rd:AV} {asks:Txt} {over:Bool} {why:Int} (h1:mf.erk=mf) (h2:rd.erk=rd):(zO R outs mf W rd asks over why).er=zO R outs mf W rd asks over why:=by
 simp[zO,HObj.er_var,AV.erk,AV.erks,h1,h2]
theorem QZ (l:List (Txt × Txt)):(wrO l).er=wrO l:=by
 simp[wrO,HObj.er_map,wrE,AV.er,Function.comp_def]
theorem VO (p:Txt):∀l:List (Txt × Txt),yY (.s p) (wrE l)=(l.find? fun x=>decide (x.1=p)).map fun x=>.s x.2
 | []=>rfl
 | x::l=>by
  have ih:=VO p l
  simp only[wrE,List.map_cons,yY,AV.s.injEq,List.find?_cons]at ih ⊢
  by_cases h:x.1=p
  ·simp[h]
  ·simp only[h,if_false,decide_false,Bool.false_eq_true];exact ih
theorem zcf {p:Txt} {l:List (Txt × Txt)}:p∈l.map (·.1)→∃x,l.find? (fun x=>decide (x.1=p))=some x:=by
 intro h
 obtain⟨x,h1,h2⟩:=List.mem_map.1 h
 cases hf:l.find? fun x=>decide (x.1=p)with
 | none=>have:=List.find?_eq_none.1 hf x h1;simp[h2]at this
 | some y=>exact⟨y,rfl⟩
theorem zcJ {p:Txt} {l:List (Txt × Txt)} (h:p∉l.map (·.1)):l.find? (fun x=>decide (x.1=p))=none:=by
 refine List.find?_eq_none.2 fun x hx=>?_
 simp only[decide_eq_true_eq]
 exact fun e=>h (List.mem_map.2 ⟨x,hx,e⟩)
theorem zfV (p d:Txt):∀l:List (Txt × Txt),p∉l.map (·.1)→xX (.s p) (.s d) (wrE l)=wrE (l++[(p,d)])
 | [],_=>rfl
 | x::l,h=>by
  simp only[List.map_cons,List.mem_cons,not_or]at h
  have ih:=zfV p d l h.2
  have hx:¬x.1=p:=fun e=>h.1 e.symm
  simp only[wrE,List.map_cons,xX,List.cons_append,AV.s.injEq,hx,if_false]at ih ⊢
  rw[ih]
theorem vL (B:Nat) (e:Int) (R:Nat) (outs:List Txt) (mf:AV) (W:Nat) (rd:AV) (asks:Txt) (over:Bool) (why:Int) (h1:mf.erk=mf) (h2:rd.erk=rd) :
  q7 Tryz.prog 41 [.av .ptr (.ptr B KD []),.av (.int .i64) (.i .i64 e)] [(B,zO R outs mf W rd asks over why)] fun r H'=>r=.tup []∧H'=[(B,zO R outs mf W rd asks true e)]:=by
 refine zov Tryz.func41 cf0 fun imm0 w0=>?_
 simp (disch:=omega) [zz,zO]
 simp (disch:=omega) [zz,Tryz.f41,h1,h2]
def pJ (outs ins asks:List Txt) (p:Txt):Bool:=!decide (p∈outs)&&(decide (p∈ins)||asks.any fun a=>wL a p)
theorem zfp (b:Nat) (p x:Txt) (hp:p.length≤900000) (hx:x.length≤900000):q7 Tryz.prog 70 [.av .str (.s x),.av .ptr (.ptr b .str [])] [(b,zF p)] fun r H'=>r=.av .bool (.b (wL x p))∧H'=[(b,zF p)]:=by
 refine zov Tryz.func70 cf0 fun imm0 w0=>?_
 simp (disch:=omega) [zz,zF]
 refine zcv (zjl x p hx hp) ?_
 simp (disch:=omega) [zz,Tryz.f70]
noncomputable def W8 (bo bi ba:Nat) (outs ins asks:List Txt):q8:=[(bo,zxJ outs),(bi,zxJ ins),(ba,zxJ asks)]
theorem zhL (l:List Txt):(zxJ l).er=zxJ l:=by simp[zxJ,HObj.er_var,AV.erk]
theorem vQ (bo bi ba:Nat) (outs ins asks:List Txt):(W8 bo bi ba outs ins asks).er=W8 bo bi ba outs ins asks:=by
 simp only[W8,q8.er_cons,q8.er_nil,zhL]
abbrev zsq:Cfg:=⟨fun n=>n==4,fun _=>false⟩
structure zpJ (outs ins asks:List Txt):Prop where
 o:outs.length≤1000000
 i:ins.length≤1000000
 a:asks.length≤1000000
 e:∀x∈asks,x.length≤900000
set_option maxHeartbeats 4000000 in
theorem zeh (bo bi ba:Nat) (outs ins asks:List Txt) (hb:zpJ outs ins asks) (p:Txt) (hp:p.length≤900000) :
  q7 Tryz.prog 67 [.av .str (.s p),.av .ptr (.ptr bo TsT []),.av .ptr (.ptr bi TsT []),.av .ptr (.ptr ba TsT [])] (W8 bo bi ba outs ins asks) fun r H'=>r=.av .bool (.b (pJ outs ins asks p))∧H'=W8 bo bi ba outs ins asks:=by
 obtain⟨ho,hi,ha,he⟩:=hb
 refine q7.nodup fun hnd=>?_
 simp[W8,q8.keys]at hnd
 obtain⟨⟨n1,n2⟩,n3⟩:=hnd
 have sy:∀ {a b:Nat},¬a=b→¬b=a:=fun h e=>h e.symm
 have n1':=sy n1;have n2':=sy n2;have n3':=sy n3
 refine q7.sub (R:=fun r H'=>r=.av .bool (.b (pJ outs ins asks p))∧∃H2,Ab.HSub H2 H'∧H2=W8 bo bi ba outs ins asks) ?_ fun y H' ⟨h1,H2,h2,h3⟩ _=>⟨H2,h2,h1,h3⟩
 refine zov Tryz.func67 zsq fun imm0 w0=>?_
 simp (disch:=omega) [zz]
 intro b4 m1
 rw[show W8 bo bi ba outs ins asks=[(bo,.var TsT (.sl .no (strs outs))),(bi,.var TsT (.sl .no (strs ins))),(ba,.var TsT (.sl .no (strs asks)))] from rfl]at m1 ⊢
 simp[q8.keys]at m1
 obtain⟨m1,m2,m3⟩:=m1
 have m1':=sy m1;have m2':=sy m2;have m3':=sy m3
 simp (disch:=omega) [zz,n1,n1',n2,n2',n3,n3',m1,m1',m2,m2',m3,m3']
 refine zcv (JP outs p (by omega)) ?_
 by_cases h1:p∈outs
 ·simp (disch:=omega) [zz,h1,Tryz.f67,pJ]
  exact HSub.of_sub ((List.Sublist.refl _).cons _)
 simp (disch:=omega) [zz,h1,n1,n1',n2,n2',n3,n3',m1,m1',m2,m2',m3,m3']
 refine zcv (JP ins p (by omega)) ?_
 by_cases h2:p∈ins
 ·simp (disch:=omega) [zz,h2,Tryz.f67,pJ,h1]
  exact HSub.of_sub ((List.Sublist.refl _).cons _)
 simp (disch:=omega) [zz,h2,n1,n1',n2,n2',n3,n3',m1,m1',m2,m2',m3,m3']
 have hany:=zbk (fun a=>wL a p) (.fn 70 [.ptr b4 .str []]) [(b4,zF p)] asks ⟨rfl,rfl,fun x hx=>⟨_,rfl,by simp,by simpa[TV.er,AV.er]using zfp b4 p x hp (he x hx)⟩⟩ (by omega)
 obtain⟨q,hq⟩:∃q,q=asks.any fun a=>wL a p:=⟨_,rfl⟩
 rw[←hq]at hany
 refine qE (R:=fun r' H'=>r'=.av .bool (.b q)∧H'=[(b4,zF p)]) [(b4,zF p)] (W8 bo bi ba outs ins asks) (by simp[W8,zF,zxJ]) rfl (by simp[qQ]) (by simp) ?_ ?_
 ·simpa[TV.er,AV.er,q8.er_cons,zF,HObj.er_var,AV.erk]using hany
 rintro r' H' ⟨rfl,rfl⟩ _
 refine⟨_,HSub.refl _,?_⟩
 have hm:pJ outs ins asks p=q:=by simp[pJ,h1,h2,hq]
 have hme:=vQ bo bi ba outs ins asks
 simp (disch:=omega) [zz,hm,hme,Tryz.f67]
 exact HSub.of_sub ((List.Sublist.refl _).cons _)
theorem zik (B:Nat) (p d:Txt) (R:Nat) (outs:List Txt) (ho:outs.length≤1000000) (mf:AV) (W:Nat) (rd:AV) (asks:Txt) (over:Bool) (why:Int) (wrote:List (Txt × Txt)) (h1:mf.erk=mf) (h2:rd.erk=rd) :
  q7 Tryz.prog 73 [.av .ptr (.ptr B KD []),.av .str (.s p),.av .str (.s d)] [(B,zO R outs mf W rd asks over why),(W,wrO wrote)] fun r H'=>r=.tup []∧
   H'=if p∈wrote.map (·.1)∨p∉outs then [(B,zO R outs mf W rd asks true 14),(W,wrO wrote)] else [(B,zO R outs mf W rd asks over why),(W,wrO (wrote++[(p,d)]))]:=by
 have hw:=QZ wrote
 have hw2:=QZ (wrote++[(p,d)])
 have hbe:=fun e=>J2 (R:=R) (outs:=outs) (W:=W) (asks:=asks) (over:=true) (why:=e) h1 h2
 have hbe2:=J2 (R:=R) (outs:=outs) (W:=W) (asks:=asks) (over:=over) (why:=why) h1 h2
 have hmf:=VO p wrote
 refine q7.nodup fun hnd=>?_
 simp[q8.keys]at hnd
 have hnd':¬W=B:=fun e=>hnd e.symm
 have hfl:=vL B 14 R outs mf W rd asks over why h1 h2
 refine zov Tryz.func73 cf0 fun imm0 w0=>?_
 by_cases hp:p∈wrote.map (·.1)
 ·obtain⟨x,hx⟩:=zcf hp
  rw[hx]at hmf
  rw[if_pos (.inl hp)]
  simp (disch:=omega) [zz,zO,wrO,hnd,hnd',hmf]
  refine qE (R:=fun r H'=>r=.tup []∧H'=[(B,zO R outs mf W rd asks true 14)]) [(B,zO R outs mf W rd asks over why)] [(W,wrO wrote)] (by simp[zO,wrO]) rfl (by simp[qQ]) (by simp) ?_ ?_
  ·rw[q8.er_cons,hbe2]
   refine q7.args hfl (by simp[qS,coC,TV.er,AV.er])
  rintro r H' ⟨rfl,rfl⟩ _
  refine⟨_,HSub.refl _,?_⟩
  simp (disch:=omega) [zz,Tryz.f73,hbe,hw]
  simp[zO,wrO]
 have hfn:=zcJ hp
 rw[hfn]at hmf
 by_cases hpo:p∈outs
 ·rw[if_neg (by simp only[not_or,not_not];exact⟨hp,hpo⟩)]
  have hmp:=zfV p d wrote hp
  simp (disch:=omega) [zz,zO,wrO,hnd,hnd',hmf]
  refine zcv (JP outs p (by omega)) ?_
  simp (disch:=omega) [zz,hpo,hnd,hnd',hmf,hmp]
  simp only[zO]at hbe2
  simp only[wrO]at hw2
  simp (disch:=omega) [zz,Tryz.f73,hbe2,hw2,h1,h2]
  simpa[HObj.er_map]using hw2
 ·rw[if_pos (.inr hpo)]
  simp (disch:=omega) [zz,zO,wrO,hnd,hnd',hmf]
  refine zcv (JP outs p (by omega)) ?_
  simp (disch:=omega) [zz,hpo,hnd,hnd',hmf]
  refine qE (R:=fun r H'=>r=.tup []∧H'=[(B,zO R outs mf W rd asks true 14)]) [(B,zO R outs mf W rd asks over why)] [(W,wrO wrote)] (by simp[zO,wrO]) rfl (by simp[qQ]) (by simp) ?_ ?_
  ·rw[q8.er_cons,hbe2]
   refine q7.args hfl (by simp[qS,coC,TV.er,AV.er])
  rintro r H' ⟨rfl,rfl⟩ _
  refine⟨_,HSub.refl _,?_⟩
  simp (disch:=omega) [zz,Tryz.f73,hbe,hw]
  simp[zO,wrO]
noncomputable def yI (B:Nat):HObj:=.var .ptr (.ptr B KD [])
theorem zhf (bb B:Nat) (x:Txt) (R:Nat) (outs:List Txt) (mf:AV) (W:Nat) (rd:AV) (asks:Txt) (over:Bool) (why:Int) (wrote:List (Txt × Txt)) (h1:mf.erk=mf) (h2:rd.erk=rd) :
  q7 Tryz.prog 74 [.av .str (.s x),.av .ptr (.ptr bb .ptr [])] [(bb,yI B),(B,zO R outs mf W rd asks over why),(W,wrO wrote)] fun r H'=>r=.av .bool (.b (decide (x∉wrote.map (·.1))))∧
   H'=[(bb,yI B),(B,zO R outs mf W rd asks over why),(W,wrO wrote)]:=by
 have hw:=QZ wrote
 have hbe2:=J2 (R:=R) (outs:=outs) (W:=W) (asks:=asks) (over:=over) (why:=why) h1 h2
 have hmf:=VO x wrote
 refine q7.nodup fun hnd=>?_
 simp[q8.keys]at hnd
 obtain⟨⟨n1,n2⟩,n3⟩:=hnd
 have n1':¬B=bb:=fun e=>n1 e.symm
 have n2':¬W=bb:=fun e=>n2 e.symm
 have n3':¬W=B:=fun e=>n3 e.symm
 simp only[zO]at hbe2
 simp only[wrO]at hw
 by_cases hp:x∈wrote.map (·.1)
 ·obtain⟨y,hy⟩:=zcf hp
  rw[hy]at hmf
  have hd:decide (x∉wrote.map (·.1))=false:=by simpa using hp
  rw[hd]
  refine zov Tryz.func74 cf0 fun imm0 w0=>?_
  simp (disch:=omega) [zz,yI,zO,wrO,n1,n1',n2,n2',n3,n3',hmf]
  simp (disch:=omega) [zz,Tryz.f74,h1,h2]
  simpa[HObj.er_map]using hw
 ·have hfn:=zcJ hp
  rw[hfn]at hmf
  have hd:decide (x∉wrote.map (·.1))=true:=by simpa using hp
  rw[hd]
  refine zov Tryz.func74 cf0 fun imm0 w0=>?_
  simp (disch:=omega) [zz,yI,zO,wrO,n1,n1',n2,n2',n3,n3',hmf]
  simp (disch:=omega) [zz,Tryz.f74,h1,h2]
  simpa[HObj.er_map]using hw
def zoW (c:CmdV):Prop:=(c.words.getD 0 []=zZ∨c.words.getD 0 []=w8∨c.words.getD 0 []=jT)→yV (c.words.getD 1 [])=true
def zkv:TdV→Prop
 | .cmd c=>zoW c
 | _=>True
structure Q9 (r:zCT):Prop where
 td:∀t∈r.todo,zkv t
 ak:r.waits=true→yV r.asks=true
structure J4 (r r':zCT):Prop where
 td:∀t∈r'.todo,t∈r.todo∨zkv t
 ak:(r'.waits=r.waits∧r'.asks=r.asks)∨yV r'.asks=true
theorem J4.ok {r r':zCT} (h:J4 r r') (ho:Q9 r):Q9 r' :=
 ⟨fun t ht=>(h.td t ht).elim (ho.td t) id,fun hw=>h.ak.elim (fun e=>by rw[e.2];exact ho.ak (e.1▸hw)) id⟩
theorem J4.same {r r':zCT} (h1:r'.todo=r.todo) (h2:r'.waits=r.waits) (h3:r'.asks=r.asks):J4 r r':=⟨fun t ht=>.inl (h1▸ht),.inl ⟨h2,h3⟩⟩
theorem J4.fail (e:Int) (r:zCT):J4 r (wC e r):=.same rfl rfl rfl
theorem J4.add (s:Txt) (r:zCT):J4 r (wW s r):=by unfold wW;split<;>exact .same rfl rfl rfl
theorem J4.lines (l:List Txt) (r:zCT):J4 r (kS l r):=by
 have h:=J4.add (l.flatMap (·++[10])) { r with buf:=[] }
 exact⟨h.td,h.ak⟩
theorem J4.co (k:CoV) (x:KnV) (r:zCT):J4 r (coR k x r):=by
 cases hi:x.is with
 | false =>
  cases k with
  | tr=>simp[coR,hi,same]
  | there t=>grind [coR,fail]
 | true =>
  cases k with
  | tr=>grind [coR,add]
  | there t=>cases t with
   | add=>grind [coR,add,thR]
   | scan w =>
    rw[show coR (.there (.scan w)) x r={ r with todo:=r.todo++(z7 x.data).reverse.map fun s=>.line s w } by simp[coR,hi,thR]]
    refine⟨fun t ht=>?_,.inl ⟨rfl,rfl⟩⟩
    rcases List.mem_append.1 ht with ht|ht
    ·exact .inl ht
    ·obtain⟨s,_,rfl⟩:=List.mem_map.1 ht
     exact .inr trivial
theorem J4.ask (p:Txt) (k:CoV) (r:zCT) (hp:yV p=true):J4 r (Q6 p k r):=by
 unfold Q6
 split
 ·simp[co]
 ·split
  ·simp[fail]
  ·refine⟨fun t ht=>?_,.inr hp⟩
   rcases List.mem_append.1 ht with ht|ht
   ·exact .inl ht
   ·rw[List.mem_singleton.1 ht];exact .inr trivial
theorem J4.scan (p w:Txt) (r:zCT) (hp:yV p=true):J4 r (ZL p w r):=by
 have h:=J4.ask p (.there (.scan w)) { r with seen:=r.seen++[p] } hp
 exact⟨h.td,h.ak⟩
theorem J4.line (s w:Txt) (r:zCT):J4 r (Z1 s w r):=by
 unfold Z1
 split
 ·split
  ·simp[add]
  ·rename_i h
   split
   ·simp[same]
   simp_all[scan]
 simp[add]
theorem J4.turn (n a:Txt) (r:zCT):J4 r (wK n a r):=by
 unfold wK
 split
 ·simp[lines]
 split
 ·simp[lines]
 split
 ·simp[same]
 split
 ·simp[same]
 split
 ·simp[lines]
 simp[same]
theorem J4.cmd (c:CmdV) (r:zCT) (hc:zoW c):J4 r (doR c r):=by
 unfold doR
 simp only
 split
 ·rename_i h;exact .ask _ _ _ (hc (.inl h))
 split
 ·rename_i h;exact .ask _ _ _ (hc (.inr (.inl h)))
 split
 ·rename_i h
  have h:=J4.scan (c.words.getD 1 []) (c.words.getD 2 []) { r with seen:=[] } (hc (.inr (.inr h)))
  exact⟨h.td,h.ak⟩
 split
 ·simp[add]
 split
 ·grind [add,fail]
 split
 ·simp[same]
 split
 ·split
  ·simp[same]
  simp[fail]
 grind [fail,turn]
theorem Q9.step {r:zCT} (h:Q9 r):Q9 (QL r):=by
 rcases List.eq_nil_or_concat r.todo with ht|⟨l,t,ht⟩
 ·rw[KT ht];exact⟨h.td,h.ak⟩
 ·rw[List.concat_eq_append]at ht
  rw[KV ht]
  have h0:Q9 { r with todo:=l }:=⟨fun x hx=>h.td x (by simp_all),h.ak⟩
  have hc:zkv t:=h.td t (by rw[ht];simp)
  cases t with
  | cmd c=>exact(J4.cmd c _ hc).ok h0
  | line s w=>exact(J4.line s w _).ok h0
  | ans k p=>exact(J4.co k _ _).ok h0
theorem Q9.runN:∀(n:Nat) {r r':zCT},runN n r=some r'→Q9 r→Q9 r'
 | 0,r,r',h,_=>by cases h
 | n+1,r,r',h,hg=>by
  rw[Go.Proofs.YtcgpcfcbienapaaGreatDoor.runN]at h
  by_cases hs:kL r=true
  ·simp_all
  ·rw[if_neg hs]at h
   exact Q9.runN n h hg.step
theorem Q9.settle {r:zCT} (hi:JF r) (h:Q9 r):Q9 (kI r):=Q9.runN _ (yW hi).1 h
theorem Q9.next {r:zCT} (hi:JF r) (h:Q9 r):Q9 (w9 r).2∧((w9 r).2.waits=true→yV (w9 r).2.asks=true):=by
 have hs:=h.settle hi
 have:Q9 (w9 r).2:=by
  unfold w9
  simp only
  split
  ·exact hs
  ·split
   ·exact⟨hs.td,hs.ak⟩
   ·exact hs
 exact⟨this,this.ak⟩
theorem Q9.give {r:zCT} (hi:JF r) (h:Q9 r) (k:KnV):Q9 (QB k r).2:=by
 have hs:=h.settle hi
 unfold QB
 simp only
 split
 ·exact hs
 split
 ·exact hs
 split
 ·exact hs
 ·exact⟨hs.td,fun e=>by cases e⟩
theorem zan:∀l:List UInt8,l.length+1=((qT 47 l).map fun x=>x.length+1).sum
 | []=>rfl
 | b::l=>by
  have ih:=zan l
  unfold qT
  split
  ·simp only[List.length_cons,List.map_cons,List.length_nil,List.sum_cons];omega
  ·cases hs:qT 47 l with
   | nil=>exact absurd hs (JJ _ _)
   | cons y q =>
    rw[hs]at ih
    simp only[List.length_cons,List.map_cons,List.sum_cons]at ih ⊢;omega
theorem zct {p:List UInt8} (h:yV p=true):p.length≤1040:=by
 simp only[yV,Bool.and_eq_true,decide_eq_true_eq,List.all_eq_true]at h
 have h1:=zan p
 have h2:∀l:List (List UInt8),(∀x∈l,Q0 x=true)→(l.map fun x=>x.length+1).sum≤l.length*65:=by
  intro l
  induction l with
  | nil=>simp
  | cons x r ih =>
   intro hx
   have h3:=hx x (by simp)
   have h4:x.length≤64:=by
    simp_all[Q0]
   grind
 grind
structure ZJ (b:zCU):Prop where
 good:wH b.run
 ask:Q9 b.run
 ov:OV b.run
 no2:b.run.over.kind≠2
theorem ZJ.at_ {b:zCU} (h:ZJ b):AtR b.run.env (jV [] b.run) b.run.known [] b.run:=⟨h.good.inv,h.ov,rfl,rfl,fun _ _=>.refl _⟩
theorem ZJ.round {b:zCU} (h:ZJ b):(wH (w9 b.run).2∧Q9 (w9 b.run).2∧OV (w9 b.run).2∧(w9 b.run).2.over.kind≠2)∧((w9 b.run).1.kind=1→(w9 b.run).1.path.length≤1040):=by
 have h1:=h.ask.next h.good.inv
 rcases h.at_.next h.no2 with⟨g1,g2,g3,g4⟩|hs
 ·exact⟨⟨h.good.next,h1.1,g2.ov,by omega⟩,fun e=>by omega⟩
 ·refine⟨⟨h.good.next,h1.1,hs.at_.ov,hs.no2⟩,fun e=>?_⟩
  have hw:=hs.waits.1 e
  rw[hs.asks hw]
  simp_all[zct]
theorem ZJ.roundB {b:zCU} (h:ZJ b):ZJ (roundB b).1:=by
 obtain⟨h1,h2,h3,h4⟩:=h.round.1
 have hr:(Go.Proofs.YtcgpcfcbienapaaGreatDoor.roundB b).1.run=(w9 b.run).2:=by
  grind [Go.Proofs.YtcgpcfcbienapaaGreatDoor.roundB,JA,QM]
 exact⟨by simp_all,by simp_all,by simp_all,by simp_all⟩
theorem ZJ.goN:∀(n:Nat) {b b':zCU},goN n b=some b'→ZJ b→ZJ b'
 | 0,b,b',h,_=>by cases h
 | n+1,b,b',h,hg=>by
  rw[Go.Proofs.YtcgpcfcbienapaaGreatDoor.goN]at h
  by_cases ho:b.over=true
  ·simp_all
  rw[if_neg ho]at h
  by_cases h2:(Go.Proofs.YtcgpcfcbienapaaGreatDoor.roundB b).2=true
  ·rw[if_pos h2]at h;cases h;exact hg.roundB
  ·rw[if_neg h2]at h
   exact ZJ.goN n h hg.roundB
structure p8 (outs':List Txt) (may':Txt→Bool) (b:zCU):Prop where
 o:∀p,p∈b.outs↔p∈outs'
 m:∀p,b.may p=may' p
theorem GK (b:zCU):(roundB b).1.outs=b.outs∧(roundB b).1.may=b.may∧(roundB b).1.reads=b.reads:=by
 unfold roundB JA QM
 grind
theorem zd5:∀(n:Nat) {b b':zCU},goN n b=some b'→b'.outs=b.outs∧b'.may=b.may∧b'.reads=b.reads
 | 0,b,b',h=>by cases h
 | n+1,b,b',h=>by
  have hk:=GK b
  rw[goN]at h
  by_cases ho:b.over=true
  ·simp_all
  rw[if_neg ho]at h
  by_cases h2:(roundB b).2=true
  ·simp_all
  ·rw[if_neg h2]at h
   obtain⟨g1,g2,g3⟩:=zd5 n h
   exact⟨g1.trans hk.1,g2.trans hk.2.1,g3.trans hk.2.2⟩
theorem PD (b:zCU):(yQ b).outs=b.outs∧(yQ b).may=b.may∧(yQ b).reads=b.reads:=by
 unfold yQ
 cases h:goN (ccR b.run+2) b with
 | none=>simp
 | some b'=>exact zd5 _ h
theorem cG (k:KnV) (b:zCU):(kB k b).2.outs=b.outs∧(kB k b).2.may=b.may∧b.reads <+: (kB k b).2.reads:=by
 unfold kB
 split
 ·simp
 split
 ·simp
 split
 ·simp
 simp[PD]
def jA (bo bi ba:Nat):AV:=.fn 67 [.ptr bo TsT [],.ptr bi TsT [],.ptr ba TsT []]
noncomputable def kR (cap:Nat) (l:List Read) (j:List AV):HObj:=.var (.arr cap 54) (.agg (l.map qI++j))
def cM (l:List Read) (rd:AV) (RD:q8):Prop :=
 (l=[]∧rd=.nsl∧RD=[])∨(∃T cap j,JK j∧rd=.msl T 54 0 l.length cap∧l.length+j.length=cap∧RD=[(T,kR cap l j)])
theorem UF (l:List Read):AV.erks (l.map qI)=l.map qI:=by
 rw[AV.erks_eq,List.map_map]
 refine List.map_congr_left fun x _=>?_
 exact kH _ (dJ x)
theorem cM.er {l:List Read} {rd:AV} {RD:q8} (h:cM l rd RD):RD.er=RD∧rd.erk=rd:=by
 rcases h with⟨_,rfl,rfl⟩|⟨T,cap,j,hj,rfl,_,rfl⟩
 ·exact⟨rfl,rfl⟩
 ·refine⟨?_,rfl⟩
  simp only[q8.er_cons,q8.er_nil,kR,HObj.er_var,AV.erk,uC,UF]
  rw[show AV.erks j=j from hj]
structure J3 where
 R:Nat
 HR:q8
 W:Nat
 bo:Nat
 bi:Nat
 ba:Nat
 ins:List Txt
 ask:List Txt
 rd:AV
 RD:q8
noncomputable def J3.M (q:J3) (b:zCU):q8:=W8 q.bo q.bi q.ba b.outs q.ins q.ask++q.RD
noncomputable def J3.core (q:J3) (B:Nat) (b:zCU):q8:=(B,zO q.R b.outs (jA q.bo q.bi q.ba) q.W q.rd b.asks b.over b.why)::(q.W,wrO b.wrote)::(q.M b++q.HR)
structure J3.OK (q:J3) (b:zCU):Prop where
 run:z6 q.R b.run q.HR
 reads:cM b.reads q.rd q.RD
 may:b.may=pJ b.outs q.ins q.ask
 mb:zpJ b.outs q.ins q.ask
def jJ (B:Nat) (b:zCU) (H:q8):Prop:=∃q:J3,q.OK b∧H=q.core B b
theorem J3.OK.er {q:J3} {b:zCU} (h:q.OK b) (B:Nat):(q.core B b).er=q.core B b∧(q.M b).er=q.M b∧q.HR.er=q.HR∧q.rd.erk=q.rd:=by
 obtain⟨h1,h2⟩:=h.reads.er
 have h3:=h.run.er
 have h4:(q.M b).er=q.M b:=by simp only[J3.M,q8.er_app,vQ,h1]
 refine⟨?_,h4,h3,h2⟩
 simp only[J3.core,q8.er_cons,q8.er_app,h3,h4,QZ,J2 (mf:=jA q.bo q.bi q.ba) rfl h2]
theorem zgQ (b:zCU) (d:DoV) (r':zCT) (h:w9 b.run=(d,r')):roundB b =
  if d.kind=1 then(if b.may d.path=true then({ b with run:=r',asks:=d.path },true) else(QM 13 { b with run:=r' },false))
  else if d.kind=2 then(JA d.path d.data { b with run:=r' },false)
  else if d.kind=3 then(if YU b=true then(QM 14 { b with run:=r' },false) else({ b with run:=r',over:=true },false))
  else(QM d.why { b with run:=r' },false):=by
 unfold roundB
 rw[h]
abbrev znq:Cfg:=⟨fun n=>n==1,fun _=>false⟩
set_option maxHeartbeats 8000000 in
theorem WP (B:Nat) {b bf:zCU} {H:q8} (hH:jJ B b H) (hg:ZJ b) (n:Nat) (hn:goN n b=some bf) :
  q7 Tryz.prog 39 [.av .ptr (.ptr B KD [])] H fun y H'=>y=.tup []∧jJ B bf H':=by
 refine q7.sub (R:=fun y H'=>y=.tup []∧∃H2,Ab.HSub H2 H'∧jJ B bf H2) ?_ fun y H' ⟨h1,H2,h2,h3⟩ _=>⟨H2,h2,h1,h3⟩
 refine zov Tryz.func39 znq fun imm0 w0=>?_
 simp (disch:=omega) [zz]
 intro b1 m1
 refine AT.loop' (α:=Nat × zCU × q8) (fun x=>St.of [(1,.av .ptr (.ptr b1 .ptr []))] [] (fun _=>0) ((b1,yI B)::x.2.2))
  (fun x=>goN x.1 x.2.1=some bf∧ZJ x.2.1∧jJ B x.2.1 x.2.2) (fun x=>x.1) (n,b,H) ?_ ?_ ?_
 ·apply Le.of<;>simp[qU,qG,yI]
 ·exact⟨hn,hg,hH⟩
 clear hn hg hH m1 b
 rintro⟨n,b,H1⟩ ⟨hn,hg,hq0⟩ KL hN hE
 simp only at hn hg hq0 hN ⊢
 obtain⟨q,hq,rfl⟩:=hq0
 cases n with
 | zero=>cases hn
 | succ n =>
 rw[goN]at hn
 obtain⟨hce,hMe,hHe,hre⟩:=hq.er B
 refine znk fun hnd=>?_
 simp[J3.core,q8.keys]at hnd
 obtain⟨⟨n1,n2,n3⟩,⟨n4,n5⟩,n6,n7⟩:=hnd
 have sy:∀ {a b:Nat},¬a=b→¬b=a:=fun h e=>h e.symm
 have n1':=sy n1;have n2':=sy n2;have n4':=sy n4
 by_cases ho:b.over=true
 ·rw[if_pos ho]at hn
  have hbf:=Option.some.inj hn
  subst hbf
  have hcc:q.core B b=(B,zO q.R b.outs (jA q.bo q.bi q.ba) q.W q.rd b.asks b.over b.why)::(q.W,wrO b.wrote)::(q.M b++q.HR):=rfl
  obtain⟨M,hM⟩:∃M:q8,M=(q.W,wrO b.wrote)::(q.M b++q.HR):=⟨_,rfl⟩
  rw[←hM]at hcc
  have hMM:M.er=M:=by
   rw[hM];simp only[q8.er_cons,q8.er_app,hMe,hHe,QZ]
  rw[hcc]
  refine qM (cf:=znq) laid mixed _ _ _ (by kernel_rfl) ?_
  simp (disch:=omega) [zz,yI,zO,n1,n1',ho]
  refine hE _ _ (by simp) ?_
  simp (disch:=omega) [zz,hMM,hre,jA,Tryz.f39]
  refine⟨q.core B b,?_,q,hq,rfl⟩
  rw[hcc]
  simp only[zO,ho,jA]
  exact HSub.of_sub ((List.Sublist.refl _).cons _)
 rw[if_neg ho]at hn
 have ho':b.over=false:=by simpa using ho
 obtain⟨⟨d,r'⟩,hdr⟩:∃x,w9 b.run=x:=⟨_,rfl⟩
 have hnx:=zmk q.R hq.run hg.good
 have hrd:=hg.round
 have hgr:=hg.roundB
 rw[hdr]at hnx hrd
 simp only at hnx hrd
 have hrb:=zgQ b d r' hdr
 obtain⟨M,hM⟩:∃M,M=q.M b:=⟨_,rfl⟩
 have hcc:q.core B b=(B,zO q.R b.outs (jA q.bo q.bi q.ba) q.W q.rd b.asks b.over b.why)::(q.W,wrO b.wrote)::(M++q.HR):=by rw[hM];rfl
 rw[hcc]
 rw[←hM]at hMe
 refine qM (cf:=znq) laid mixed _ _ _ (by kernel_rfl) ?_
 simp (disch:=omega) [zz,yI,zO,n1,n1',ho']
 refine qE (R:=fun y H'=>y=.av DoT (jG d)∧z6 q.R r' H') q.HR ((b1,yI B)::(B,zO q.R b.outs (jA q.bo q.bi q.ba) q.W q.rd b.asks b.over b.why)::(q.W,wrO b.wrote)::M) ?_ rfl (by simp[qQ]) (by simp) ?_ ?_
 ·refine List.perm_iff_count.2 fun a=>?_
  simp only[yI,zO,ho',List.count_append,List.count_cons];omega
 ·rw[hHe]
  simpa[TV.er,AV.er]using hnx
 rintro y H' ⟨rfl,hrun'⟩ _
 refine⟨(b1,yI B)::(B,zO q.R b.outs (jA q.bo q.bi q.ba) q.W q.rd b.asks b.over b.why)::(q.W,wrO b.wrote)::(M++H'),HSub.of_perm ?_,?_⟩
 ·refine List.perm_iff_count.2 fun a=>?_
  simp only[List.count_append,List.count_cons];omega
 obtain⟨q',hq'⟩:∃q':J3,q'={ q with HR:=H' }:=⟨_,rfl⟩
 have hqa:∀p,q'.OK { b with run:=r',asks:=p }:=fun p=>by
  rw[hq'];exact⟨hrun',hq.reads,hq.may,hq.mb⟩
 have hca:∀p,q'.core B { b with run:=r',asks:=p }=(B,zO q.R b.outs (jA q.bo q.bi q.ba) q.W q.rd p b.over b.why)::(q.W,wrO b.wrote)::(M++H'):=fun p=>by
  rw[hq',hM];rfl
 have hqf:∀e,q'.OK (QM e { b with run:=r' }):=fun e=>by
  rw[hq'];exact⟨hrun',hq.reads,hq.may,hq.mb⟩
 have hcf:∀e,q'.core B (QM e { b with run:=r' })=(B,zO q.R b.outs (jA q.bo q.bi q.ba) q.W q.rd b.asks true e)::(q.W,wrO b.wrote)::(M++H'):=fun e=>by
  rw[hq',hM];rfl
 have hqo:q'.OK { b with run:=r',over:=true }:=by
  rw[hq'];exact⟨hrun',hq.reads,hq.may,hq.mb⟩
 have hco:q'.core B { b with run:=r',over:=true }=(B,zO q.R b.outs (jA q.bo q.bi q.ba) q.W q.rd b.asks true b.why)::(q.W,wrO b.wrote)::(M++H'):=by
  rw[hq',hM];rfl
 have hHe':=hrun'.er
 by_cases h1:d.kind=1
 ·-- it asks
  have hpl:=hrd.2 h1
  have hmay:=zeh q.bo q.bi q.ba b.outs q.ins q.ask hq.mb d.path (by omega)
  rw[←hq.may]at hmay
  obtain⟨m,hm⟩:∃m,m=b.may d.path:=⟨_,rfl⟩
  rw[←hm]at hmay
  have hMH:M=W8 q.bo q.bi q.ba b.outs q.ins q.ask++q.RD:=hM
  simp (disch:=omega) [zz,yI,zO,jG,h1,n1,n1',jA]
  (repeat with_reducible refine om ?_)
  refine UL (r:=.av .bool (.b m)) (bs:=[.av .str (.s d.path),.av .ptr (.ptr q.bo TsT []),.av .ptr (.ptr q.bi TsT []),.av .ptr (.ptr q.ba TsT [])]) (W8 q.bo q.bi q.ba b.outs q.ins q.ask) ((b1,yI B)::(B,zO q.R b.outs (jA q.bo q.bi q.ba) q.W q.rd b.asks b.over b.why)::(q.W,wrO b.wrote)::(q.RD++H')) ?_ (by rw[vQ];exact hmay) rfl (by simp[qQ]) (by simp) (by simp[qS,TV.er,AV.er]) ?_
  ·rw[hMH]
   refine List.perm_iff_count.2 fun a=>?_
   simp only[yI,zO,jA,ho',List.count_append,List.count_cons];omega
  cases m with
  | true =>
   have e:roundB b=({ b with run:=r',asks:=d.path },true):=by rw[hrb,if_pos h1,if_pos hm.symm]
   rw[e]at hn
   simp only[if_true]at hn
   have hbf:=Option.some.inj hn
   subst hbf
   simp (disch:=omega) [zz,yI,zO,h1,n1,n1',jA]
   refine hE _ _ (by simp) ?_
   simp (disch:=omega) [zz,hre,hMe,hHe',QZ,Tryz.f39]
   refine⟨q'.core B { b with run:=r',asks:=d.path },?_,q',hqa _,rfl⟩
   rw[hca]
   simp only[zO,jA,ho']
   exact HSub.of_sub ((List.Sublist.refl _).cons _)
  | false =>
   have e:roundB b=(QM 13 { b with run:=r' },false):=by rw[hrb,if_pos h1,if_neg (by rw[←hm];decide)]
   rw[e]at hn hgr
   simp only[Bool.false_eq_true,if_false]at hn hgr
   simp (disch:=omega) [zz,yI,zO,h1,n1,n1',jA]
   refine qE (R:=fun r H'=>r=.tup []∧H'=[(B,zO q.R b.outs (jA q.bo q.bi q.ba) q.W q.rd b.asks true 13)]) [(B,zO q.R b.outs (jA q.bo q.bi q.ba) q.W q.rd b.asks b.over b.why)] ((b1,yI B)::(q.W,wrO b.wrote)::(M++H')) ?_ rfl (by simp[qQ]) (by simp) ?_ ?_
   ·refine List.perm_iff_count.2 fun a=>?_
    simp only[yI,zO,jA,ho',List.count_append,List.count_cons,List.count_nil];omega
   ·rw[q8.er_cons,J2 rfl hre]
    refine q7.args (vL B (13) q.R b.outs (jA q.bo q.bi q.ba) q.W q.rd b.asks b.over b.why rfl hre) (by simp[qS,coC,TV.er,AV.er])
   rintro r H9 ⟨rfl,rfl⟩ _
   refine⟨(b1,yI B)::(B,zO q.R b.outs (jA q.bo q.bi q.ba) q.W q.rd b.asks true 13)::(q.W,wrO b.wrote)::(M++H'),HSub.of_perm (List.Perm.swap _ _ _),?_⟩
   simp (disch:=omega) [zz]
   refine hN _ (n,QM (13) { b with run:=r' },q'.core B (QM (13) { b with run:=r' })) ?_ ⟨hn,hgr,q',hqf _,rfl⟩ (by simp only;omega)
   rw[hcf]
   refine Le.ofP ?_ ?_ ?_ ?_ (HSub.refl _)<;>simp[qU,qG]
 by_cases h2:d.kind=2
 ·-- it writes
  have hwo:=zik B d.path d.data q.R b.outs hq.mb.o (jA q.bo q.bi q.ba) q.W q.rd b.asks b.over b.why b.wrote rfl hre
  have hw:roundB b=(JA d.path d.data { b with run:=r' },false):=by rw[hrb,if_neg h1,if_pos h2]
  rw[hw]at hn hgr
  simp only[Bool.false_eq_true,if_false]at hn hgr
  simp (disch:=omega) [zz,yI,zO,jG,h1,h2,n1,n1']
  refine qE (R:=fun r H9=>r=.tup []∧H9=(if d.path∈b.wrote.map (·.1)∨d.path∉b.outs then [(B,zO q.R b.outs (jA q.bo q.bi q.ba) q.W q.rd b.asks true 14),(q.W,wrO b.wrote)] else [(B,zO q.R b.outs (jA q.bo q.bi q.ba) q.W q.rd b.asks b.over b.why),(q.W,wrO (b.wrote++[(d.path,d.data)]))])) [(B,zO q.R b.outs (jA q.bo q.bi q.ba) q.W q.rd b.asks b.over b.why),(q.W,wrO b.wrote)] ((b1,yI B)::(M++H')) ?_ rfl (by simp[qQ]) (by simp) ?_ ?_
  ·refine List.perm_iff_count.2 fun a=>?_
   simp only[yI,zO,jA,ho',List.count_append,List.count_cons,List.count_nil];omega
  ·rw[q8.er_cons,q8.er_cons,J2 rfl hre,QZ]
   refine q7.args hwo (by simp[qS,coC,TV.er,AV.er])
  rintro r H9 ⟨rfl,rfl⟩ _
  by_cases hb:d.path∈b.wrote.map (·.1)∨d.path∉b.outs
  ·have e:JA d.path d.data { b with run:=r' }=QM 14 { b with run:=r' }:=by unfold JA;exact if_pos hb
   rw[e]at hn hgr
   rw[if_pos hb]
   refine⟨(b1,yI B)::(B,zO q.R b.outs (jA q.bo q.bi q.ba) q.W q.rd b.asks true 14)::(q.W,wrO b.wrote)::(M++H'),HSub.of_perm ?_,?_⟩
   ·refine List.perm_iff_count.2 fun a=>?_
    simp only[List.count_append,List.count_cons,List.count_nil];omega
   simp (disch:=omega) [zz]
   refine hN _ (n,QM 14 { b with run:=r' },q'.core B (QM 14 { b with run:=r' })) ?_ ⟨hn,hgr,q',hqf _,rfl⟩ (by simp only;omega)
   rw[hcf]
   refine Le.ofP ?_ ?_ ?_ ?_ (HSub.refl _)<;>simp[qU,qG]
  ·have e:JA d.path d.data { b with run:=r' }={ b with run:=r',wrote:=b.wrote++[(d.path,d.data)] }:=by unfold JA;exact if_neg hb
   rw[e]at hn hgr
   rw[if_neg hb]
   refine⟨(b1,yI B)::(B,zO q.R b.outs (jA q.bo q.bi q.ba) q.W q.rd b.asks b.over b.why)::(q.W,wrO (b.wrote++[(d.path,d.data)]))::(M++H'),HSub.of_perm ?_,?_⟩
   ·refine List.perm_iff_count.2 fun a=>?_
    simp only[List.count_append,List.count_cons,List.count_nil];omega
   simp (disch:=omega) [zz]
   refine hN _ (n,{ b with run:=r',wrote:=b.wrote++[(d.path,d.data)] },q'.core B { b with run:=r',wrote:=b.wrote++[(d.path,d.data)] }) ?_ ⟨hn,hgr,q',?_,rfl⟩ (by simp only;omega)
   ·rw[show q'.core B { b with run:=r',wrote:=b.wrote++[(d.path,d.data)] }=(B,zO q.R b.outs (jA q.bo q.bi q.ba) q.W q.rd b.asks b.over b.why)::(q.W,wrO (b.wrote++[(d.path,d.data)]))::(M++H') by rw[hq',hM];rfl]
    refine Le.ofP ?_ ?_ ?_ ?_ (HSub.refl _)<;>simp[qU,qG]
   ·rw[hq'];exact⟨hrun',hq.reads,hq.may,hq.mb⟩
 by_cases h3:d.kind=3
 ·-- it has ended
  obtain⟨lk,hlk⟩:∃lk,lk=YU b:=⟨_,rfl⟩
  have hany:=zbk (fun x=>decide (x∉b.wrote.map (·.1))) (.fn 74 [.ptr b1 .ptr []]) [(b1,yI B),(B,zO q.R b.outs (jA q.bo q.bi q.ba) q.W q.rd b.asks true b.why),(q.W,wrO b.wrote)] b.outs
   ⟨by simp only[q8.er_cons,q8.er_nil,J2 (mf:=jA q.bo q.bi q.ba) rfl hre,QZ];rfl,rfl,fun x hx=>⟨_,rfl,by simp,by simpa[TV.er,AV.er]using zhf b1 B x q.R b.outs (jA q.bo q.bi q.ba) q.W q.rd b.asks true b.why b.wrote rfl hre⟩⟩ (by have:=hq.mb.o;omega)
  have hlq:b.outs.any (fun x=>decide (x∉b.wrote.map (·.1)))=lk:=by rw[hlk];rfl
  rw[hlq]at hany
  have he3:q8.er [(b1,yI B),(B,zO q.R b.outs (jA q.bo q.bi q.ba) q.W q.rd b.asks true b.why),(q.W,wrO b.wrote)]=[(b1,yI B),(B,zO q.R b.outs (jA q.bo q.bi q.ba) q.W q.rd b.asks true b.why),(q.W,wrO b.wrote)]:=by
   simp only[q8.er_cons,q8.er_nil,J2 (mf:=jA q.bo q.bi q.ba) rfl hre,QZ];rfl
  simp (disch:=omega) [zz,yI,zO,jG,h1,h2,h3,n1,n1']
  refine qE (R:=fun r H9=>r=.av .bool (.b lk)∧H9=[(b1,yI B),(B,zO q.R b.outs (jA q.bo q.bi q.ba) q.W q.rd b.asks true b.why),(q.W,wrO b.wrote)]) [(b1,yI B),(B,zO q.R b.outs (jA q.bo q.bi q.ba) q.W q.rd b.asks true b.why),(q.W,wrO b.wrote)] (M++H') ?_ rfl (by simp[qQ]) (by simp) ?_ ?_
  ·simp only[yI,zO,List.cons_append,List.nil_append];exact List.Perm.refl _
  ·rw[he3]
   simpa[TV.er,AV.er]using hany
  rintro r H9 ⟨rfl,rfl⟩ _
  refine⟨_,HSub.refl _,?_⟩
  cases lk with
  | true =>
   have e:roundB b=(QM 14 { b with run:=r' },false):=by rw[hrb,if_neg h1,if_neg h2,if_pos h3,if_pos hlk.symm]
   rw[e]at hn hgr
   simp only[Bool.false_eq_true,if_false]at hn hgr
   simp (disch:=omega) [zz,yI,zO,n1,n1']
   refine qE (R:=fun r H'=>r=.tup []∧H'=[(B,zO q.R b.outs (jA q.bo q.bi q.ba) q.W q.rd b.asks true 14)]) [(B,zO q.R b.outs (jA q.bo q.bi q.ba) q.W q.rd b.asks true b.why)] ((b1,yI B)::(q.W,wrO b.wrote)::(M++H')) ?_ rfl (by simp[qQ]) (by simp) ?_ ?_
   ·refine List.perm_iff_count.2 fun a=>?_
    simp only[yI,zO,jA,ho',List.count_append,List.count_cons,List.count_nil];omega
   ·rw[q8.er_cons,J2 rfl hre]
    refine q7.args (vL B (14) q.R b.outs (jA q.bo q.bi q.ba) q.W q.rd b.asks true b.why rfl hre) (by simp[qS,coC,TV.er,AV.er])
   rintro r H9 ⟨rfl,rfl⟩ _
   refine⟨(b1,yI B)::(B,zO q.R b.outs (jA q.bo q.bi q.ba) q.W q.rd b.asks true 14)::(q.W,wrO b.wrote)::(M++H'),HSub.of_perm (List.Perm.swap _ _ _),?_⟩
   simp (disch:=omega) [zz]
   refine hN _ (n,QM (14) { b with run:=r' },q'.core B (QM (14) { b with run:=r' })) ?_ ⟨hn,hgr,q',hqf _,rfl⟩ (by simp only;omega)
   rw[hcf]
   refine Le.ofP ?_ ?_ ?_ ?_ (HSub.refl _)<;>simp[qU,qG]
  | false =>
   have e:roundB b=({ b with run:=r',over:=true },false):=by rw[hrb,if_neg h1,if_neg h2,if_pos h3,if_neg (by rw[←hlk];decide)]
   rw[e]at hn hgr
   simp only[Bool.false_eq_true,if_false]at hn hgr
   simp (disch:=omega) [zz,yI,zO,n1,n1']
   refine hN _ (n,{ b with run:=r',over:=true },q'.core B { b with run:=r',over:=true }) ?_ ⟨hn,hgr,q',hqo,rfl⟩ (by simp only;omega)
   rw[hco]
   refine Le.ofP ?_ ?_ ?_ ?_ (HSub.refl _)<;>simp[qU,qG,yI,zO]
 ·-- it has failed
  have e:roundB b=(QM d.why { b with run:=r' },false):=by rw[hrb,if_neg h1,if_neg h2,if_neg h3]
  rw[e]at hn hgr
  simp only[Bool.false_eq_true,if_false]at hn hgr
  simp (disch:=omega) [zz,yI,zO,jG,h1,h2,h3,n1,n1']
  refine qE (R:=fun r H'=>r=.tup []∧H'=[(B,zO q.R b.outs (jA q.bo q.bi q.ba) q.W q.rd b.asks true d.why)]) [(B,zO q.R b.outs (jA q.bo q.bi q.ba) q.W q.rd b.asks b.over b.why)] ((b1,yI B)::(q.W,wrO b.wrote)::(M++H')) ?_ rfl (by simp[qQ]) (by simp) ?_ ?_
  ·refine List.perm_iff_count.2 fun a=>?_
   simp only[yI,zO,jA,ho',List.count_append,List.count_cons,List.count_nil];omega
  ·rw[q8.er_cons,J2 rfl hre]
   refine q7.args (vL B (d.why) q.R b.outs (jA q.bo q.bi q.ba) q.W q.rd b.asks b.over b.why rfl hre) (by simp[qS,coC,TV.er,AV.er])
  rintro r H9 ⟨rfl,rfl⟩ _
  refine⟨(b1,yI B)::(B,zO q.R b.outs (jA q.bo q.bi q.ba) q.W q.rd b.asks true d.why)::(q.W,wrO b.wrote)::(M++H'),HSub.of_perm (List.Perm.swap _ _ _),?_⟩
  simp (disch:=omega) [zz]
  refine hN _ (n,QM (d.why) { b with run:=r' },q'.core B (QM (d.why) { b with run:=r' })) ?_ ⟨hn,hgr,q',hqf _,rfl⟩ (by simp only;omega)
  rw[hcf]
  refine Le.ofP ?_ ?_ ?_ ?_ (HSub.refl _)<;>simp[qU,qG]
abbrev UI:TyD:=.struct [23,9,24,25,25,25]
structure xW where
 pkg:Txt
 name:Txt
 tool:Txt
 env:List (Txt × Txt)
 ins:List Txt
 asks:List Txt
 outs:List Txt
def kT (a:xW):AV:=.agg [.agg [.s a.pkg,.s a.name],.s a.tool,zS a.env,.sl .no (strs a.ins),.sl .no (strs a.asks),.sl .no (strs a.outs)]
@[simp] theorem YB (a:xW):(kT a).er=kT a:=by
 simp[kT,AV.er,AV.ers,v8,strs,AV.ers_eq,Function.comp_def]
abbrev zpD:Cfg:=⟨fun _=>false,fun n=>n==3000001⟩
theorem zhs (a:xW) (h1:a.ins.length≤1000000) (h2:a.asks.length≤1000000) (h3:a.outs.length≤1000000) :
  q7 Tryz.prog 38 [.av UI (kT a)] [] fun r H'=>∃bo bi ba,r=.av .func (jA bo bi ba)∧H'=W8 bo bi ba a.outs a.ins a.asks:=by
 refine q7.sub (R:=fun r H'=>∃bo bi ba,r=.av .func (jA bo bi ba)∧∃H2,Ab.HSub H2 H'∧H2=W8 bo bi ba a.outs a.ins a.asks) ?_ fun r H' ⟨bo,bi,ba,h1,H2,h2,h3⟩ _=>⟨H2,h2,bo,bi,ba,h1,h3⟩
 refine zov Tryz.func38 zpD fun imm0 w0=>?_
 simp (disch:=omega) [zz,kT]
 (repeat with_reducible refine om ?_)
 refine jC (x8 a.ins h1) rfl rfl (by simp) (by simp[qS,TV.er,AV.er]) ?_
 simp (disch:=omega) [zz]
 (repeat with_reducible refine om ?_)
 refine jC (x8 a.asks h2) rfl rfl (by simp) (by simp[qS,TV.er,AV.er]) ?_
 simp (disch:=omega) [zz]
 (repeat with_reducible refine om ?_)
 refine jC (x8 a.outs h3) rfl rfl (by simp) (by simp[qS,TV.er,AV.er]) ?_
 simp (disch:=omega) [zz]
 (repeat with_reducible refine om ?_)
 intro bi ba nba bo nbo1 nbo2
 simp (disch:=omega) [zz,jA,W8,zxJ,Tryz.f38]
 refine⟨bo,bi,ba,⟨rfl,rfl,rfl⟩,HSub.of_perm ?_⟩
 exact List.Perm.cons _ (List.Perm.swap _ _ _)
theorem zhB {pr:List Nat} {P:Program} {cf:Cfg} {ops:Array Oper} {Lt:LtK} {K:St→Prop} {k m:Nat} {ra rb:List Nat} {s:St}:CW pr P cf ops Lt K k m ra rb [] s=match ops[k]?,ops[m]? with
  | some ok,some om=>zjj ops k m ra=true∧(CO ops Lt pr k=true∧XX P cf s ok Lt.kb (uT pr P cf ops Lt K ra))∧(CO ops Lt pr m=true∧XX P cf s om Lt.kb (uT pr P cf ops Lt K rb))
  | _,_=>False:=nr rfl
theorem zgJ {pr:List Nat} {P:Program} {cf:Cfg} {ops:Array Oper} {Lt:LtK} {K:St→Prop} {k m:Nat} {ra rb:List Nat} {j:Nat} {r:List Nat} {s:St}:CW pr P cf ops Lt K k m ra rb (j::r) s=match ops[j]? with
  | none=>False
  | some o=>pr.contains j=false∧WX ops j o s=true∧o.guard=none∧((isLt Lt.kb s o=true∧zJ P s o.op (KH s o.dst (CW pr P cf ops Lt K k m ra rb r)))∨zdi P s o (CW pr P cf ops Lt K k m ra rb r)):=nr rfl
theorem D7 {pr:List Nat} {P:Program} {cf:Cfg} {ops:Array Oper} {Lt:LtK} {K:St→Prop} {s:St}:uT pr P cf ops Lt K [] s=K s:=nr rfl
theorem gQ {pr:List Nat} {P:Program} {cf:Cfg} {ops:Array Oper} {Lt:LtK} {K:St→Prop} {k:Nat} {r:List Nat} {s:St}:uT pr P cf ops Lt K (k::r) s=match ops[k]? with
  | none=>False
  | some o=>if pr.contains k=true then vO ops k r=true∧CO ops Lt pr k=true∧XX P cf s o Lt.kb (uT pr P cf ops Lt K r)
   else if sft cf o=true then vO ops k r=true∧CO ops Lt pr k=true∧XX P cf s o Lt.kb (uT pr P cf ops Lt K r)
   else if zjb cf o=true then UZ ops k=true∧vcG P cf ops s o (uT pr P cf ops Lt K r)
   else WX ops k o s=true∧o.guard=none∧Lt.l.contains k=false∧vcD P cf s o (uT pr P cf ops Lt K r):=nr rfl
abbrev zeA:Cfg:=⟨fun n=>n==27,fun n=>n==1000001||n==2000013||n==26||n==2000027⟩
theorem vF:∀(ls:List Txt) (i:Nat) (l:List CmdV),yC i ls=.ok l→∀c∈l,∃s∈ls,Z0 s=some (some c)
 | [],i,l,h,c,hc=>by cases h;cases hc
 | s::r,i,l,h,c,hc=>by
  unfold yC at h
  split at h
  ·cases h
  ·obtain⟨x,h1,h2⟩:=vF r _ _ h c hc
   exact⟨x,List.mem_cons_of_mem _ h1,h2⟩
  ·rename_i c' hc'
   split at h
   ·rename_i l' hl'
    cases h
    rcases List.mem_cons.1 hc with rfl|hc
    ·exact⟨s,List.mem_cons_self,hc'⟩
    ·obtain⟨x,h1,h2⟩:=vF r _ _ hl' c hc
     exact⟨x,List.mem_cons_of_mem _ h1,h2⟩
   ·cases h
theorem XU {t:Txt} {cs:List CmdV} (h:j7 t=.ok cs):t.length≤65536∧∃i,yC i (z7 t)=.ok cs:=by
 unfold j7 at h
 split at h
 ·cases h
 ·rename_i hn
  split at h
  ·rename_i l hl
   cases h
   exact⟨by omega,0,hl⟩
  ·cases h
theorem zfn {t:Txt} {cs:List CmdV} (h:j7 t=.ok cs) {env:List (Txt × Txt)} (h1:env.length≤1000000000) (h2:∀x∈env,x.2.length≤1000000000000000):wH (W7 env cs)∧Q9 (W7 env cs):=by
 obtain⟨ht,i,hc⟩:=XU h
 have hl:=y8 h
 have hk:∀x∈(W7 env cs).todo,okt x∧zkv x:=by
  intro x hx
  obtain⟨c,hcm,rfl⟩:=List.mem_map.1 hx
  obtain⟨s,hs,hr⟩:=vF _ _ _ hc c (List.mem_reverse.1 hcm)
  have hsl:=W3 hs
  obtain⟨g1,g2,g3,g4,g5⟩:=zh3 hr
  refine⟨⟨g1,by omega,fun w hw=>by have:=g3 w hw;omega⟩,?_⟩
  intro hw
  cases g1 with
  | read p rs=>exact g5 p rs (.inl rfl)
  | try_ p rs=>exact g5 p rs (.inr (.inl rfl))
  | scan p w rs=>exact g4 p w rs rfl
  | write p rs=>exact g5 p rs (.inr (.inr rfl))
  | env a rs=>revert hw;simp[yO,zZ,w8,jT]
  | need a rs=>revert hw;simp[kG,zZ,w8,jT]
  | keep a rs=>revert hw;simp[wQ,zZ,w8,jT]
  | sort rs=>revert hw;simp[wP,zZ,w8,jT]
  | uniq rs=>revert hw;simp[y4,zZ,w8,jT]
  | upper rs=>revert hw;simp[kV,zZ,w8,jT]
  | count rs=>revert hw;simp[kY,zZ,w8,jT]
  | fail rs=>revert hw;simp[yR,zZ,w8,jT]
  | text rs=>revert hw;simp[zCX,zZ,w8,jT]
 exact⟨⟨zak env cs hl,fun x hx=>(hk x hx).1,h1,h2⟩,⟨fun x hx=>(hk x hx).2,fun e=>by cases e⟩⟩
theorem za8 {t:Txt} {cs:List CmdV} (h:j7 t=.ok cs) {env:List (Txt × Txt)} (h1:env.length≤1000000000) (h2:∀x∈env,x.2.length≤1000000000000000) (outs:List Txt) (may:Txt→Bool):ZJ (CE env outs may cs):=by
 obtain⟨g1,g2⟩:=zfn h h1 h2
 exact⟨g1,g2,⟨.inl rfl,fun e=>rfl⟩,by show (0:Int)≠2;decide⟩
structure zky (a:xW):Prop where
 bt:a.tool.length≤1000000
 be:a.env.length≤1000000
 bev:∀x∈a.env,x.2.length≤1000000000000000
 bi:a.ins.length≤1000000
 ba:a.asks.length≤1000000
 bae:∀x∈a.asks,x.length≤900000
 bo:a.outs.length≤1000000
noncomputable def jI (a:xW):Txt→Bool:=pJ a.outs a.ins a.asks
def zes (a:xW) (r:TV) (H':q8):Prop:=match j7 a.tool with
 | .error (e,_)=>r=.tup [(.ptr,.nilptr),(.int .i64,.i .i64 e)]∧H'=[]
 | .ok cs=>∃B,r=.tup [(.ptr,.ptr B KD []),(.int .i64,.i .i64 0)]∧jJ B (ZR a.env a.outs (jI a) cs) H'
theorem jJ.er {B:Nat} {b:zCU} {H:q8} (h:jJ B b H):H.er=H:=by
 obtain⟨q,hq,rfl⟩:=h
 exact(hq.er B).1
set_option maxHeartbeats 16000000 in
theorem DZ (a:xW) (hb:zky a):q7 Tryz.prog 17 [.av UI (kT a)] [] (zes a):=by
 obtain⟨ht,he,hev,h1,h2,h2e,h3⟩:=hb
 have hce:=cO a.env he
 have hst:=zig a.tool ht a.env he
 have hea:=v8 a.env
 unfold zes
 refine q7.of_at laid Tryz.func17 rfl (by simp[Tryz.ntmps17]) fun imm0 w0=>?_
 refine AT.seq ?_
 refine qM (cf:=zeA) laid mixed _ _ _ (by kernel_rfl) ?_
 simp (disch:=omega) [zz,kT]
 refine AT.seq ?_
 refine qM (cf:=zeA) laid mixed _ _ _ (by kernel_rfl) ?_
 simp (disch:=omega) [zz]
 refine jW.ofK [0,1,2,3,4,5,6,7,8,9,10] [] [] (by kernel_rfl) ?_
 simp (disch:=omega) [zz]
 (repeat with_reducible refine om ?_)
 refine jC hce rfl rfl (by simp) (by simp[qS,TV.er,hea]) ?_
 simp (disch:=omega) [zz]
 (repeat with_reducible refine om ?_)
 refine jP (R:=dS a.tool a.env) rfl (by simp[qQ]) (by simp) ?_ ?_
 ·simpa[TV.er,AV.er,hea,q8.er_nil]using hst
 intro r H' hsp
 unfold dS at hsp
 cases hcv:j7 a.tool with
 | error en =>
  obtain⟨e,n⟩:=en
  rw[hcv]at hsp
  obtain⟨rfl,rfl⟩:=hsp
  have hne:¬e=0:=by rcases Z8 hcv with h|h<;>omega
  simp (disch:=omega) [zz]
  (repeat with_reducible refine om ?_)
  refine AT.seq ?_
  refine qM (cf:=zeA) laid mixed _ _ _ (by kernel_rfl) ?_
  simp (disch:=omega) [zz,hne]
  simp (disch:=omega) [zz,Tryz.f17]
 | ok cs =>
  rw[hcv]at hsp
  obtain⟨R,rfl,hrun⟩:=hsp
  have hle:=y8 hcv
  have hre:=hrun.er
  have hcl:=x8 a.outs h3
  have hrd:=zhs a h1 h2 h3
  have hgo:=(V7 (zeZ a.env a.outs (jI a) cs hle)).1
  have hgood:=za8 hcv (env:=a.env) (by omega) hev a.outs (jI a)
  simp (disch:=omega) [zz]
  (repeat with_reducible refine om ?_)
  refine AT.seq ?_
  refine qM (cf:=zeA) laid mixed _ _ _ (by kernel_rfl) ?_
  simp (disch:=omega) [zz]
  refine AT.seq ?_
  have fin:∀(B W bo bi ba:Nat) (H0:q8),H0.Perm ((B,zO R a.outs (jA bo bi ba) W .nsl [] false 0)::(W,wrO [])::(W8 bo bi ba a.outs a.ins a.asks++H'))→∃H2,H0.Perm H2∧jJ B (CE a.env a.outs (jI a) cs) H2:=by
   intro B W bo bi ba H0 hp
   refine⟨_,hp,⟨R,H',W,bo,bi,ba,a.ins,a.asks,.nsl,[]⟩,⟨hrun,.inl ⟨rfl,rfl,rfl⟩,rfl,⟨h3,h1,h2,h2e⟩⟩,?_⟩
   simp[J3.core,J3.M,CE]
  refine AT.two (cf:=zeA) laid mixed [0,1,2,3,4] 5 6 [6,7,8,9] [5,7,8,9] [0,1,2,3,4] (by kernel_rfl) (by kernel_rfl) (by decide) (by kernel_rfl) (by kernel_rfl) ?_
  simp (disch:=omega) [zz,zgJ,zhB,gQ,D7,zdi,isLt,zjb]
  (repeat with_reducible refine om ?_)
  have hae:(AV.agg [.agg [.s a.pkg,.s a.name],.s a.tool,zS a.env,.sl .no (strs a.ins),.sl .no (strs a.asks),.sl .no (strs a.outs)]).er=kT a:=YB a
  refine⟨_,hcl,by kernel_rfl,by kernel_rfl,⟨by kernel_rfl,?_⟩,by kernel_rfl,?_⟩
  ·refine qE (R:=fun r H'=>∃bo bi ba,r=.av .func (jA bo bi ba)∧H'=W8 bo bi ba a.outs a.ins a.asks) [] H' (by simp) rfl (by simp[qQ]) (by simp) ?_ ?_
   ·have hrd':=hrd
    simp only[kT]at hrd'
    simpa[TV.er,AV.er,AV.ers,hea]using hrd'
   rintro r2 H2 ⟨bo,bi,ba,rfl,rfl⟩ hnd
   refine⟨_,HSub.refl _,?_⟩
   refine⟨by kernel_rfl,by kernel_rfl,?_⟩
   simp (disch:=omega) [zz,gQ,D7,zjb]
   intro W w1 w2
   refine⟨by kernel_rfl,by kernel_rfl,by kernel_rfl,?_⟩
   intro B x1 x2 x3
   obtain⟨H2,hp2,hH2⟩:=fin B W bo bi ba _ (List.Perm.refl _)
   refine qM (cf:=zeA) laid mixed _ _ _ (by kernel_rfl) ?_
   simp (disch:=omega) [zz]
   refine qE (R:=fun y H'=>y=.tup []∧jJ B (ZR a.env a.outs (jI a) cs) H') H2 [] (by simpa[zO,wrO,wrE]using hp2) rfl (by simp[qQ]) (by simp) ?_ ?_
   ·rw[hH2.er]
    have hgo2:=WP B hH2 hgood _ hgo
    rw[show yQ (CE a.env a.outs (jI a) cs)=ZR a.env a.outs (jI a) cs from rfl]at hgo2
    simpa[TV.er,AV.er]using hgo2
   rintro y H9 ⟨rfl,hfin⟩ _
   refine⟨H9,by simpa using HSub.refl _,?_⟩
   have hfe:=hfin.er
   simp (disch:=omega) [zz,hfe,Tryz.f17]
   exact hfin
  ·intro W w1
   refine⟨by kernel_rfl,by kernel_rfl,?_⟩
   refine qE (R:=fun r H'=>∃bo bi ba,r=.av .func (jA bo bi ba)∧H'=W8 bo bi ba a.outs a.ins a.asks) [] ((W,.map 9 9 [])::H') (by simp) rfl (by simp[qQ]) (by simp) ?_ ?_
   ·have hrd':=hrd
    simp only[kT]at hrd'
    simpa[TV.er,AV.er,AV.ers,hea]using hrd'
   rintro r2 H2 ⟨bo,bi,ba,rfl,rfl⟩ hnd
   refine⟨_,HSub.refl _,?_⟩
   simp (disch:=omega) [zz,gQ,D7,zjb]
   refine⟨by kernel_rfl,by kernel_rfl,by kernel_rfl,?_⟩
   intro B x1 x2 x3
   obtain⟨H2,hp2,hH2⟩:=fin B W bo bi ba ((B,zO R a.outs (jA bo bi ba) W .nsl [] false 0)::(W8 bo bi ba a.outs a.ins a.asks++(W,wrO [])::H')) (by
    refine List.perm_iff_count.2 fun a=>?_
    simp only[List.count_append,List.count_cons];omega)
   refine qM (cf:=zeA) laid mixed _ _ _ (by kernel_rfl) ?_
   simp (disch:=omega) [zz]
   refine qE (R:=fun y H'=>y=.tup []∧jJ B (ZR a.env a.outs (jI a) cs) H') H2 [] (by simpa[zO,wrO,wrE]using hp2) rfl (by simp[qQ]) (by simp) ?_ ?_
   ·rw[hH2.er]
    have hgo2:=WP B hH2 hgood _ hgo
    rw[show yQ (CE a.env a.outs (jI a) cs)=ZR a.env a.outs (jI a) cs from rfl]at hgo2
    simpa[TV.er,AV.er]using hgo2
   rintro y H9 ⟨rfl,hfin⟩ _
   refine⟨H9,by simpa using HSub.refl _,?_⟩
   have hfe:=hfin.er
   simp (disch:=omega) [zz,hfe,Tryz.f17]
   exact hfin
end Go.Proofs.YtcgpcfcbienapaaGreatDoor
end
