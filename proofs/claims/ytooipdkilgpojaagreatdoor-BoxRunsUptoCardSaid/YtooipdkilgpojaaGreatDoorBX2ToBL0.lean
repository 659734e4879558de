/- A box in the heap: what it may read, its end, what it writes. No condition beyond each theorem's own. -/
import Derived.Test.YtooipdkilgpojaaGreatDoorS3ToBX1
import Derived.Test.YtooipdkilgpojaaGreatDoorGB4ToKT3
import Derived.Test.YtooipdkilgpojaaGreatDoorKTgToKS2
set_option linter.unusedSimpArgs false
set_option linter.unusedVariables false
set_option linter.unusedSectionVars false
section
set_option maxRecDepth 100000
namespace Go.Proofs.YtooipdkilgpojaaGreatDoor
open Go Go.Ab
open Classical
variable [Sel] [SelPow] [SelMax]
@[simp] theorem zxc:qZ Tryz.prog 9=true:=by kernel_rfl
@[simp] theorem zxC:z8 Tryz.prog (.func 9)=false:=q9 zxc
@[simp] theorem zx1:qZ Tryz.prog 30=true:=by kernel_rfl
@[simp] theorem zxo:z8 Tryz.prog (.func 30)=false:=q9 zx1
@[simp] theorem zol:qZ Tryz.prog 65=true:=by kernel_rfl
@[simp] theorem zrI:z8 Tryz.prog (.func 65)=false:=q9 zol
@[simp] theorem zwY:qZ Tryz.prog 68=true:=by kernel_rfl
@[simp] theorem zxk:z8 Tryz.prog (.func 68)=false:=q9 zwY
@[simp] theorem zwU:qZ Tryz.prog 31=true:=by kernel_rfl
@[simp] theorem zxi:z8 Tryz.prog (.func 31)=false:=q9 zwU
@[simp] theorem zwS:qZ Tryz.prog 71=true:=by kernel_rfl
@[simp] theorem zxs:z8 Tryz.prog (.func 71)=false:=q9 zwS
@[simp] theorem zx0:qZ Tryz.prog 70=true:=by kernel_rfl
@[simp] theorem zxh:z8 Tryz.prog (.func 70)=false:=q9 zx0
@[simp] theorem zyo:qZ Tryz.prog 47=true:=by kernel_rfl
@[simp] theorem zyy:z8 Tryz.prog (.func 47)=false:=q9 zyo
@[simp] theorem zyp:qZ Tryz.prog 17=true:=by kernel_rfl
@[simp] theorem zyA:z8 Tryz.prog (.func 17)=false:=q9 zyp
@[simp] theorem zoL:qZ Tryz.prog 18=true:=by kernel_rfl
@[simp] theorem zs1:z8 Tryz.prog (.func 18)=false:=q9 zoL
@[simp] theorem zAB:qZ Tryz.prog 19=true:=by kernel_rfl
@[simp] theorem zBs:z8 Tryz.prog (.func 19)=false:=q9 zAB
abbrev KD:TyD:=.struct [48,25,88,51,39,9,4,33]
def wrE (l:List (Txt × Txt)):List (AV × AV):=l.map fun x=>(.s x.1,.s x.2)
noncomputable def zO (R:Nat) (outs:List Txt) (mf:AV) (W:Nat) (rd:AV) (asks:Txt) (over:Bool) (why:Int):HObj:=.var KD (.agg [.ptr R kQ [],.sl .no (strs outs),mf,.map (some W),rd,.s asks,.b over,.i .i64 why])
noncomputable def wrO (l:List (Txt × Txt)):HObj:=.map 9 9 (wrE l)
theorem J2 {R:Nat} {outs:List Txt} {mf:AV} {W:Nat} {rd:AV} {asks:Txt} {over:Bool} {why:Int} (h1:mf.erk=mf) (h2:rd.erk=rd):(zO R outs mf W rd asks over why).er=zO R outs mf W rd asks over why:=by
 simp[zO,HObj.er_var,AV.erk,AV.erks,h1,h2]
theorem QZ (l:List (Txt × Txt)):(wrO l).er=wrO l:=by
 simp[wrO,HObj.er_map,wrE,AV.er,Function.comp_def]
theorem VO (p:Txt):∀l:List (Txt × Txt),yY (.s p) (wrE l)=(l.find? fun x=>decide (x.1=p)).map fun x=>.s x.2
 | []=>rfl
 | x::l=>by
  have ih:=VO p l
  simp only[wrE,List.map_cons,yY,AV.s.injEq,List.find?_cons]at ih ⊢
  by_cases h:x.1=p
  ·simp[h]
  ·simp only[h,if_false,decide_false,Bool.false_eq_true];exact ih
theorem zcf {p:Txt} {l:List (Txt × Txt)}:p∈l.map (·.1)→∃x,l.find? (fun x=>decide (x.1=p))=some x:=by
 intro h
 obtain⟨x,h1,h2⟩:=List.mem_map.1 h
 cases hf:l.find? fun x=>decide (x.1=p)with
 | none=>have:=List.find?_eq_none.1 hf x h1;simp[h2]at this
 | some y=>exact⟨y,rfl⟩
theorem zcJ {p:Txt} {l:List (Txt × Txt)} (h:p∉l.map (·.1)):l.find? (fun x=>decide (x.1=p))=none:=by
 refine List.find?_eq_none.2 fun x hx=>?_
 simp only[decide_eq_true_eq]
 exact fun e=>h (List.mem_map.2 ⟨x,hx,e⟩)
theorem zfV (p d:Txt):∀l:List (Txt × Txt),p∉l.map (·.1)→xX (.s p) (.s d) (wrE l)=wrE (l++[(p,d)])
 | [],_=>rfl
 | x::l,h=>by
  simp only[List.map_cons,List.mem_cons,not_or]at h
  have ih:=zfV p d l h.2
  have hx:¬x.1=p:=fun e=>h.1 e.symm
  simp only[wrE,List.map_cons,xX,List.cons_append,AV.s.injEq,hx,if_false]at ih ⊢
  rw[ih]
theorem vL (B:Nat) (e:Int) (R:Nat) (outs:List Txt) (mf:AV) (W:Nat) (rd:AV) (asks:Txt) (over:Bool) (why:Int) (h1:mf.erk=mf) (h2:rd.erk=rd) :
  q7 Tryz.prog 47 [.av .ptr (.ptr B KD []),.av (.int .i64) (.i .i64 e)] [(B,zO R outs mf W rd asks over why)] fun r H'=>r=.tup []∧H'=[(B,zO R outs mf W rd asks true e)]:=by
 refine zov Tryz.func47 cf0 fun imm0 w0=>?_
 simp (disch:=omega) [zz,zO]
 simp (disch:=omega) [zz,Tryz.f47,h1,h2]
def pJ (outs ins asks:List Txt) (p:Txt):Bool:=!decide (p∈outs)&&(decide (p∈ins)||asks.any fun a=>wL a p)
theorem zfp (b:Nat) (p x:Txt) (hp:p.length≤900000) (hx:x.length≤900000):q7 Tryz.prog 68 [.av .str (.s x),.av .ptr (.ptr b .str [])] [(b,zF p)] fun r H'=>r=.av .bool (.b (wL x p))∧H'=[(b,zF p)]:=by
 refine zov Tryz.func68 cf0 fun imm0 w0=>?_
 simp (disch:=omega) [zz,zF]
 refine zcv (zjl x p hx hp) ?_
 simp (disch:=omega) [zz,Tryz.f68]
noncomputable def W8 (bo bi ba:Nat) (outs ins asks:List Txt):q8:=[(bo,zxJ outs),(bi,zxJ ins),(ba,zxJ asks)]
theorem zhL (l:List Txt):(zxJ l).er=zxJ l:=by simp[zxJ,HObj.er_var,AV.erk]
theorem vQ (bo bi ba:Nat) (outs ins asks:List Txt):(W8 bo bi ba outs ins asks).er=W8 bo bi ba outs ins asks:=by
 simp only[W8,q8.er_cons,q8.er_nil,zhL]
abbrev zsq:Cfg:=⟨fun n=>n==4,fun _=>false⟩
structure zpJ (outs ins asks:List Txt):Prop where
 o:outs.length≤1000000
 i:ins.length≤1000000
 a:asks.length≤1000000
 e:∀x∈asks,x.length≤900000
set_option maxHeartbeats 4000000 in
theorem zeh (bo bi ba:Nat) (outs ins asks:List Txt) (hb:zpJ outs ins asks) (p:Txt) (hp:p.length≤900000) :
  q7 Tryz.prog 65 [.av .str (.s p),.av .ptr (.ptr bo TsT []),.av .ptr (.ptr bi TsT []),.av .ptr (.ptr ba TsT [])] (W8 bo bi ba outs ins asks) fun r H'=>r=.av .bool (.b (pJ outs ins asks p))∧H'=W8 bo bi ba outs ins asks:=by
 obtain⟨ho,hi,ha,he⟩:=hb
 refine q7.nodup fun hnd=>?_
 simp[W8,q8.keys]at hnd
 obtain⟨⟨n1,n2⟩,n3⟩:=hnd
 have sy:∀ {a b:Nat},¬a=b→¬b=a:=fun h e=>h e.symm
 have n1':=sy n1;have n2':=sy n2;have n3':=sy n3
 refine q7.sub (R:=fun r H'=>r=.av .bool (.b (pJ outs ins asks p))∧∃H2,Ab.HSub H2 H'∧H2=W8 bo bi ba outs ins asks) ?_ fun y H' ⟨h1,H2,h2,h3⟩ _=>⟨H2,h2,h1,h3⟩
 refine zov Tryz.func65 zsq fun imm0 w0=>?_
 simp (disch:=omega) [zz]
 intro b4 m1
 rw[show W8 bo bi ba outs ins asks=[(bo,.var TsT (.sl .no (strs outs))),(bi,.var TsT (.sl .no (strs ins))),(ba,.var TsT (.sl .no (strs asks)))] from rfl]at m1 ⊢
 simp[q8.keys]at m1
 obtain⟨m1,m2,m3⟩:=m1
 have m1':=sy m1;have m2':=sy m2;have m3':=sy m3
 simp (disch:=omega) [zz,n1,n1',n2,n2',n3,n3',m1,m1',m2,m2',m3,m3']
 refine zcv (JP outs p (by omega)) ?_
 by_cases h1:p∈outs
 ·simp (disch:=omega) [zz,h1,Tryz.f65,pJ]
  exact HSub.of_sub ((List.Sublist.refl _).cons _)
 simp (disch:=omega) [zz,h1,n1,n1',n2,n2',n3,n3',m1,m1',m2,m2',m3,m3']
 refine zcv (JP ins p (by omega)) ?_
 by_cases h2:p∈ins
 ·simp (disch:=omega) [zz,h2,Tryz.f65,pJ,h1]
  exact HSub.of_sub ((List.Sublist.refl _).cons _)
 simp (disch:=omega) [zz,h2,n1,n1',n2,n2',n3,n3',m1,m1',m2,m2',m3,m3']
 have hany:=zbk (fun a=>wL a p) (.fn 68 [.ptr b4 .str []]) [(b4,zF p)] asks ⟨rfl,rfl,fun x hx=>⟨_,rfl,by simp,by simpa[TV.er,AV.er]using zfp b4 p x hp (he x hx)⟩⟩ (by omega)
 obtain⟨q,hq⟩:∃q,q=asks.any fun a=>wL a p:=⟨_,rfl⟩
 rw[←hq]at hany
 refine qE (R:=fun r' H'=>r'=.av .bool (.b q)∧H'=[(b4,zF p)]) [(b4,zF p)] (W8 bo bi ba outs ins asks) (by simp[W8,zF,zxJ]) rfl (by simp[qQ]) (by simp) ?_ ?_
 ·simpa[TV.er,AV.er,q8.er_cons,zF,HObj.er_var,AV.erk]using hany
 rintro r' H' ⟨rfl,rfl⟩ _
 refine⟨_,HSub.refl _,?_⟩
 have hm:pJ outs ins asks p=q:=by simp[pJ,h1,h2,hq]
 have hme:=vQ bo bi ba outs ins asks
 simp (disch:=omega) [zz,hm,hme,Tryz.f65]
 exact HSub.of_sub ((List.Sublist.refl _).cons _)
theorem zik (B:Nat) (p d:Txt) (R:Nat) (outs:List Txt) (ho:outs.length≤1000000) (mf:AV) (W:Nat) (rd:AV) (asks:Txt) (over:Bool) (why:Int) (wrote:List (Txt × Txt)) (h1:mf.erk=mf) (h2:rd.erk=rd) :
  q7 Tryz.prog 70 [.av .ptr (.ptr B KD []),.av .str (.s p),.av .str (.s d)] [(B,zO R outs mf W rd asks over why),(W,wrO wrote)] fun r H'=>r=.tup []∧
   H'=if p∈wrote.map (·.1)∨p∉outs then [(B,zO R outs mf W rd asks true 14),(W,wrO wrote)] else [(B,zO R outs mf W rd asks over why),(W,wrO (wrote++[(p,d)]))]:=by
 have hw:=QZ wrote
 have hw2:=QZ (wrote++[(p,d)])
 have hbe:=fun e=>J2 (R:=R) (outs:=outs) (W:=W) (asks:=asks) (over:=true) (why:=e) h1 h2
 have hbe2:=J2 (R:=R) (outs:=outs) (W:=W) (asks:=asks) (over:=over) (why:=why) h1 h2
 have hmf:=VO p wrote
 refine q7.nodup fun hnd=>?_
 simp[q8.keys]at hnd
 have hnd':¬W=B:=fun e=>hnd e.symm
 have hfl:=vL B 14 R outs mf W rd asks over why h1 h2
 refine zov Tryz.func70 cf0 fun imm0 w0=>?_
 by_cases hp:p∈wrote.map (·.1)
 ·obtain⟨x,hx⟩:=zcf hp
  rw[hx]at hmf
  rw[if_pos (.inl hp)]
  simp (disch:=omega) [zz,zO,wrO,hnd,hnd',hmf]
  refine qE (R:=fun r H'=>r=.tup []∧H'=[(B,zO R outs mf W rd asks true 14)]) [(B,zO R outs mf W rd asks over why)] [(W,wrO wrote)] (by simp[zO,wrO]) rfl (by simp[qQ]) (by simp) ?_ ?_
  ·rw[q8.er_cons,hbe2]
   refine q7.args hfl (by simp[qS,coC,TV.er,AV.er])
  rintro r H' ⟨rfl,rfl⟩ _
  refine⟨_,HSub.refl _,?_⟩
  simp (disch:=omega) [zz,Tryz.f70,hbe,hw]
  simp[zO,wrO]
 have hfn:=zcJ hp
 rw[hfn]at hmf
 by_cases hpo:p∈outs
 ·rw[if_neg (by simp only[not_or,not_not];exact⟨hp,hpo⟩)]
  have hmp:=zfV p d wrote hp
  simp (disch:=omega) [zz,zO,wrO,hnd,hnd',hmf]
  refine zcv (JP outs p (by omega)) ?_
  simp (disch:=omega) [zz,hpo,hnd,hnd',hmf,hmp]
  simp only[zO]at hbe2
  simp only[wrO]at hw2
  simp (disch:=omega) [zz,Tryz.f70,hbe2,hw2,h1,h2]
  simpa[HObj.er_map]using hw2
 ·rw[if_pos (.inr hpo)]
  simp (disch:=omega) [zz,zO,wrO,hnd,hnd',hmf]
  refine zcv (JP outs p (by omega)) ?_
  simp (disch:=omega) [zz,hpo,hnd,hnd',hmf]
  refine qE (R:=fun r H'=>r=.tup []∧H'=[(B,zO R outs mf W rd asks true 14)]) [(B,zO R outs mf W rd asks over why)] [(W,wrO wrote)] (by simp[zO,wrO]) rfl (by simp[qQ]) (by simp) ?_ ?_
  ·rw[q8.er_cons,hbe2]
   refine q7.args hfl (by simp[qS,coC,TV.er,AV.er])
  rintro r H' ⟨rfl,rfl⟩ _
  refine⟨_,HSub.refl _,?_⟩
  simp (disch:=omega) [zz,Tryz.f70,hbe,hw]
  simp[zO,wrO]
noncomputable def yI (B:Nat):HObj:=.var .ptr (.ptr B KD [])
theorem zhf (bb B:Nat) (x:Txt) (R:Nat) (outs:List Txt) (mf:AV) (W:Nat) (rd:AV) (asks:Txt) (over:Bool) (why:Int) (wrote:List (Txt × Txt)) (h1:mf.erk=mf) (h2:rd.erk=rd) :
  q7 Tryz.prog 71 [.av .str (.s x),.av .ptr (.ptr bb .ptr [])] [(bb,yI B),(B,zO R outs mf W rd asks over why),(W,wrO wrote)] fun r H'=>r=.av .bool (.b (decide (x∉wrote.map (·.1))))∧
   H'=[(bb,yI B),(B,zO R outs mf W rd asks over why),(W,wrO wrote)]:=by
 have hw:=QZ wrote
 have hbe2:=J2 (R:=R) (outs:=outs) (W:=W) (asks:=asks) (over:=over) (why:=why) h1 h2
 have hmf:=VO x wrote
 refine q7.nodup fun hnd=>?_
 simp[q8.keys]at hnd
 obtain⟨⟨n1,n2⟩,n3⟩:=hnd
 have n1':¬B=bb:=fun e=>n1 e.symm
 have n2':¬W=bb:=fun e=>n2 e.symm
 have n3':¬W=B:=fun e=>n3 e.symm
 simp only[zO]at hbe2
 simp only[wrO]at hw
 by_cases hp:x∈wrote.map (·.1)
 ·obtain⟨y,hy⟩:=zcf hp
  rw[hy]at hmf
  have hd:decide (x∉wrote.map (·.1))=false:=by simpa using hp
  rw[hd]
  refine zov Tryz.func71 cf0 fun imm0 w0=>?_
  simp (disch:=omega) [zz,yI,zO,wrO,n1,n1',n2,n2',n3,n3',hmf]
  simp (disch:=omega) [zz,Tryz.f71,h1,h2]
  simpa[HObj.er_map]using hw
 ·have hfn:=zcJ hp
  rw[hfn]at hmf
  have hd:decide (x∉wrote.map (·.1))=true:=by simpa using hp
  rw[hd]
  refine zov Tryz.func71 cf0 fun imm0 w0=>?_
  simp (disch:=omega) [zz,yI,zO,wrO,n1,n1',n2,n2',n3,n3',hmf]
  simp (disch:=omega) [zz,Tryz.f71,h1,h2]
  simpa[HObj.er_map]using hw
def zoW (c:CmdV):Prop:=(c.words.getD 0 []=zZ∨c.words.getD 0 []=w8∨c.words.getD 0 []=jT)→yV (c.words.getD 1 [])=true
def zkv:TdV→Prop
 | .cmd c=>zoW c
 | _=>True
structure Q9 (r:y3):Prop where
 td:∀t∈r.todo,zkv t
 ak:r.waits=true→yV r.asks=true
structure J4 (r r':y3):Prop where
 td:∀t∈r'.todo,t∈r.todo∨zkv t
 ak:(r'.waits=r.waits∧r'.asks=r.asks)∨yV r'.asks=true
theorem J4.ok {r r':y3} (h:J4 r r') (ho:Q9 r):Q9 r' :=
 ⟨fun t ht=>(h.td t ht).elim (ho.td t) id,fun hw=>h.ak.elim (fun e=>by rw[e.2];exact ho.ak (e.1▸hw)) id⟩
theorem J4.same {r r':y3} (h1:r'.todo=r.todo) (h2:r'.waits=r.waits) (h3:r'.asks=r.asks):J4 r r':=⟨fun t ht=>.inl (h1▸ht),.inl ⟨h2,h3⟩⟩
theorem J4.fail (e:Int) (r:y3):J4 r (wC e r):=.same rfl rfl rfl
theorem J4.add (s:Txt) (r:y3):J4 r (wW s r):=by unfold wW;split<;>exact .same rfl rfl rfl
theorem J4.lines (l:List Txt) (r:y3):J4 r (kS l r):=by
 have h:=J4.add (l.flatMap (·++[10])) { r with buf:=[] }
 exact⟨h.td,h.ak⟩
theorem J4.co (k:CoV) (x:KnV) (r:y3):J4 r (coR k x r):=by
 cases hi:x.is with
 | false =>
  cases k with
  | tr=>simp[coR,hi,same]
  | there t=>grind [coR,fail]
 | true =>
  cases k with
  | tr=>grind [coR,add]
  | there t=>cases t with
   | add=>grind [coR,add,thR]
   | scan w =>
    rw[show coR (.there (.scan w)) x r={ r with todo:=r.todo++(z7 x.data).reverse.map fun s=>.line s w } by simp[coR,hi,thR]]
    refine⟨fun t ht=>?_,.inl ⟨rfl,rfl⟩⟩
    rcases List.mem_append.1 ht with ht|ht
    ·exact .inl ht
    ·obtain⟨s,_,rfl⟩:=List.mem_map.1 ht
     exact .inr trivial
theorem J4.ask (p:Txt) (k:CoV) (r:y3) (hp:yV p=true):J4 r (Q6 p k r):=by
 unfold Q6
 split
 ·simp[co]
 ·split
  ·simp[fail]
  ·refine⟨fun t ht=>?_,.inr hp⟩
   rcases List.mem_append.1 ht with ht|ht
   ·exact .inl ht
   ·rw[List.mem_singleton.1 ht];exact .inr trivial
theorem J4.scan (p w:Txt) (r:y3) (hp:yV p=true):J4 r (ZL p w r):=by
 have h:=J4.ask p (.there (.scan w)) { r with seen:=r.seen++[p] } hp
 exact⟨h.td,h.ak⟩
theorem J4.line (s w:Txt) (r:y3):J4 r (Z1 s w r):=by
 unfold Z1
 split
 ·split
  ·simp[add]
  ·rename_i h
   split
   ·simp[same]
   simp_all[scan]
 simp[add]
theorem J4.turn (n a:Txt) (r:y3):J4 r (wK n a r):=by
 unfold wK
 split
 ·simp[lines]
 split
 ·simp[lines]
 split
 ·simp[same]
 split
 ·simp[same]
 split
 ·simp[lines]
 simp[same]
theorem J4.cmd (c:CmdV) (r:y3) (hc:zoW c):J4 r (doR c r):=by
 unfold doR
 simp only
 split
 ·rename_i h;exact .ask _ _ _ (hc (.inl h))
 split
 ·rename_i h;exact .ask _ _ _ (hc (.inr (.inl h)))
 split
 ·rename_i h
  have h:=J4.scan (c.words.getD 1 []) (c.words.getD 2 []) { r with seen:=[] } (hc (.inr (.inr h)))
  exact⟨h.td,h.ak⟩
 split
 ·simp[add]
 split
 ·grind [add,fail]
 split
 ·simp[same]
 split
 ·split
  ·simp[same]
  simp[fail]
 grind [fail,turn]
theorem Q9.step {r:y3} (h:Q9 r):Q9 (QL r):=by
 rcases List.eq_nil_or_concat r.todo with ht|⟨l,t,ht⟩
 ·rw[KT ht];exact⟨h.td,h.ak⟩
 ·rw[List.concat_eq_append]at ht
  rw[KV ht]
  have h0:Q9 { r with todo:=l }:=⟨fun x hx=>h.td x (by simp_all),h.ak⟩
  have hc:zkv t:=h.td t (by rw[ht];simp)
  cases t with
  | cmd c=>exact(J4.cmd c _ hc).ok h0
  | line s w=>exact(J4.line s w _).ok h0
  | ans k p=>exact(J4.co k _ _).ok h0
theorem Q9.runN:∀(n:Nat) {r r':y3},runN n r=some r'→Q9 r→Q9 r'
 | 0,r,r',h,_=>by cases h
 | n+1,r,r',h,hg=>by
  rw[Go.Proofs.YtooipdkilgpojaaGreatDoor.runN]at h
  by_cases hs:kL r=true
  ·simp_all
  ·rw[if_neg hs]at h
   exact Q9.runN n h hg.step
theorem Q9.settle {r:y3} (hi:JF r) (h:Q9 r):Q9 (kI r):=Q9.runN _ (yW hi).1 h
theorem Q9.next {r:y3} (hi:JF r) (h:Q9 r):Q9 (w9 r).2∧((w9 r).2.waits=true→yV (w9 r).2.asks=true):=by
 have hs:=h.settle hi
 have:Q9 (w9 r).2:=by
  unfold w9
  simp only
  split
  ·exact hs
  ·split
   ·exact⟨hs.td,hs.ak⟩
   ·exact hs
 exact⟨this,this.ak⟩
theorem Q9.give {r:y3} (hi:JF r) (h:Q9 r) (k:KnV):Q9 (QB k r).2:=by
 have hs:=h.settle hi
 unfold QB
 simp only
 split
 ·exact hs
 split
 ·exact hs
 split
 ·exact hs
 ·exact⟨hs.td,fun e=>by cases e⟩
theorem zan:∀l:List UInt8,l.length+1=((qT 47 l).map fun x=>x.length+1).sum
 | []=>rfl
 | b::l=>by
  have ih:=zan l
  unfold qT
  split
  ·simp only[List.length_cons,List.map_cons,List.length_nil,List.sum_cons];omega
  ·cases hs:qT 47 l with
   | nil=>exact absurd hs (JJ _ _)
   | cons y q =>
    rw[hs]at ih
    simp only[List.length_cons,List.map_cons,List.sum_cons]at ih ⊢;omega
theorem zct {p:List UInt8} (h:yV p=true):p.length≤1040:=by
 simp only[yV,Bool.and_eq_true,decide_eq_true_eq,List.all_eq_true]at h
 have h1:=zan p
 have h2:∀l:List (List UInt8),(∀x∈l,Q0 x=true)→(l.map fun x=>x.length+1).sum≤l.length*65:=by
  intro l
  induction l with
  | nil=>simp
  | cons x r ih =>
   intro hx
   have h3:=hx x (by simp)
   have h4:x.length≤64:=by
    simp_all[Q0]
   grind
 grind
structure ZJ (b:zGo):Prop where
 good:wH b.run
 ask:Q9 b.run
 ov:OV b.run
 no2:b.run.over.kind≠2
theorem ZJ.at_ {b:zGo} (h:ZJ b):AtR b.run.env (jV [] b.run) b.run.known [] b.run:=⟨h.good.inv,h.ov,rfl,rfl,fun _ _=>.refl _⟩
theorem ZJ.round {b:zGo} (h:ZJ b):(wH (w9 b.run).2∧Q9 (w9 b.run).2∧OV (w9 b.run).2∧(w9 b.run).2.over.kind≠2)∧((w9 b.run).1.kind=1→(w9 b.run).1.path.length≤1040):=by
 have h1:=h.ask.next h.good.inv
 rcases h.at_.next h.no2 with⟨g1,g2,g3,g4⟩|hs
 ·exact⟨⟨h.good.next,h1.1,g2.ov,by omega⟩,fun e=>by omega⟩
 ·refine⟨⟨h.good.next,h1.1,hs.at_.ov,hs.no2⟩,fun e=>?_⟩
  have hw:=hs.waits.1 e
  rw[hs.asks hw]
  simp_all[zct]
theorem ZJ.roundB {b:zGo} (h:ZJ b):ZJ (roundB b).1:=by
 obtain⟨h1,h2,h3,h4⟩:=h.round.1
 have hr:(Go.Proofs.YtooipdkilgpojaaGreatDoor.roundB b).1.run=(w9 b.run).2:=by
  grind [Go.Proofs.YtooipdkilgpojaaGreatDoor.roundB,JA,QM]
 exact⟨by simp_all,by simp_all,by simp_all,by simp_all⟩
theorem ZJ.goN:∀(n:Nat) {b b':zGo},goN n b=some b'→ZJ b→ZJ b'
 | 0,b,b',h,_=>by cases h
 | n+1,b,b',h,hg=>by
  rw[Go.Proofs.YtooipdkilgpojaaGreatDoor.goN]at h
  by_cases ho:b.over=true
  ·simp_all
  rw[if_neg ho]at h
  by_cases h2:(Go.Proofs.YtooipdkilgpojaaGreatDoor.roundB b).2=true
  ·rw[if_pos h2]at h;cases h;exact hg.roundB
  ·rw[if_neg h2]at h
   exact ZJ.goN n h hg.roundB
structure p8 (outs':List Txt) (may':Txt→Bool) (b:zGo):Prop where
 o:∀p,p∈b.outs↔p∈outs'
 m:∀p,b.may p=may' p
end Go.Proofs.YtooipdkilgpojaaGreatDoor
end
