/- A store's digests, rising; bytes are let go: the program. No condition beyond each theorem's own. -/
import Derived.Test.YtcioeonlclpacaaGreatDoorKP4ToKB1
import Derived.Test.YtcioeonlclpacaaGreatDoorKL3ToI1a
import Derived.Test.YtcioeonlclpacaaGreatDoorP25ToG2
import Derived.Test.YtcioeonlclpacaaGreatDoorKX2
set_option linter.unusedSimpArgs false
set_option linter.unusedVariables false
set_option linter.unusedSectionVars false
section
set_option maxRecDepth 100000
namespace Go.Proofs.YtcioeonlclpacaaGreatDoor
open Go Go.Ab
open Classical
variable [Sel] [SelPow] [SelErr]
theorem zWE {d:Dig} {l:BlL} (h:l.find? (fun p=>decide (p.1=d))=none):(l.filter fun p=>decide (p.1≠d))=l :=
 List.filter_eq_self.2 fun p hp=>by have:=List.find?_eq_none.1 h p hp;simpa using this
set_option maxHeartbeats 4000000 in
theorem zWy (B M:Nat) (hBM:M≠B) (l:BlL) (hlen:l.length≤1000000) (h32:∀p∈l,p.1.length=32) :
  q7 Tryz.prog 63 [.av .ptr (.ptr B zKp [])] (stB B M l) fun r H'=>∃rest H2,sR (l.map Prod.fst) rest r H2∧Ab.HSub H2 H'∧rest=stB B M l:=by
 have hMB:¬B=M:=fun e=>hBM e.symm
 have hme:=zWM l
 refine zov Tryz.func63 cf0 fun imm0 w0=>?_
 simp (disch:=omega) [zz,stB,stO]
 refine qE (R:=fun r H'=>∃c,r=.av .func (.fn 172 [.ptr c BmT []])∧H'=[(c,bbO M)]) [] (stB B M l) (List.Perm.refl _) rfl (by simp[qQ]) (by simp) ?_ ?_
 ·have:=zWx M
  simpa[TV.er,AV.er,AV.ers,q8.er_nil]using this
 rintro r' H' ⟨c,rfl,rfl⟩ hnd
 simp[q8.keys,stB,stO]at hnd
 refine⟨(c,bbO M)::stB B M l,HSub.refl _,?_⟩
 simp (disch:=omega) [zz]
 refine qE (R:=sR (l.map Prod.fst) [(M,bmO l),(c,bbO M)]) [(M,bmO l),(c,bbO M)] [(B,.var zKp (.agg [.map (some M),.i .i64 (szB l)]))] ((List.perm_append_comm (l₁:=[_]) (l₂:=[_,_])).trans ((List.Perm.swap _ _ _).trans (List.Perm.cons _ (List.Perm.swap _ _ _)))) rfl (by simp[qQ]) (by simp) ?_ ?_
 ·have:=zMy zWz (zWt c M hnd.1.2 l) (by simpa using hlen) (fun k hk=>by obtain⟨c,hc,rfl⟩:=List.mem_map.1 hk;exact h32 c hc)
  simpa[TV.er,AV.er,AV.ers,q8.er_cons,q8.er_nil,hme,bbO]using this
 rintro r' H' ⟨ks',hko,⟨rfl,rfl,rfl⟩|⟨b,cap,j,hj,hcap,rfl,rfl⟩⟩ _
 ·refine⟨stB B M l,⟨[(B,.var zKp (.agg [.map (some M),.i .i64 (szB l)])),(M,bmO l),(c,bbO M)],List.perm_append_comm (l₁:=[_,_]),?_⟩,?_⟩
  ·exact((List.nil_sublist _).cons_cons _).cons_cons _
  simp (disch:=omega) [zz,Tryz.f63]
  exact⟨_,_,⟨[],hko,.inl ⟨rfl,rfl,rfl⟩⟩,HSub.refl _,rfl⟩
 ·refine⟨(b,zKw cap ks' j)::stB B M l,⟨[(b,zKw cap ks' j),(B,.var zKp (.agg [.map (some M),.i .i64 (szB l)])),(M,bmO l),(c,bbO M)],List.Perm.cons _ (List.perm_append_comm (l₁:=[_,_])),?_⟩,?_⟩
  ·exact(((List.nil_sublist _).cons_cons _).cons_cons _).cons_cons _
  have hkr:=zLo (cap:=cap) (ks:=ks') hj
  simp (disch:=omega) [zz,hkr,Tryz.f63]
  exact⟨_,_,⟨ks',hko,.inr ⟨b,cap,j,hj,hcap,rfl,rfl⟩⟩,HSub.refl _,rfl⟩
theorem zX1 (B M:Nat) (hBM:M≠B) (l:BlL) (hlen:l.length≤1000000) (h32:∀p∈l,p.1.length=32) :
  q7 Tryz.prog 63 [.av .ptr (.ptr B zKp [])] (stB B M l) fun r H'=>r=.av DgS (qO (zKJ (l.map Prod.fst)))∧H'=stB B M l:=by
 have g1:=q7.sub (R':=sR (l.map Prod.fst) (stB B M l)) (zWy B M hBM l hlen h32) (by
  rintro r H' ⟨rest,H2,h1,h2,rfl⟩ _
  exact⟨H2,h2,h1⟩)
 have g2:=q7.nilR (R':=fun r H'=>∃ks':List Dig,KO (l.map Prod.fst) ks'∧((ks'=[]∧r=.av DgS (.sl .no [])∧H'=stB B M l)∨∃b cap j,JK j∧ks'.length+j.length=cap∧r=.av DgS (.msl b 46 0 ks'.length cap)∧H'=(b,zKw cap ks' j)::stB B M l)) g1 (by
  rintro r H' ⟨ks',hko,⟨rfl,rfl,rfl⟩|h⟩
  ·exact .inr ⟨_,rfl,[],hko,.inl ⟨rfl,rfl,rfl⟩⟩
  ·exact .inl ⟨ks',hko,.inr h⟩)
 refine g2.freeze laid ?_
 rintro r H' ⟨ks',hko,⟨rfl,rfl,rfl⟩|⟨b,cap,j,hj,hcap,rfl,rfl⟩⟩ _
 ·exact .inr ⟨by rw[←zSE hko];rfl,rfl⟩
 ·refine .inl ⟨b,cap,46,ks'.map KW++j,_,List.Perm.refl _,?_,rfl⟩
  have htk:(ks'.map KW++j).take ks'.length=ks'.map KW:=by rw[List.take_append_of_le_length (by simp)];exact List.take_of_length_le (by simp)
  rw[←zSE hko]
  simp[zho,fzA,hcap,htk,qO]
  omega
set_option maxHeartbeats 4000000 in
theorem zWG (B M:Nat) (hBM:M≠B) (l:BlL) (hn:(l.map Prod.fst).Nodup) (hl:szB l≤1000000000000) (d:Dig) :
  q7 Tryz.prog 64 [.av .ptr (.ptr B zKp []),.av (qD Tryz.prog 46) (KW d)] (stB B M l) fun r H'=>r=.av .bool (.b (zJl d l))∧H'=stB B M (l.filter fun p=>decide (p.1≠d)):=by
 have hBM':¬B=M:=fun e=>hBM e.symm
 have hfd:=zLm d l
 obtain⟨l2,hl2⟩:∃l2,l2=l.filter fun p=>decide (p.1≠d):=⟨_,rfl⟩
 rw[←hl2]
 refine zov Tryz.func64 cf0 fun imm0 w0=>?_
 simp (disch:=omega) [zz]
 refine qE (stB B M l) [] (by simp) rfl (by simp[qQ]) (by simp) (R:=fun r H'=>r=.tup [(.str,.s (((l.find? fun p=>decide (p.1=d)).map Prod.snd).getD [])),(.bool,.b (zJl d l))]∧H'=stB B M l) ?_ ?_
 ·rw[zOl]
  exact q7.args (zRX B M hBM l (szB l) d) (by simp[qS,TV.er,AV.er])
 rintro r' H' ⟨rfl,rfl⟩ _
 refine⟨stB B M l,by rw[List.append_nil];exact HSub.refl _,?_⟩
 cases hf:l.find? (fun p=>decide (p.1=d))with
 | none =>
  have hh:zJl d l=false:=by unfold zJl;rw[hf];rfl
  have hdl:l2=l:=by rw[hl2];exact zWE hf
  subst hdl
  simp (disch:=omega) [zz,hh,Tryz.f64]
 | some p =>
  have hh:zJl d l=true:=by unfold zJl;rw[hf];rfl
  have hsd:=zWg hn hf
  have hde:=zWk d l hn
  rw[←hl2]at hsd hde
  have hsz:(szB l:Int)-p.2.length=szB l2:=by omega
  simp (disch:=omega) [zz,hh,stB,stO,hBM,hBM']
  (repeat with_reducible refine om ?_)
  simp (disch:=omega) [zz,hde,hsz,Tryz.f64,stO]
def aOne:zJk:=⟨0,[],[⟨[111,117,116,47,111],[120]⟩],0⟩
theorem zOx:zuT [111,117,116,47,111] zwB=true:=by decide
theorem zM9:zCW (trO aOne)=0:=by
 simp[zCW,trO,aOne,zD1,zD4,zJF,zOx]
theorem zQz:zOF (trO aOne) aOne.outs:=zQu (by simp[aOne]) zM9 (by simp[aOne,szO,szR])
theorem zQY:zJj 2 [] (trO aOne)=[(kdI 0,[trO aOne])]:=by
 simp only[zJj,zM9,if_true]
 simp[getD,zJA,zJr,kp,trO,aOne]
theorem zPm:zJE aOne.outs []=[(sha [120],[120])]:=by simp[zJE,aOne,zJm]
theorem zQt:((zKJ ([(kdI 0,[trO aOne])].map Prod.fst)).map fun q=>(getD [(kdI 0,[trO aOne])] q).length).sum=1:=by
 have h:=(zKE [kdI 0]).1
 have:zKJ [kdI 0]=[kdI 0]:=List.perm_singleton.1 h
 simp[this,getD]
theorem zQF:qK (trO aOne)=.agg [KW (kdI 0),.sl .no [],.sl .no [.agg [.s [111,117,116,47,111],KW (sha [120])]]]:=by
 simp[qK,trO,aOne,qF,qJ,qN,zJF]
set_option maxHeartbeats 16000000 in
theorem zN6:PC Tryz.prog 7 [] (.av .bool (.b true)):=by
 refine q7.sub (R:=fun r H'=>r=.av .bool (.b true)) ?_ (fun r H' hr _=>⟨[],HSub.of_sub (List.nil_sublist _),hr,rfl⟩)
 have h0:zJv 2 zJe=(zJe,some ⟨⟨zJe,false⟩,2,⟨[],[]⟩⟩,0):=zO5 (mo:=2) (by omega) (by omega)
 obtain⟨k0,hk0⟩:∃k0:KV,k0=⟨⟨zJe,false⟩,2,⟨[],[]⟩⟩:=⟨_,rfl⟩
 rw[←hk0]at h0
 have hI0:zJS 0 k0:=((zMV (mo:=2) zVO).2 k0 (by rw[h0])).1
 have hf0:zJK k0.j.d.m []:=by rw[hk0];exact .inl ⟨rfl,rfl⟩
 have hb0:k0.j.br=false:=by rw[hk0]
 obtain⟨t,ht⟩:∃t,t=trO aOne:=⟨_,rfl⟩
 have hfit:=zQz
 have hg:TrG t:=by rw[ht];exact hfit.g
 have hM0:k0.mo=2∧k0.M=⟨[],[]⟩:=by rw[hk0];exact⟨rfl,rfl⟩
 obtain⟨k1,hk1⟩:∃k1,k1=(g6 t aOne.outs k0).1:=⟨_,rfl⟩
 have hwt:=zOq (o:=aOne) (by simp[aOne]) (by simp[aOne,szO,szR])
 rw[←ht]at hwt hfit
 have hI1:zJS 1000000 k1:=by
  rw[hk1]
  exact(zLx hI0 hg.1 aOne.outs).1.up (by omega)
 have hk:(g6 t aOne.outs k0).2=0∧zJK k1.j.d.m (zLc t aOne.outs []):=by
  rw[hk1]
  rcases zL7 hb0 hf0 hfit with⟨a1,_,a3,_⟩|⟨_,_,a3,_⟩
  ·rw[hM0.2]at a3;exact⟨a1,a3⟩
  ·exact absurd (by rw[hk0];rfl) a3
 have hop:=zKt (zL3 hfit) hk.2 []
 have hld:=zM5 (mo:=2) hfit ⟨[],[]⟩
 have hcv:(zCW t)=0:=hg.2
 have ho:=zRW (mo:=2) (by omega) (by omega) hop hld
 have hL:zJj 2 [] t=[(kdI 0,[trO aOne])]:=by rw[ht];exact zQY
 simp only[hL,zPm]at ho
 obtain⟨d2,hd2⟩:∃d2,d2=(openJ (zJh [] k1.j.d)).1:=⟨_,rfl⟩
 rw[←hd2]at ho
 obtain⟨k2,hk2⟩:∃k2:KV,k2=⟨⟨d2,false⟩,2,⟨[(kdI 0,[trO aOne])],[(sha [120],[120])]⟩⟩:=⟨_,rfl⟩
 rw[←hk2]at ho
 have hv:((k2.M.bl.find? fun p=>decide (p.1=sha [120])).map Prod.snd).getD []=[120]:=by rw[hk2];simp
 have hb:zJl (sha [120]) k2.M.bl=true:=by rw[hk2];simp[zJl]
 have hn:((zKJ (k2.M.L.map Prod.fst)).map fun q=>(getD k2.M.L q).length).sum=1:=by rw[hk2];exact zQt
 have hm:szB k2.M.bl=1:=by rw[hk2];rfl
 have hgd:getD k2.M.L (kdI 0)=[t]:=by rw[hk2,ht];simp[getD]
 have hL2:k2.M.L.length≤1000000∧(∀p∈k2.M.L,p.1.length=32)∧∀q,(getD k2.M.L q).length≤8:=by
  rw[hk2]
  refine⟨by simp,by simp[zN3],fun q=>?_⟩
  by_cases h:kdI 0=q<;>simp[getD,h]
 have hte:qK t=.agg [KW (kdI 0),.sl .no [],.sl .no [.agg [.s [111,117,116,47,111],KW (sha [120])]]]:=by rw[ht];exact zQF
 have hts:qH [t]=.sl .no [qK t]:=rfl
 obtain⟨kd,hkd⟩:∃kd,kd=kdI 0:=⟨_,rfl⟩
 obtain⟨sd,hsd⟩:∃sd,sd=sha [120]:=⟨_,rfl⟩
 rw[←hkd]at hte hgd
 rw[←hsd]at hte hv hb
 refine zov Tryz.func7 cf0 fun imm0 w0=>?_
 simp (disch:=omega) [zz]
 refine qE [] [] (List.Perm.refl _) rfl (by simp[qQ]) (by simp) (R:=fun r H'=>∃B M,M≠B∧r=.av .ptr (.ptr B zJB [])∧H'=j4 B M false zJe) ?_ ?_
 ·simpa[q8.er_nil]using zNl
 rintro r' H' ⟨B,M,hMB,rfl,rfl⟩ _
 refine⟨_,HSub.refl _,?_⟩
 simp (disch:=omega) [zz]
 refine zK5 B M hMB false zJe 2 0 (by omega) zVO h0 [] (by simp) (by simp[qQ]) (by simp[qS,TV.er,AV.er]) fun K a hka hne=>?_
 simp (disch:=omega) [zz]
 refine qL (zom aOne (by decide) (by decide) (by simp[aOne]) (by simp[aOne]) rfl) rfl rfl (by simp[qQ]) (by simp[qS,TV.er,AV.er,AV.ers,y3,aOne,qF,zU,jZ]) ?_
 have hon:zML aOne=.tup [(TrT,qK t),(.slice 36,zU aOne.outs)]:=by rw[ht];rfl
 simp (disch:=omega) [zz,hon]
 refine zKi K B M a k0 hka [] (by simp) (zM8 K B M a k0 0 hka hI0 t hg.W hg.1 aOne.outs (by simp[aOne]) (by simp[aOne]) (by omega)) (by simp) (by simp[qQ]) (by simp[qS,TV.er,AV.er,zdW]) fun a1 hka1 hne1=>?_
 rw[hk.1]
 rw[←hk1]at hka1 ⊢
 simp (disch:=omega) [zz]
 refine zLD B M hMB a1.o k1.j.d hI1.ok ⟨by have:=hI1.m;omega,by have:=hI1.n;omega⟩ [] (by simp) _ (zOM K B M a1 k1) (by simp[qQ]) (by simp[qS,TV.er,AV.er,zJY]) fun B2 M2 o2 hMB2=>?_
 simp (disch:=omega) [zz]
 refine zK5 B2 M2 hMB2 o2 (zJh [] k1.j.d) 2 1000000 (by omega) (hI1.of.crash []) ho [] (by simp) (by simp[qQ]) (by simp[qS,TV.er,AV.er]) fun K2 a2 hka2 hne2=>?_
 simp (disch:=omega) [zz,hte]
 have hq1:=zMZ K2 B2 M2 a2 k2 hka2 hne2.TS sd
 rw[hv,hb]at hq1
 refine zJH K2 B2 M2 a2 k2 hka2 [] (by simp) hq1 (by simp) (by simp[qQ]) (by simp[qS,TV.er,AV.er]) ?_
 simp (disch:=omega) [zz]
 have hq2:=zMQ K2 B2 M2 a2 k2 hka2 hL2.1 hL2.2.1 hL2.2.2
 rw[hn,hm]at hq2
 refine zJH K2 B2 M2 a2 k2 hka2 [] (by simp) hq2 (by simp) (by simp[qQ]) (by simp[qS,TV.er,AV.er]) ?_
 simp (disch:=omega) [zz]
 have hq3:=zMa K2 B2 M2 a2 k2 hka2 kd
 rw[hgd,hts]at hq3
 refine zJH K2 B2 M2 a2 k2 hka2 [] (by simp) hq3 (by simp) (by simp[qQ]) (by simp[qS,TV.er,AV.er]) ?_
 simp (disch:=omega) [zz,Tryz.f7]
theorem zVc {s:St} {dst:Option Nat} {X:St→Prop} {args:List TV} (B M:Nat) (hBM:M≠B) (o:Bool) (d:DV) (hd:DOK d) (hz:szF d.m≤1000000000000∧szF d.n≤1000000000000) (ps:List Int) (hps:ps.length≤1000000000) (rest:q8) (hH:s.H.Perm (j4 B M o d++rest))
  (ha:args.all qQ=true) (hx:qS (args.map TV.er) [.av .ptr (.ptr B zJB []),.av (.slice 3) (zJY ps)])
  (hX:∀B2 M2 o2,M2≠B2→X (({ s with H:=j4 B2 M2 o2 (zJh ps d)++s.H }:St).put dst (.av .ptr (.ptr B2 zJB [])))):ZP Tryz.prog s (.av .func (.fn 17 [])) args dst X:=by
 refine qE (j4 B M o d) rest hH rfl ha (by simp) (R:=CrR B M o d (zJh ps d)) ?_ ?_
 ·rw[zKy]
  exact q7.args (zPk B M hBM o d hd hz ps hps) (by simpa using hx)
 rintro r' H' ⟨B2,M2,o2,h,rfl,rfl⟩ _
 refine⟨_,HSub.of_perm ?_,hX B2 M2 o2 h⟩
 rw[List.append_assoc]
 exact List.Perm.append_left _ hH.symm
theorem zVa {s:St} {dst:Option Nat} {X:St→Prop} {args:List TV} {d':DV} {k:KV} (B M:Nat) (hBM:M≠B) (o:Bool) (d:DV) (mo:Int) (N:Nat) (hN:N≤1000000000) (hd:g8 N d) (ho:zJv mo d=(d',some k,0)) (rest:q8) (hH:s.H.Perm (j4 B M o d++rest))
  (ha:args.all qQ=true) (hx:qS (args.map TV.er) [.av .ptr (.ptr B zJB []),.av (.int .i64) (.i .i64 mo)])
  (hX:∀K a,zJL a k→KNE K B M a→X (({ s with H:=kpH K B M a k++rest }:St).put dst (.tup [(.ptr,.ptr K KpT []),(.int .i64,.i .i64 0)]))):ZP Tryz.prog s (.av .func (.fn 12 [])) args dst X:=by
 refine qE (j4 B M o d) rest hH rfl ha (by simp) (R:=zKD B M (zJv mo d)) ?_ ?_
 ·rw[zKy]
  exact q7.args (zQH B M hBM o d mo N hN hd) (by simpa using hx)
 rw[ho]
 rintro r' H' (⟨h,_⟩|⟨k2,K,hk2,rfl,a,hka,rfl⟩) hnd
 ·cases h
 ·simp only[Option.some.injEq]at hk2
  subst hk2
  refine⟨_,HSub.refl _,hX K a hka (zOX (k:=k) ?_)⟩
  rw[q8.keys_app]at hnd
  exact(List.nodup_append.1 hnd).1
theorem zW8 {s:St} {dst:Option Nat} {X:St→Prop} {args:List TV} (t:zaP) (ht:TrP t) (hc:zCW t=0) (mo:Nat) (hm:1≤mo) (hm8:mo≤8) (B M:Nat) (cs:List Cel) (hcs:∀c∈cs,zLA c) (rest:q8)
  (hH:s.H.Perm (DbH B M mo cs++rest)) (ha:args.all qQ=true) (hx:qS (args.map TV.er) [.av .ptr (.ptr B DbT []),.av (qD Tryz.prog 49) (qK t)])
  (hX:∀cs',(∀c∈cs',zLA c)→zJx cs'=zJj mo (zJx cs) t→X (({ s with H:=rest++DbH B M mo cs' }:St).put dst (.av (.int .i64) (.i .i64 0)))) :
  ZP Tryz.prog s (.av .func (.fn 23 [])) args dst X:=by
 have h:=zNv t ht mo hm hm8 B M cs hcs
 refine qE (DbH B M mo cs) rest hH rfl ha (by simp) (R:=fun r H'=>r=.av (.int .i64) (.i .i64 (zCW t))∧∃cs',(∀c∈cs',zLA c)∧zJx cs'=zJj mo (zJx cs) t∧H'=DbH B M mo cs') ?_ ?_
 ·rw[zNh hcs]
  exact q7.args h (by simpa using hx)
 rw[hc]
 rintro r' H' ⟨rfl,cs',h1,h2,rfl⟩ _
 exact⟨_,HSub.of_perm List.perm_append_comm,hX cs' h1 h2⟩
theorem zVW {s:St} {dst:Option Nat} {X:St→Prop} {args:List TV} (mo:Nat) (D E:Nat) (cs:List Cel) (hcs:∀c∈cs,zLA c) (L:DbL) (hL:zJx cs=L) (hl:L.length≤1000000) (h32:∀p∈L,p.1.length=32) (rest:q8) (hH:s.H.Perm (DbH D E mo cs++rest)) (ha:args.all qQ=true)
  (hx:qS (args.map TV.er) [.av .ptr (.ptr D DbT [])]) (hX:X (({ s with H:=s.H }:St).put dst (.av DgS (qO (zKJ (L.map Prod.fst)))))):ZP Tryz.prog s (.av .func (.fn 25 [])) args dst X:=by
 have hcl:cs.map (·.key)=L.map Prod.fst:=by rw[←hL];simp[zJx,Function.comp_def]
 have hlen:cs.length=L.length:=by rw[←hL];simp[zJx]
 have hkeys:=zPz D E mo cs (by omega) (fun c hc=>by
  have:c.key∈L.map Prod.fst:=by rw[←hcl];exact List.mem_map.2 ⟨c,hc,rfl⟩
  obtain⟨p,hp,e⟩:=List.mem_map.1 this
  rw[←e];exact h32 p hp)
 refine qE (DbH D E mo cs) _ hH rfl ha (by simp) (R:=fun r H'=>r=.av DgS (qO (zKJ (L.map Prod.fst)))∧H'=DbH D E mo cs) ?_ ?_
 ·rw[zNh hcs]
  refine q7.args (hkeys.mono ?_) (by simpa using hx)
  rintro r H' ⟨ks',h1,rfl,rfl⟩
  rw[zSE h1,hcl]
  exact⟨rfl,rfl⟩
 rintro r' H' ⟨rfl,rfl⟩ _
 exact⟨s.H,HSub.of_perm hH.symm,hX⟩
theorem zVQ (K B M:Nat) (a:KA) (k:KV) (N:Nat) (hk:zJL a k) (hI:zJu k.mo N k.M) (hm8:k.mo≤8) (hN:N≤12000000) :
  q7 Tryz.prog 61 [.av .ptr (.ptr K KpT [])] (kpH K B M a k) fun r H'=>∃Hm,r=.tup [(StS,.sl .no (zz6 (zO2 k.M).2)),(HdT,.map (some Hm))]∧H'=(Hm,zUX (zO2 k.M).1)::kpH K B M a k:=by
 obtain⟨R,hR⟩:∃R,R=zO2 k.M:=⟨_,rfl⟩
 have h0:=zVJ K B M a k N hk hI hm8 hN
 rw[←hR]at h0 ⊢
 have g1:=q7.sub (R':=fun r H'=>∃Hm x Rw,zUY R.2 x Rw∧r=.tup [(StS,x),(HdT,.map (some Hm))]∧H'=(Hm,zUX R.1)::(Rw++kpH K B M a k)) h0 (by
  rintro r H' ⟨Hm,x,Rw,h1,h2,h3⟩ _
  exact⟨_,h3,Hm,x,Rw,h1,h2,rfl⟩)
 have g2:=q7.nilT (R':=fun r H'=>∃Hm,(r=.tup [(StS,.sl .no (zz6 R.2)),(HdT,.map (some Hm))]∧H'=(Hm,zUX R.1)::kpH K B M a k)∨∃b cap j,JK j∧R.2.length+j.length=cap∧r=.tup [(StS,.msl b 9 0 R.2.length cap),(HdT,.map (some Hm))]∧H'=(Hm,zUX R.1)::(b,zVq cap R.2 j)::kpH K B M a k) g1 (by
  rintro r H' ⟨Hm,x,Rw,⟨h1,rfl,rfl⟩|⟨b,cap,j,hj,hc,rfl,rfl⟩,rfl,rfl⟩
  ·exact .inr ⟨_,_,_,rfl,Hm,.inl ⟨by rw[h1];rfl,rfl⟩⟩
  ·exact .inl ⟨Hm,.inr ⟨b,cap,j,hj,hc,rfl,rfl⟩⟩)
 refine g2.freeze laid ?_
 rintro r H' ⟨Hm,⟨rfl,rfl⟩|⟨b,cap,j,hj,hcap,rfl,rfl⟩⟩ _
 ·exact .inr ⟨Hm,rfl,rfl⟩
 ·refine .inl ⟨b,cap,9,zz6 R.2++j,_,List.Perm.swap _ _ _,Hm,?_,rfl⟩
  have htk:=zVr R.2 j
  simp[zho,fzA,hcap,htk]
  omega
abbrev zXb:Cfg:=⟨fun _=>false,fun n=>n==1000009||n==2000041⟩
set_option maxHeartbeats 16000000 in
theorem zV1 (K B M:Nat) (a:KA) (k:KV) (N:Nat) (hk:zJL a k) (hI:zJS N k) (hN:N≤12000000) :
  q7 Tryz.prog 24 [.av .ptr (.ptr K KpT [])] (kpH K B M a k) fun r H'=>r=.av (.int .i64) (.i .i64 (zUW k).2)∧KpR K B M (zUW k).1 H':=by
 refine q7.nodup fun hnd=>?_
 have hne:=zOX hnd
 have hg:=zJU K B M a k
 refine q7.sub (R:=fun r H'=>r=.av (.int .i64) (.i .i64 (zUW k).2)∧∃H'',HSub H'' H'∧KpR K B M (zUW k).1 H'') ?_ (fun r H' ⟨h1,H'',h2,h3⟩ _=>⟨H'',h2,h1,h3⟩)
 have hbl:=zWJ hI.mem
 have hnd2:=hI.mem.nd
 have hsh:=hI.mem.sh
 have hphi:=zN7 k.M.bl
 have hle:=hI.mem.le
 have hck:zUW k=if (swapJ (zO2 k.M).2 k.j).2=0 then(⟨(swapJ (zO2 k.M).2 k.j).1,k.mo,zSg k.M⟩,0) else(⟨(swapJ (zO2 k.M).2 k.j).1,k.mo,k.M⟩,(swapJ (zO2 k.M).2 k.j).2):=rfl
 have hon:zSg k.M=⟨k.M.L,k.M.bl.filter fun p=>decide (p.1∈(zO2 k.M).1)⟩:=rfl
 have hwr:=zVd hI.mem
 have hrc:=zVQ K B M a k N hk hI.mem hI.hi (by omega)
 obtain⟨R,hR⟩:∃R,R=zO2 k.M:=⟨_,rfl⟩
 rw[←hR]at hck hon hwr hrc
 refine zov Tryz.func24 zXb fun imm0 w0=>?_
 simp (disch:=omega) [zz]
 refine qE (kpH K B M a k) [] (by simp) rfl (by simp[qQ]) (by simp) (R:=fun r H'=>∃Hm,r=.tup [(StS,.sl .no (zz6 R.2)),(HdT,.map (some Hm))]∧H'=(Hm,zUX R.1)::kpH K B M a k) ?_ ?_
 ·rw[u4 hk]
  simpa[TV.er,AV.er]using hrc
 rintro r' H' ⟨Hm,rfl,rfl⟩ hnd3
 simp only[List.append_nil,q8.keys_cons,List.nodup_cons]at hnd3
 have hHK:¬Hm=K:=fun e=>hnd3.1 (e▸zX7 K B M a k)
 have hHK':¬K=Hm:=fun e=>hHK e.symm
 refine⟨(Hm,zUX R.1)::kpH K B M a k,by rw[List.append_nil];exact HSub.refl _,?_⟩
 simp (disch:=omega) [zz,hg,hHK,hHK']
 have hjs:=zWO a.J B M ⟨hne.MB,hne.JB,hne.JM⟩ R.2 (by omega) a.o k.j hI.ok (by have:=hI.n;omega)
 refine zNU K B M a k [(Hm,zUX R.1)] (List.perm_append_comm (l₁:=[_])) hjs (by simp) (by simp[qQ]) (by simp[qS,TV.er,AV.er]) fun o1=>?_
 obtain⟨j2,e2⟩:∃j2,j2=(swapJ R.2 k.j).1:=⟨_,rfl⟩
 rw[←e2]at hck ⊢
 have hk2:zJL { a with o:=o1 } ⟨j2,k.mo,k.M⟩:=⟨hk.cels,hk.abs⟩
 by_cases he:(swapJ R.2 k.j).2=0
 rotate_left
 ·rw[if_neg he]at hck
  have hend:∃H'',HSub H'' (kpH K B M { a with o:=o1 } ⟨j2,k.mo,k.M⟩++[(Hm,zUX R.1)])∧KpR K B M ⟨j2,k.mo,k.M⟩ H'':=⟨_,HSub.of_sub (List.sublist_append_left _ _),KpR.of hk2⟩
  simp (disch:=omega) [zz,he,hck,Tryz.f24,q8.er_app,u4 hk2,hend]
 rw[if_pos he]at hck
 have hg2:=zWh K B M { a with o:=o1 } ⟨j2,k.mo,k.M⟩ [(Hm,zUX R.1)]
 have hal:=zX1 a.S a.T hne.TS k.M.bl (by omega) (fun p hp=>by rw[hsh p hp];exact zKU _)
 obtain⟨ks,hks⟩:∃ks,ks=zKJ (k.M.bl.map Prod.fst):=⟨_,rfl⟩
 have hksl:ks.length≤1000000:=by rw[hks,(zKE _).1.length_eq,List.length_map];omega
 have hed:qO ks=.sl .no (ks.map KW):=rfl
 rw[←hks,hed]at hal
 simp (disch:=omega) [zz,he,hg2]
 refine zM6 K B M { a with o:=o1 } ⟨j2,k.mo,k.M⟩ [(Hm,zUX R.1)] (by simp) hal (by simp) (by simp[qQ]) (by simp[qS,TV.er,AV.er]) ?_
 obtain⟨D,hD⟩:∃D:Nat→BlL,D=fun i=>k.M.bl.filter fun p=>decide (p.1∈R.1∨p.1∉ks.take i):=⟨_,rfl⟩
 have hD0:D 0=k.M.bl:=by rw[hD];simp
 have hDn:D ks.length=k.M.bl.filter fun p=>decide (p.1∈R.1):=by
  rw[hD]
  refine List.filter_congr fun p hp=>?_
  have:p.1∈ks:=by rw[hks];exact zNX.2 (List.mem_map.2 ⟨p,hp,rfl⟩)
  simp[this]
 have htk:∀i (h:i<ks.length) x,x∈ks.take (i+1)↔x∈ks.take i∨x=ks[i]:=fun i h x=>by rw[List.take_succ_eq_append_getElem h,List.mem_append,List.mem_singleton]
 have hDin:∀i (h:i<ks.length),ks[i]∈R.1→D (i+1)=D i:=fun i h hm=>by
  rw[hD]
  refine List.filter_congr fun p hp=>?_
  by_cases hp2:p.1=ks[i]<;>simp[hp2,hm,htk i h]
 have hDout:∀i (h:i<ks.length),ks[i]∉R.1→D (i+1)=(D i).filter fun p=>decide (p.1≠ks[i]):=fun i h hm=>by
  rw[hD]
  simp only[List.filter_filter]
  refine List.filter_congr fun p hp=>?_
  by_cases hp2:p.1=ks[i]<;>simp[hp2,hm,htk i h]
 have hDs:∀i,(D i).Sublist k.M.bl:=fun i=>by rw[hD];exact List.filter_sublist
 have hDd:∀i,((D i).map Prod.fst).Nodup:=fun i=>((hDs i).map _).nodup hnd2
 have hDz:∀i,szB (D i)≤1000000000000:=fun i=>by
  have h1:zLL (D i)≤zLL k.M.bl:=by rw[hD];exact zO3 _ _
  have h2:=zN7 (D i)
  omega
 have hKR:∀i,zJL { a with o:=o1 } ⟨j2,k.mo,⟨k.M.L,D i⟩⟩:=fun i=>⟨hk.cels,hk.abs⟩
 rw[←hDn]at hon
 simp (disch:=omega) [zz]
 refine AT.loop' (α:=Nat) (fun i=>St.of [(0,.av .ptr (.ptr K KpT [])),(4,.av HdT (.map (some Hm))),(26,.av DgS (.sl .no (ks.map KW))),(27,.av (.int .i64) (.i .i64 ks.length)),(28,.av (.int .i64) (.i .i64 i))] [] (fun _=>0) (kpH K B M { a with o:=o1 } ⟨j2,k.mo,⟨k.M.L,D i⟩⟩++[(Hm,zUX R.1)]))
  (fun i=>i≤ks.length) (fun i=>ks.length-i) 0 ?_ ?_ ?_
 ·apply Le.of<;>simp[qU,qG,qO,qH,qP,qK,qF,qI,qJ,qN,hD0]<;>try omega
 ·simp
 rintro i hi KL hN' hE
 refine qM (cf:=zXb) laid mixed _ _ _ (by kernel_rfl) ?_
 by_cases hlt:i<ks.length
 ·have hlt':(i:Int)<ks.length:=by omega
  have hgk:=zPi ks i hlt
  have h1:=hDin i hlt
  have h2:=hDout i hlt
  obtain⟨q,hq⟩:∃q,q=ks[i]:=⟨_,rfl⟩
  rw[←hq]at hgk h1 h2
  have hfd:=zVf q R.1
  have hgh:jM (kpH K B M { a with o:=o1 } ⟨j2,k.mo,⟨k.M.L,D i⟩⟩++[(Hm,zUX R.1)]) Hm=some (.map 46 4 (zVM R.1)):=by
   rw[zMC (by simpa[kpH,jH,j4,DbH,stB,stO,q8.keys]using hnd3.1)]
   simp[jM,zUX]
  have hg3:=zWh K B M { a with o:=o1 } ⟨j2,k.mo,⟨k.M.L,D i⟩⟩ [(Hm,zUX R.1)]
  by_cases hm:q∈R.1
  ·rw[if_pos hm]at hfd
   simp (disch:=omega) [zz,hlt',hgk,hgh,hfd]
   refine hN' _ (i+1) ?_ (by omega) (by omega)
   apply Le.of<;>simp[qU,qG,qO,qH,qP,qK,qF,qI,qJ,qN,h1 hm]<;>try omega
  ·rw[if_neg hm]at hfd
   have hdr:=zWG a.S a.T hne.TS (D i) (hDd i) (hDz i) q
   rw[←h2 hm]at hdr
   simp (disch:=omega) [zz,hlt',hgk,hgh,hfd,hg3]
   refine jW.of [0,1,2,3,4,5] [] (by kernel_rfl) ?_
   simp (disch:=omega) [zz,hg3]
   (repeat with_reducible refine om ?_)
   refine zM6 K B M { a with o:=o1 } ⟨j2,k.mo,⟨k.M.L,D i⟩⟩ [(Hm,zUX R.1)] (by simp) hdr (by simp) (by simp[qQ]) (by simp[qS,TV.er,AV.er]) ?_
   simp (disch:=omega) [zz]
   (repeat with_reducible refine om ?_)
   refine hN' _ (i+1) ?_ (by omega) (by omega)
   apply Le.of<;>simp[qU,qG,qO,qH,qP,qK,qF,qI,qJ,qN,]<;>try omega
 ·have hlt':¬(i:Int)<ks.length:=by omega
  have hie:i=ks.length:=by omega
  subst hie
  have hend:∃H'',HSub H'' (kpH K B M { a with o:=o1 } ⟨j2,k.mo,⟨k.M.L,D ks.length⟩⟩++[(Hm,zUX R.1)])∧KpR K B M ⟨j2,k.mo,⟨k.M.L,D ks.length⟩⟩ H'':=⟨_,HSub.of_sub (List.sublist_append_left _ _),KpR.of (hKR _)⟩
  rw[hon]at hck
  simp (disch:=omega) [zz,hlt']
  refine hE _ _ (by simp) ?_
  simp (disch:=omega) [zz,hck,Tryz.f24,q8.er_app,u4 (hKR ks.length),hend]
end Go.Proofs.YtcioeonlclpacaaGreatDoor
end
