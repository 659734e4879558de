/- Whatever is kept: what an act adds, and calls beside a Keep; plain. No condition. -/
import Derived.Test.YtognnffjdckalaaGreatDoorKR3
set_option linter.unusedSimpArgs false
set_option linter.unusedVariables false
set_option linter.unusedSectionVars false
set_option maxHeartbeats 64000000
set_option maxRecDepth 100000
namespace Go.Proofs.YtognnffjdckalaaGreatDoor
open Go Go.Ab
open Classical
section
variable [Sel] [SelPow] [SelErr]
structure zlF (a:V4):Prop where
 rd:∀r∈a.one.reads,r.sum.length=32
 k0:0<=a.one.key
 k1:a.one.key<256
 n1:a.n<=9223372036854775807
theorem zjc:∀(l:List zV) (n:Nat),szO (l.modify n fun f=>⟨f.path,f.data++[120]⟩)<=szO l+1
 | [],n=>by simp[szO]
 | f::l,0=>by grind [szO]
 | f::l,n+1=>by
  have:=zjc l n
  simp only[szO,List.modify_succ_cons,List.map_cons,List.sum_cons]at this |-
  omega
theorem zgm (o:WA):szO (ZC o)<=szO o.outs+1/\(ZC o).length<=o.outs.length:=by
 unfold ZC
 split
 ·grind [szO,XX]
 ·split
  ·simp[zjc]
  omega
theorem zqT {o:WA} (hr:∀r∈o.reads,r.sum.length=32):wtO (ZC o)+wtT (trO o)<=200*(szO o.outs+szR o.reads)+1000:=by
 grind [zfp,zhE,pG,zgm,wtT]
theorem zkH {o:WA} (hr:∀r∈o.reads,r.sum.length=32) (hs:szO o.outs+szR o.reads<=2500):TrW (trO o)/\TrD (trO o)/\(ZC o).length<=1000000/\(∀f∈ZC o,f.data.length<=1000000000)/\o.outs.length<=1000000000/\∀f∈o.outs,f.data.length<=1000000000:=by
 have h1:=pG o.outs
 have h2:=zjn o.reads
 obtain⟨h4,h5⟩:=zgm o
 have hr2:∀r∈o.reads,r.path.length<=2500:=fun r h=>by have:=zfm h;omega
 have ho2:∀m∈(trO o).outs,m.path.length<=2500:=fun m hm=>by
  obtain⟨f,hf,rfl⟩:=List.mem_map.1 hm
  have:=U3 hf
  grind [Q0]
 refine⟨⟨⟨⟨by grind [trO],fun r h=>by have:=hr2 r h;omega⟩,⟨by grind [trO],fun m h=>by grind⟩⟩,fun r h=>by have:=hr2 r h;omega,fun m h=>by grind⟩,zqv o hr,by omega,fun f h=>by have:=U3 h;omega,by omega,fun f h=>by have:=U3 h;omega⟩
theorem zpY {l:List V4} {i:Nat} (h:i<l.length):szA l[i]<=JR l:=by
 have h1:=CS l i h
 grind [JR,XX]
theorem zfc {s:St} {dst:Option Nat} {X:St->Prop} {args bs:List TV} {f:Nat} {R0:TV} (K B M:Nat) (a:KA) (k:KV) (hH:s.H=kpH K B M a k)
  (hc:q6 Tryz.prog f bs (zA B M a.o k.j.d) fun r H'=>r=R0/\H'=zA B M a.o k.j.d) (hf:qL Tryz.prog f=true) (ha:args.all qH=true) (hx:q9 (args.map TV.er) bs)
  (hX:X (({ s with H:=s.H }:St).put dst R0)):kL Tryz.prog s (.av .func (.fn f [])) args dst X:=by
 refine qM (zA B M a.o k.j.d) _ (hH▸D2 K B M a k) rfl ha hf (R:=fun r H'=>r=R0/\H'=zA B M a.o k.j.d) ?_ ?_
 ·rw[JG]
  exact q6.args hc (by simp_all)
 rintro r' H' ⟨rfl,rfl⟩ _
 exact⟨s.H,HSub.of_perm (hH▸(D2 K B M a k).symm),hX⟩
theorem zaz {s:St} {dst:Option Nat} {X:St->Prop} {args bs:List TV} {f:Nat} {R0:TV} {d':DV} (K B M:Nat) (a:KA) (k:KV) (hk:ZB a k) (hH:s.H=kpH K B M a k)
  (hc:q6 Tryz.prog f bs (zA B M a.o k.j.d) fun r H'=>r=R0/\J2 B M d' H') (hf:qL Tryz.prog f=true) (ha:args.all qH=true) (hx:q9 (args.map TV.er) bs)
  (hX:∀a',ZB a' ⟨⟨d',k.j.br⟩,k.mo,k.M⟩->KNE K B M a'->X (({ s with H:=kpH K B M a' ⟨⟨d',k.j.br⟩,k.mo,k.M⟩ }:St).put dst R0)):kL Tryz.prog s (.av .func (.fn f [])) args dst X:=by
 refine qM (zA B M a.o k.j.d) _ (hH▸D2 K B M a k) rfl ha hf (R:=fun r H'=>r=R0/\J2 B M d' H') ?_ ?_
 ·rw[JG]
  exact q6.args hc (by simp_all)
 rintro r' H' ⟨rfl,o',rfl⟩ hnd
 have hp:=(D2 K B M { a with o:=o' } ⟨⟨d',k.j.br⟩,k.mo,k.M⟩).symm
 refine⟨_,HSub.of_perm hp,hX _ ⟨hk.cels,hk.abs⟩ (dP (k:=⟨⟨d',k.j.br⟩,k.mo,k.M⟩) ?_)⟩
 exact(hp.map Prod.fst).nodup_iff.1 hnd
theorem YO {s:St} {dst:Option Nat} {X:St->Prop} {args:List TV} (B M:Nat) (hBM:M≠B) (o:Bool) (d:DV) (mo:Int) (N:Nat) (hN:N<=1000000000) (hd:kF N d) (rest:q7) (hH:s.H.Perm (zA B M o d++rest))
  (ha:args.all qH=true) (hx:q9 (args.map TV.er) [.av .ptr (.ptr B QI []),.av (.int .i64) (.i .i64 mo)])
  (hb:(kQ mo d).2.1=none->(kQ mo d).2.2≠0->X (({ s with H:=[] }:St).put dst (.tup [(.ptr,.nilptr),(.int .i64,.i .i64 (kQ mo d).2.2)])))
  (hX:∀k K a,(kQ mo d).2.1=some k->ZB a k->KNE K B M a->X (({ s with H:=kpH K B M a k }:St).put dst (.tup [(.ptr,.ptr K KpT []),(.int .i64,.i .i64 0)]))):kL Tryz.prog s (.av .func (.fn 7 [])) args dst X:=by
 refine qM (zA B M o d) rest hH rfl ha (by simp) (R:=XQ B M (kQ mo d)) ?_ ?_
 ·rw[JG]
  exact q6.args (zeR B M hBM o d mo N hN hd) (by simp_all)
 rintro r' H' (⟨h1,h2,rfl,_⟩|⟨k2,K,hk2,rfl,a,hka,rfl⟩) hnd
 ·grind [HSub.of_sub]
 grind [HSub.of_sub,dP,q7.keys_app]
theorem znY {d:Dig} {l:BlL} (h:l.find? (fun p=>decide (p.1=d))=none):(l.filter fun p=>decide (p.1≠d))=l :=
 List.filter_eq_self.2 fun p hp=>by grind
theorem znJ (B M:Nat) (hBM:M≠B) (l:BlL) (hlen:l.length<=1000000) (h32:∀p∈l,p.1.length=32) :
  q6 Tryz.prog 56 [.av .ptr (.ptr B QW [])] (stB B M l) fun r H'=>∃rest H2,sR (l.map Prod.fst) rest r H2/\Ab.HSub H2 H'/\rest=stB B M l:=by
 have hMB:¬B=M:=fun e=>hBM e.symm
 have hme:=zn9 l
 refine zov Tryz.func56 cf0 fun imm0 w0=>?_
 simp (disch:=omega) [zz,stB,stO]
 refine qM (R:=fun r H'=>∃c,r=.av .func (.fn 167 [.ptr c BmT []])/\H'=[(c,bbO M)]) [] (stB B M l) (List.Perm.refl _) rfl (by simp[qH]) (by simp) ?_ ?_
 ·have:=zo5 M
  simp_all
 rintro r' H' ⟨c,rfl,rfl⟩ hnd
 simp[q7.keys,stB,stO]at hnd
 refine⟨(c,bbO M)::stB B M l,HSub.refl _,?_⟩
 simp (disch:=omega) [zz]
 refine qM (R:=sR (l.map Prod.fst) [(M,bmO l),(c,bbO M)]) [(M,bmO l),(c,bbO M)] [(B,.var QW (.agg [.map (some M),.i .i64 (szB l)]))] ((List.perm_append_comm (l₁:=[_]) (l₂:=[_,_])).trans ((List.Perm.swap _ _ _).trans (List.Perm.cons _ (List.Perm.swap _ _ _)))) rfl (by simp[qH]) (by simp) ?_ ?_
 ·have:=VK zmV (zkP c M hnd.1.2 l) (by simp_all) (fun k hk=>by grind)
  simp_all[bbO]
 rintro r' H' ⟨ks',hko,⟨rfl,rfl,rfl⟩|⟨b,cap,j,hj,hcap,rfl,rfl⟩⟩ _
 ·refine⟨stB B M l,⟨[(B,.var QW (.agg [.map (some M),.i .i64 (szB l)])),(M,bmO l),(c,bbO M)],List.perm_append_comm (l₁:=[_,_]),?_⟩,?_⟩
  ·exact((List.nil_sublist _).cons_cons _).cons_cons _
  simp (disch:=omega) [zz,Tryz.f56]
  exact⟨_,_,⟨[],hko,.inl ⟨rfl,rfl,rfl⟩⟩,HSub.refl _,rfl⟩
 ·refine⟨(b,xN cap ks' j)::stB B M l,⟨[(b,xN cap ks' j),(B,.var QW (.agg [.map (some M),.i .i64 (szB l)])),(M,bmO l),(c,bbO M)],List.Perm.cons _ (List.perm_append_comm (l₁:=[_,_])),?_⟩,?_⟩
  ·exact(((List.nil_sublist _).cons_cons _).cons_cons _).cons_cons _
  have hkr:=vW (cap:=cap) (ks:=ks') hj
  simp (disch:=omega) [zz,hkr,Tryz.f56]
  exact⟨_,_,⟨ks',hko,.inr ⟨b,cap,j,hj,hcap,rfl,rfl⟩⟩,HSub.refl _,rfl⟩
theorem zp3 (B M:Nat) (hBM:M≠B) (l:BlL) (hlen:l.length<=1000000) (h32:∀p∈l,p.1.length=32) :
  q6 Tryz.prog 56 [.av .ptr (.ptr B QW [])] (stB B M l) fun r H'=>r=.av DgS (kD (yB (l.map Prod.fst)))/\H'=stB B M l:=by
 have g1:=q6.sub (R':=sR (l.map Prod.fst) (stB B M l)) (znJ B M hBM l hlen h32) (by
  grind)
 have g2:=q6.nilR (R':=fun r H'=>∃ks':List Dig,KO (l.map Prod.fst) ks'/\((ks'=[]/\r=.av DgS (.sl .no [])/\H'=stB B M l)\/∃b cap j,JK j/\ks'.length+j.length=cap/\r=.av DgS (.msl b 53 0 ks'.length cap)/\H'=(b,xN cap ks' j)::stB B M l)) g1 (by
  rintro r H' ⟨ks',hko,⟨rfl,rfl,rfl⟩|h⟩
  ·simp_all
  grind)
 refine g2.freeze laid ?_
 rintro r H' ⟨ks',hko,⟨rfl,rfl,rfl⟩|⟨b,cap,j,hj,hcap,rfl,rfl⟩⟩ _
 ·exact .inr ⟨by rw[<-zd6 hko];rfl,rfl⟩
 ·refine .inl ⟨b,cap,53,ks'.map qK++j,_,List.Perm.refl _,?_,rfl⟩
  grind [zd6,V2,fzA,kD]
theorem zmC (B M:Nat) (hBM:M≠B) (l:BlL) (hn:(l.map Prod.fst).Nodup) (hl:szB l<=1000000000000) (d:Dig) :
  q6 Tryz.prog 57 [.av .ptr (.ptr B QW []),.av (q8 Tryz.prog 53) (qK d)] (stB B M l) fun r H'=>r=.av .bool (.b (kE d l))/\H'=stB B M (l.filter fun p=>decide (p.1≠d)):=by
 have hBM':¬B=M:=fun e=>hBM e.symm
 have hfd:=GJ d l
 obtain⟨l2,hl2⟩:∃l2,l2=l.filter fun p=>decide (p.1≠d):=⟨_,rfl⟩
 rw[<-hl2]
 refine zov Tryz.func57 cf0 fun imm0 w0=>?_
 simp (disch:=omega) [zz]
 refine qM (stB B M l) [] (by simp) rfl (by simp[qH]) (by simp) (R:=fun r H'=>r=.tup [(.str,.s (((l.find? fun p=>decide (p.1=d)).map Prod.snd).getD [])),(.bool,.b (kE d l))]/\H'=stB B M l) ?_ ?_
 ·rw[zew]
  exact q6.args (zj9 B M hBM l (szB l) d) (by simp[q9,TV.er,AV.er])
 rintro r' H' ⟨rfl,rfl⟩ _
 refine⟨stB B M l,by simp[HSub.refl],?_⟩
 cases hf:l.find? (fun p=>decide (p.1=d))with
 | none =>
  have hh:kE d l=false:=by grind [kE]
  have hdl:l2=l:=by rw[hl2];exact znY hf
  subst hdl
  simp (disch:=omega) [zz,hh,Tryz.f57]
 | some p =>
  have hh:kE d l=true:=by simp_all[kE]
  have hsd:=zjv hn hf
  have hde:=zjb d l hn
  rw[<-hl2]at hsd hde
  have hsz:(szB l:Int)-p.2.length=szB l2:=by omega
  simp (disch:=omega) [zz,hh,stB,stO,hBM,hBM']
  (repeat with_reducible refine om ?_)
  simp (disch:=omega) [zz,hde,hsz,Tryz.f57,stO]
theorem zfO (K B M:Nat) (a:KA) (k:KV) (N:Nat) (hk:ZB a k) (hI:wW k.mo N k.M) (hm8:k.mo<=8) (hN:N<=12000000) :
  q6 Tryz.prog 54 [.av .ptr (.ptr K KpT [])] (kpH K B M a k) fun r H'=>∃Hm,r=.tup [(StS,.sl .no (qG (kT k.M).2)),(HdT,.map (some Hm))]/\H'=(Hm,yJ (kT k.M).1)::kpH K B M a k:=by
 obtain⟨R,hR⟩:∃R,R=kT k.M:=⟨_,rfl⟩
 have h0:=zdq K B M a k N hk hI hm8 hN
 rw[<-hR]at h0 |-
 have g1:=q6.sub (R':=fun r H'=>∃Hm x Rw,ZO R.2 x Rw/\r=.tup [(StS,x),(HdT,.map (some Hm))]/\H'=(Hm,yJ R.1)::(Rw++kpH K B M a k)) h0 (by
  rintro r H' ⟨Hm,x,Rw,h1,h2,h3⟩ _
  exact⟨_,h3,Hm,x,Rw,h1,h2,rfl⟩)
 have g2:=q6.nilT (R':=fun r H'=>∃Hm,(r=.tup [(StS,.sl .no (qG R.2)),(HdT,.map (some Hm))]/\H'=(Hm,yJ R.1)::kpH K B M a k)\/∃b cap j,JK j/\R.2.length+j.length=cap/\r=.tup [(StS,.msl b 9 0 R.2.length cap),(HdT,.map (some Hm))]/\H'=(Hm,yJ R.1)::(b,DN cap R.2 j)::kpH K B M a k) g1 (by
  rintro r H' ⟨Hm,x,Rw,⟨h1,rfl,rfl⟩|⟨b,cap,j,hj,hc,rfl,rfl⟩,rfl,rfl⟩
  ·exact .inr ⟨_,_,_,rfl,Hm,.inl ⟨by rw[h1];rfl,rfl⟩⟩
  ·exact .inl ⟨Hm,.inr ⟨b,cap,j,hj,hc,rfl,rfl⟩⟩)
 refine g2.freeze laid ?_
 rintro r H' ⟨Hm,⟨rfl,rfl⟩|⟨b,cap,j,hj,hcap,rfl,rfl⟩⟩ _
 ·exact .inr ⟨Hm,rfl,rfl⟩
 ·refine .inl ⟨b,cap,9,qG R.2++j,_,List.Perm.swap _ _ _,Hm,?_,rfl⟩
  have htk:=zby R.2 j
  simp[V2,fzA,hcap,htk]
  omega
abbrev zrO:Cfg:=⟨fun _=>false,fun n=>n==1000009||n==2000041⟩
theorem zgT (K B M:Nat) (a:KA) (k:KV) (N:Nat) (hk:ZB a k) (hI:ZA N k) (hN:N<=12000000) :
  q6 Tryz.prog 15 [.av .ptr (.ptr K KpT [])] (kpH K B M a k) fun r H'=>r=.av (.int .i64) (.i .i64 (yE k).2)/\KpR K B M (yE k).1 H':=by
 refine q6.nodup fun hnd=>?_
 have hne:=dP hnd
 have hg:=QM K B M a k
 refine q6.sub (R:=fun r H'=>r=.av (.int .i64) (.i .i64 (yE k).2)/\∃H'',HSub H'' H'/\KpR K B M (yE k).1 H'') ?_ (fun r H' ⟨h1,H'',h2,h3⟩ _=>⟨H'',h2,h1,h3⟩)
 have hbl:=UC hI.mem
 have hnd2:=hI.mem.nd
 have hsh:=hI.mem.sh
 have hphi:=vR k.M.bl
 have hle:=hI.mem.le
 have hck:yE k=if (swapJ (kT k.M).2 k.j).2=0 then(⟨(swapJ (kT k.M).2 k.j).1,k.mo,XE k.M⟩,0) else(⟨(swapJ (kT k.M).2 k.j).1,k.mo,k.M⟩,(swapJ (kT k.M).2 k.j).2):=rfl
 have hon:XE k.M=⟨k.M.L,k.M.bl.filter fun p=>decide (p.1∈(kT k.M).1)⟩:=rfl
 have hwr:=G5 hI.mem
 have hrc:=zfO K B M a k N hk hI.mem hI.hi (by omega)
 obtain⟨R,hR⟩:∃R,R=kT k.M:=⟨_,rfl⟩
 rw[<-hR]at hck hon hwr hrc
 refine zov Tryz.func15 zrO fun imm0 w0=>?_
 simp (disch:=omega) [zz]
 refine qM (kpH K B M a k) [] (by simp) rfl (by simp[qH]) (by simp) (R:=fun r H'=>∃Hm,r=.tup [(StS,.sl .no (qG R.2)),(HdT,.map (some Hm))]/\H'=(Hm,yJ R.1)::kpH K B M a k) ?_ ?_
 ·rw[kA hk]
  simpa[TV.er,AV.er]using hrc
 rintro r' H' ⟨Hm,rfl,rfl⟩ hnd3
 simp only[List.append_nil,q7.keys_cons,List.nodup_cons]at hnd3
 have hHK:¬Hm=K:=fun e=>hnd3.1 (e▸zqN K B M a k)
 have hHK':¬K=Hm:=fun e=>hHK e.symm
 refine⟨(Hm,yJ R.1)::kpH K B M a k,by rw[List.append_nil];exact HSub.refl _,?_⟩
 simp (disch:=omega) [zz,hg,hHK,hHK']
 have hjs:=zlB a.J B M ⟨hne.MB,hne.JB,hne.JM⟩ R.2 (by omega) a.o k.j hI.ok (by have:=hI.n;omega)
 refine zbm K B M a k [(Hm,yJ R.1)] (List.perm_append_comm (l₁:=[_])) hjs (by simp) (by simp[qH]) (by simp[q9,TV.er,AV.er]) fun o1=>?_
 obtain⟨j2,e2⟩:∃j2,j2=(swapJ R.2 k.j).1:=⟨_,rfl⟩
 rw[<-e2]at hck |-
 have hk2:ZB { a with o:=o1 } ⟨j2,k.mo,k.M⟩:=⟨hk.cels,hk.abs⟩
 by_cases he:(swapJ R.2 k.j).2=0
 rotate_left
 ·rw[if_neg he]at hck
  have hend:∃H'',HSub H'' (kpH K B M { a with o:=o1 } ⟨j2,k.mo,k.M⟩++[(Hm,yJ R.1)])/\KpR K B M ⟨j2,k.mo,k.M⟩ H'':=⟨_,HSub.of_sub (List.sublist_append_left _ _),KpR.of hk2⟩
  simp (disch:=omega) [zz,he,hck,Tryz.f15,q7.er_app,kA hk2,hend]
 rw[if_pos he]at hck
 have hg2:=zjl K B M { a with o:=o1 } ⟨j2,k.mo,k.M⟩ [(Hm,yJ R.1)]
 have hal:=zp3 a.S a.T hne.TS k.M.bl (by omega) (fun p hp=>by rw[hsh p hp];exact QE _)
 obtain⟨ks,hks⟩:∃ks,ks=yB (k.M.bl.map Prod.fst):=⟨_,rfl⟩
 have hksl:ks.length<=1000000:=by rw[hks,(y9 _).1.length_eq,List.length_map];omega
 have hed:kD ks=.sl .no (ks.map qK):=rfl
 rw[<-hks,hed]at hal
 simp (disch:=omega) [zz,he,hg2]
 refine U9 K B M { a with o:=o1 } ⟨j2,k.mo,k.M⟩ [(Hm,yJ R.1)] (by simp) hal (by simp) (by simp[qH]) (by simp[q9,TV.er,AV.er]) ?_
 obtain⟨D,hD⟩:∃D:Nat->BlL,D=fun i=>k.M.bl.filter fun p=>decide (p.1∈R.1\/p.1∉ks.take i):=⟨_,rfl⟩
 have hD0:D 0=k.M.bl:=by rw[hD];simp
 have hDn:D ks.length=k.M.bl.filter fun p=>decide (p.1∈R.1):=by
  rw[hD]
  refine List.filter_congr fun p hp=>?_
  have:p.1∈ks:=by rw[hks];exact srtK_mem.2 (List.mem_map.2 ⟨p,hp,rfl⟩)
  simp[this]
 have htk:∀i (h:i<ks.length) x,x∈ks.take (i+1)<->x∈ks.take i\/x=ks[i]:=fun i h x=>by rw[List.take_succ_eq_append_getElem h,List.mem_append,List.mem_singleton]
 have hDin:∀i (h:i<ks.length),ks[i]∈R.1->D (i+1)=D i:=fun i h hm=>by
  rw[hD]
  refine List.filter_congr fun p hp=>?_
  by_cases hp2:p.1=ks[i]<;>simp[hp2,hm,htk i h]
 have hDout:∀i (h:i<ks.length),ks[i]∉R.1->D (i+1)=(D i).filter fun p=>decide (p.1≠ks[i]):=fun i h hm=>by
  rw[hD]
  simp only[List.filter_filter]
  refine List.filter_congr fun p hp=>?_
  by_cases hp2:p.1=ks[i]<;>simp[hp2,hm,htk i h]
 have hDs:∀i,(D i).Sublist k.M.bl:=fun i=>by rw[hD];exact List.filter_sublist
 have hDd:∀i,((D i).map Prod.fst).Nodup:=fun i=>((hDs i).map _).nodup hnd2
 have hDz:∀i,szB (D i)<=1000000000000:=fun i=>by
  have h1:uP (D i)<=uP k.M.bl:=by rw[hD];exact D8 _ _
  have h2:=vR (D i)
  omega
 have hKR:∀i,ZB { a with o:=o1 } ⟨j2,k.mo,⟨k.M.L,D i⟩⟩:=fun i=>⟨hk.cels,hk.abs⟩
 rw[<-hDn]at hon
 simp (disch:=omega) [zz]
 refine AT.loop' (α:=Nat) (fun i=>St.of [(0,.av .ptr (.ptr K KpT [])),(4,.av HdT (.map (some Hm))),(26,.av DgS (.sl .no (ks.map qK))),(27,.av (.int .i64) (.i .i64 ks.length)),(28,.av (.int .i64) (.i .i64 i))] [] (fun _=>0) (kpH K B M { a with o:=o1 } ⟨j2,k.mo,⟨k.M.L,D i⟩⟩++[(Hm,yJ R.1)]))
  (fun i=>i<=ks.length) (fun i=>ks.length-i) 0 ?_ ?_ ?_
 ·apply Le.of<;>simp[le9,hD0]<;>try omega
 ·simp
 rintro i hi KL hN' hE
 refine zrd zrO ?_
 by_cases hlt:i<ks.length
 ·have hlt':(i:Int)<ks.length:=by omega
  have hgk:=vY ks i hlt
  have h1:=hDin i hlt
  have h2:=hDout i hlt
  obtain⟨q,hq⟩:∃q,q=ks[i]:=⟨_,rfl⟩
  rw[<-hq]at hgk h1 h2
  have hfd:=pO q R.1
  have hgh:zU (kpH K B M { a with o:=o1 } ⟨j2,k.mo,⟨k.M.L,D i⟩⟩++[(Hm,yJ R.1)]) Hm=some (.map 53 4 (zdD R.1)):=by
   rw[vL (by simpa[kpH,jH,zA,DbH,stB,stO,q7.keys]using hnd3.1)]
   simp[zU,yJ]
  have hg3:=zjl K B M { a with o:=o1 } ⟨j2,k.mo,⟨k.M.L,D i⟩⟩ [(Hm,yJ R.1)]
  by_cases hm:q∈R.1
  ·rw[if_pos hm]at hfd
   simp (disch:=omega) [zz,hlt',hgk,hgh,hfd]
   refine hN' _ (i+1) ?_ (by omega) (by omega)
   apply Le.of<;>simp[le9,h1 hm]<;>try omega
  ·rw[if_neg hm]at hfd
   have hdr:=zmC a.S a.T hne.TS (D i) (hDd i) (hDz i) q
   rw[<-h2 hm]at hdr
   simp (disch:=omega) [zz,hlt',hgk,hgh,hfd,hg3]
   refine j6.of [0,1,2,3,4,5] [] (by kernel_rfl) ?_
   simp (disch:=omega) [zz,hg3]
   (repeat with_reducible refine om ?_)
   refine U9 K B M { a with o:=o1 } ⟨j2,k.mo,⟨k.M.L,D i⟩⟩ [(Hm,yJ R.1)] (by simp) hdr (by simp) (by simp[qH]) (by simp[q9,TV.er,AV.er]) ?_
   simp (disch:=omega) [zz]
   (repeat with_reducible refine om ?_)
   refine hN' _ (i+1) ?_ (by omega) (by omega)
   apply Le.of<;>simp[le9]<;>try omega
 ·have hlt':¬(i:Int)<ks.length:=by omega
  have hie:i=ks.length:=by omega
  subst hie
  have hend:∃H'',HSub H'' (kpH K B M { a with o:=o1 } ⟨j2,k.mo,⟨k.M.L,D ks.length⟩⟩++[(Hm,yJ R.1)])/\KpR K B M ⟨j2,k.mo,⟨k.M.L,D ks.length⟩⟩ H'':=⟨_,HSub.of_sub (List.sublist_append_left _ _),KpR.of (hKR _)⟩
  rw[hon]at hck
  simp (disch:=omega) [zz,hlt']
  refine hE _ _ (by simp) ?_
  simp (disch:=omega) [zz,hck,Tryz.f15,q7.er_app,kA (hKR ks.length),hend]
structure KrS where
 i:Nat
 B:Nat
 M:Nat
 K:Nat
 a:KA
 k:KV
noncomputable def zbT (l:List V4) (n:Nat) (x:KrS):St:=St.of [(5,.av (.int .i64) (.i .i64 n)),(6,.av .ptr (.ptr x.B QI [])),(7,.av .ptr (.ptr x.K KpT [])),(8,.av (.int .i64) (.i .i64 0)),(9,.loc 9 []),(10,.loc 10 []),(52,.av (.slice 49) (.sl .no (l.map jU))),(53,.av (.int .i64) (.i .i64 l.length)),(54,.av (.int .i64) (.i .i64 x.i))] [(9,(RkT,.agg [.agg [rdE x.k.j.d,.s nmK,.b true,.b x.k.j.br],.i .i64 x.k.mo,rkM x.k.M,rkB x.k.M])),(10,(RdT,rdE x.k.j.d))] (fun _=>0) (kpH x.K x.B x.M x.a x.k)
theorem PO (k:KV):rkE k=.agg [.agg [rdE k.j.d,.s nmK,.b true,.b k.j.br],.i .i64 k.mo,rkM k.M,rkB k.M]:=rfl
abbrev zrD:Cfg:=⟨fun _=>false,fun n=>n==1000037||n==2000140||n==1000039||n==2000149⟩
theorem zg5 (l:List V4) (hl0:JR l<=1000000000000000) (ho:∀a∈l,zlF a) (b0:Int) (hb0:0<=b0) (hb02:b0<256) :
  PC Tryz.prog 3 [.av (.int .u8) (.i .u8 b0),.av (.slice 49) (.sl .no (l.map jU))] (.av .bool (.b true)):=by
 refine q6.sub (R:=fun r H'=>r=.av .bool (.b true)) ?_ (fun r H' hr _=>⟨[],HSub.of_sub (List.nil_sublist _),hr,rfl⟩)
 have hgk:=zjV l hl0
 have hle:AV.ers (l.map jU)=l.map jU:=by simp[AV.ers_eq,Function.comp_def,zhC]
 refine zov Tryz.func3 zrD fun imm0 w0=>?_
 simp (disch:=omega) [zz]
 refine YE zdy rfl rfl (by simp) (by simp[q9]) ?_
 simp (disch:=omega) [zz]
 refine YE hgk rfl rfl (by simp[qH]) (by simp[q9,TV.er,AV.er,hle]) ?_
 cases hg:zaa l with
 | true=>simp (disch:=omega) [zz,Tryz.f3]
 | false =>
 have hgz:JR l<=2500/\l.length<=25:=by
  simp only[zaa,Bool.or_eq_false_iff,decide_eq_false_iff_not]at hg
  omega
 obtain⟨n,hn⟩:∃n:Nat,(n:Int)=b0 % 10:=⟨(b0 % 10).toNat,by omega⟩
 have htm:b0.tmod 10=b0 % 10:=Int.tmod_eq_emod_of_nonneg hb0
 have hlen:=hgz.2
 simp (disch:=omega) [zz,htm,<-hn]
 refine qM [] [] (List.Perm.refl _) rfl (by simp[qH]) (by simp) (R:=fun r H'=>∃B M,M≠B/\r=.av .ptr (.ptr B QI [])/\H'=zA B M false J0) ?_ ?_
 ·simpa[q7.er_nil]using zdr
 rintro r' H' ⟨B,M,hMB,rfl,rfl⟩ _
 refine⟨_,HSub.refl _,?_⟩
 simp (disch:=omega) [zz]
 refine YO B M hMB false J0 n 0 (by omega) zck [] (by simp) (by simp[qH]) (by simp[q9,TV.er,AV.er]) (fun hb1 hb2=>?_) (fun k K a hk hka hne=>?_)
 ·have hro:=QR J0 n 0 (by omega) zck
  rw[hb1]at hro
  obtain⟨e,he⟩:∃e,e=(kQ (n:Int) J0).2.2:=⟨_,rfl⟩
  rw[<-he]at hb2 hro |-
  simp (disch:=omega) [zz]
  refine YE zcM rfl rfl (by simp[qH]) (by simp[q9]) ?_
  simp (disch:=omega) [zz]
  refine YE hro rfl rfl (by simp[qH]) (by simp[q9,TV.er,AV.er,J3];rfl) ?_
  simp (disch:=omega) [zz,hb2,Tryz.f3]
 obtain⟨hI,hd3,hmo,he0,hbr⟩:=(XK zck).2 k hk
 have hro:=QR J0 n 0 (by omega) zck
 rw[hk,he0,<-hd3]at hro
 have hrO:rkO (some k)=.agg [.agg [rdE k.j.d,.s nmK,.b true,.b k.j.br],.i .i64 k.mo,rkM k.M,rkB k.M]:=rfl
 rw[hrO]at hro
 simp (disch:=omega) [zz]
 refine YE zcM rfl rfl (by simp[qH]) (by simp[q9]) ?_
 simp (disch:=omega) [zz]
 refine YE hro rfl rfl (by simp[qH]) (by simp[q9,TV.er,AV.er,J3];rfl) ?_
 simp (disch:=omega) [zz]
 refine AT.loop' (α:=KrS) (zbT l n) (fun x=>x.i<=l.length/\ZB x.a x.k/\KNE x.K x.B x.M x.a/\ZA (200*JR (l.take x.i)+1000*x.i) x.k) (fun x=>l.length-x.i) ⟨0,B,M,K,a,k⟩ ?_ ?_ ?_
 ·apply Le.of<;>simp[le9,zbT]<;>try omega
 ·exact⟨Nat.zero_le _,hka,hne,hI.up (by omega)⟩
 clear hro hrO hI hka hne hk hd3 hmo he0 hbr hMB hgk
 rintro⟨i,B,M,K,a,k⟩ ⟨hi,hka,hne,hI⟩ KL hN hE
 simp only at hi hka hne hI hN
 unfold zbT
 have hs0:JR (l.take i)<=JR l:=XX _ _ _
 obtain⟨N,hNe⟩:∃N,N=200*JR (l.take i)+1000*i:=⟨_,rfl⟩
 have hNb:N<=600000:=by omega
 rw[<-hNe]at hI
 have hsa:=znn K B M a k hka hne.TS N hI (by omega)
 have hsd:=zkC B M hne.MB a.o k.j.d
 have e1:=jX k.j.d
 have e2:=zb1 k
 have hr0:=PO k
 rw[hr0]at hsa e2
 simp only[AV.er,AV.ers,AV.agg.injEq,List.cons.injEq,and_true,true_and]at e2
 refine zrd zrD ?_
 by_cases hlt:i<l.length
 rotate_left
 ·have hie:i=l.length:=by omega
  subst hie
  have hlt':¬(l.length:Int)<l.length:=by omega
  simp (disch:=omega) [zz,hlt']
  refine hE _ _ (by simp) ?_
  clear hE hN
  simp (disch:=omega) [zz]
  refine WZ K B M a k hka [] (by simp) hsa (by simp) (by simp[qH]) (by simp[q9,TV.er,AV.er,AV.ers,e2]) ?_
  simp (disch:=omega) [zz]
  refine zfc K B M a k rfl hsd (by simp) (by simp[qH]) (by simp[q9,TV.er,AV.er,e1]) ?_
  simp (disch:=omega) [zz,Tryz.f3]
 have hlt':(i:Int)<l.length:=by omega
 have hga:=zgH l i hlt
 have hta:=CS l i hlt
 have hmem:=zpY hlt
 have hao:=ho _ (List.getElem_mem hlt)
 have hs1:JR (l.take (i+1))<=JR l:=XX _ _ _
 obtain⟨v,hv⟩:∃v,v=l[i]:=⟨_,rfl⟩
 rw[<-hv]at hga hta hmem hao
 have hva:szA v=1+v.picks.length+szO v.one.outs+szR v.one.reads:=rfl
 have haE:jU v=.agg [.i .i64 v.kind,.i .i64 v.n,y4 v.one,JX v.picks]:=rfl
 have hm0:=hI.m
 have hn0:=hI.n
 simp (disch:=omega) [zz,hlt',hga,haE]
 refine WZ K B M a k hka [] (by simp) hsa (by simp) (by simp[qH]) (by simp[q9,TV.er,AV.er,AV.ers,e2]) ?_
 simp (disch:=omega) [zz]
 refine zfc K B M a k rfl hsd (by simp) (by simp[qH]) (by simp[q9,TV.er,AV.er,e1]) ?_
 by_cases k0:v.kind=0
 ·obtain⟨htw,htd,hol,hod,h1,h2⟩:=zkH hao.rd (by omega)
  have h18:=ziH v.one hao.k0 hao.k1 h1 h2
  have hwt:=zqT hao.rd
  have hon:zb3 v.one=.tup [(TrT,q5 (trO v.one)),(.slice 73,zI (ZC v.one))]:=rfl
  obtain⟨t,ht⟩:∃t,t=trO v.one:=⟨_,rfl⟩
  obtain⟨os,hos⟩:∃os,os=ZC v.one:=⟨_,rfl⟩
  rw[<-ht,<-hos]at hon hwt
  rw[<-ht]at htw htd
  rw[<-hos]at hol hod
  have hkk:=zfP K B M a k N hka hI t htw htd os hol hod (by omega)
  have hrk:=zhG k N hI t htw htd os hol hod (by omega)
  have hI2:=(zcp hI htd os).1
  obtain⟨k2,hk2⟩:∃k2,k2=(w6 t os k).1:=⟨_,rfl⟩
  obtain⟨g,hg2⟩:∃g,g=(w6 t os k).2:=⟨_,rfl⟩
  rw[<-hk2,<-hg2]at hkk hrk
  rw[<-hk2]at hI2
  rw[hr0,PO k2]at hrk
  have hte:=QP t
  simp (disch:=omega) [zz,k0]
  refine YE h18 rfl rfl (by simp[qH]) (by simp[q9,TV.er,AV.er,AV.ers,zd8]) ?_
  simp (disch:=omega) [zz,hon]
  refine zbb K B M a k hka [] (by simp) hkk (by simp) (by simp[qH]) (by simp[q9,TV.er,AV.er,hte,KT]) fun a2 hka2 hne2=>?_
  simp (disch:=omega) [zz]
  refine YE hrk rfl rfl (by simp[qH]) (by simp[q9,TV.er,AV.er,AV.ers,e2,hte,KT]) ?_
  simp (disch:=omega) [zz]
  (repeat with_reducible refine om ?_)
  refine hN _ ⟨i+1,B,M,K,a2,k2⟩ ?_ ⟨by simp only;omega,hka2,hne2,hI2.up (by simp only;omega)⟩ (by simp only;omega)
  apply Le.of<;>simp[le9,zbT]<;>try omega
 by_cases k1:v.kind=1
 ·have hkk:=zgT K B M a k N hka hI (by omega)
  have hrk:=zbN k N hI (by omega)
  have hI2:=(zeA hI).1
  obtain⟨k2,hk2⟩:∃k2,k2=(yE k).1:=⟨_,rfl⟩
  obtain⟨g,hg2⟩:∃g,g=(yE k).2:=⟨_,rfl⟩
  rw[<-hk2,<-hg2]at hkk hrk
  rw[<-hk2]at hI2
  rw[hr0,PO k2]at hrk
  simp (disch:=omega) [zz,k1]
  refine zbb K B M a k hka [] (by simp) hkk (by simp) (by simp[qH]) (by simp[q9,TV.er,AV.er]) fun a2 hka2 hne2=>?_
  simp (disch:=omega) [zz]
  refine YE hrk rfl rfl (by simp[qH]) (by simp[q9,TV.er,AV.er,AV.ers,e2]) ?_
  simp (disch:=omega) [zz]
  (repeat with_reducible refine om ?_)
  refine hN _ ⟨i+1,B,M,K,a2,k2⟩ ?_ ⟨by simp only;omega,hka2,hne2,hI2.up (by simp only;omega)⟩ (by simp only;omega)
  apply Le.of<;>simp[le9,zbT]<;>try omega
 by_cases k4:v.kind=4
 ·have hbd:=zaW B M hne.MB a.o k.j.d v.n
  have hrb:=pD k.j.d v.n
  have hD:=hI.of.budget hao.n1
  obtain⟨d2,hd2⟩:∃d2,d2=ZH v.n k.j.d:=⟨_,rfl⟩
  rw[<-hd2]at hbd hrb hD
  have hI2:ZA N ⟨⟨d2,k.j.br⟩,k.mo,k.M⟩:=ZA.mk' hI.mem hD hI.lo hI.hi
  simp (disch:=omega) [zz,k4]
  refine zaz K B M a k hka rfl (hbd.mono fun r H' h=>⟨h.1,a.o,h.2⟩) (by simp) (by simp[qH]) (by simp[q9,TV.er,AV.er]) fun a2 hka2 hne2=>?_
  simp (disch:=omega) [zz]
  refine YE hrb rfl rfl (by simp[qH]) (by simp[q9,TV.er,AV.er,e1]) ?_
  simp (disch:=omega) [zz]
  refine hN _ ⟨i+1,B,M,K,a2,⟨⟨d2,k.j.br⟩,k.mo,k.M⟩⟩ ?_ ⟨by simp only;omega,hka2,hne2,hI2.up (by simp only;omega)⟩ (by simp only;omega)
  apply Le.of<;>simp[le9,zbT]<;>try omega
 by_cases k5:v.kind=5
 ·have hap:=gG B M hne.MB a.o k.j.d hI.ok false [111,100,100] (by simp[jO];omega)
  have hra:=uD false [111,100,100] k.j.d hI.ok (by simp[jO];omega)
  have hD:=hI.of.append false [111,100,100]
  obtain⟨d2,hd2⟩:∃d2,d2=(qW false [111,100,100] k.j.d).1:=⟨_,rfl⟩
  rw[<-hd2]at hap hra hD
  have hDm:=hD.m
  have hDn:=hD.n
  simp only[List.length_cons,List.length_nil]at hDm hDn hD
  have hD3:=hD.crash [3]
  have hrc:=dW d2 hD.ok ⟨by omega,by omega⟩ [3] (by simp)
  simp (disch:=omega) [zz,k5]
  refine zaz K B M a k hka rfl hap (by simp) (by simp[qH]) (by simp[q9,TV.er,AV.er,nmB,nmK]) fun a2 hka2 hne2=>?_
  simp (disch:=omega) [zz]
  refine YE hra rfl rfl (by simp[qH]) (by simp[q9,TV.er,AV.er,e1,nmB,nmK]) ?_
  simp (disch:=omega) [zz]
  refine j6.of [3,4,0,1,2,5,6,7] [3,4] (by kernel_rfl) ?_
  simp (disch:=omega) [zz]
  (repeat with_reducible refine om ?_)
  refine uX B M hne.MB a2.o d2 hD.ok ⟨by omega,by omega⟩ [3] (by simp) _ (D2 K B M a2 ⟨⟨d2,k.j.br⟩,k.mo,k.M⟩) (by simp[qH]) (by simp[q9,TV.er,AV.er,AV.ers,JX]) fun B2 M2 o2 hMB2=>?_
  obtain⟨d3,hd3⟩:∃d3,d3=kP [3] d2:=⟨_,rfl⟩
  rw[<-hd3]at hrc hD3 |-
  simp (disch:=omega) [zz]
  (repeat with_reducible refine om ?_)
  refine XF hrc rfl rfl (by simp) (by simp[q9,TV.er,AV.er,AV.ers,jX,JX]) ?_
  simp (disch:=omega) [zz]
  (repeat with_reducible refine om ?_)
  refine YO B2 M2 hMB2 o2 d3 n (N+3) (by omega) hD3 [] (by simp) (by simp[qH]) (by simp[q9,TV.er,AV.er]) (fun hb1 hb2=>?_) (fun k2 K2 a3 hk2 hka3 hne3=>?_)
  ·have hro:=QR d3 n (N+3) (by omega) hD3
   rw[hb1]at hro
   obtain⟨e,he⟩:∃e,e=(kQ (n:Int) d3).2.2:=⟨_,rfl⟩
   rw[<-he]at hb2 hro |-
   simp (disch:=omega) [zz]
   refine YE hro rfl rfl (by simp[qH]) (by simp[q9,TV.er,AV.er,jX]) ?_
   simp (disch:=omega) [zz,hb2]
   refine hE _ _ (by simp) ?_
   simp (disch:=omega) [zz,Tryz.f3]
  ·obtain⟨hI2,hd4,_,he0,_⟩:=(XK hD3).2 k2 hk2
   have hro:=QR d3 n (N+3) (by omega) hD3
   rw[hk2,he0,<-hd4]at hro
   simp (disch:=omega) [zz]
   refine YE hro rfl rfl (by simp[qH]) (by simp[q9,TV.er,AV.er,jX]) ?_
   simp (disch:=omega) [zz]
   refine hN _ ⟨i+1,B2,M2,K2,a3,k2⟩ ?_ ⟨by simp only;omega,hka3,hne3,hI2.up (by simp only;omega)⟩ (by simp only;omega)
   apply Le.of<;>simp[le9,zbT,rkO,PO]<;>try omega
 by_cases k3:v.kind=3
 ·have hD3:=hI.of.crash v.picks
  have hrc:=dW k.j.d hI.ok ⟨by omega,by omega⟩ v.picks (by omega)
  have hpE:=zfX v.picks
  simp (disch:=omega) [zz,k3]
  refine j6.of [4,5,6,0,1,2,3,7,8,9] [4,5,6] (by kernel_rfl) ?_
  simp (disch:=omega) [zz]
  (repeat with_reducible refine om ?_)
  refine uX B M hne.MB a.o k.j.d hI.ok ⟨by omega,by omega⟩ v.picks (by omega) _ (D2 K B M a k) (by simp[qH]) (by simp[q9,TV.er,AV.er,hpE]) fun B2 M2 o2 hMB2=>?_
  obtain⟨d3,hd3⟩:∃d3,d3=kP v.picks k.j.d:=⟨_,rfl⟩
  rw[<-hd3]at hrc hD3 |-
  simp (disch:=omega) [zz]
  (repeat with_reducible refine om ?_)
  refine XF hrc rfl rfl (by simp) (by simp[q9,TV.er,AV.er,e1,hpE]) ?_
  simp (disch:=omega) [zz]
  (repeat with_reducible refine om ?_)
  refine YO B2 M2 hMB2 o2 d3 n N (by omega) hD3 [] (by simp) (by simp[qH]) (by simp[q9,TV.er,AV.er]) (fun hb1 hb2=>?_) (fun k2 K2 a3 hk2 hka3 hne3=>?_)
  ·have hro:=QR d3 n N (by omega) hD3
   rw[hb1]at hro
   obtain⟨e,he⟩:∃e,e=(kQ (n:Int) d3).2.2:=⟨_,rfl⟩
   rw[<-he]at hb2 hro |-
   simp (disch:=omega) [zz]
   refine YE hro rfl rfl (by simp[qH]) (by simp[q9,TV.er,AV.er,jX]) ?_
   simp (disch:=omega) [zz,hb2]
   refine hE _ _ (by simp) ?_
   simp (disch:=omega) [zz,Tryz.f3]
  ·obtain⟨hI2,hd4,_,he0,_⟩:=(XK hD3).2 k2 hk2
   have hro:=QR d3 n N (by omega) hD3
   rw[hk2,he0,<-hd4]at hro
   simp (disch:=omega) [zz]
   refine YE hro rfl rfl (by simp[qH]) (by simp[q9,TV.er,AV.er,jX]) ?_
   simp (disch:=omega) [zz]
   refine hN _ ⟨i+1,B2,M2,K2,a3,k2⟩ ?_ ⟨by simp only;omega,hka3,hne3,hI2.up (by simp only;omega)⟩ (by simp only;omega)
   apply Le.of<;>simp[le9,zbT,rkO,PO]<;>try omega
 by_cases k6:v.kind=2
 ·have hbd:=zaW B M hne.MB a.o k.j.d (-1)
  have hrb:=pD k.j.d (-1)
  have hD:=hI.of.budget (n:=-1) (by omega)
  obtain⟨d2,hd2⟩:∃d2,d2=ZH (-1) k.j.d:=⟨_,rfl⟩
  rw[<-hd2]at hbd hrb hD
  simp (disch:=omega) [zz,k6]
  refine zaz K B M a k hka rfl (hbd.mono fun r H' h=>⟨h.1,a.o,h.2⟩) (by simp) (by simp[qH]) (by simp[q9,TV.er,AV.er]) fun a2 hka2 hne2=>?_
  simp (disch:=omega) [zz]
  refine YE hrb rfl rfl (by simp[qH]) (by simp[q9,TV.er,AV.er,e1]) ?_
  simp (disch:=omega) [zz]
  refine YO B M hne.MB a2.o d2 n N (by omega) hD _ (D2 K B M a2 ⟨⟨d2,k.j.br⟩,k.mo,k.M⟩) (by simp[qH]) (by simp[q9,TV.er,AV.er]) (fun hb1 hb2=>?_) (fun k2 K2 a3 hk2 hka3 hne3=>?_)
  ·have hro:=QR d2 n N (by omega) hD
   rw[hb1]at hro
   obtain⟨e,he⟩:∃e,e=(kQ (n:Int) d2).2.2:=⟨_,rfl⟩
   rw[<-he]at hb2 hro |-
   simp (disch:=omega) [zz]
   refine YE hro rfl rfl (by simp[qH]) (by simp[q9,TV.er,AV.er,jX]) ?_
   simp (disch:=omega) [zz,hb2]
   refine hE _ _ (by simp) ?_
   simp (disch:=omega) [zz,Tryz.f3]
  ·obtain⟨hI2,hd4,_,he0,_⟩:=(XK hD).2 k2 hk2
   have hro:=QR d2 n N (by omega) hD
   rw[hk2,he0,<-hd4]at hro
   simp (disch:=omega) [zz]
   refine YE hro rfl rfl (by simp[qH]) (by simp[q9,TV.er,AV.er,jX]) ?_
   simp (disch:=omega) [zz]
   refine hN _ ⟨i+1,B,M,K2,a3,k2⟩ ?_ ⟨by simp only;omega,hka3,hne3,hI2.up (by simp only;omega)⟩ (by simp only;omega)
   apply Le.of<;>simp[le9,zbT,rkO,PO]<;>try omega
 simp (disch:=omega) [zz,k0,k1,k4,k5,k3,k6]
 refine hN _ ⟨i+1,B,M,K,a,k⟩ ?_ ⟨by simp only;omega,hka,hne,hI.up (by simp only;omega)⟩ (by simp only;omega)
 apply Le.of<;>simp[le9,zbT]<;>try omega
end
end Go.Proofs.YtognnffjdckalaaGreatDoor
