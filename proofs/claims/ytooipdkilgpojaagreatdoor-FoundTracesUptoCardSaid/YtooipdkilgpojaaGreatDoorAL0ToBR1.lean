/- The chapter's example: plain. No condition beyond each theorem's own. -/
import Derived.Test.YtooipdkilgpojaaGreatDoorRW4ToGB1
import Derived.Test.YtooipdkilgpojaaGreatDoorBX7ToBL1
import Derived.Test.YtooipdkilgpojaaGreatDoorB0
import Derived.Test.YtooipdkilgpojaaGreatDoorAbSToSk
import Derived.Test.YtooipdkilgpojaaGreatDoorBR0ToKK1
set_option linter.unusedSimpArgs false
set_option linter.unusedVariables false
set_option linter.unusedSectionVars false
section
set_option maxRecDepth 100000
namespace Go.Proofs.YtooipdkilgpojaaGreatDoor
open Go Go.Ab
open Classical
variable [Sel] [SelPow] [SelMax]
def alTool:Txt:=[114,101,97,100,32,97,10,119,114,105,116,101,32,111,117,116,47,111,10]
def QG:Txt:=[111,117,116,47,111]
def zmu:Txt:=[114,101,97,100,32,97]
def znw:Txt:=[119,114,105,116,101,32,111,117,116,47,111]
def alAct:xW:=⟨[],[],alTool,[],[],[[42]],[QG]⟩
def alK:KnV:=⟨[97],true,[120]⟩
theorem PU:z7 alTool=[zmu,znw]:=by decide
theorem ziW:zR zmu=[zZ,[97]]:=by decide
theorem znd:zR znw=[j8,QG]:=by decide
theorem zis:DV alTool=(0,0):=by
 unfold DV
 rw[PU]
 rw[if_neg (by decide)]
 have h1:vH [zZ,[97]]=true:=by decide
 have h2:vH [j8,QG]=true:=by decide
 simp[zbZ,ziW,znd,h1,h2]
theorem zpF:∃cs,j7 alTool=.ok cs:=by
 rcases ze5 alTool with⟨cs,h,_⟩|⟨e,n,_,h,h0⟩
 ·exact⟨cs,h⟩
 ·rw[zis]at h
  exact absurd (congrArg Prod.fst h).symm h0
theorem zkA:(Y9 [] [] (z7 alTool) st0).stop=⟨1,[97],[],0⟩∧(Y9 [] [] (z7 alTool) st0).wrote=[]:=by
 have hp:U4 [zZ,[97]]=false:=by decide
 have hs:xT [] [] zmu [zZ,[97]] st0={ (st0:StV)with asked:=[[97]],stop:=⟨1,[97],[],0⟩ }:=by
  simp[xT,y7,st0,do0,zQ]
 rw[PU]
 simp only[Y9,ziW,hp,hs]
 simp[st0]
theorem zku:(Y9 [] [alK] (z7 alTool) st0).stop=⟨3,[],[],0⟩∧(Y9 [] [alK] (z7 alTool) st0).wrote=[⟨2,QG,[120],0⟩]:=by
 have hp:U4 [zZ,[97]]=false:=by decide
 have hp2:U4 [j8,QG]=false:=by decide
 have hs:xT [] [alK] zmu [zZ,[97]] st0={ (st0:StV)with asked:=[[97]],buf:=[120] }:=by
  simp[xT,y7,st0,do0,zQ,alK,yP]
 have e1:¬(j8=zZ∨j8=w8):=by decide
 have e2:¬j8=jT:=by decide
 have e3:¬j8=tText:=by decide
 have e4:¬j8=yO:=by decide
 have e5:¬j8=yR:=by decide
 have e6:¬j8=kG:=by decide
 have e7:¬j8=wQ:=by decide
 have hs2:xT [] [alK] znw [j8,QG] { (st0:StV)with asked:=[[97]],buf:=[120] }={ (st0:StV)with asked:=[[97]],buf:=[],wrote:=[⟨2,QG,[120],0⟩] }:=by
  simp only[xT,List.getD_cons_zero,e1,e2,e3,e4,e5,e6,e7,if_false,if_true]
  simp[st0]
 rw[PU]
 simp only[Y9,ziW,znd,hp,hp2,hs,hs2]
 simp[st0,do0]
theorem znL:jI alAct [97]=true:=by
 have h1:wL [42] [97]=true:=by decide
 simp[jI,pJ,alAct,QG,h1]
structure zpd (cs:List CmdV) (b b':BoxV):Prop where
 k0:Z4 [] cs [QG] (jI alAct) [] b
 k1:Z4 [] cs [QG] (jI alAct) [alK] b'
 give:kB alK b=(0,b')
 asks:b.asks=[97]
 open_:b.over=false
 out:yD b'=(⟨1,0,[⟨QG,[120]⟩],[⟨[97],true,sha [120]⟩]⟩,true)
theorem zms:∃cs,j7 alTool=.ok cs∧∃b',zpd cs (ZR [] [QG] (jI alAct) cs) b':=by
 obtain⟨cs,hcs⟩:=zpF
 refine⟨cs,hcs,?_⟩
 have h0:=zbj hcs (env:=[]) (by simp) (by simp) [QG] (jI alAct)
 obtain⟨b,hb⟩:∃b,b=ZR [] [QG] (jI alAct) cs:=⟨_,rfl⟩
 rw[←hb]at h0 ⊢
 obtain⟨_,i,hi⟩:=XU hcs
 have hfl:zh5 [] cs (z7 alTool):=⟨⟨i,hi⟩⟩
 obtain⟨f1,f2⟩:=zkA
 obtain⟨g1,g2⟩:=zku
 obtain⟨wr,hs⟩:=h0.s
 have hw:b.asks=[97]∧b.over=false:=by
  cases (hs.far hfl).1 with
  | waits h1 h2 h3 h4 h5 h6=>rw[f1]at h3;exact⟨h3,h4⟩
  | read h1 h2=>rw[f1]at h2;rw[znL]at h2;cases h2
  | ended h1=>rw[f1]at h1;cases h1
  | short h1=>rw[f1]at h1;cases h1
  | failed h1=>rw[f1]at h1;cases h1
  | wrote wr d h1=>rw[f2]at h1;simp at h1
 obtain⟨hg,hk1⟩:=h0.give alK hw.2 hw.1.symm (by decide)
 refine⟨(kB alK b).2,h0,hk1,by rw[←hg],hw.1,hw.2,?_⟩
 obtain⟨b',hb'⟩:∃b',b'=(kB alK b).2:=⟨_,rfl⟩
 rw[←hb']at hk1 ⊢
 obtain⟨wr',hs'⟩:=hk1.s
 have hr:=hs'.reads
 have hf:=(hs'.far hfl).1
 simp only[List.nil_append]at hf hr
 have hin:∀p∈[QG],p∈([⟨2,QG,[120],0⟩]:List DoV).map (·.path):=by simp
 have h2:b'.over=true∧b'.why=0∧b'.wrote=[(QG,[120])]:=by
  cases hf with
  | waits h1=>rw[g1]at h1;cases h1
  | read h1=>rw[g1]at h1;cases h1
  | ended h1 h2 h3 h4 h5=>rw[g2]at h5;exact⟨h3,h4,h5⟩
  | short h1 h2=>rw[g2]at h2;exact absurd hin h2
  | failed h1=>rw[g1]at h1;cases h1
  | wrote wr d h1 h2 =>
   rw[g2]at h1
   have hl:=h1.length_le
   simp only[List.length_append,List.length_cons,List.length_nil]at hl
   obtain rfl:wr=[]:=List.length_eq_zero_iff.1 (by omega)
   simp only[List.nil_append]at h1
   have hd:d=⟨2,QG,[120],0⟩:=by
    obtain⟨m,hm⟩:=h1
    simp only[List.cons_append,List.nil_append,List.cons.injEq]at hm
    exact hm.1
   subst hd
   rcases h2 with h2|h2<;>simp at h2
 unfold yD
 rw[if_neg (by rw[h2.1];decide),if_pos h2.2.1]
 have ho:ZH b'=[⟨QG,[120]⟩]:=by
  unfold ZH
  rw[h2.2.2]
  simp[kK]
 rw[ho,hr]
 rfl
theorem zlL:zky alAct:=by
 refine⟨by decide,by decide,by simp[alAct],by decide,by decide,?_,by decide⟩
 intro x hx
 simp[alAct]at hx
 subst hx
 decide
set_option maxHeartbeats 16000000 in
theorem VZ:PC Tryz.prog 6 [] (.av .bool (.b true)):=by
 obtain⟨cs,hcs,b',hal⟩:=zms
 have hnew:=DZ alAct zlL
 unfold zes at hnew
 rw[show alAct.tool=alTool from rfl,hcs]at hnew
 simp only at hnew
 have hte:alTool=[114,101,97,100,32,97,10,119,114,105,116,101,32,111,117,116,47,111,10]:=rfl
 have hae:kT alAct=.agg [.agg [.s [],.s []],.s alTool,.sl .no [],.sl .no [],.sl .no [.s [42]],.sl .no [.s [111,117,116,47,111]]]:=rfl
 refine PC.of <| q7.of_vc laid mixed Tryz.func6 rfl cf0 (by kernel_rfl) (by simp[Tryz.ntmps6]) fun imm0 w0=>?_
 (simp (maxSteps:=2000000) (disch:=first|omega|assumption) [zz,-List.reduceReplicate])
 refine jP (R:=fun r H'=>∃B,r=.tup [(.ptr,.ptr B KD []),(.int .i64,.i .i64 0)]∧jJ B (ZR alAct.env alAct.outs (jI alAct) cs) H') rfl (by simp[qQ]) (by simp) ?_ ?_
 ·rw[hae,hte]at hnew
  simpa[TV.er,AV.er,AV.ers,q8.er_nil]using hnew
 rintro r H ⟨B,rfl,hH⟩
 have hbe:ZR alAct.env alAct.outs (jI alAct) cs=ZR [] [QG] (jI alAct) cs:=rfl
 rw[hbe]at hH
 obtain⟨b,hb⟩:∃b,b=ZR [] [QG] (jI alAct) cs:=⟨_,rfl⟩
 rw[←hb]at hH hal
 obtain⟨k0,k1,hg,ha,ho,hout⟩:=hal
 have hHe:=hH.er
 (simp (maxSteps:=2000000) (disch:=first|omega|assumption) [zz,-List.reduceReplicate])
 refine qE (R:=fun y H'=>y=.tup [(.str,.s [97]),(.bool,.b true)]∧jJ B b H') H [] (by simp) rfl (by simp[qQ]) (by simp) ?_ ?_
 ·rw[hHe]
  have:=zci B hH
  rw[ho,ha]at this
  simpa[TV.er,AV.er]using this
 rintro y H1 ⟨rfl,hH1⟩ _
 refine⟨H1,by simpa using HSub.refl _,?_⟩
 have hHe1:=hH1.er
 (simp (maxSteps:=2000000) (disch:=first|omega|assumption) [zz,-List.reduceReplicate])
 refine qE (R:=fun y H'=>y=.av (.int .i64) (.i .i64 0)∧jJ B b' H') H1 [] (by simp) rfl (by simp[qQ]) (by simp) ?_ ?_
 ·rw[hHe1]
  have:=dW B hH1 k0.g alK (by decide) (by have:=k0.rl;omega) (fun h1 h2 h3=>k0.can alK h1 h2 (by decide))
  rw[hg]at this
  simpa[TV.er,AV.er,AV.ers,zH,alK]using this
 rintro y H2 ⟨rfl,hH2⟩ _
 refine⟨H2,by simpa using HSub.refl _,?_⟩
 have hHe2:=hH2.er
 (simp (maxSteps:=2000000) (disch:=first|omega|assumption) [zz,-List.reduceReplicate])
 refine qE (R:=fun y H'=>y=.tup [(qD Tryz.prog 41,zI ⟨1,0,[⟨QG,[120]⟩],[⟨[97],true,sha [120]⟩]⟩),(.bool,.b true)]∧jJ B b' H') H2 [] (by simp) rfl (by simp[qQ]) (by simp) ?_ ?_
 ·rw[hHe2]
  have:=QN B hH2 (by have:=k1.rl;omega) (k1.wl (by decide))
  rw[hout]at this
  simpa[TV.er,AV.er]using this
 rintro y H3 ⟨rfl,hH3⟩ _
 refine⟨H3,by simpa using HSub.refl _,?_⟩
 (simp (maxSteps:=2000000) (disch:=first|omega|assumption) [zz,-List.reduceReplicate,zI,zU,qF,jZ,QG,Tryz.f6])
end Go.Proofs.YtooipdkilgpojaaGreatDoor
end
section
set_option maxRecDepth 100000
namespace Go.Proofs.YtooipdkilgpojaaGreatDoor
open Go Go.Ab
open Classical
variable [Sel]
theorem AT.seqF {c:Ctx} {x y:Code} {K:Exit→St→Prop} {s:St} (P:St→Prop) (fin:∀s',P s'→AT c y K s') (h:AT c x (zbS P K) s):AT c (.seq x y) K s :=
 AT.seq (h.mono fun e s' hk=>by cases e with
  | normal=>exact fin _ hk
  | _=>exact hk)
def tkG (d:Nat):Nat→Tok
 | 0=>.full
 | k+1=>.own d (k+1)
theorem zD9 {P:Program} {s:St} {d n:Nat} {e:TypeId} {xs ys:List AV} {K:St→Prop} (hv:s.ver d=n) (h1:2*(xs.length+ys.length)*P.bytesOf e≤281474976710656) (h2:xs.length+ys.length≤4611686018427387904) (h3:zB P e=true) (h4:jX P e=true)
  (hk:K (({ s with ver:=upd s.ver d (n+1) }:St).put (some d) (.av (.slice e) (.sl (tkG d (n+1)) (xs++ys))))):wB P s d e (tkG d n) xs ys K:=by
 refine⟨h1,h2,h3,h4,?_⟩
 cases n with
 | zero=>simpa only[tkG,hv]using hk
 | succ n =>
  refine⟨hv,?_⟩
  have:upd (upd s.ver d (s.ver d+1)) d (s.ver d+1)=upd s.ver d (s.ver d+1):=by
   funext j;simp only[upd];split<;>rfl
  rw[this,hv]
  exact hk
end Go.Proofs.YtooipdkilgpojaaGreatDoor
end
section
set_option maxRecDepth 100000
namespace Go.Proofs.YtooipdkilgpojaaGreatDoor
open Go Go.Ab
open Classical
variable [Sel] [SelPow] [SelMax]
def J8:List (List Txt)→Nat
 | []=>0
 | x::l=>txW x+J8 l
theorem gC:∀a b:List (List Txt),J8 (a++b)=J8 a+J8 b
 | [],b=>by simp[J8]
 | x::a,b=>by simp only[List.cons_append,J8,gC a b];omega
theorem zeL (l:List (List Txt)) (k:Nat):J8 (l.take k)≤J8 l:=by
 conv=>rhs;rw[←List.take_append_drop k l,gC]
 omega
theorem zf7 (l:List (List Txt)) (k:Nat) (h:k<l.length):J8 (l.take (k+1))=J8 (l.take k)+txW l[k]:=by
 rw[List.take_succ_eq_append_getElem h,gC];simp only[J8];omega
def UY (l:List Txt):AV:=.sl .no (strs l)
theorem zm7 (l:List (List Txt)) (k:Nat) (h:k<l.length):(l.map UY)[k]?=some (UY l[k]):=KB UY l k h
set_option maxHeartbeats 8000000 in
theorem d8 (a:xW) (hl:vA a≤1000000000):PC Tryz.prog 7 [.av UI (kT a)] (.av .bool (.b (decide (2000<vA a)))):=by
 obtain⟨pkg,name,tool,env,ins,asks,outs⟩:=a
 obtain⟨rows,hrows⟩:∃rows,rows=[ins,asks,outs]:=⟨_,rfl⟩
 have hrl:rows.length=3:=by rw[hrows];rfl
 have hW:vA ⟨pkg,name,tool,env,ins,asks,outs⟩=tool.length+J8 rows+enW env:=by
  rw[hrows];simp only[vA,J8];omega
 have hel:=pU env
 rw[hW]at hl ⊢
 have hrm:AV.sl Tok.no (rows.map UY)=.sl .no [.sl .no (strs ins),.sl .no (strs asks),.sl .no (strs outs)]:=by rw[hrows];rfl
 obtain⟨A,hA⟩:∃A,A=kT ⟨pkg,name,tool,env,ins,asks,outs⟩:=⟨_,rfl⟩
 have hA':A=.agg [.agg [.s pkg,.s name],.s tool,.sl .no (env.map Z7),.sl .no (strs ins),.sl .no (strs asks),.sl .no (strs outs)]:=by rw[hA];rfl
 refine PC.of <| q7.of_vc laid mixed Tryz.func7 rfl cf0 (by kernel_rfl) (by simp[Tryz.ntmps7]) fun imm0 w0=>?_
 (simp (maxSteps:=2000000) (disch:=first|omega|assumption) [zz,-List.reduceReplicate,kT,zS])
 refine AT.loop' (α:=Nat) (fun k=>St.of [(1,.loc 1 []),(19,.av (.slice 25) (.sl .no (rows.map UY))),(20,.av (.int .i64) (.i .i64 3)),(21,.av (.int .i64) (.i .i64 k)),(3,.av (.int .i64) (.i .i64 (tool.length+J8 (rows.take k):Nat)))] [(1,(UI,A))] (fun _=>0) [])
  (fun k=>k≤3) (fun k=>3-k) 0 ?_ ?_ ?_
 ·refine Le.of ?_ ?_ ?_ ?_ ?_<;>simp[qU,qG,J8,hA',hrm]<;>try omega
 ·omega
 rintro k hk KL hN hE
 refine qM (cf:=cf0) laid mixed _ _ _ (by kernel_rfl) ?_
 by_cases hlt:k<3
 ·have hlt':(k:Int)<3:=by omega
  have hkr:k<rows.length:=by omega
  have hg:=zm7 rows k hkr
  have hst:=zf7 rows k hkr
  have hle:=zeL rows (k+1)
  obtain⟨row,hrow⟩:∃row,row=rows[k]:=⟨_,rfl⟩
  rw[←hrow]at hst hg
  obtain⟨n0,hn0⟩:∃n0,n0=tool.length+J8 (rows.take k):=⟨_,rfl⟩
  have hn1:tool.length+J8 (rows.take (k+1))=n0+txW row:=by omega
  rw[←hn0]
  have hrl2:=WB row
  (simp (maxSteps:=2000000) (disch:=first|omega|assumption) [zz,-List.reduceReplicate,hlt',hg,hrl,UY])
  refine AT.loop' (α:=Nat) (fun j=>St.of [(1,.loc 1 []),(19,.av (.slice 25) (.sl .no (rows.map UY))),(20,.av (.int .i64) (.i .i64 3)),(21,.av (.int .i64) (.i .i64 k)),(25,.av (.slice 9) (.sl .no (strs row))),(26,.av (.int .i64) (.i .i64 row.length)),(27,.av (.int .i64) (.i .i64 j)),(3,.av (.int .i64) (.i .i64 (n0+txW (row.take j):Nat)))] [(1,(UI,A))] (fun _=>0) [])
   (fun j=>j≤row.length) (fun j=>row.length-j) 0 ?_ ?_ ?_
  ·refine Le.of ?_ ?_ ?_ ?_ ?_<;>simp[qU,qG,txW,qX]<;>try omega
  ·omega
  rintro j hj KL2 hN2 hE2
  refine qM (cf:=cf0) laid mixed _ _ _ (by kernel_rfl) ?_
  by_cases hjl:j<row.length
  ·have hjl':(j:Int)<row.length:=by omega
   have hgj:=yH row j hjl
   have hs:=zhM row j hjl
   have ht:=zjA row (j+1)
   obtain⟨m,hm⟩:∃m,m=txW (row.take j):=⟨_,rfl⟩
   rw[←hm]at hs ⊢
   have hs':(txW (row.take (j+1)):Int)=m+(row[j].length+1):=by omega
   (simp (maxSteps:=2000000) (disch:=first|omega|assumption) [zz,-List.reduceReplicate,hjl',hgj,qX])
   refine hN2 _ (j+1) ?_ (by omega) (by omega)
   refine Le.of ?_ ?_ ?_ ?_ ?_<;>simp[qU,qG,qX,hs']<;>try omega
  ·have hjn:j=row.length:=by omega
   subst hjn
   have hjl':¬(row.length:Int)<row.length:=by omega
   (simp (maxSteps:=2000000) (disch:=first|omega|assumption) [zz,-List.reduceReplicate,hjl',qX])
   refine hE2 _ _ (by simp) ?_
   (simp (maxSteps:=2000000) (disch:=first|omega|assumption) [zz,-List.reduceReplicate])
   refine hN _ (k+1) ?_ (by omega) (by omega)
   rw[hn1]
   refine Le.of ?_ ?_ ?_ ?_ ?_<;>simp[qU,qG,zX]<;>try omega
 ·have hkn:k=3:=by omega
  subst hkn
  have ht3:rows.take 3=rows:=List.take_of_length_le (by omega)
  rw[ht3]
  (simp (maxSteps:=2000000) (disch:=first|omega|assumption) [zz,-List.reduceReplicate])
  refine hE _ _ (by simp) ?_
  (simp (maxSteps:=2000000) (disch:=first|omega|assumption) [zz,-List.reduceReplicate,hA'])
  obtain⟨n0,hn0⟩:∃n0,n0=tool.length+J8 rows:=⟨_,rfl⟩
  rw[←hn0]at hl ⊢
  refine AT.loop' (α:=Nat) (fun j=>St.of [(39,.av (.slice 85) (.sl .no (env.map Z7))),(40,.av (.int .i64) (.i .i64 env.length)),(41,.av (.int .i64) (.i .i64 j)),(3,.av (.int .i64) (.i .i64 (n0+enW (env.take j):Nat)))] [] (fun _=>0) [])
   (fun j=>j≤env.length) (fun j=>env.length-j) 0 ?_ ?_ ?_
  ·refine Le.of ?_ ?_ ?_ ?_ ?_<;>simp[qU,qG,enW,hn0]<;>try omega
  ·omega
  rintro j hj KL2 hN2 hE2
  refine qM (cf:=cf0) laid mixed _ _ _ (by kernel_rfl) ?_
  by_cases hjl:j<env.length
  ·have hjl':(j:Int)<env.length:=by omega
   have hgj:=KB Z7 env j hjl
   have hs:=ziz env j hjl
   have ht:=zjF env (j+1)
   obtain⟨m,hm⟩:∃m,m=enW (env.take j):=⟨_,rfl⟩
   rw[←hm]at hs ⊢
   have hs':(enW (env.take (j+1)):Int)=m+(env[j].1.length+env[j].2.length+1):=by omega
   (simp (maxSteps:=2000000) (disch:=first|omega|assumption) [zz,-List.reduceReplicate,hjl',hgj,Z7])
   refine hN2 _ (j+1) ?_ (by omega) (by omega)
   refine Le.of ?_ ?_ ?_ ?_ ?_<;>simp[qU,qG,hs']<;>try omega
  ·have hjn:j=env.length:=by omega
   subst hjn
   have hjl':¬(env.length:Int)<env.length:=by omega
   (simp (maxSteps:=2000000) (disch:=first|omega|assumption) [zz,-List.reduceReplicate,hjl'])
   refine hE2 _ _ (by simp) ?_
   by_cases h5:2000<n0+enW env
   ·have h5':(2000:Int)<(n0:Int)+enW env:=by omega
    (simp (maxSteps:=2000000) (disch:=first|omega|assumption) [zz,-List.reduceReplicate,h5,h5',Tryz.f7])
   ·have h5':¬(2000:Int)<(n0:Int)+enW env:=by omega
    (simp (maxSteps:=2000000) (disch:=first|omega|assumption) [zz,-List.reduceReplicate,h5,h5',Tryz.f7])
end Go.Proofs.YtooipdkilgpojaaGreatDoor
end
