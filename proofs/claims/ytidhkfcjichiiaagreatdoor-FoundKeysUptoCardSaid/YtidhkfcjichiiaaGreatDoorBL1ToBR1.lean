/- A box goes on by what is known: the law's own loop. No condition beyond each theorem's own. -/
import Derived.Test.YtidhkfcjichiiaaGreatDoorBR0ToKK1
import Derived.Test.YtidhkfcjichiiaaGreatDoorBX7
import Derived.Test.YtidhkfcjichiiaaGreatDoorRW3ToGB1
set_option linter.unusedSimpArgs false
set_option linter.unusedVariables false
set_option linter.unusedSectionVars false
section
set_option maxRecDepth 100000
namespace Go.Proofs.YtidhkfcjichiiaaGreatDoor
open Go Go.Ab
open Classical
variable [Sel] [SelPow] [SelMax]
@[simp] theorem zoA:qZ Tryz.prog 14=true:=by kernel_rfl
@[simp] theorem zrs:z8 Tryz.prog (.func 14)=false:=q9 zoA
@[simp] theorem zxc:qZ Tryz.prog 9=true:=by kernel_rfl
@[simp] theorem zxC:z8 Tryz.prog (.func 9)=false:=q9 zxc
@[simp] theorem zpx:qZ Tryz.prog 3=true:=by kernel_rfl
@[simp] theorem zsY:z8 Tryz.prog (.func 3)=false:=q9 zpx
@[simp] theorem zps:qZ Tryz.prog 4=true:=by kernel_rfl
@[simp] theorem zt8:z8 Tryz.prog (.func 4)=false:=q9 zps
@[simp] theorem zkS:qZ Tryz.prog 107=true:=by kernel_rfl
@[simp] theorem zqo:z8 Tryz.prog (.func 107)=false:=q9 zkS
@[simp] theorem znU:qZ Tryz.prog 57=true:=by kernel_rfl
@[simp] theorem zrA:z8 Tryz.prog (.func 57)=false:=q9 znU
structure Z4 (env:List (Txt × Txt)) (cs:List CmdV) (outs:List Txt) (may:Txt→Bool) (kn:List KnV) (b:BoxV):Prop where
 g:ZJ b
 s:∃wr,WY env (C9 cs) kn outs may wr b
section
variable {env:List (Txt × Txt)} {cs:List CmdV} {outs:List Txt} {may:Txt→Bool} {kn:List KnV} {b:BoxV}
theorem Z4.rl (h:Z4 env cs outs may kn b):b.reads.length≤500:=by
 obtain⟨wr,hs⟩:=h.s
 rw[hs.reads,List.length_map];exact hs.len
theorem Z4.wl (h:Z4 env cs outs may kn b) (ho:outs.length≤1000000):b.wrote.length≤1000000:=by
 obtain⟨wr,hs⟩:=h.s
 have h1:(wr.map (·.path)).length≤outs.length:=List.Nodup.length_le_of_subset hs.nod fun p hp=>by
  obtain⟨w,hw,rfl⟩:=List.mem_map.1 hp
  exact hs.own w hw
 rw[hs.wrote,List.length_map]
 simp only[List.length_map]at h1
 omega
theorem Z4.can (h:Z4 env cs outs may kn b) (k:KnV) (ho:b.over=false) (hp:k.path=b.asks) (hd:k.is=true→k.data.length≤65536):zg6 k b:=by
 obtain⟨wr,hs⟩:=h.s
 obtain⟨h1,h2⟩:=hs.tell ho k hp hd
 exact⟨h2,⟨h.g.good.give k (fun h=>by have:=hd h;omega),h.g.ask.give h.g.good.inv k,h1.at_.ov,h1.no2⟩,⟨_,(V7 h1).1⟩⟩
theorem Z4.give (h:Z4 env cs outs may kn b) (k:KnV) (ho:b.over=false) (hp:k.path=b.asks) (hd:k.is=true→k.data.length≤65536):(kB k b).1=0∧Z4 env cs outs may (kn++[k]) (kB k b).2:=by
 have hc:=h.can k ho hp hd
 obtain⟨wr,hs⟩:=h.s
 obtain⟨h1,m,h2⟩:=hs.give ho k hp hd
 refine⟨h1,?_,_,h2⟩
 have hv:(kB k b).2=yQ (c9 k b):=by unfold kB;rw[if_neg (by rw[ho];decide),if_neg (by simp[hp]),if_neg (fun h=>by have:=hd h.1;omega)];rfl
 obtain⟨n,hn⟩:=hc.go
 rw[hv]
 exact ZJ.goN n hn hc.good
end
theorem zbj {t:Txt} {cs:List CmdV} (h:j7 t=.ok cs) {env:List (Txt × Txt)} (h1:env.length≤1000000000) (h2:∀x∈env,x.2.length≤1000000000000000) (outs:List Txt) (may:Txt→Bool):Z4 env cs outs may [] (ZR env outs may cs):=by
 have hl:=y8 h
 have hgo:=(V7 (zeZ env outs may cs hl)).1
 exact⟨ZJ.goN _ hgo (za8 h h1 h2 outs may),zec env outs may cs hl⟩
theorem KN {b:BoxV} (h:b.over=false):yD b=(⟨0,0,[],[]⟩,false):=by unfold yD;rw[if_pos h]
theorem uJ {b:BoxV} (h:b.over=true):(yD b).2=true:=by
 unfold yD
 rw[if_neg (by rw[h];decide)]
 split<;>rfl
theorem Z4.askl {env:List (Txt × Txt)} {cs:List CmdV} {outs:List Txt} {may:Txt→Bool} {kn:List KnV} {b:BoxV} (h:Z4 env cs outs may kn b) (ho:b.over=false):b.asks.length≤1040:=by
 obtain⟨wr,hs⟩:=h.s
 cases hs.e with
 | waits d hs' h1 hm hw ha ha2 h3 h4=>rw[ha2];exact zct (h.g.ask.ak hw)
 | read d _ _ _ h3 _=>rw[h3]at ho;cases ho
 | ended d _ _ _ h3 _=>rw[h3]at ho;cases ho
 | short d _ _ _ h3 _=>rw[h3]at ho;cases ho
 | failed d _ _ _ h3 _=>rw[h3]at ho;cases ho
 | wrote d _ _ h3 _=>rw[h3]at ho;cases ho
end Go.Proofs.YtidhkfcjichiiaaGreatDoor
end
section
set_option maxRecDepth 100000
namespace Go.Proofs.YtidhkfcjichiiaaGreatDoor
open Go Go.Ab
open Classical
variable [Sel] [SelPow] [SelMax]
def alTool:Txt:=[114,101,97,100,32,97,10,119,114,105,116,101,32,111,117,116,47,111,10]
def QG:Txt:=[111,117,116,47,111]
def zmu:Txt:=[114,101,97,100,32,97]
def znw:Txt:=[119,114,105,116,101,32,111,117,116,47,111]
def zwH:xW:=⟨[],[],alTool,[],[],[[42]],[QG]⟩
def alK:KnV:=⟨[97],true,[120]⟩
theorem PU:z7 alTool=[zmu,znw]:=by decide
theorem ziW:zR zmu=[zZ,[97]]:=by decide
theorem znd:zR znw=[j8,QG]:=by decide
theorem zis:DV alTool=(0,0):=by
 unfold DV
 rw[PU]
 rw[if_neg (by decide)]
 have h1:vH [zZ,[97]]=true:=by decide
 have h2:vH [j8,QG]=true:=by decide
 simp[zbZ,ziW,znd,h1,h2]
theorem zpF:∃cs,j7 alTool=.ok cs:=by
 rcases ze5 alTool with⟨cs,h,_⟩|⟨e,n,_,h,h0⟩
 ·exact⟨cs,h⟩
 ·rw[zis]at h
  exact absurd (congrArg Prod.fst h).symm h0
theorem zkA:(Y9 [] [] (z7 alTool) st0).stop=⟨1,[97],[],0⟩∧(Y9 [] [] (z7 alTool) st0).wrote=[]:=by
 have hp:U4 [zZ,[97]]=false:=by decide
 have hs:xT [] [] zmu [zZ,[97]] st0={ (st0:StV)with asked:=[[97]],stop:=⟨1,[97],[],0⟩ }:=by
  simp[xT,y7,st0,do0,zQ]
 rw[PU]
 simp only[Y9,ziW,hp,hs]
 simp[st0]
structure zpd (cs:List CmdV) (b b':BoxV):Prop where
 k0:Z4 [] cs [QG] (jI zwH) [] b
 k1:Z4 [] cs [QG] (jI zwH) [alK] b'
 give:kB alK b=(0,b')
 asks:b.asks=[97]
 open_:b.over=false
 out:yD b'=(⟨1,0,[⟨QG,[120]⟩],[⟨[97],true,sha [120]⟩]⟩,true)
end Go.Proofs.YtidhkfcjichiiaaGreatDoor
end
section
set_option maxRecDepth 100000
namespace Go.Proofs.YtidhkfcjichiiaaGreatDoor
open Go Go.Ab
open Classical
variable [Sel] [SelPow] [SelMax]
end Go.Proofs.YtidhkfcjichiiaaGreatDoor
end
section
set_option maxRecDepth 100000
namespace Go.Proofs.YtidhkfcjichiiaaGreatDoor
open Go Go.Ab
open Classical
variable [Sel] [SelPow] [SelMax]
def J8:List (List Txt)→Nat
 | []=>0
 | x::l=>txW x+J8 l
theorem gC:∀a b:List (List Txt),J8 (a++b)=J8 a+J8 b
 | [],b=>by simp[J8]
 | x::a,b=>by simp only[List.cons_append,J8,gC a b];omega
theorem zeL (l:List (List Txt)) (k:Nat):J8 (l.take k)≤J8 l:=by
 conv=>rhs;rw[←List.take_append_drop k l,gC]
 omega
theorem zf7 (l:List (List Txt)) (k:Nat) (h:k<l.length):J8 (l.take (k+1))=J8 (l.take k)+txW l[k]:=by
 rw[List.take_succ_eq_append_getElem h,gC];simp only[J8];omega
def UY (l:List Txt):AV:=.sl .no (strs l)
theorem zm7 (l:List (List Txt)) (k:Nat) (h:k<l.length):(l.map UY)[k]?=some (UY l[k]):=KB UY l k h
set_option maxHeartbeats 8000000 in
theorem d8 (a:xW) (hl:vA a≤1000000000):PC Tryz.prog 10 [.av UI (kT a)] (.av .bool (.b (decide (2000<vA a)))):=by
 obtain⟨pkg,name,tool,env,ins,asks,outs⟩:=a
 obtain⟨rows,hrows⟩:∃rows,rows=[ins,asks,outs]:=⟨_,rfl⟩
 have hrl:rows.length=3:=by rw[hrows];rfl
 have hW:vA ⟨pkg,name,tool,env,ins,asks,outs⟩=tool.length+J8 rows+enW env:=by
  rw[hrows];simp only[vA,J8];omega
 have hel:=pU env
 rw[hW]at hl ⊢
 have hrm:AV.sl Tok.no (rows.map UY)=.sl .no [.sl .no (strs ins),.sl .no (strs asks),.sl .no (strs outs)]:=by rw[hrows];rfl
 obtain⟨A,hA⟩:∃A,A=kT ⟨pkg,name,tool,env,ins,asks,outs⟩:=⟨_,rfl⟩
 have hA':A=.agg [.agg [.s pkg,.s name],.s tool,.sl .no (env.map Z7),.sl .no (strs ins),.sl .no (strs asks),.sl .no (strs outs)]:=by rw[hA];rfl
 refine PC.of <| q7.of_vc laid mixed Tryz.func10 rfl cf0 (by kernel_rfl) (by simp[Tryz.ntmps10]) fun imm0 w0=>?_
 (simp (maxSteps:=2000000) (disch:=first|omega|assumption) [zz,-List.reduceReplicate,kT,zS])
 refine AT.loop' (α:=Nat) (fun k=>St.of [(1,.loc 1 []),(19,.av (.slice 25) (.sl .no (rows.map UY))),(20,.av (.int .i64) (.i .i64 3)),(21,.av (.int .i64) (.i .i64 k)),(3,.av (.int .i64) (.i .i64 (tool.length+J8 (rows.take k):Nat)))] [(1,(UI,A))] (fun _=>0) [])
  (fun k=>k≤3) (fun k=>3-k) 0 ?_ ?_ ?_
 ·refine Le.of ?_ ?_ ?_ ?_ ?_<;>simp[qU,qG,J8,hA',hrm]<;>try omega
 ·omega
 rintro k hk KL hN hE
 refine qM (cf:=cf0) laid mixed _ _ _ (by kernel_rfl) ?_
 by_cases hlt:k<3
 ·have hlt':(k:Int)<3:=by omega
  have hkr:k<rows.length:=by omega
  have hg:=zm7 rows k hkr
  have hst:=zf7 rows k hkr
  have hle:=zeL rows (k+1)
  obtain⟨row,hrow⟩:∃row,row=rows[k]:=⟨_,rfl⟩
  rw[←hrow]at hst hg
  obtain⟨n0,hn0⟩:∃n0,n0=tool.length+J8 (rows.take k):=⟨_,rfl⟩
  have hn1:tool.length+J8 (rows.take (k+1))=n0+txW row:=by omega
  rw[←hn0]
  have hrl2:=WB row
  (simp (maxSteps:=2000000) (disch:=first|omega|assumption) [zz,-List.reduceReplicate,hlt',hg,hrl,UY])
  refine AT.loop' (α:=Nat) (fun j=>St.of [(1,.loc 1 []),(19,.av (.slice 25) (.sl .no (rows.map UY))),(20,.av (.int .i64) (.i .i64 3)),(21,.av (.int .i64) (.i .i64 k)),(25,.av (.slice 9) (.sl .no (strs row))),(26,.av (.int .i64) (.i .i64 row.length)),(27,.av (.int .i64) (.i .i64 j)),(3,.av (.int .i64) (.i .i64 (n0+txW (row.take j):Nat)))] [(1,(UI,A))] (fun _=>0) [])
   (fun j=>j≤row.length) (fun j=>row.length-j) 0 ?_ ?_ ?_
  ·refine Le.of ?_ ?_ ?_ ?_ ?_<;>simp[qU,qG,txW,qX]<;>try omega
  ·omega
  rintro j hj KL2 hN2 hE2
  refine qM (cf:=cf0) laid mixed _ _ _ (by kernel_rfl) ?_
  by_cases hjl:j<row.length
  ·have hjl':(j:Int)<row.length:=by omega
   have hgj:=yH row j hjl
   have hs:=zhM row j hjl
   have ht:=zjA row (j+1)
   obtain⟨m,hm⟩:∃m,m=txW (row.take j):=⟨_,rfl⟩
   rw[←hm]at hs ⊢
   have hs':(txW (row.take (j+1)):Int)=m+(row[j].length+1):=by omega
   (simp (maxSteps:=2000000) (disch:=first|omega|assumption) [zz,-List.reduceReplicate,hjl',hgj,qX])
   refine hN2 _ (j+1) ?_ (by omega) (by omega)
   refine Le.of ?_ ?_ ?_ ?_ ?_<;>simp[qU,qG,qX,hs']<;>try omega
  ·have hjn:j=row.length:=by omega
   subst hjn
   have hjl':¬(row.length:Int)<row.length:=by omega
   (simp (maxSteps:=2000000) (disch:=first|omega|assumption) [zz,-List.reduceReplicate,hjl',qX])
   refine hE2 _ _ (by simp) ?_
   (simp (maxSteps:=2000000) (disch:=first|omega|assumption) [zz,-List.reduceReplicate])
   refine hN _ (k+1) ?_ (by omega) (by omega)
   rw[hn1]
   refine Le.of ?_ ?_ ?_ ?_ ?_<;>simp[qU,qG,zX]<;>try omega
 ·have hkn:k=3:=by omega
  subst hkn
  have ht3:rows.take 3=rows:=List.take_of_length_le (by omega)
  rw[ht3]
  (simp (maxSteps:=2000000) (disch:=first|omega|assumption) [zz,-List.reduceReplicate])
  refine hE _ _ (by simp) ?_
  (simp (maxSteps:=2000000) (disch:=first|omega|assumption) [zz,-List.reduceReplicate,hA'])
  obtain⟨n0,hn0⟩:∃n0,n0=tool.length+J8 rows:=⟨_,rfl⟩
  rw[←hn0]at hl ⊢
  refine AT.loop' (α:=Nat) (fun j=>St.of [(39,.av (.slice 103) (.sl .no (env.map Z7))),(40,.av (.int .i64) (.i .i64 env.length)),(41,.av (.int .i64) (.i .i64 j)),(3,.av (.int .i64) (.i .i64 (n0+enW (env.take j):Nat)))] [] (fun _=>0) [])
   (fun j=>j≤env.length) (fun j=>env.length-j) 0 ?_ ?_ ?_
  ·refine Le.of ?_ ?_ ?_ ?_ ?_<;>simp[qU,qG,enW,hn0]<;>try omega
  ·omega
  rintro j hj KL2 hN2 hE2
  refine qM (cf:=cf0) laid mixed _ _ _ (by kernel_rfl) ?_
  by_cases hjl:j<env.length
  ·have hjl':(j:Int)<env.length:=by omega
   have hgj:=KB Z7 env j hjl
   have hs:=ziz env j hjl
   have ht:=zjF env (j+1)
   obtain⟨m,hm⟩:∃m,m=enW (env.take j):=⟨_,rfl⟩
   rw[←hm]at hs ⊢
   have hs':(enW (env.take (j+1)):Int)=m+(env[j].1.length+env[j].2.length+1):=by omega
   (simp (maxSteps:=2000000) (disch:=first|omega|assumption) [zz,-List.reduceReplicate,hjl',hgj,Z7])
   refine hN2 _ (j+1) ?_ (by omega) (by omega)
   refine Le.of ?_ ?_ ?_ ?_ ?_<;>simp[qU,qG,hs']<;>try omega
  ·have hjn:j=env.length:=by omega
   subst hjn
   have hjl':¬(env.length:Int)<env.length:=by omega
   (simp (maxSteps:=2000000) (disch:=first|omega|assumption) [zz,-List.reduceReplicate,hjl'])
   refine hE2 _ _ (by simp) ?_
   by_cases h5:2000<n0+enW env
   ·have h5':(2000:Int)<(n0:Int)+enW env:=by omega
    (simp (maxSteps:=2000000) (disch:=first|omega|assumption) [zz,-List.reduceReplicate,h5,h5',Tryz.f10])
   ·have h5':¬(2000:Int)<(n0:Int)+enW env:=by omega
    (simp (maxSteps:=2000000) (disch:=first|omega|assumption) [zz,-List.reduceReplicate,h5,h5',Tryz.f10])
end Go.Proofs.YtidhkfcjichiiaaGreatDoor
end
