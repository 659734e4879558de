/- Numbers as texts. No condition. -/
import Derived.Test.YtdkieabmeiojjaaGreatDoorShelf
import Derived.Test.YtdkieabmeiojjaaGreatDoorKIToK4
set_option linter.unusedSimpArgs false
set_option linter.unusedVariables false
set_option linter.unusedSectionVars false
set_option maxHeartbeats 64000000
section
set_option maxRecDepth 100000
namespace Go.Proofs.YtdkieabmeiojjaaGreatDoor
open Go Go.Ab
open Classical
open Go.Sort (grow)
section
variable [Sel] [SelPow]
theorem PC.of_grow {P:Program} {f:FuncId} {args:List TV} {vs0:List Value} {r:TV} {v:Value} (hdet:∀imm w vs,ARs P (g0 imm) w args vs->vs=vs0) (hr:∀imm w,AR P (g0 imm) w r v)
  (h:∀imm w,XH P imm w->Calls P f vs0.toArray w fun e w'=>e=.returned v/\∃k os,w'=grow (w.drewN k) os):PC P f args r:=by
 intro imm w vs hrep hargs
 have:=hdet imm w vs.toList hargs
 have hv:vs=vs0.toArray:=by rw[<-this]
 subst hv
 refine(h imm w hrep.tab).mono ?_
 rintro e w' ⟨rfl,k,os,rfl⟩
 have hlt:∀(b:Nat) (o:Obj),w.heap[b]?=some o->(grow (w.drewN k) os).heap[b]?=some o:=by
  intro b o hb
  have h1:=(Array.getElem?_eq_some_iff.1 hb).1
  show (w.heap++os)[b]?=some o
  rw[Array.getElem?_append_left h1];exact hb
 have hk:zX (g0 imm) w (grow (w.drewN k) os):=fun b cs E fz _ hb=>⟨cs,E,fz,hlt _ _ hb,rfl,fun _ _=>rfl⟩
 refine⟨v,r,imm,[],rfl,⟨rfl,rfl⟩,hr _ _,⟨fun b hb=>?_,by simp[q8.keys],by simp,hrep.tab.keep (g:=g0 imm) (g':=g0 imm) (Gh.le_refl _) hrep.imm hk⟩,?_⟩
 ·obtain⟨cs,E,fz,h1,h2⟩:=hrep.imm b hb
  exact⟨cs,E,fz,hlt _ _ h1,h2⟩
 ·exact {
   os:=rfl,tape:=rfl,output:=rfl,drawn:=fun _=>by show w.drawn<=w.drawn+k;omega
   size:=by show w.heap.size<=(w.heap++os).size;simp
   frame:=fun b hb _=>⟨by show (w.heap++os)[b]?=_;rw[Array.getElem?_append_left hb],rfl⟩
   imm:=fun _=>Nat.le_refl _
   kept:=fun b cs E fz h0 hb=>hk b cs E fz h0 hb
   dom:=fun b hb=>by simp[q8.keys]at hb }
theorem zlg {P:Program} {g:Gh} {w:World} {e:TypeId}:∀(zs:List Int) (cs:List Value),VL P g w e (zs.map (AV.i .u64 ·)) cs->cs=zs.map (Value.int .u64 ·)
 | [],cs,h=>by simpa[VL]using h
 | z::zs,cs,h=>by
  simp only[List.map_cons,VL]at h
  obtain⟨c1,c2,rfl,h1,h2⟩:=h
  have:=zlg zs c2 h2
  simp only[VC]at h1
  rw[h1.2,this];rfl
theorem zqq:Tryz.prog.globalNamed "internal/strconv.uint64pow10" = some 3:=by kernel_rfl
theorem zkP:(3,TyD.arr 20 154,AV.agg (Lib.pow10Tab.map (AV.i .u64 ·)))∈zdd Tryz.prog:=by
 have h1:q9 Tryz.prog ((Tryz.prog.globals[3]?).get (by kernel_rfl)).type=.arr 20 154:=by kernel_rfl
 rw[<-h1]
 exact zku (gl:=(Tryz.prog.globals[3]?).get (by kernel_rfl)) (by kernel_rfl) (by kernel_rfl) SelPow.pow
theorem zoY {imm:Nat->Nat} {w:World} (h:XH Tryz.prog imm w):Lib.TabIs Tryz.prog w "internal/strconv.uint64pow10" .u64 Lib.pow10Tab:=by
 obtain⟨h1,h2,h3,cs,E,fz,h4,h5⟩:=h.1 _ _ _ zkP
 have hsz:szD Tryz.prog (.arr 20 154)=20:=by simp[szD]
 rw[hsz]at h2 h5
 simp only[VC]at h2
 have hv:=zlg _ _ h2.2
 have hc:zA w 3 0 20=cs.toList:=by
  unfold zA
  rw[h4]
  simp only[List.drop_zero]
  exact List.take_of_length_le (by simp[h5])
 rw[hc]at hv
 unfold Lib.TabIs World.var?
 rw[zqq]
 simp only[Option.bind_some,h4]
 rw[<-hv]
theorem znn (n:Int) (h0:-9223372036854775808<=n) (h1:n<=9223372036854775807):PC Tryz.prog 177 [.av (.int .i64) (.i .i64 n)] (.av .str (.s (Lib.itoa n))):=by
 refine PC.of_grow (vs0:=[.int .i64 n]) (v:=.string ⟨(Lib.itoa n).toArray⟩) ?_ (fun _ _=>⟨rfl,rfl,rfl⟩) fun imm w ht=>Tryz.strconv_Itoa n h0 h1 w (zoY ht)
 intro imm w vs h
 match vs,h with
 | [a],⟨⟨f1,_,h1⟩,_⟩ =>
  rw[qF rfl f1]at h1
  simp at h1
  rw[h1]
end
end Go.Proofs.YtdkieabmeiojjaaGreatDoor
end
section
set_option maxRecDepth 100000
namespace Go.Proofs.YtdkieabmeiojjaaGreatDoor
open Go Go.Ab
open Classical
section
variable [Sel] [SelPow] [SelMax]
structure KnV where
 path:Txt
 is:Bool
 data:Txt
structure DoV where
 kind:Int
 path:Txt
 data:Txt
 why:Int
structure CmdV where
 words:List Txt
 rest:Txt
inductive ThV
 | add
 | scan (w:Txt)
inductive CoV
 | there (t:ThV)
 | tr
inductive TdV
 | cmd (c:CmdV)
 | ans (k:CoV) (p:Txt)
 | line (s w:Txt)
structure qG where
 todo:List TdV
 env:List (Txt × Txt)
 buf:Txt
 known:List KnV
 asks:Txt
 waits:Bool
 over:DoV
 seen:List Txt
def do0:DoV:=⟨0,[],[],0⟩
def kn0:KnV:=⟨[],false,[]⟩
def j3 (l:List KnV) (p:Txt):Option KnV:=l.find? fun k=>decide (k.path=p)
def w6 (e:Int) (r:qG):qG:={ r with over:=⟨4,[],[],e⟩ }
def y6 (s:Txt) (r:qG):qG:=if 65536<r.buf.length+s.length then w6 6 r else { r with buf:=r.buf++s }
def thR:ThV->Txt->qG->qG
 | .add,d,r=>y6 d r
 | .scan w,d,r=>{ r with todo:=r.todo++(qU d).reverse.map fun s=>.line s w }
def coR:CoV->KnV->qG->qG
 | .there t,k,r=>if k.is=true then thR t k.data r else w6 10 r
 | .tr,k,r=>if k.is=true then y6 k.data r else r
def yN (p:Txt) (k:CoV) (r:qG):qG:=match j3 r.known p with
 | some x=>coR k x r
 | none=>if 500<=r.known.length then w6 6 r else { r with asks:=p,waits:=true,todo:=r.todo++[.ans k p] }
def ZD (p w:Txt) (r:qG):qG:=yN p (.there (.scan w)) { r with seen:=r.seen++[p] }
def kH (l:List Txt) (r:qG):qG:=y6 (l.flatMap (·++[10])) { r with buf:=[] }
def upB (c:UInt8):UInt8:=if 97<=c.toNat/\c.toNat<=122 then c-32 else c
def jJ:List Txt->List Txt
 | []=>[]
 | [x]=>[x]
 | x::y::r=>if x=y then jJ (y::r) else x::jJ (y::r)
noncomputable def kX (name arg:Txt) (r:qG):qG :=
 if name=wV then kH (k7 (qU r.buf)) r
 else if name=yG then kH (jJ (qU r.buf)) r
 else if name=kV then { r with buf:=r.buf.map upB }
 else if name=wC then { r with buf:=Lib.itoa (qU r.buf).length++[10] }
 else if name=y3 then kH ((qU r.buf).filter fun s=>Lib.contains s arg) r
 else r
noncomputable def doR (c:CmdV) (r:qG):qG :=
 let w:=c.words.getD 0 []
 let arg:=c.words.getD 1 []
 if w=zU then yN arg (.there .add) r
 else if w=wF then yN arg .tr r
 else if w=jM then ZD arg (c.words.getD 2 []) { r with seen:=[] }
 else if w=jZ then y6 (c.rest++[10]) r
 else if w=Q3 then(match r.env.find? fun x=>decide (x.1=arg)with
  | some x=>y6 x.2 r
  | none=>w6 10 r)
 else if w=jN then { r with over:=⟨2,arg,r.buf,0⟩,buf:=[] }
 else if w=kF then(if (qU r.buf).any (fun s=>Lib.contains s arg)=true then r else w6 15 r)
 else if w=QF then w6 15 r
 else kX w arg r
def QP (s w:Txt) (r:qG):qG :=
 match zG s with
 | [a,p]=>if a≠w\/w5 p=false then y6 (s++[10]) r else if p∈r.seen then r else ZD p w r
 | _=>y6 (s++[10]) r
noncomputable def tdR:TdV->qG->qG
 | .cmd c,r=>doR c r
 | .ans k p,r=>coR k ((j3 r.known p).getD kn0) r
 | .line s w,r=>QP s w r
noncomputable def yX (r:qG):qG:=match r.todo.getLast? with
 | none=>{ r with over:=⟨3,[],[],0⟩ }
 | some t=>tdR t { r with todo:=r.todo.dropLast }
def kE (r:qG):Bool:=decide (r.over.kind≠0)||r.waits
noncomputable def runN:Nat->qG->Option qG
 | 0,_=>none
 | n+1,r=>if kE r=true then some r else runN n (yX r)
def ZA (s:Txt):Option (Option CmdV):=match zG s with
 | []=>some none
 | w::ws=>if w.head?=some 35 then some none
  else if w=jZ then some (some ⟨[w],(s.drop ((Lib.index s jZ).toNat+4)).drop 1⟩)
  else if (jI w).1≠(ws.length:Int)+1\/(jI w).1=0\/((jI w).2=true/\w5 (ws.getD 0 [])=false) then none
  else some (some ⟨w::ws,[]⟩)
def yF:Nat->List Txt->Except Nat (List CmdV)
 | _,[]=>.ok []
 | i,s::r=>match ZA s with
  | none=>.error (i+1)
  | some none=>yF (i+1) r
  | some (some c)=>match yF (i+1) r with
   | .ok l=>.ok (c::l)
   | .error e=>.error e
def zL (t:Txt):Except (Int × Nat) (List CmdV) :=
 if 65536<t.length\/400<(qU t).length then .error (6,0) else match yF 0 (qU t)with
 | .ok l=>.ok l
 | .error n=>.error (3,n)
def jA (d:DoV):AV:=.agg [.i .i64 d.kind,.s d.path,.s d.data,.i .i64 d.why]
def jD (k:KnV):AV:=.agg [.s k.path,.b k.is,.s k.data]
def zE (c:CmdV):AV:=.agg [.sl .no (strs c.words),.s c.rest]
def x4 (x:Txt × Txt):AV:=.agg [.s x.1,.s x.2]
def zO (l:List (Txt × Txt)):AV:=.sl .no (l.map x4)
abbrev kO:TyD:=.struct [165,47,9,164,9,4,167]
abbrev QQ:TyD:=.struct [35,9]
abbrev xL:TyD:=.map 9 4
def knE (l:List KnV):List (AV × AV):=l.map fun k=>(.s k.path,jD k)
def X8 (l:List Txt):List (AV × AV):=l.map fun p=>(.s p,.b true)
noncomputable def qJ (ta ea:AV) (buf:Txt) (K:Nat) (asks:Txt) (waits:Bool) (over:DoV):HObj:=.var kO (.agg [ta,ea,.s buf,.map (some K),.s asks,.b waits,jA over])
theorem ZM {ta ea:AV} {buf:Txt} {K:Nat} {asks:Txt} {waits:Bool} {over:DoV} (h1:ta.erk=ta) (h2:ea.erk=ea):(qJ ta ea buf K asks waits over).er=qJ ta ea buf K asks waits over:=by
 simp[qJ,HObj.er_var,AV.erk,AV.erks,h1,h2,jA]
theorem zh1 (R:Nat) (e:Int) (ta ea:AV) (buf:Txt) (K:Nat) (asks:Txt) (waits:Bool) (over:DoV) (h1:ta.erk=ta) (h2:ea.erk=ea) :
  q7 Tryz.prog 150 [.av .ptr (.ptr R kO []),.av (.int .i64) (.i .i64 e)] [(R,qJ ta ea buf K asks waits over)] fun r H'=>r=.tup []/\H'=[(R,qJ ta ea buf K asks waits ⟨4,[],[],e⟩)]:=by
 refine zov Tryz.func150 cf0 fun imm0 w0=>?_
 simp (disch:=omega) [zz,qJ]
 simp (disch:=omega) [zz,Tryz.f150,h1,h2,jA]
theorem zjh (R:Nat) (s:Txt) (ta ea:AV) (buf:Txt) (K:Nat) (asks:Txt) (waits:Bool) (over:DoV) (h1:ta.erk=ta) (h2:ea.erk=ea) (hb:buf.length<=1000000000) (hs:s.length<=1000000000000000) :
  q7 Tryz.prog 145 [.av .ptr (.ptr R kO []),.av .str (.s s)] [(R,qJ ta ea buf K asks waits over)] fun r H'=>r=.tup []/\H'=[(R,if 65536<buf.length+s.length then qJ ta ea buf K asks waits ⟨4,[],[],6⟩ else qJ ta ea (buf++s) K asks waits over)]:=by
 refine zov Tryz.func145 cf0 fun imm0 w0=>?_
 by_cases h:65536<buf.length+s.length
 ·have h':(65536:Int)<(buf.length:Int)+s.length:=by omega
  simp (disch:=omega) [zz,qJ,h']
  refine qD (R:=fun r H'=>r=.tup []/\H'=[(R,qJ ta ea buf K asks waits ⟨4,[],[],6⟩)]) [(R,qJ ta ea buf K asks waits over)] [] (by simp[qJ]) rfl (by simp[qE]) (by simp) ?_ ?_
  ·have:=zh1 R 6 ta ea buf K asks waits over h1 h2
   have he:=ZM (buf:=buf) (K:=K) (asks:=asks) (waits:=waits) (over:=over) h1 h2
   simp only[q8.er_cons,q8.er_nil,he]
   exact q7.args this (by simp[qR,coC,TV.er,AV.er])
  rintro r H' ⟨rfl,rfl⟩ _
  refine⟨_,by simpa using HSub.refl _,?_⟩
  have he:=ZM (buf:=buf) (K:=K) (asks:=asks) (waits:=waits) (over:=(⟨4,[],[],6⟩:DoV)) h1 h2
  simp (disch:=omega) [zz,Tryz.f145,he,h]
  rfl
 ·have h':¬(65536:Int)<(buf.length:Int)+s.length:=by omega
  simp (disch:=omega) [zz,qJ,h',h]
  refine⟨by omega,?_⟩
  simp (disch:=omega) [zz,Tryz.f145,h1,h2,jA,h]
noncomputable def qV (R:Nat):HObj:=.var .ptr (.ptr R kO [])
abbrev zqg:Cfg:=⟨fun n=>n==2||n==3,fun _=>false⟩
theorem zem (R:Nat) (tv:AV) (ht:tv.er=tv) (ht2:tv.erk=tv) :
  q7 Tryz.prog 144 [.av .ptr (.ptr R kO []),.av .func tv] [] fun r H'=>∃br bt,r=.av .func (.fn 172 [.ptr br .ptr [],.ptr bt .func []])/\H'=[(bt,.var .func tv),(br,qV R)]:=by
 refine zov Tryz.func144 zqg fun imm0 w0=>?_
 simp (disch:=omega) [zz]
 intro br bt hb
 simp (disch:=omega) [zz,Tryz.f144,ht,ht2,qV]
 exact⟨br,bt,⟨rfl,rfl⟩,rfl,rfl⟩
end
section
variable [Sel]
@[simp] theorem zqI:q9 Tryz.prog 266=.other:=by kernel_rfl
@[simp] theorem zqd:qP Tryz.prog (.func 215)=true:=by kernel_rfl
theorem zo4:zpN Tryz.prog (.func 215):=⟨_,Tryz.func215,by kernel_rfl,by kernel_rfl,by kernel_rfl,by kernel_rfl⟩
abbrev Z1:TyD:=.struct [242,213]
def bys (l:List UInt8):List AV:=l.map fun b=>.i .u8 b.toNat
@[simp] theorem zon (l:List UInt8):(bys l).length=l.length:=by simp[bys]
@[simp] theorem zpF (l:List UInt8):AV.erks (bys l)=bys l:=by simp[bys,AV.erks_eq,AV.erk,Function.comp_def]
@[simp] theorem zpZ (l:List UInt8):AV.ers (bys l)=bys l:=by simp[bys,AV.ers_eq,AV.er,Function.comp_def]
theorem zcy (a b:List UInt8):bys a++bys b=bys (a++b):=by simp[bys]
theorem zei (l:List UInt8) (n:Nat):(bys l).take n=bys (l.take n):=by simp[bys,List.map_take]
theorem zkT (l:List UInt8) (n:Nat):(bys l).drop n=bys (l.drop n):=by simp[bys,List.map_drop]
theorem zgU (n:Nat):List.replicate n (AV.i .u8 0)=bys (List.replicate n 0):=by simp[bys]
theorem Y9:∀l,bytesOf (bys l)=some l
 | []=>rfl
 | b::l=>by
  have:=Y9 l
  simp only[bys,List.map_cons,bytesOf]at this |-
  rw[this]
  simp
theorem zkD (b:Nat) (buf:AV) (hb:buf.erk=buf):q7 Tryz.prog 210 [.av .ptr (.ptr b Z1 [])] [(b,.var Z1 (.agg [.nilptr,buf]))] fun r H'=>r=.tup []/\H'=[(b,.var Z1 (.agg [.ptr b Z1 [],buf]))]:=by
 refine zov Tryz.func210 cf0 fun imm0 w0=>?_
 simp (disch:=omega) [zz]
 refine⟨by kernel_rfl,zo4,by kernel_rfl,?_⟩
 simp (disch:=omega) [zz,Tryz.f210,hb]
theorem zmM (b:Nat) (buf:AV) (hb:buf.erk=buf):q7 Tryz.prog 210 [.av .ptr (.ptr b Z1 [])] [(b,.var Z1 (.agg [.ptr b Z1 [],buf]))] fun r H'=>r=.tup []/\H'=[(b,.var Z1 (.agg [.ptr b Z1 [],buf]))]:=by
 refine zov Tryz.func210 cf0 fun imm0 w0=>?_
 simp (disch:=omega) [zz]
 refine⟨by kernel_rfl,?_⟩
 simp (disch:=omega) [zz,Tryz.f210,hb]
inductive BS (b:Nat) (bs:List UInt8):q8->Prop
 | fresh (p:AV) (hp:p=.nilptr\/p=.ptr b Z1 []) (h:bs=[]):BS b bs [(b,.var Z1 (.agg [p,.nsl]))]
 | row (p:AV) (hp:p=.nilptr\/p=.ptr b Z1 []) (r cap:Nat) (rs:List UInt8) (hc:bs.length+rs.length=cap) (h0:0<cap):BS b bs [(b,.var Z1 (.agg [p,.msl r 5 0 bs.length cap])),(r,.var (.arr cap 5) (.agg (bys (bs++rs))))]
theorem zkd (b:Nat) (p buf:AV) (hp:p=.nilptr\/p=.ptr b Z1 []) (hb:buf.erk=buf):q7 Tryz.prog 210 [.av .ptr (.ptr b Z1 [])] [(b,.var Z1 (.agg [p,buf]))] fun r H'=>r=.tup []/\H'=[(b,.var Z1 (.agg [.ptr b Z1 [],buf]))]:=by
 rcases hp with rfl|rfl
 ·exact zkD b buf hb
 ·exact zmM b buf hb
theorem BS.er {b:Nat} {bs:List UInt8} {H:q8} (h:BS b bs H):H.er=H:=by
 cases h with
 | fresh p hp h=>rcases hp with rfl|rfl<;>simp[q8.er,HObj.er,AV.erk,AV.erks]
 | row p hp r cap rs hc h0=>rcases hp with rfl|rfl<;>simp[q8.er,HObj.er,AV.erk,AV.erks]
def BSs (b:Nat) (bs:List UInt8) (H:q8):Prop:=∃H2,HSub H2 H/\BS b bs H2
theorem q7.bss {P:Program} {f:FuncId} {args:List TV} {H:q8} {r0:TV} {b:Nat} {bs:List UInt8} (h:q7 P f args H fun r H'=>r=r0/\BSs b bs H'):q7 P f args H fun r H'=>r=r0/\BS b bs H' :=
 h.sub fun r H' ⟨h1,H2,h2,h3⟩ _=>⟨H2,h2,h1,h3⟩
theorem zpr (b:Nat) (bs x:List UInt8) (H:q8) (hB:BS b bs H) (hl:bs.length+x.length<=100000000000) :
  q7 Tryz.prog 195 [.av .ptr (.ptr b Z1 []),.av .str (.s x)] H fun r H'=>r=.tup [(.int .i64,.i .i64 x.length),(.iface,.nilifc)]/\BS b (bs++x) H':=by
 refine q7.bss <| q7.nodup fun hnd=>?_
 have ebx:(x.map fun b=>AV.i .u8 b.toNat)=bys x:=rfl
 cases hB with
 | fresh p hp h =>
  subst h
  simp at hl
  refine zov Tryz.func195 cf0 fun imm0 w0=>?_
  simp (disch:=omega) [zz]
  refine w8 (R:=fun r H'=>r=.tup []/\H'=[(b,.var Z1 (.agg [.ptr b Z1 [],.nsl]))]) rfl (by simp[qE]) (by simp) ?_ ?_
  ·have hpe:p.erk=p:=by rcases hp with rfl|rfl<;>rfl
   simpa[TV.er,AV.er,q8.er_cons,q8.er_nil,HObj.er,AV.erk,AV.erks,hpe]using zkd b p .nsl hp rfl
  rintro r H' ⟨rfl,rfl⟩
  simp (disch:=omega) [zz]
  refine⟨by omega,fun hx=>?_,fun hx r cap hr hcap=>?_⟩
  ·subst hx
   simp (disch:=omega) [zz,Tryz.f195]
   exact⟨_,HSub.refl _,.fresh _ (.inr rfl) rfl⟩
  ·have hr':¬b=r:=fun e=>hr e.symm
   simp (disch:=omega) [zz,Tryz.f195,hr,hr',ebx,zgU,zcy]
   refine⟨_,HSub.of_perm (List.Perm.swap _ _ _),?_⟩
   have:=BS.row (b:=b) (bs:=x) (.ptr b Z1 []) (.inr rfl) r cap (List.replicate (cap-x.length) 0) (by simp;omega) (by omega)
   exact this
 | row p hp r cap rs hc h0 =>
  simp[q8.keys]at hnd
  have hnd':¬r=b:=fun e=>hnd e.symm
  have etk:(bys (bs++rs)).take bs.length=bys bs:=by rw[zei,List.take_left]
  have edr:(bys (bs++rs)).drop (bs.length+x.length)=bys (rs.drop x.length):=by
   rw[zkT,List.drop_append,List.drop_eq_nil_of_le (by omega),List.nil_append,Nat.add_sub_cancel_left]
  refine zov Tryz.func195 cf0 fun imm0 w0=>?_
  simp (disch:=omega) [zz]
  refine qD (R:=fun r' H'=>r'=.tup []/\H'=[(b,.var Z1 (.agg [.ptr b Z1 [],.msl r 5 0 bs.length cap]))]) [(b,.var Z1 (.agg [p,.msl r 5 0 bs.length cap]))] [(r,.var (.arr cap 5) (.agg (bys (bs++rs))))] (List.Perm.refl _) rfl (by simp[qE]) (by simp) ?_ ?_
  ·have hpe:p.erk=p:=by rcases hp with rfl|rfl<;>rfl
   simpa[TV.er,AV.er,q8.er_cons,q8.er_nil,HObj.er,AV.erk,AV.erks,hpe]using zkd b p (.msl r 5 0 bs.length cap) hp rfl
  rintro r' H' ⟨rfl,rfl⟩ _
  refine⟨_,HSub.refl _,?_⟩
  simp (disch:=omega) [zz,hnd,hnd',etk,edr,ebx,zcy]
  refine⟨by omega,by omega,fun hx=>?_,fun hx r2 cap2 hr2 hr2' hcap2=>?_⟩
  ·simp (disch:=omega) [zz,Tryz.f195,hnd,hnd']
   refine⟨_,HSub.refl _,?_⟩
   have:=BS.row (b:=b) (bs:=bs++x) (.ptr b Z1 []) (.inr rfl) r cap (rs.drop x.length) (by simp;omega) h0
   simpa using this
  ·have hr2b:¬b=r2:=fun e=>hr2 e.symm
   simp (disch:=omega) [zz,Tryz.f195,hr2,hr2b,hr2',hnd,hnd',zgU,zcy]
   refine⟨_,⟨_,List.Perm.swap _ _ _,((List.Sublist.refl _).cons _).cons_cons _ |>.cons_cons _⟩,?_⟩
   have:=BS.row (b:=b) (bs:=bs++x) (.ptr b Z1 []) (.inr rfl) r2 cap2 (List.replicate (cap2-(bs.length+x.length)) 0) (by simp;omega) (by omega)
   simpa using this
theorem zbH (b:Nat) (bs:List UInt8) (H:q8) (hB:BS b bs H) (hl:bs.length<=100000000000) :
  q7 Tryz.prog 196 [.av .ptr (.ptr b Z1 [])] H fun r H'=>r=.av .str (.s bs):=by
 refine q7.nodup fun hnd=>?_
 cases hB with
 | fresh p hp h =>
  subst h
  refine zov Tryz.func196 cf0 fun imm0 w0=>?_
  simp (disch:=omega) [zz,Tryz.f196]
  (show vH _ _=true;kernel_rfl)
 | row p hp r cap rs hc h0 =>
  simp[q8.keys]at hnd
  have hnd':¬r=b:=fun e=>hnd e.symm
  have hc0:¬cap=0:=by omega
  have etk:(bys (bs++rs)).take bs.length=bys bs:=by rw[zei,List.take_left]
  have hbo:=Y9 bs
  refine zov Tryz.func196 cf0 fun imm0 w0=>?_
  simp (disch:=omega) [zz,hnd,hnd',etk,hc0,hbo]
  refine⟨(show vH _ _=true by kernel_rfl),by kernel_rfl,by omega,by omega,?_⟩
  simp (disch:=omega) [zz,Tryz.f196]
end
end Go.Proofs.YtdkieabmeiojjaaGreatDoor
end
