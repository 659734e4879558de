/- Where a text stands within another one: the library. No condition. -/
import Derived.Test.YtfkcpballfhddaaGreatDoorP0ToK3
import Derived.Test.YtfkcpballfhddaaGreatDoorShelf4
set_option linter.unusedSimpArgs false
set_option linter.unusedVariables false
set_option linter.unusedSectionVars false
set_option maxHeartbeats 64000000
set_option maxRecDepth 100000
namespace Go.Proofs.YtfkcpballfhddaaGreatDoor
open Go Go.Ab
open Classical
section
variable [Sel] [SelMax]
theorem PC.of_tab {P:Program} {f:FuncId} {args:List TV} {vs0:List Value} {r:TV} {v:Value} (hdet:∀imm w vs,ARs P (g0 imm) w args vs->vs=vs0) (hr:∀imm w,AR P (g0 imm) w r v)
  (h:∀imm w,UA P imm w->Calls P f vs0.toArray w fun e w'=>e=.returned v/\w'=w):PC P f args r:=by
 intro imm w vs hrep hargs
 have:=hdet imm w vs.toList hargs
 have hv:vs=vs0.toArray:=by rw[<-this]
 subst hv
 refine(h imm w hrep.tab).mono ?_
 rintro e w' ⟨rfl,rfl⟩
 exact⟨v,r,imm,[],rfl,⟨rfl,rfl⟩,hr _ _,hrep,JN.refl⟩
theorem zss:2∈VP Tryz.prog:=by
 have h:(Tryz.prog.globals[2]?).map (·.name)=some "internal/bytealg.MaxLen":=by kernel_rfl
 obtain⟨gl,h1,h2⟩:=Option.map_eq_some_iff.1 h
 exact zgm h1 h2 (h2▸SelMax.max)
theorem zjS {imm:Nat->Nat} {w:World} (h:UA Tryz.prog imm w):∃m,w.cell? ⟨2,0,none⟩=some (.int .i64 m):=by
 obtain⟨_,cs,E,fz,m,h1,h2⟩:=h.2.2 _ zss
 exact⟨m,by simp[World.cell?,h1,h2]⟩
theorem zja (l p:List UInt8):∀imm w vs,ARs Tryz.prog (g0 imm) w [.av .str (.s l),.av .str (.s p)] vs->vs=[.string ⟨l.toArray⟩,.string ⟨p.toArray⟩]:=by
 intro imm w vs h
 match vs,h with
 | [a,b],⟨⟨f1,_,h1⟩,⟨f2,_,h2⟩,_⟩ =>
  rw[qK rfl f1]at h1
  rw[qK rfl f2]at h2
  simp at h1 h2
  rw[h1,h2]
theorem znT (l p:List UInt8) (hl:l.length<4294967281):PC Tryz.prog 132 [.av .str (.s l),.av .str (.s p)] (.av (.int .i64) (.i .i64 (Lib.index l p))):=by
 refine PC.of_tab (v:=.int .i64 (Lib.index l p)) (zja l p) (fun _ _=>⟨rfl,rfl,rfl⟩) ?_
 intro imm w h
 obtain⟨m,hm⟩:=zjS h
 have:=Tryz.strings_Index ⟨l.toArray⟩ ⟨p.toArray⟩ m w (by simpa[ByteArray.size]using hl) hm
 simpa using this
theorem cC (l p:List UInt8) (hl:l.length<4294967281):PC Tryz.prog 148 [.av .str (.s l),.av .str (.s p)] (.av .bool (.b (Lib.contains l p))):=by
 refine PC.of_tab (v:=.bool (Lib.contains l p)) (zja l p) (fun _ _=>⟨rfl,rfl,rfl⟩) ?_
 intro imm w h
 obtain⟨m,hm⟩:=zjS h
 have:=Tryz.strings_Contains ⟨l.toArray⟩ ⟨p.toArray⟩ m w (by simpa[ByteArray.size]using hl) hm
 simpa using this
def qW:List UInt8:=[114,101,97,100]
def jD:List UInt8:=[116,114,121]
def qV:List UInt8:=[119,114,105,116,101]
def zC:List UInt8:=[115,99,97,110]
def jL:List UInt8:=[101,110,118]
def zS:List UInt8:=[107,101,101,112]
def zL:List UInt8:=[110,101,101,100]
def zR:List UInt8:=[115,111,114,116]
def zW:List UInt8:=[117,110,105,113]
def qY:List UInt8:=[117,112,112,101,114]
def z7:List UInt8:=[99,111,117,110,116]
def zZ:List UInt8:=[102,97,105,108]
def zH:List UInt8:=[116,101,120,116]
def kG (n:List UInt8):Int × Bool :=
 if n=qW\/n=jD\/n=qV then(2,true) else if n=zC then(3,true) else if n=jL\/n=zS\/n=zL then(2,false)
 else if n=zR\/n=zW\/n=qY\/n=z7\/n=zZ then(1,false) else(0,false)
theorem zn1 (n:List UInt8):PC Tryz.prog 165 [.av .str (.s n)] (.tup [(.int .i64,.i .i64 (kG n).1),(.bool,.b (kG n).2)]):=by
 refine zow Tryz.func165 cf0 fun imm0 w0=>?_
 by_cases h1:n=qW
 ·subst h1;simp (disch:=omega) [zz,Tryz.f165,kG,qW]
 have h1':¬n=[114,101,97,100]:=h1
 by_cases h2:n=jD
 ·subst h2;simp (disch:=omega) [zz,Tryz.f165,kG,qW,jD]
 have h2':¬n=[116,114,121]:=h2
 by_cases h3:n=qV
 ·subst h3;simp (disch:=omega) [zz,Tryz.f165,kG,qW,jD,qV]
 have h3':¬n=[119,114,105,116,101]:=h3
 by_cases h4:n=zC
 ·subst h4;simp (disch:=omega) [zz,Tryz.f165,kG,qW,jD,qV,zC]
 have h4':¬n=[115,99,97,110]:=h4
 by_cases h5:n=jL
 ·subst h5;simp (disch:=omega) [zz,Tryz.f165,kG,qW,jD,qV,zC,jL]
 have h5':¬n=[101,110,118]:=h5
 by_cases h6:n=zS
 ·subst h6;simp (disch:=omega) [zz,Tryz.f165,kG,qW,jD,qV,zC,jL,zS]
 have h6':¬n=[107,101,101,112]:=h6
 by_cases h7:n=zL
 ·subst h7;simp (disch:=omega) [zz,Tryz.f165,kG,qW,jD,qV,zC,jL,zS,zL]
 have h7':¬n=[110,101,101,100]:=h7
 by_cases h8:n=zR
 ·subst h8;simp (disch:=omega) [zz,Tryz.f165,kG,qW,jD,qV,zC,jL,zS,zL,zR]
 have h8':¬n=[115,111,114,116]:=h8
 by_cases h9:n=zW
 ·subst h9;simp (disch:=omega) [zz,Tryz.f165,kG,qW,jD,qV,zC,jL,zS,zL,zR,zW]
 have h9':¬n=[117,110,105,113]:=h9
 by_cases h10:n=qY
 ·subst h10;simp (disch:=omega) [zz,Tryz.f165,kG,qW,jD,qV,zC,jL,zS,zL,zR,zW,qY]
 have h10':¬n=[117,112,112,101,114]:=h10
 by_cases h11:n=z7
 ·subst h11;simp (disch:=omega) [zz,Tryz.f165,kG,qW,jD,qV,zC,jL,zS,zL,zR,zW,qY,z7]
 have h11':¬n=[99,111,117,110,116]:=h11
 by_cases h12:n=zZ
 ·subst h12;simp (disch:=omega) [zz,Tryz.f165,kG,qW,jD,qV,zC,jL,zS,zL,zR,zW,qY,z7,zZ]
 have h12':¬n=[102,97,105,108]:=h12
 have hv:kG n=(0,false):=by simp[kG,h1,h2,h3,h4,h5,h6,h7,h8,h9,h10,h11,h12]
 simp (disch:=omega) [zz,h1',h2',h3',h4',h5',h6',h7',h8',h9',h10',h11',h12',hv,Tryz.f165]
theorem zg2 (l:List UInt8) (hl:l.length<=1000000):PC Tryz.prog 163 [.av .str (.s l)] (.av (.slice 9) (.sl .no (strs (z6 l)))):=by
 refine q7.freeze (R:=fun r H'=>∃b,r=.av (.slice 9) (.msl b 9 0 (z6 l).length (z6 l).length)/\H'=[(b,.var (.arr (z6 l).length 9) (.agg (strs (z6 l))))]) laid ?_ ?_
 ·refine zov Tryz.func163 cf0 fun imm0 w0=>?_
  simp (disch:=omega) [zz]
  refine qD (R:=fun r H'=>∃b cap,r=.av (.slice 9) (.msl b 9 0 (z6 l).length cap)/\H'=[(b,.var (.arr cap 9) (.agg (strs (z6 l))))]/\cap=(z6 l).length) [] [] (by simp) rfl (by simp[qI]) (by simp) ?_ ?_
  ·simpa[TV.er,AV.er]using zcy l hl
  rintro r H' ⟨b,cap,rfl,rfl,rfl⟩ _
  refine⟨_,by simpa using HSub.refl _,?_⟩
  have hek:∀ws,AV.erks (strs ws)=strs ws:=fun ws=>by simp[strs,AV.erks_eq,Function.comp_def]
  simp (disch:=omega) [zz,Tryz.f163,hek]
 ·rintro r H' ⟨b,rfl,rfl⟩ _
  left
  refine⟨b,(z6 l).length,9,_,[],List.Perm.refl _,?_,rfl⟩
  simp only[CQ,fzA]
  rw[if_pos ⟨trivial,trivial,by omega,by omega⟩]
  simp only[List.drop_zero]
  rw[List.take_of_length_le (by simp[strs])]
end
end Go.Proofs.YtfkcpballfhddaaGreatDoor
