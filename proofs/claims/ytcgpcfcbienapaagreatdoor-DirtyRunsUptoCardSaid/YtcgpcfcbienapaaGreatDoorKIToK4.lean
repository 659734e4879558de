/- Where a text stands within another one: the library. No condition beyond each theorem's own. -/
import Derived.Test.YtcgpcfcbienapaaGreatDoorP8ToK3
import Derived.Test.YtcgpcfcbienapaaGreatDoorShelf4
set_option linter.unusedSimpArgs false
set_option linter.unusedVariables false
set_option linter.unusedSectionVars false
section
set_option maxRecDepth 100000
namespace Go.Proofs.YtcgpcfcbienapaaGreatDoor
open Go Go.Ab
open Classical
variable [Sel] [SelMax]
theorem PC.of_tab {P:Program} {f:FuncId} {args:List TV} {vs0:List Value} {r:TV} {v:Value} (hdet:∀imm w vs,ARs P (g0 imm) w args vs→vs=vs0) (hr:∀imm w,AR P (g0 imm) w r v)
  (h:∀imm w,xV P imm w→Calls P f vs0.toArray w fun e w'=>e=.returned v∧w'=w):PC P f args r:=by
 intro imm w vs hrep hargs
 have:=hdet imm w vs.toList hargs
 have hv:vs=vs0.toArray:=by rw[←this]
 subst hv
 refine(h imm w hrep.tab).mono ?_
 rintro e w' ⟨rfl,rfl⟩
 exact⟨v,r,imm,[],rfl,⟨rfl,rfl⟩,hr _ _,hrep,JI.refl⟩
theorem zpq:1∈uM Tryz.prog:=by
 have h:(Tryz.prog.globals[1]?).map (·.name)=some "internal/bytealg.MaxLen":=by kernel_rfl
 obtain⟨gl,h1,h2⟩:=Option.map_eq_some_iff.1 h
 exact zd3 h1 h2 (h2▸SelMax.max)
theorem zfB {imm:Nat→Nat} {w:World} (h:xV Tryz.prog imm w):∃m,w.cell? ⟨1,0,none⟩=some (.int .i64 m):=by
 obtain⟨_,cs,E,fz,m,h1,h2⟩:=h.2.2 _ zpq
 exact⟨m,by simp[World.cell?,h1,h2]⟩
theorem zfL (l p:List UInt8):∀imm w vs,ARs Tryz.prog (g0 imm) w [.av .str (.s l),.av .str (.s p)] vs→vs=[.string ⟨l.toArray⟩,.string ⟨p.toArray⟩]:=by
 intro imm w vs h
 match vs,h with
 | [a,b],⟨⟨f1,_,h1⟩,⟨f2,_,h2⟩,_⟩ =>
  rw[qR rfl f1]at h1
  rw[qR rfl f2]at h2
  simp at h1 h2
  rw[h1,h2]
theorem ziG (l p:List UInt8) (hl:l.length<4294967281):PC Tryz.prog 131 [.av .str (.s l),.av .str (.s p)] (.av (.int .i64) (.i .i64 (Lib.index l p))):=by
 refine PC.of_tab (v:=.int .i64 (Lib.index l p)) (zfL l p) (fun _ _=>⟨rfl,rfl,rfl⟩) ?_
 intro imm w h
 obtain⟨m,hm⟩:=zfB h
 have:=Tryz.strings_Index ⟨l.toArray⟩ ⟨p.toArray⟩ m w (by simpa[ByteArray.size]using hl) hm
 simpa using this
theorem GN (l p:List UInt8) (hl:l.length<4294967281):PC Tryz.prog 106 [.av .str (.s l),.av .str (.s p)] (.av .bool (.b (Lib.contains l p))):=by
 refine PC.of_tab (v:=.bool (Lib.contains l p)) (zfL l p) (fun _ _=>⟨rfl,rfl,rfl⟩) ?_
 intro imm w h
 obtain⟨m,hm⟩:=zfB h
 have:=Tryz.strings_Contains ⟨l.toArray⟩ ⟨p.toArray⟩ m w (by simpa[ByteArray.size]using hl) hm
 simpa using this
def zZ:List UInt8:=[114,101,97,100]
def w8:List UInt8:=[116,114,121]
def j8:List UInt8:=[119,114,105,116,101]
def jT:List UInt8:=[115,99,97,110]
def yO:List UInt8:=[101,110,118]
def wQ:List UInt8:=[107,101,101,112]
def kG:List UInt8:=[110,101,101,100]
def wP:List UInt8:=[115,111,114,116]
def y4:List UInt8:=[117,110,105,113]
def kV:List UInt8:=[117,112,112,101,114]
def kY:List UInt8:=[99,111,117,110,116]
def yR:List UInt8:=[102,97,105,108]
def zCX:List UInt8:=[116,101,120,116]
def jU (n:List UInt8):Int × Bool :=
 if n=zZ∨n=w8∨n=j8 then(2,true) else if n=jT then(3,true) else if n=yO∨n=wQ∨n=kG then(2,false)
 else if n=wP∨n=y4∨n=kV∨n=kY∨n=yR then(1,false) else(0,false)
@[simp] theorem zAq:qZ Tryz.prog 133=true:=by kernel_rfl
@[simp] theorem zBh:z8 Tryz.prog (.func 133)=false:=q9 zAq
@[simp] theorem znr:qZ Tryz.prog 95=true:=by kernel_rfl
@[simp] theorem zs6:z8 Tryz.prog (.func 95)=false:=q9 znr
@[simp] theorem zoy:qZ Tryz.prog 63=true:=by kernel_rfl
@[simp] theorem zrF:z8 Tryz.prog (.func 63)=false:=q9 zoy
set_option maxHeartbeats 8000000 in
theorem zj8 (n:List UInt8):PC Tryz.prog 133 [.av .str (.s n)] (.tup [(.int .i64,.i .i64 (jU n).1),(.bool,.b (jU n).2)]):=by
 refine zow Tryz.func133 cf0 fun imm0 w0=>?_
 by_cases h1:n=zZ
 ·subst h1;simp (disch:=omega) [zz,Tryz.f133,jU,zZ]
 have h1':¬n=[114,101,97,100]:=h1
 by_cases h2:n=w8
 ·subst h2;simp (disch:=omega) [zz,Tryz.f133,jU,zZ,w8]
 have h2':¬n=[116,114,121]:=h2
 by_cases h3:n=j8
 ·subst h3;simp (disch:=omega) [zz,Tryz.f133,jU,zZ,w8,j8]
 have h3':¬n=[119,114,105,116,101]:=h3
 by_cases h4:n=jT
 ·subst h4;simp (disch:=omega) [zz,Tryz.f133,jU,zZ,w8,j8,jT]
 have h4':¬n=[115,99,97,110]:=h4
 by_cases h5:n=yO
 ·subst h5;simp (disch:=omega) [zz,Tryz.f133,jU,zZ,w8,j8,jT,yO]
 have h5':¬n=[101,110,118]:=h5
 by_cases h6:n=wQ
 ·subst h6;simp (disch:=omega) [zz,Tryz.f133,jU,zZ,w8,j8,jT,yO,wQ]
 have h6':¬n=[107,101,101,112]:=h6
 by_cases h7:n=kG
 ·subst h7;simp (disch:=omega) [zz,Tryz.f133,jU,zZ,w8,j8,jT,yO,wQ,kG]
 have h7':¬n=[110,101,101,100]:=h7
 by_cases h8:n=wP
 ·subst h8;simp (disch:=omega) [zz,Tryz.f133,jU,zZ,w8,j8,jT,yO,wQ,kG,wP]
 have h8':¬n=[115,111,114,116]:=h8
 by_cases h9:n=y4
 ·subst h9;simp (disch:=omega) [zz,Tryz.f133,jU,zZ,w8,j8,jT,yO,wQ,kG,wP,y4]
 have h9':¬n=[117,110,105,113]:=h9
 by_cases h10:n=kV
 ·subst h10;simp (disch:=omega) [zz,Tryz.f133,jU,zZ,w8,j8,jT,yO,wQ,kG,wP,y4,kV]
 have h10':¬n=[117,112,112,101,114]:=h10
 by_cases h11:n=kY
 ·subst h11;simp (disch:=omega) [zz,Tryz.f133,jU,zZ,w8,j8,jT,yO,wQ,kG,wP,y4,kV,kY]
 have h11':¬n=[99,111,117,110,116]:=h11
 by_cases h12:n=yR
 ·subst h12;simp (disch:=omega) [zz,Tryz.f133,jU,zZ,w8,j8,jT,yO,wQ,kG,wP,y4,kV,kY,yR]
 have h12':¬n=[102,97,105,108]:=h12
 have hv:jU n=(0,false):=by simp[jU,h1,h2,h3,h4,h5,h6,h7,h8,h9,h10,h11,h12]
 simp (disch:=omega) [zz,h1',h2',h3',h4',h5',h6',h7',h8',h9',h10',h11',h12',hv,Tryz.f133]
theorem zdn (l:List UInt8) (hl:l.length≤1000000):PC Tryz.prog 130 [.av .str (.s l)] (.av (.slice 9) (.sl .no (strs (zR l)))):=by
 refine q7.freeze (R:=fun r H'=>∃b,r=.av (.slice 9) (.msl b 9 0 (zR l).length (zR l).length)∧H'=[(b,.var (.arr (zR l).length 9) (.agg (strs (zR l))))]) laid ?_ ?_
 ·refine zov Tryz.func130 cf0 fun imm0 w0=>?_
  simp (disch:=omega) [zz]
  refine qE (R:=fun r H'=>∃b cap,r=.av (.slice 9) (.msl b 9 0 (zR l).length cap)∧H'=[(b,.var (.arr cap 9) (.agg (strs (zR l))))]∧cap=(zR l).length) [] [] (by simp) rfl (by simp[qQ]) (by simp) ?_ ?_
  ·simpa[TV.er,AV.er]using za2 l hl
  rintro r H' ⟨b,cap,rfl,rfl,rfl⟩ _
  refine⟨_,by simpa using HSub.refl _,?_⟩
  have hek:∀ws,AV.erks (strs ws)=strs ws:=fun ws=>by simp[strs,AV.erks_eq,Function.comp_def]
  simp (disch:=omega) [zz,Tryz.f130,hek]
 ·rintro r H' ⟨b,rfl,rfl⟩ _
  left
  refine⟨b,(zR l).length,9,_,[],List.Perm.refl _,?_,rfl⟩
  simp only[zho,fzA]
  rw[if_pos ⟨trivial,trivial,by omega,by omega⟩]
  simp only[List.drop_zero]
  rw[List.take_of_length_le (by simp[strs])]
end Go.Proofs.YtcgpcfcbienapaaGreatDoor
end
