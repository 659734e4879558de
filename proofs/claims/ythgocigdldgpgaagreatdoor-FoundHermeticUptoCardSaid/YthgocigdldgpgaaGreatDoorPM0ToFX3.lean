/- The reference's May, Dir, Under: the walks. No condition beyond each theorem's own. -/
import Derived.Test.YthgocigdldgpgaaGreatDoorP10ToK6
import Derived.Test.YthgocigdldgpgaaGreatDoorFW2ToPD
set_option linter.unusedSimpArgs false
set_option linter.unusedVariables false
set_option linter.unusedSectionVars false
section
set_option maxRecDepth 100000
namespace Go.Proofs.YthgocigdldgpgaaGreatDoor
open Go Go.Ab
open Classical
variable [Sel]
theorem zh6 (p:List (List UInt8)) (k:Nat) (h:k<p.length):(strs p)[k]?=some (.s p[k]):=by simp[strs,List.getElem?_eq_getElem h]
set_option maxHeartbeats 8000000 in
theorem zl8 (l:List UInt8) (hl:l.length≤1000000000):PC Tryz.prog 79 [.av .str (.s l)] (.av .bool (.b (yV l))):=by
 refine PC.of <| q7.of_vc laid mixed Tryz.func79 rfl cf0 (by kernel_rfl) (by simp[Tryz.ntmps79]) fun imm0 w0=>?_
 (simp (maxSteps:=2000000) (disch:=first|omega|assumption) [zz])
 refine qL (u9 l hl) rfl rfl (by simp) (by simp[qS,TV.er,AV.er]) ?_
 (simp (maxSteps:=2000000) (disch:=first|omega|assumption) [zz])
 have hle:=QQ 47 l
 obtain⟨p,hp⟩:∃p,p=qT 47 l:=⟨_,rfl⟩
 have hlen:∀x∈p,x.length≤l.length:=fun x hx=>kU 47 l x (by rw[←hp];exact hx)
 rw[←hp]at hle ⊢
 refine AT.loop' (α:=Nat) (fun k=>St.of [(3,.av (.slice 9) (.sl .no (strs p))),(4,.av (.int .i64) (.i .i64 k))] [] (fun _=>0) []) (fun k=>k≤p.length∧∀x∈p.take k,Q0 x=true) (fun k=>p.length-k) 0 ?_ ?_ ?_
 ·refine Le.of ?_ ?_ ?_ ?_ ?_<;>simp[qU,qG,qO,qH,qP,qK,qF,qI,qJ,qN,zX]<;>try omega
 ·simp
 rintro k ⟨hk,hall⟩ KL hN hE
 refine qM (cf:=cf0) laid mixed _ _ _ (by kernel_rfl) ?_
 by_cases hlt:k<p.length
 ·have hlt':(k:Int)<p.length:=by omega
  have hx:=hlen p[k] (List.getElem_mem _)
  have hg:=zh6 p k hlt
  (simp (maxSteps:=2000000) (disch:=first|omega|assumption) [zz,hlt',hg])
  refine qL (zcA p[k] (by omega)) rfl rfl (by simp) (by simp[qS,TV.er,AV.er]) ?_
  cases hpv:Q0 p[k]
  ·(simp (maxSteps:=2000000) (disch:=first|omega|assumption) [zz])
   refine hE _ _ (by simp) ?_
   have:yV l=false:=by
    simp only[yV,Bool.and_eq_false_iff]
    right
    rw[List.all_eq_false]
    exact⟨p[k],by rw[←hp];exact List.getElem_mem _,by simp[hpv]⟩
   (simp (maxSteps:=2000000) (disch:=first|omega|assumption) [zz,Tryz.f79,this])
  ·(simp (maxSteps:=2000000) (disch:=first|omega|assumption) [zz])
   refine hN _ (k+1) ?_ ⟨by omega,by rw[Z2 hlt];exact⟨hall,hpv⟩⟩ (by omega)
   refine Le.of ?_ ?_ ?_ ?_ ?_<;>simp[qU,qG,qO,qH,qP,qK,qF,qI,qJ,qN,zX]<;>try omega
 ·have hlt':¬(k:Int)<p.length:=by omega
  (simp (maxSteps:=2000000) (disch:=first|omega|assumption) [zz,hlt'])
  refine hE _ _ (by simp) ?_
  rw[List.take_of_length_le (by omega)]at hall
  have hal:p.all Q0=true:=by simpa using hall
  (simp (maxSteps:=2000000) (disch:=first|omega|assumption) [zz,Tryz.f79,yV,←hp,hal])
  omega
theorem zvw (p:List (List UInt8)) (k:Nat):(zuL (p.take k)).length≤(zuL p).length:=by
 by_cases h1:p.take k=[]
 ·rw[h1];simp[zuL]
 by_cases h2:p.drop k=[]
 ·have:=List.take_append_drop k p
  rw[h2,List.append_nil]at this
  rw[this];exact Nat.le_refl _
 ·have:=zv1 _ _ h1 h2
  rw[List.take_append_drop]at this
  rw[this];simp
set_option maxHeartbeats 8000000 in
theorem zwx (l:List UInt8) (hl:l.length≤1000000000):PC Tryz.prog 118 [.av .str (.s l)] (.av .str (.s (zuX l))):=by
 refine PC.of <| q7.of_vc laid mixed Tryz.func118 rfl cf0 (by kernel_rfl) (by simp[Tryz.ntmps118]) fun imm0 w0=>?_
 (simp (maxSteps:=2000000) (disch:=first|omega|assumption) [zz])
 refine qL (u9 l hl) rfl rfl (by simp) (by simp[qS,TV.er,AV.er]) ?_
 (simp (maxSteps:=2000000) (disch:=first|omega|assumption) [zz])
 refine qL (zl8 l hl) rfl rfl (by simp) (by simp[qS,TV.er,AV.er]) ?_
 have hle:=QQ 47 l
 have hne:=JJ 47 l
 obtain⟨p,hp⟩:∃p,p=qT 47 l:=⟨_,rfl⟩
 have hlen:∀x∈p,x.length≤l.length:=fun x hx=>kU 47 l x (by rw[←hp];exact hx)
 have hjl:zuL p=l:=by rw[hp];exact zuR l
 have hjt:=fun k=>zvw p k
 rw[hjl]at hjt
 have hd:zuX l=if yV l=true∧p.length≠1 then zuL p.dropLast else []:=by rw[hp];rfl
 rw[←hp]at hle hne ⊢
 have hpos:0<p.length:=List.length_pos_iff.2 hne
 cases hm:yV l
 ·(simp (maxSteps:=2000000) (disch:=first|omega|assumption) [zz,Tryz.f118,hd,hm])
 by_cases h1:p.length=1
 ·(simp (maxSteps:=2000000) (disch:=first|omega|assumption) [zz,h1,Tryz.f118,hd,hm])
 have h1':¬(p.length:Int)=1:=by omega
 have hg0:=zh6 p 0 hpos
 (simp (maxSteps:=2000000) (disch:=first|omega|assumption) [zz,h1',hg0])
 refine⟨hpos,?_⟩
 refine AT.loop' (α:=Nat) (fun k=>St.of [(3,.av (.slice 9) (.sl .no (strs p))),(4,.av .str (.s (zuL (p.take k)))),(5,.av (.int .i64) (.i .i64 k))] [] (fun _=>0) []) (fun k=>1≤k∧k+1≤p.length) (fun k=>p.length-k) 1 ?_ ?_ ?_
 ·have e:zuL (p.take 1)=p[0]:=by
   cases p with
   | nil=>exact absurd rfl hne
   | cons x r=>simp[zuL]
  refine Le.of ?_ ?_ ?_ ?_ ?_<;>simp[qU,qG,qO,qH,qP,qK,qF,qI,qJ,qN,zX,e]<;>try omega
 ·omega
 rintro k ⟨hk1,hk2⟩ KL hN hE
 refine qM (cf:=cf0) laid mixed _ _ _ (by kernel_rfl) ?_
 by_cases hlt:k+1<p.length
 ·have hlt':(k:Int)<(p.length:Int)-1:=by omega
  have hx:=hlen p[k] (List.getElem_mem _)
  have hg:=zh6 p k (by omega)
  have hj:=hjt k
  have hsn:zuL (p.take (k+1))=zuL (p.take k)++47::p[k]:=by
   rw[List.take_succ_eq_append_getElem (by omega),zv1 _ _ (by
    intro h
    rcases List.take_eq_nil_iff.1 h with h|h
    ·omega
    ·exact hne h) (by simp)]
   rfl
  (simp (maxSteps:=2000000) (disch:=first|omega|assumption) [zz,hlt',hg])
  (repeat with_reducible refine om ?_)
  refine hN _ (k+1) ?_ ⟨by omega,by omega⟩ (by omega)
  refine Le.of ?_ ?_ ?_ ?_ ?_<;>simp[qU,qG,qO,qH,qP,qK,qF,qI,qJ,qN,zX,hsn]<;>try omega
 ·have hlt':¬(k:Int)<(p.length:Int)-1:=by omega
  (simp (maxSteps:=2000000) (disch:=first|omega|assumption) [zz,hlt'])
  refine hE _ _ (by simp) ?_
  have e:p.take k=p.dropLast:=by rw[List.dropLast_eq_take];congr 1;omega
  (simp (maxSteps:=2000000) (disch:=first|omega|assumption) [zz,Tryz.f118,hd,hm,h1,e])
set_option maxHeartbeats 8000000 in
theorem zvB (d:List UInt8) (hdl:d.length≤1000000000):∀(n:Nat) (l:List UInt8),l.length≤n→l.length≤1000000000→PC Tryz.prog 80 [.av .str (.s l),.av .str (.s d)] (.av .bool (.b (zuT l d)))
 | 0,l,hn,hl=>by
  obtain rfl:l=[]:=List.eq_nil_of_length_eq_zero (by omega)
  refine PC.of <| q7.of_vc laid mixed Tryz.func80 rfl cf0 (by kernel_rfl) (by simp[Tryz.ntmps80]) fun imm0 w0=>?_
  (simp (maxSteps:=2000000) (disch:=first|omega|assumption) [zz])
  refine qL (zl8 [] (by simp)) rfl rfl (by simp) (by simp[qS,TV.er,AV.er,coC]) ?_
  have hm:yV []=false:=by decide
  (simp (maxSteps:=2000000) (disch:=first|omega|assumption) [zz,Tryz.f80,zuT,hm])
 | n+1,l,hn,hl=>by
  refine PC.of <| q7.of_vc laid mixed Tryz.func80 rfl cf0 (by kernel_rfl) (by simp[Tryz.ntmps80]) fun imm0 w0=>?_
  (simp (maxSteps:=2000000) (disch:=first|omega|assumption) [zz])
  refine qL (zl8 l hl) rfl rfl (by simp) (by simp[qS,TV.er,AV.er,coC]) ?_
  cases hm:yV l
  ·(simp (maxSteps:=2000000) (disch:=first|omega|assumption) [zz,Tryz.f80,zuT,hm])
  by_cases hd:d=[]
  ·(simp (maxSteps:=2000000) (disch:=first|omega|assumption) [zz,Tryz.f80,zuT,hm,hd])
  (simp (maxSteps:=2000000) (disch:=first|omega|assumption) [zz,hd])
  refine qL (zwx l hl) rfl rfl (by simp) (by simp[qS,TV.er,AV.er,coC]) ?_
  have hst:=zvW hm hd
  have hlt:=zwv (l:=l)
  generalize hu:zuX l=u at *
  by_cases h1:u=[]
  ·(simp (maxSteps:=2000000) (disch:=first|omega|assumption) [zz,Tryz.f80,hst,h1])
  by_cases h2:u=d
  ·(simp (maxSteps:=2000000) (disch:=first|omega|assumption) [zz,Tryz.f80,hst,h1,h2,hd])
  have hlu:=hlt h1
  (simp (maxSteps:=2000000) (disch:=first|omega|assumption) [zz,h1,h2])
  refine qL (zvB d hdl n u (by omega) (by omega)) rfl rfl (by simp) (by simp[qS,TV.er,AV.er,coC]) ?_
  (simp (maxSteps:=2000000) (disch:=first|omega|assumption) [zz,Tryz.f80,hst,h1,h2])
end Go.Proofs.YthgocigdldgpgaaGreatDoor
end
section
set_option maxRecDepth 100000
namespace Go.Proofs.YthgocigdldgpgaaGreatDoor
open Go Go.Ab
open Classical
variable [Sel] [SelPow] [SelMax]
def tkQ (d:Nat):Nat→Tok
 | 0=>.full
 | k+1=>.own d (k+1)
theorem zw1 (l:List Txt) (k:Nat) (h:k<l.length):strs (l.reverse.take (k+1))=strs (l.reverse.take k)++[AV.s l[l.length-1-k]]:=by
 have h':k<l.reverse.length:=by rw[List.length_reverse];exact h
 rw[List.take_succ_eq_append_getElem h',List.getElem_reverse,Z6];rfl
abbrev cfQ:Cfg:=⟨fun _=>false,fun _=>false⟩
set_option maxHeartbeats 8000000 in
theorem zv8 (l:List Txt) (hl:l.length≤1000000):PC Tryz.prog 34 [.av (.slice 9) (.sl .no (strs l))] (.av (.slice 9) (.sl .no (strs l.reverse))):=by
 refine PC.of <| q7.of_vc laid mixed Tryz.func34 rfl cfQ (by kernel_rfl) (by simp[Tryz.ntmps34]) fun imm0 w0=>?_
 (simp (maxSteps:=2000000) (disch:=first|omega|assumption) [zz,-List.reduceReplicate,qX])
 refine AT.loop' (α:=Nat) (fun k=>St.of [(0,.av (.slice 9) (.sl .no (strs l))),(3,.av (.slice 9) (.sl (tkQ 19 k) (strs (l.reverse.take k)))),(4,.av (.int .i64) (.i .i64 ((l.length:Int)-1-k)))] [] (fun j=>if j=19 then k else 0) [])
  (fun k=>k≤l.length) (fun k=>l.length-k) 0 ?_ ?_ ?_
 ·refine Le.of ?_ ?_ ?_ ?_ ?_<;>simp[qU,qG,qO,qH,qP,qK,qF,qI,qJ,qN,tkQ,strs]<;>try omega
 ·omega
 rintro k hk KL hN hE
 refine qM (cf:=cfQ) laid mixed _ _ _ (by kernel_rfl) ?_
 by_cases hlt:k<l.length
 ·obtain⟨i,hi⟩:∃i,i=l.length-1-k:=⟨_,rfl⟩
  have hiI:(l.length:Int)-1-k=i:=by omega
  have hi0:(0:Int)≤i:=by omega
  have hil:i<l.length:=by omega
  have hil':(i:Int)<l.length:=by omega
  have hg:=yH l i hil
  have hst:=zw1 l k hlt
  have he:l[l.length-1-k]=l[i]:=by simp only[hi]
  rw[he]at hst
  have htl:(l.reverse.take k).length=k:=by rw[List.length_take,List.length_reverse];omega
  obtain⟨x,hx⟩:∃x,x=l[i]:=⟨_,rfl⟩
  rw[←hx]at hst hg
  rw[hiI]
  cases k with
  | zero =>
   (simp (maxSteps:=2000000) (disch:=first|omega|assumption) [zz,hi0,hil,hil',hg,qX,tkQ])
   (simp (maxSteps:=2000000) (disch:=first|omega|assumption) [zz,wB])
   (repeat with_reducible refine om ?_)
   refine hN _ 1 ?_ (by omega) (by omega)
   refine Le.of ?_ ?_ ?_ ?_ ?_<;>simp[qU,qG,qO,qH,qP,qK,qF,qI,qJ,qN,tkQ,hst]<;>try omega
  | succ k =>
   (simp (maxSteps:=2000000) (disch:=first|omega|assumption) [zz,hi0,hil,hil',hg,qX,tkQ,htl])
   (simp (maxSteps:=2000000) (disch:=first|omega|assumption) [zz,wB,htl])
   (repeat with_reducible refine om ?_)
   refine hN _ (k+2) ?_ (by omega) (by omega)
   refine Le.of ?_ ?_ ?_ ?_ ?_<;>simp[qU,qG,qO,qH,qP,qK,qF,qI,qJ,qN,tkQ,hst]<;>try omega
   all_goals (intro j;by_cases hj:j=19<;>simp[hj])
 have hkk:(l.length:Int)-1-k=-1:=by omega
 have htl:l.reverse.take k=l.reverse:=List.take_of_length_le (by rw[List.length_reverse];omega)
 rw[hkk,htl]
 clear hkk htl
 (simp (maxSteps:=2000000) (disch:=first|omega|assumption) [zz,qX])
 refine hE _ _ (by simp) ?_
 (simp (maxSteps:=2000000) (disch:=first|omega|assumption) [zz,qX,Tryz.f34])
def zwB:Txt:=[111,117,116]
def zuO (fs:List U1) (i:Nat) (h:i<fs.length):Int :=
 if yV fs[i].path=false∨fs[i].path=zwB∨zuT fs[i].path zwB=true then 7
 else if h0:0<i then(if fs[i].path=(fs[i-1]'(by omega)).path then 8 else if Op.bytesLess fs[i].path (fs[i-1]'(by omega)).path=true then 2 else if 65536<fs[i].data.length then 6 else 0)
 else if 65536<fs[i].data.length then 6 else 0
noncomputable def zvm (fs:List U1):Int:=if 1024<fs.length then 6 else if h:∃i,∃hi:i<fs.length,zuO fs i hi≠0∧∀j (hj:j<i),zuO fs j (by omega)=0 then zuO fs h.choose h.choose_spec.choose else 0
theorem zww {fs:List U1} (h0:¬1024<fs.length) {k:Nat} (hk:k<fs.length) (h1:zuO fs k hk≠0) (h2:∀j (hj:j<k),zuO fs j (by omega)=0):zvm fs=zuO fs k hk:=by
 have hex:∃i,∃hi:i<fs.length,zuO fs i hi≠0∧∀j (hj:j<i),zuO fs j (by omega)=0:=⟨k,hk,h1,h2⟩
 unfold zvm
 rw[if_neg h0,dif_pos hex]
 obtain⟨hi,hne,hall⟩:=hex.choose_spec
 have:hex.choose=k:=by
  rcases Nat.lt_trichotomy hex.choose k with h|h|h
  ·exact absurd (h2 _ h) hne
  ·exact h
  ·exact absurd (hall k h) h1
 simp only[this]
theorem zwc {fs:List U1} (h0:¬1024<fs.length) (h2:∀j (hj:j<fs.length),zuO fs j hj=0):zvm fs=0:=by
 unfold zvm
 rw[if_neg h0,dif_neg]
 rintro⟨i,hi,h,_⟩
 exact h (h2 i hi)
set_option maxHeartbeats 16000000 in
theorem zvq (fs:List U1) (hp:∀f∈fs,f.path.length≤1000000) (hn:fs.length≤1000000000):PC Tryz.prog 36 [.av (.slice 66) (zU fs)] (.av (.int .i64) (.i .i64 (zvm fs))):=by
 refine PC.of <| q7.of_vc laid mixed Tryz.func36 rfl cf0 (by kernel_rfl) (by simp[Tryz.ntmps36]) fun imm0 w0=>?_
 by_cases h0:1024<fs.length
 ·have h0':(1024:Int)<fs.length:=by omega
  have hv:zvm fs=6:=by unfold zvm;rw[if_pos h0]
  (simp (maxSteps:=2000000) (disch:=first|omega|assumption) [zz,-List.reduceReplicate,zU,h0',hv,Tryz.f36])
 have h0':¬(1024:Int)<fs.length:=by omega
 (simp (maxSteps:=2000000) (disch:=first|omega|assumption) [zz,-List.reduceReplicate,zU,h0'])
 refine AT.loop' (α:=Nat) (fun k=>St.of [(0,.av (.slice 66) (zU fs)),(9,.av (.int .i64) (.i .i64 fs.length)),(10,.av (.int .i64) (.i .i64 k))] [] (fun _=>0) [])
  (fun k=>k≤fs.length∧∀j (hj:j<fs.length),j<k→zuO fs j hj=0) (fun k=>fs.length-k) 0 ?_ ?_ ?_
 ·refine Le.of ?_ ?_ ?_ ?_ ?_<;>simp[qU,qG,zU]<;>try omega
 ·exact⟨by omega,fun j hj h=>by omega⟩
 rintro k ⟨hk,hall⟩ KL hN hE
 refine qM (cf:=cf0) laid mixed _ _ _ (by kernel_rfl) ?_
 by_cases hlt:k<fs.length
 ·have hlt':(k:Int)<fs.length:=by omega
  have hg:=KB jZ fs k hlt
  have hpl:=hp _ (List.getElem_mem hlt)
  have hsc:zuO fs k hlt=zuO fs k hlt:=rfl
  conv at hsc=>rhs;unfold zuO
  have hbad:zuO fs k hlt≠0→zvm fs=zuO fs k hlt:=fun h=>zww h0 hlt h fun j hj=>hall j (by omega) hj
  obtain⟨f,hf⟩:∃f,f=fs[k]:=⟨_,rfl⟩
  rw[←hf]at hg hpl
  simp only[←hf]at hsc
  have hmy:=zl8 f.path (by omega)
  have hun:=zvB zwB (by decide) f.path.length f.path (Nat.le_refl _) (by omega)
  rw[show zwB=[111,117,116] from rfl]at hun hsc
  (simp (maxSteps:=2000000) (disch:=first|omega|assumption) [zz,-List.reduceReplicate,hlt',hg,jZ,zU])
  refine qL hmy rfl rfl (by simp) (by simp[qS,TV.er,AV.er]) ?_
  cases hm:yV f.path with
  | false =>
   have hs:zuO fs k hlt=7:=by rw[hsc,if_pos (.inl hm)]
   have hv:=hbad (by omega)
   rw[hs]at hv
   (simp (maxSteps:=2000000) (disch:=first|omega|assumption) [zz,-List.reduceReplicate,hm])
   refine hE _ _ (by simp) ?_
   (simp (maxSteps:=2000000) (disch:=first|omega|assumption) [zz,-List.reduceReplicate,hv,Tryz.f36])
  | true =>
  by_cases ho:f.path=[111,117,116]
  ·have hs:zuO fs k hlt=7:=by rw[hsc,if_pos (.inr (.inl ho))]
   have hv:=hbad (by omega)
   rw[hs]at hv
   (simp (maxSteps:=2000000) (disch:=first|omega|assumption) [zz,-List.reduceReplicate,hm,ho])
   refine hE _ _ (by simp) ?_
   (simp (maxSteps:=2000000) (disch:=first|omega|assumption) [zz,-List.reduceReplicate,hv,Tryz.f36])
  (simp (maxSteps:=2000000) (disch:=first|omega|assumption) [zz,-List.reduceReplicate,hm,ho])
  refine qL hun rfl rfl (by simp) (by simp[qS,coC,TV.er,AV.er]) ?_
  cases hu:zuT f.path [111,117,116]with
  | true =>
   have hs:zuO fs k hlt=7:=by rw[hsc,if_pos (.inr (.inr hu))]
   have hv:=hbad (by omega)
   rw[hs]at hv
   (simp (maxSteps:=2000000) (disch:=first|omega|assumption) [zz,-List.reduceReplicate,hu])
   refine hE _ _ (by simp) ?_
   (simp (maxSteps:=2000000) (disch:=first|omega|assumption) [zz,-List.reduceReplicate,hv,Tryz.f36])
  | false =>
  rw[if_neg (by simp[hm,ho,hu])]at hsc
  cases k with
  | zero =>
   rw[dif_neg (by omega)]at hsc
   by_cases hd:65536<f.data.length
   ·have hd':(65536:Int)<f.data.length:=by omega
    rw[if_pos hd]at hsc
    have hv:=hbad (by omega)
    rw[hsc]at hv
    (simp (maxSteps:=2000000) (disch:=first|omega|assumption) [zz,-List.reduceReplicate,hu,hlt,hlt',hg,jZ,zU,hd'])
    refine hE _ _ (by simp) ?_
    (simp (maxSteps:=2000000) (disch:=first|omega|assumption) [zz,-List.reduceReplicate,hv,Tryz.f36])
   ·have hd':¬(65536:Int)<f.data.length:=by omega
    rw[if_neg hd]at hsc
    (simp (maxSteps:=2000000) (disch:=first|omega|assumption) [zz,-List.reduceReplicate,hu,hlt,hlt',hg,jZ,zU,hd'])
    refine hN _ 1 ?_ ⟨by omega,fun j hj h=>by
                           obtain rfl:j=0:=by omega
                           exact hsc⟩ (by omega)
    refine Le.of ?_ ?_ ?_ ?_ ?_<;>simp[qU,qG,zU]<;>try omega
  | succ k =>
   rw[dif_pos (by omega)]at hsc
   have hg2:=KB jZ fs k (by omega)
   have hkk:(k:Int)<fs.length:=by omega
   have hk0:(0:Int)<(k:Int)+1:=by omega
   simp only[Nat.add_sub_cancel]at hsc
   obtain⟨g,hgg⟩:∃g,g=fs[k]:=⟨_,rfl⟩
   rw[←hgg]at hg2
   simp only[←hgg]at hsc
   by_cases e1:f.path=g.path
   ·rw[if_pos e1]at hsc
    have hv:=hbad (by omega)
    rw[hsc]at hv
    (simp (maxSteps:=2000000) (disch:=first|omega|assumption) [zz,-List.reduceReplicate,hu,hlt,hlt',hkk,hk0,hg,hg2,jZ,zU,e1])
    refine hE _ _ (by simp) ?_
    (simp (maxSteps:=2000000) (disch:=first|omega|assumption) [zz,-List.reduceReplicate,hv,Tryz.f36])
   rw[if_neg e1]at hsc
   cases e2:Op.bytesLess f.path g.path with
   | true =>
    rw[if_pos e2]at hsc
    have hv:=hbad (by omega)
    rw[hsc]at hv
    (simp (maxSteps:=2000000) (disch:=first|omega|assumption) [zz,-List.reduceReplicate,hu,hlt,hlt',hkk,hk0,hg,hg2,jZ,zU,e1,e2])
    refine hE _ _ (by simp) ?_
    (simp (maxSteps:=2000000) (disch:=first|omega|assumption) [zz,-List.reduceReplicate,hv,Tryz.f36])
   | false =>
   rw[if_neg (by simp[e2])]at hsc
   by_cases hd:65536<f.data.length
   ·have hd':(65536:Int)<f.data.length:=by omega
    rw[if_pos hd]at hsc
    have hv:=hbad (by omega)
    rw[hsc]at hv
    (simp (maxSteps:=2000000) (disch:=first|omega|assumption) [zz,-List.reduceReplicate,hu,hlt,hlt',hkk,hk0,hg,hg2,jZ,zU,e1,e2,hd'])
    (repeat with_reducible refine om ?_)
    refine hE _ _ (by simp) ?_
    (simp (maxSteps:=2000000) (disch:=first|omega|assumption) [zz,-List.reduceReplicate,hv,Tryz.f36])
   ·have hd':¬(65536:Int)<f.data.length:=by omega
    rw[if_neg hd]at hsc
    (simp (maxSteps:=2000000) (disch:=first|omega|assumption) [zz,-List.reduceReplicate,hu,hlt,hlt',hkk,hk0,hg,hg2,jZ,zU,e1,e2,hd'])
    (repeat with_reducible refine om ?_)
    refine hN _ (k+2) ?_ ⟨by omega,fun j hj h=>?_⟩ (by omega)
    ·refine Le.of ?_ ?_ ?_ ?_ ?_<;>simp[qU,qG,zU]<;>try omega
    ·rcases Nat.lt_or_ge j (k+1)with h'|h'
     ·exact hall j hj h'
     ·obtain rfl:j=k+1:=by omega
      exact hsc
 ·have hlt':¬(k:Int)<fs.length:=by omega
  have hv:=zwc h0 fun j hj=>hall j hj (by omega)
  (simp (maxSteps:=2000000) (disch:=first|omega|assumption) [zz,-List.reduceReplicate,hlt',zU])
  refine hE _ _ (by simp) ?_
  (simp (maxSteps:=2000000) (disch:=first|omega|assumption) [zz,-List.reduceReplicate,hv,Tryz.f36])
noncomputable def zuW (fs:List U1) (p:Txt):List U1:=if zvm fs=0 then fs.filter (fun f=>!decide (f.path=p)) else []
theorem zwa {α:Type} (P:α→Bool) (l:List α) (k:Nat) (h:k<l.length):(l.take (k+1)).filter P=(l.take k).filter P++if P l[k]=true then [l[k]] else []:=by
 rw[List.take_succ_eq_append_getElem h,List.filter_append]
 by_cases hp:P l[k]=true
 ·simp[hp]
 ·simp[hp]
set_option maxHeartbeats 16000000 in
theorem zw9 (fs:List U1) (p:Txt) (hp:∀f∈fs,f.path.length≤1000000) (hn:fs.length≤1000000):PC Tryz.prog 35 [.av (.slice 66) (zU fs),.av .str (.s p)] (.av (.slice 66) (zU (zuW fs p))):=by
 have hef:=zdW fs
 refine PC.of <| q7.of_vc laid mixed Tryz.func35 rfl cfQ (by kernel_rfl) (by simp[Tryz.ntmps35]) fun imm0 w0=>?_
 (simp (maxSteps:=2000000) (disch:=first|omega|assumption) [zz,-List.reduceReplicate])
 refine qL (zvq fs hp (by omega)) rfl rfl (by simp) (by simp[qS,TV.er,AV.er,hef]) ?_
 by_cases hc:zvm fs=0
 rotate_left
 ·(simp (maxSteps:=2000000) (disch:=first|omega|assumption) [zz,-List.reduceReplicate,hc,zuW,zU,Tryz.f35])
 (simp (maxSteps:=2000000) (disch:=first|omega|assumption) [zz,-List.reduceReplicate,hc,zU])
 refine AT.loop' (α:=Nat × List U1) (fun x=>St.of [(0,.av (.slice 66) (zU fs)),(1,.av .str (.s p)),(5,.av (.slice 66) (.sl (tkQ 30 x.2.length) (x.2.map jZ))),(13,.av (.int .i64) (.i .i64 fs.length)),(14,.av (.int .i64) (.i .i64 x.1))] [] (fun j=>if j=30 then x.2.length else 0) [])
  (fun x=>x.1≤fs.length∧x.2=(fs.take x.1).filter fun f=>!decide (f.path=p)) (fun x=>fs.length-x.1) (0,[]) ?_ ?_ ?_
 ·refine Le.of ?_ ?_ ?_ ?_ ?_<;>simp[qU,qG,tkQ,zU]<;>try omega
 ·exact⟨by simp only;omega,rfl⟩
 rintro⟨k,L⟩ ⟨hk,hL⟩ KL hN hE
 simp only at hk hL hN
 refine qM (cf:=cfQ) laid mixed _ _ _ (by kernel_rfl) ?_
 by_cases hlt:k<fs.length
 ·have hlt':(k:Int)<fs.length:=by omega
  have hg:=KB jZ fs k hlt
  have hfs:=zwa (fun f=>!decide (f.path=p)) fs k hlt
  rw[←hL]at hfs
  have hLl:L.length≤k:=by rw[hL];exact Nat.le_trans (List.length_filter_le _ _) (List.length_take_le _ _)
  obtain⟨q,hq⟩:∃q,q=fs[k]:=⟨_,rfl⟩
  rw[←hq]at hg hfs
  by_cases hin:q.path=p
  ·rw[if_neg (by simp[hin]),List.append_nil]at hfs
   (simp (maxSteps:=2000000) (disch:=first|omega|assumption) [zz,-List.reduceReplicate,hlt',hg,jZ,zU,hin])
   refine hN _ (k+1,L) ?_ ⟨by simp only;omega,hfs.symm⟩ (by simp only;omega)
   refine Le.of ?_ ?_ ?_ ?_ ?_<;>simp[qU,qG,zU]<;>try omega
  ·rw[if_pos (by simp[hin])]at hfs
   cases L with
   | nil =>
    (simp (maxSteps:=2000000) (disch:=first|omega|assumption) [zz,-List.reduceReplicate,hlt',hg,jZ,zU,hin,tkQ])
    (simp (maxSteps:=2000000) (disch:=first|omega|assumption) [zz,-List.reduceReplicate,wB])
    (repeat with_reducible refine om ?_)
    refine hN _ (k+1,[q]) ?_ ⟨by simp only;omega,by simpa using hfs.symm⟩ (by simp only;omega)
    refine Le.of ?_ ?_ ?_ ?_ ?_<;>simp[qU,qG,tkQ,jZ,zU]<;>try omega
   | cons y L =>
    simp only[List.length_cons]at hLl
    (simp (maxSteps:=2000000) (disch:=first|omega|assumption) [zz,-List.reduceReplicate,hlt',hg,jZ,zU,hin,tkQ])
    (simp (maxSteps:=2000000) (disch:=first|omega|assumption) [zz,-List.reduceReplicate,wB])
    (repeat with_reducible refine om ?_)
    refine hN _ (k+1,(y::L)++[q]) ?_ ⟨by simp only;omega,hfs.symm⟩ (by simp only;omega)
    refine Le.of ?_ ?_ ?_ ?_ ?_<;>simp[qU,qG,tkQ,jZ,zU]<;>try omega
    all_goals (intro j;by_cases hj:j=30<;>simp[hj])
 ·have hkn:k=fs.length:=by omega
  subst hkn
  have hlt':¬(fs.length:Int)<fs.length:=by omega
  rw[List.take_length]at hL
  have hdv:zuW fs p=L:=by unfold zuW;rw[if_pos hc,hL]
  (simp (maxSteps:=2000000) (disch:=first|omega|assumption) [zz,-List.reduceReplicate,hlt',zU])
  refine hE _ _ (by simp) ?_
  have hee:AV.ers (L.map jZ)=L.map jZ:=by simp[AV.ers_eq,Function.comp_def]
  (simp (maxSteps:=2000000) (disch:=first|omega|assumption) [zz,-List.reduceReplicate,hdv,zU,hee,Tryz.f35])
abbrev zxd:Cfg:=⟨fun _=>false,fun n=>n==1000015||n==2000097⟩
set_option maxHeartbeats 32000000 in
theorem zvk (a:xW) (fs:List U1) (f:U1) (ha:vA a≤1000000000) (hx:flW fs≤1000000000) (hf1:f.path.length≤1000000000) (hf2:f.data.length≤1000000000) :
  PC Tryz.prog 10 [.av UI (kT a),.av (.slice 66) (zU fs),.av zvS (jZ f)] (.av .bool (.b true)):=by
 have hex:=zdW fs
 have hae:=YB a
 have hgr:=d8 a ha
 have hgx:=zvj fs hx
 have hfx:=zvO
 have hall:=fun hab=>zvG a hab
 obtain⟨A,hA⟩:∃A,A=kT a:=⟨_,rfl⟩
 have hA5:A=.agg [.agg [.s a.pkg,.s a.name],.s a.tool,zS a.env,.sl .no (strs a.ins),.sl .no (strs a.asks),.sl .no (strs a.outs)]:=hA
 rw[←hA]at hgr hae hall ⊢
 refine PC.of <| q7.of_vc laid mixed Tryz.func10 rfl zxd (by kernel_rfl) (by simp[Tryz.ntmps10]) fun imm0 w0=>?_
 (simp (maxSteps:=2000000) (disch:=first|omega|assumption) [zz,-List.reduceReplicate])
 refine qL hgr rfl rfl (by simp) (by simp[qS,TV.er,hae]) ?_
 by_cases hg:2000<vA a
 ·(simp (maxSteps:=2000000) (disch:=first|omega|assumption) [zz,-List.reduceReplicate,hg])
  refine qL hfx rfl rfl (by simp) (by simp[qS,TV.er,AV.er]) ?_
  (simp (maxSteps:=2000000) (disch:=first|omega|assumption) [zz,-List.reduceReplicate,Tryz.f10])
 (simp (maxSteps:=2000000) (disch:=first|omega|assumption) [zz,-List.reduceReplicate,hg])
 refine qL hgx rfl rfl (by simp) (by simp[qS,TV.er,hex]) ?_
 by_cases h1:3000<flW fs
 ·(simp (maxSteps:=2000000) (disch:=first|omega|assumption) [zz,-List.reduceReplicate,h1])
  refine qL hfx rfl rfl (by simp) (by simp[qS,TV.er,AV.er]) ?_
  (simp (maxSteps:=2000000) (disch:=first|omega|assumption) [zz,-List.reduceReplicate,Tryz.f10])
 by_cases h2:300<f.path.length
 ·have h2':(300:Int)<f.path.length:=by omega
  (simp (maxSteps:=2000000) (disch:=first|omega|assumption) [zz,-List.reduceReplicate,h1,jZ,h2'])
  refine qL hfx rfl rfl (by simp) (by simp[qS,TV.er,AV.er]) ?_
  (simp (maxSteps:=2000000) (disch:=first|omega|assumption) [zz,-List.reduceReplicate,Tryz.f10])
 have h2':¬(300:Int)<f.path.length:=by omega
 by_cases h3:300<f.data.length
 ·have h3':(300:Int)<f.data.length:=by omega
  (simp (maxSteps:=2000000) (disch:=first|omega|assumption) [zz,-List.reduceReplicate,h1,jZ,h2',h3'])
  refine qL hfx rfl rfl (by simp) (by simp[qS,TV.er,AV.er]) ?_
  (simp (maxSteps:=2000000) (disch:=first|omega|assumption) [zz,-List.reduceReplicate,Tryz.f10])
 have h3':¬(300:Int)<f.data.length:=by omega
 (simp (maxSteps:=2000000) (disch:=first|omega|assumption) [zz,-List.reduceReplicate,h1,jZ,h2',h3'])
 have hab:=zbN (a:=a) (by omega)
 obtain⟨hlx,hnx⟩:=zws (l:=fs) (by omega)
 have hax:=hall hab fs (by omega)
 obtain⟨bo,br⟩:=zvH hab fs
 have hot:=fun gs=>zvz (fs:=fs) (gs:=gs) hab
 obtain⟨c,hc⟩:∃c:xW,c=⟨[],[120],a.tool,a.env,a.ins.reverse,a.asks.reverse,a.outs.reverse⟩:=⟨_,rfl⟩
 have hcb:zky c:=by
  subst hc
  exact⟨hab.bt,hab.be,hab.bev,by simpa using hab.bi,by simpa using hab.ba,by simpa using hab.bae,by simpa using hab.bo⟩
 have hac:=zvG c hcb fs (by omega)
 have htu:zuI c fs=zuI a fs:=zwm hcb (by rw[hc]) (by rw[hc]) (by simp[hc]) (by simp[hc]) (by simp[hc]) fs
 obtain⟨C5,hC5⟩:∃C5,C5=AV.agg [.agg [.s [],.s [120]],.s a.tool,zS a.env,.sl .no (strs a.ins.reverse),.sl .no (strs a.asks.reverse),.sl .no (strs a.outs.reverse)]:=⟨_,rfl⟩
 have hcA:kT c=C5:=by rw[hc,hC5];rfl
 have hce:C5.er=C5:=by rw[←hcA];exact YB c
 rw[htu,hcA]at hac
 obtain⟨X,hX⟩:∃X,X=zuI a fs:=⟨_,rfl⟩
 rw[←hX]at hax hac bo br
 simp only[←hX]at hot
 obtain⟨o,e⟩:=X
 simp only at hax hac bo br hot
 have hss:WJ o o=true:=u5.2 rfl
 have hso:=VG o o bo br bo br
 rw[hss]at hso
 have hoe:=KO o
 refine qL hax rfl rfl (by simp) (by simp[qS,TV.er,AV.er,hae,hex]) ?_
 (simp (maxSteps:=2000000) (disch:=first|omega|assumption) [zz,-List.reduceReplicate,hA5])
 (repeat with_reducible refine om ?_)
 refine jC (zv8 a.ins hab.bi) rfl rfl (by simp) (by simp[qS,coC,TV.er,AV.er]) ?_;(simp (maxSteps:=2000000) (disch:=first|omega|assumption) [zz])
 (repeat with_reducible refine om ?_)
 refine jC (zv8 a.asks hab.ba) rfl rfl (by simp) (by simp[qS,coC,TV.er,AV.er]) ?_;(simp (maxSteps:=2000000) (disch:=first|omega|assumption) [zz])
 (repeat with_reducible refine om ?_)
 refine jC (zv8 a.outs hab.bo) rfl rfl (by simp) (by simp[qS,coC,TV.er,AV.er]) ?_;(simp (maxSteps:=2000000) (disch:=first|omega|assumption) [zz])
 (repeat with_reducible refine om ?_)
 rw[←hC5]
 refine qL hac rfl rfl (by simp) (by simp[qS,TV.er,AV.er,hce,hex]) ?_
 (simp (maxSteps:=2000000) (disch:=first|omega|assumption) [zz,-List.reduceReplicate])
 refine qL hso rfl rfl (by simp) (by simp[qS,TV.er,hoe]) ?_
 (simp (maxSteps:=2000000) (disch:=first|omega|assumption) [zz,-List.reduceReplicate])
 rw[←hA5]
 refine AT.loop' (α:=Nat) (fun k=>St.of [(1,.av (.slice 66) (zU fs)),(3,.loc 3 []),(5,.loc 5 []),(7,.loc 7 []),(8,.av (.int .i64) (.i .i64 e)),(12,.av (.int .i64) (.i .i64 k))] [(3,(UI,A)),(5,(zvS,jZ f)),(7,(qD Tryz.prog 41,zI o))] (fun _=>0) [])
  (fun k=>k≤o.reads.length∧∀j (h:j<o.reads.length),j<k→o.reads[j].path≠f.path) (fun k=>o.reads.length-k) 0 ?_ ?_ ?_
 ·refine Le.of ?_ ?_ ?_ ?_ ?_<;>simp[qU,qG,jZ]<;>try omega
 ·exact⟨by omega,fun j h hj=>by omega⟩
 rintro k ⟨hk,hno⟩ KL hN hE
 refine qM (cf:=zxd) laid mixed _ _ _ (by kernel_rfl) ?_
 by_cases hlt:k<o.reads.length
 ·have hlt':(k:Int)<o.reads.length:=by omega
  have hga:=KB qI o.reads k hlt
  obtain⟨r,hr⟩:∃r,r=o.reads[k]:=⟨_,rfl⟩
  rw[←hr]at hga
  by_cases hrp:r.path=f.path
  ·(simp (maxSteps:=2000000) (disch:=first|omega|assumption) [zz,-List.reduceReplicate,hlt',hga,zI,qF,qI,jZ,hrp])
   (repeat with_reducible refine om ?_)
   refine qL hfx rfl rfl (by simp) (by simp[qS,TV.er,AV.er]) ?_
   (simp (maxSteps:=2000000) (disch:=first|omega|assumption) [zz,-List.reduceReplicate])
   refine hE _ _ (by simp) ?_
   (simp (maxSteps:=2000000) (disch:=first|omega|assumption) [zz,-List.reduceReplicate,Tryz.f10])
  ·(simp (maxSteps:=2000000) (disch:=first|omega|assumption) [zz,-List.reduceReplicate,hlt',hga,zI,qF,qI,jZ,hrp])
   (repeat with_reducible refine om ?_)
   refine hN _ (k+1) ?_ ⟨by omega,fun j hj h=>?_⟩ (by omega)
   ·refine Le.of ?_ ?_ ?_ ?_ ?_<;>simp[qU,qG,zI,qF,jZ]<;>try omega
   ·rcases Nat.lt_or_ge j k with h'|h'
    ·exact hno j hj h'
    ·have:j=k:=by omega
     subst this
     rw[←hr];exact hrp
 have hkn:k=o.reads.length:=by omega
 subst hkn
 have hlt':¬(o.reads.length:Int)<o.reads.length:=by omega
 have hnr:∀r∈o.reads,r.path≠f.path:=fun r hr=>by
  obtain⟨j,hj,rfl⟩:=List.getElem_of_mem hr
  exact hno j hj hj
 (simp (maxSteps:=2000000) (disch:=first|omega|assumption) [zz,-List.reduceReplicate,hlt',zI,qF])
 refine hE _ _ (by simp) ?_
 clear hN hE
 by_cases he:e=0
 rotate_left
 ·(simp (maxSteps:=2000000) (disch:=first|omega|assumption) [zz,-List.reduceReplicate,he])
  refine qL hfx rfl rfl (by simp) (by simp[qS,TV.er,AV.er]) ?_
  (simp (maxSteps:=2000000) (disch:=first|omega|assumption) [zz,-List.reduceReplicate,Tryz.f10])
 subst he
 have hm1:=hot (f::fs) rfl (zwg hlx (by omega)) fun r hr=>zw8 (hnr r hr)
 have hax2:=hall hab (f::fs) (by simp only[List.length_cons];omega)
 rw[hm1]at hax2
 have hee:AV.ers (fs.map jZ)=fs.map jZ:=by simp[AV.ers_eq,Function.comp_def]
 have hfe:(jZ f).er=jZ f:=zfq f
 (simp (maxSteps:=2000000) (disch:=first|omega|assumption) [zz,-List.reduceReplicate,zU])
 refine jW.of [0,1,3,9,2,4,5,6,7,8,10,11] [0,1,3,9] (by kernel_rfl) ?_
 (simp (maxSteps:=2000000) (disch:=first|omega|assumption) [zz,-List.reduceReplicate])
 (repeat with_reducible refine om ?_)
 (simp (maxSteps:=2000000) (disch:=first|omega|assumption) [zz,-List.reduceReplicate,wB])
 (repeat with_reducible refine om ?_)
 refine jC hax2 rfl rfl (by simp) (by simp[qS,coC,TV.er,AV.er,AV.ers,hae,hee,hfe,zU]) ?_
 (simp (maxSteps:=2000000) (disch:=first|omega|assumption) [zz,-List.reduceReplicate])
 (repeat with_reducible refine om ?_)
 have hpl:∀x∈fs,x.path.length≤1000000:=fun x hx=>by have:=zw5 hx;omega
 have hdl:(zuW fs f.path).length≤1000000:=by
  unfold zuW
  split
  ·exact Nat.le_trans (List.length_filter_le _ _) (by omega)
  ·simp
 have hdr:=zw9 fs f.path hpl (by omega)
 have hax3:=hall hab (zuW fs f.path) (by omega)
 have hm3:zvm fs=0→zuI a (zuW fs f.path)=(o,0):=fun h0=>by
  unfold zuW
  rw[if_pos h0]
  exact hot _ rfl (zwf hlx) fun r hr=>zwd (hnr r hr)
 have hck:=zvq fs hpl (by omega)
 obtain⟨zo,zr⟩:=zvH hab (zuW fs f.path)
 obtain⟨Z,hZ⟩:∃Z,Z=zuI a (zuW fs f.path):=⟨_,rfl⟩
 rw[←hZ]at hax3 hm3 zo zr
 obtain⟨z,g⟩:=Z
 simp only at hax3 zo zr
 have hde:=zdW (zuW fs f.path)
 (simp (maxSteps:=2000000) (disch:=first|omega|assumption) [zz,-List.reduceReplicate,jZ])
 (repeat with_reducible refine om ?_)
 refine jC hdr rfl rfl (by simp) (by simp[qS,coC,TV.er,AV.er,hee,zU]) ?_
 (simp (maxSteps:=2000000) (disch:=first|omega|assumption) [zz,-List.reduceReplicate])
 (repeat with_reducible refine om ?_)
 refine jC hax3 rfl rfl (by simp) (by simp[qS,coC,TV.er,AV.er,hae,hde]) ?_
 (simp (maxSteps:=2000000) (disch:=first|omega|assumption) [zz,-List.reduceReplicate])
 (repeat with_reducible refine om ?_)
 refine qL hck rfl rfl (by simp) (by simp[qS,TV.er,AV.er,hee,zU]) ?_
 have hoee:AV.ers (o.reads.map qI)=o.reads.map qI:=by simp[AV.ers_eq,Function.comp_def]
 have hofe:AV.ers (o.outs.map jZ)=o.outs.map jZ:=by simp[AV.ers_eq,Function.comp_def]
 by_cases hc0:zvm fs=0
 ·have hz:=hm3 hc0
  obtain⟨rfl,rfl⟩:z=o∧g=0:=by simpa using hz
  (simp (maxSteps:=2000000) (disch:=first|omega|assumption) [zz,-List.reduceReplicate,hc0])
  refine qL hso rfl rfl (by simp) (by simp[qS,TV.er,AV.er,AV.ers,zI,qF,zU,hoee,hofe]) ?_
  (simp (maxSteps:=2000000) (disch:=first|omega|assumption) [zz,-List.reduceReplicate])
  refine qL hso rfl rfl (by simp) (by simp[qS,TV.er,AV.er,AV.ers,zI,qF,zU,hoee,hofe]) ?_
  (simp (maxSteps:=2000000) (disch:=first|omega|assumption) [zz,-List.reduceReplicate])
  refine qL hfx rfl rfl (by simp) (by simp[qS,TV.er,AV.er]) ?_
  (simp (maxSteps:=2000000) (disch:=first|omega|assumption) [zz,-List.reduceReplicate,Tryz.f10])
 ·(simp (maxSteps:=2000000) (disch:=first|omega|assumption) [zz,-List.reduceReplicate,hc0])
  refine qL hso rfl rfl (by simp) (by simp[qS,TV.er,AV.er,AV.ers,zI,qF,zU,hoee,hofe]) ?_
  (simp (maxSteps:=2000000) (disch:=first|omega|assumption) [zz,-List.reduceReplicate])
  refine qL hso rfl rfl (by simp) (by simp[qS,TV.er,AV.er,AV.ers,zI,qF,zU,hoee,hofe]) ?_
  (simp (maxSteps:=2000000) (disch:=first|omega|assumption) [zz,-List.reduceReplicate])
  refine qL hfx rfl rfl (by simp) (by simp[qS,TV.er,AV.er]) ?_
  (simp (maxSteps:=2000000) (disch:=first|omega|assumption) [zz,-List.reduceReplicate,Tryz.f10])
end Go.Proofs.YthgocigdldgpgaaGreatDoor
end
