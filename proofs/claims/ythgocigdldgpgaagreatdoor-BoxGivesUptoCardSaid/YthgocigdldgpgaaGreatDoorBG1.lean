/- The law BoxGives: the program. No condition beyond each theorem's own. -/
import Derived.Test.YthgocigdldgpgaaGreatDoorBE1ToPD
import Derived.Test.YthgocigdldgpgaaGreatDoorBX2ToBL0
set_option linter.unusedSimpArgs false
set_option linter.unusedVariables false
set_option linter.unusedSectionVars false
set_option maxRecDepth 100000
/-! The law BoxGives: the program. -/
namespace Go.Proofs.YthgocigdldgpgaaGreatDoor
open Go Go.Ab
open Classical
variable [Sel] [SelPow] [SelMax]

theorem xI {b:BoxV} (h:b.over=true) (k:KnV):kB k b=(19,b):=by unfold kB;exact if_pos h
theorem zdG {b:BoxV} (h:b.over=false) {k:KnV} (hp:k.path≠b.asks):kB k b=(1,b):=by
 unfold kB;rw[if_neg (by rw[h];decide),if_pos hp]
theorem cX {b:BoxV} (h:b.over=false) {k:KnV} (hp:k.path=b.asks) (hi:k.is=true) (hd:65536<k.data.length):kB k b=(6,b):=by
 unfold kB;rw[if_neg (by rw[h];decide),if_neg (by simp[hp]),if_pos ⟨hi,hd⟩]
theorem UR (B:Nat) {b:BoxV} {H:q8} (hH:jJ B b H) (hg:ZJ b) (k:KnV) (hkl:k.data.length≤1000000000) (hr:b.reads.length≤1000) {e:Int} (he:kB k b=(e,b)) (h0:e≠0) :
  q7 Tryz.prog 24 [.av .ptr (.ptr B KD []),.av KnT (zH k)] H fun y H'=>y=.av (.int .i64) (.i .i64 e)∧jJ B b H':=by
 have:=dW B hH hg k hkl hr (fun h1 h2 h3=>by
  exfalso
  have hv:kB k b=(0,yQ (c9 k b)):=by unfold kB;rw[if_neg (by rw[h1];decide),if_neg (by simp[h2]),if_neg h3];rfl
  rw[hv]at he
  exact h0 (congrArg Prod.fst he).symm)
 rw[he]at this
 exact this
theorem zac:∀n:Nat,bytesOf (List.replicate n (.i .u8 0))=some (List.replicate n 0)
 | 0=>rfl
 | n+1=>by
  rw[List.replicate_succ,List.replicate_succ,bytesOf,zac n];rfl
set_option maxHeartbeats 16000000 in
theorem zda (a:xW) (known:List KnV) (k:KnV) (ha:vA a≤1000000000) (hk:knW known≤1000000000) (hkp:k.path.length≤1000000000) (hkd0:k.data.length≤1000000000) :
  PC Tryz.prog 5 [.av UI (kT a),.av (.slice 55) (zL known),.av KnT (zH k)] (.av .bool (.b true)):=by
 have hkns:(zL known).er=zL known:=YO known
 have hke:(zH k).er=zH k:=(vU k).1
 have hae:=YB a
 have hgr:=d8 a ha
 have hmn:=P1 known hk
 obtain⟨A,hA⟩:∃A,A=kT a:=⟨_,rfl⟩
 rw[←hA]at hgr hae ⊢
 refine PC.of <| q7.of_vc laid mixed Tryz.func5 rfl cf0 (by kernel_rfl) (by simp[Tryz.ntmps5]) fun imm0 w0=>?_
 (simp (maxSteps:=2000000) (disch:=first|omega|assumption) [zz,-List.reduceReplicate,zH])
 refine qL VZ rfl rfl (by simp) (by simp[qS,TV.er,AV.er]) ?_
 (simp (maxSteps:=2000000) (disch:=first|omega|assumption) [zz,-List.reduceReplicate])
 refine qL hgr rfl rfl (by simp) (by simp[qS,TV.er,hae]) ?_
 by_cases hg:2000<vA a
 ·(simp (maxSteps:=2000000) (disch:=first|omega|assumption) [zz,-List.reduceReplicate,hg,Tryz.f5])
 (simp (maxSteps:=2000000) (disch:=first|omega|assumption) [zz,-List.reduceReplicate,hg])
 refine qL hmn rfl rfl (by simp) (by simp[qS,TV.er,hkns]) ?_
 by_cases hm:5000<knW known
 ·(simp (maxSteps:=2000000) (disch:=first|omega|assumption) [zz,-List.reduceReplicate,hm,Tryz.f5])
 by_cases hp2:200<k.path.length
 ·have hp2':(200:Int)<k.path.length:=by omega
  (simp (maxSteps:=2000000) (disch:=first|omega|assumption) [zz,-List.reduceReplicate,hm,hp2',Tryz.f5])
 have hp2':¬(200:Int)<k.path.length:=by omega
 by_cases hd2:1000<k.data.length
 ·have hd2':(1000:Int)<k.data.length:=by omega
  (simp (maxSteps:=2000000) (disch:=first|omega|assumption) [zz,-List.reduceReplicate,hm,hp2',hd2',Tryz.f5])
 have hd2':¬(1000:Int)<k.data.length:=by omega
 (simp (maxSteps:=2000000) (disch:=first|omega|assumption) [zz,-List.reduceReplicate,hm,hp2',hd2'])
 have hab:=zbN (a:=a) (by omega)
 obtain⟨hkd,hkl⟩:=zgi (l:=known) (by omega)
 have hnew:=DZ a hab
 unfold zes at hnew
 rw[←hA]at hnew
 cases hcv:j7 a.tool with
 | error en =>
  obtain⟨e,n⟩:=en
  rw[hcv]at hnew
  have hne:¬e=0:=by rcases Z8 hcv with h|h<;>omega
  refine jP (R:=fun r H'=>r=.tup [(.ptr,.nilptr),(.int .i64,.i .i64 e)]∧H'=[]) rfl (by simp[qQ]) (by simp) ?_ ?_
  ·simpa[TV.er,hae,q8.er_nil]using hnew
  rintro r H' ⟨rfl,rfl⟩
  (simp (maxSteps:=2000000) (disch:=first|omega|assumption) [zz,-List.reduceReplicate])
  refine jP (R:=fun r H'=>r=.tup [(.ptr,.nilptr),(.int .i64,.i .i64 e)]∧H'=[]) rfl (by simp[qQ]) (by simp) ?_ ?_
  ·simpa[TV.er,hae,q8.er_nil]using hnew
  rintro r H' ⟨rfl,rfl⟩
  (simp (maxSteps:=2000000) (disch:=first|omega|assumption) [zz,-List.reduceReplicate,hne,Tryz.f5])
 | ok cs =>
  rw[hcv]at hnew
  obtain⟨b,hb⟩:∃b,b=ZR a.env a.outs (jI a) cs:=⟨_,rfl⟩
  obtain⟨b',hgo,hbk,hstop⟩:=znn hcv (env:=a.env) (by have:=hab.be;omega) hab.bev (outs:=a.outs) (may:=jI a) hkd
  rw[←hb]at hgo hbk
  refine jP (R:=fun r H'=>∃B,r=.tup [(.ptr,.ptr B KD []),(.int .i64,.i .i64 0)]∧jJ B b H') rfl (by simp[qQ]) (by simp) ?_ ?_
  ·rw[hb];simpa[TV.er,hae,q8.er_nil]using hnew
  rintro r H ⟨B,rfl,hH⟩
  have hHe:=hH.er
  (simp (maxSteps:=2000000) (disch:=first|omega|assumption) [zz,-List.reduceReplicate])
  refine qE (R:=fun r H'=>∃B,r=.tup [(.ptr,.ptr B KD []),(.int .i64,.i .i64 0)]∧jJ B b H') [] H (by simp) rfl (by simp[qQ]) (by simp) ?_ ?_
  ·rw[hb];simpa[TV.er,hae,q8.er_nil]using hnew
  rintro r HC ⟨C,rfl,hHC⟩ _
  have hHCe:=hHC.er
  refine⟨HC++H,HSub.refl _,?_⟩
  (simp (maxSteps:=2000000) (disch:=first|omega|assumption) [zz,-List.reduceReplicate])
  refine qE (R:=fun y H'=>y=.tup [(.str,.s (if b.over=true then [] else b.asks)),(.bool,.b (!b.over))]∧jJ B b H') H HC List.perm_append_comm rfl (by simp[qQ]) (by simp) ?_ ?_
  ·rw[hHe];simpa[TV.er,AV.er]using zci B hH
  rintro y H1 ⟨rfl,hH1⟩ _
  have hHe1:=hH1.er
  refine⟨H1++HC,HSub.refl _,?_⟩
  cases hov:b.over with
  | true =>
   (simp (maxSteps:=2000000) (disch:=first|omega|assumption) [zz,-List.reduceReplicate,hov])
   refine qE (R:=fun y H'=>y=.av (.int .i64) (.i .i64 19)∧jJ B b H') H1 HC (by first|exact List.Perm.refl _|exact List.perm_append_comm) rfl (by simp[qQ]) (by simp) ?_ ?_
   ·rw[jJ.er hH1]
    have hbn:=UR B hH1 hbk.g (k) (by omega) (by have:=hbk.rl;omega) (xI hov k) (by decide)
    simpa[TV.er,AV.er,AV.ers,zH]using hbn
   rintro y H2 ⟨rfl,hH2⟩ _
   refine⟨H2++HC,HSub.refl _,?_⟩
   (simp (maxSteps:=2000000) (disch:=first|omega|assumption) [zz,-List.reduceReplicate])
   refine qE (R:=fun y H'=>y=yS b'∧jJ B b' H'∧∃kn',Z4 a.env cs a.outs (jI a) kn' b') H2 HC (by first|exact List.Perm.refl _|exact List.perm_append_comm) rfl (by simp[qQ]) (by simp) ?_ ?_
   ·rw[jJ.er hH2]
    have hlg:=ZZ B hH2 hbk hab.bo known hkd (by omega) hgo
    simpa[TV.er,AV.er,hkns]using hlg
   rintro y H7 ⟨rfl,hH7,kn',hk7⟩ _
   refine⟨H7++HC,HSub.refl _,?_⟩
   (simp (maxSteps:=2000000) (disch:=first|omega|assumption) [zz,-List.reduceReplicate,yS])
   refine qE (R:=fun y H'=>y=yS b'∧jJ C b' H'∧∃kn',Z4 a.env cs a.outs (jI a) kn' b') HC H7 List.perm_append_comm rfl (by simp[qQ]) (by simp) ?_ ?_
   ·rw[hHCe]
    have hlg:=ZZ C hHC hbk hab.bo known hkd (by omega) hgo
    simpa[TV.er,AV.er,hkns]using hlg
   rintro y HC7 ⟨rfl,hHC7,_⟩ _
   refine⟨HC7++H7,HSub.refl _,?_⟩
   obtain⟨o,ho⟩:∃o,o=(yD b').1:=⟨_,rfl⟩
   have hol:o.outs.length≤1000000000∧o.reads.length≤1000000000:=by
    rw[ho]
    exact hk7.outl hab.bo
   have hss:WJ o o=true:=u5.2 rfl
   have hso:=VG o o hol.1 hol.2 hol.1 hol.2
   rw[hss]at hso
   have hoe:=KO o
   rw[←ho]
   cases hov7:b'.over with
   | true =>
    have ho2:=uJ hov7
    (simp (maxSteps:=2000000) (disch:=first|omega|assumption) [zz,-List.reduceReplicate,yS,hov7])
    rw[←ho]
    refine qL hso rfl rfl (by simp) (by simp[qS,TV.er,hoe]) ?_
    (simp (maxSteps:=2000000) (disch:=first|omega|assumption) [zz,-List.reduceReplicate])
    refine qE (R:=fun y H'=>y=.av (.int .i64) (.i .i64 19)∧jJ B b' H') H7 HC7 List.perm_append_comm rfl (by simp[qQ]) (by simp) ?_ ?_
    ·rw[jJ.er hH7]
     have hbn:=UR B hH7 hk7.g k (by omega) (by have:=hk7.rl;omega) (xI hov7 k) (by decide)
     simpa[TV.er,AV.er,AV.ers,zH]using hbn
    rintro y H8 ⟨rfl,hH8⟩ _
    refine⟨H8++HC7,HSub.refl _,?_⟩
    (simp (maxSteps:=2000000) (disch:=first|omega|assumption) [zz,-List.reduceReplicate])
    refine qE (R:=fun y H'=>y=.tup [(qD Tryz.prog 41,zI o),(.bool,.b true)]∧jJ B b' H') H8 HC7 (List.Perm.refl _) rfl (by simp[qQ]) (by simp) ?_ ?_
    ·rw[jJ.er hH8]
     have hou:=QN B hH8 (by have:=hk7.rl;omega) (hk7.wl hab.bo)
     rw[ho2,←ho]at hou
     simpa[TV.er,AV.er]using hou
    rintro y H9 ⟨rfl,hH9⟩ _
    refine⟨H9++HC7,HSub.refl _,?_⟩
    (simp (maxSteps:=2000000) (disch:=first|omega|assumption) [zz,-List.reduceReplicate])
    refine qL hso rfl rfl (by simp) (by simp[qS,TV.er,hoe]) ?_
    (simp (maxSteps:=2000000) (disch:=first|omega|assumption) [zz,-List.reduceReplicate,Tryz.f5])
   | false =>
    have hw:=KN hov7
    have ho2:(yD b').2=false:=by rw[hw]
    (simp (maxSteps:=2000000) (disch:=first|omega|assumption) [zz,-List.reduceReplicate,yS,hov7])
    rw[←ho]
    refine qL hso rfl rfl (by simp) (by simp[qS,TV.er,hoe]) ?_
    (simp (maxSteps:=2000000) (disch:=first|omega|assumption) [zz,-List.reduceReplicate])
    refine qE (R:=fun y H'=>y=.tup [(qD Tryz.prog 41,zI o),(.bool,.b false)]∧jJ B b' H') H7 HC7 List.perm_append_comm rfl (by simp[qQ]) (by simp) ?_ ?_
    ·rw[jJ.er hH7]
     have hou:=QN B hH7 (by have:=hk7.rl;omega) (hk7.wl hab.bo)
     rw[ho2,←ho]at hou
     simpa[TV.er,AV.er]using hou
    rintro y H9 ⟨rfl,hH9⟩ _
    refine⟨H9++HC7,HSub.refl _,?_⟩
    (simp (maxSteps:=2000000) (disch:=first|omega|assumption) [zz,-List.reduceReplicate])
    refine qL hso rfl rfl (by simp) (by simp[qS,TV.er,hoe]) ?_
    (simp (maxSteps:=2000000) (disch:=first|omega|assumption) [zz,-List.reduceReplicate,Tryz.f5])
  | false =>
   obtain⟨zs,hby,hzl⟩:∃zs:Txt,bytesOf (List.replicate 65537 (.i .u8 0))=some zs∧zs.length=65537:=⟨_,zac 65537,List.length_replicate⟩
   by_cases hpa:k.path=b.asks
   ·(simp (maxSteps:=2000000) (disch:=first|omega|assumption) [zz,-List.reduceReplicate,hov,hpa])
    intro zb z1 z2
    rw[hby]
    (simp (maxSteps:=2000000) (disch:=first|omega|assumption) [zz,-List.reduceReplicate])
    refine qE (R:=fun y H'=>y=.av (.int .i64) (.i .i64 6)∧jJ B b H') H1 ((zb,.var (.arr 65537 5) (.agg (List.replicate 65537 (.i .u8 0))))::HC) ?_ rfl (by simp[qQ]) (by simp) ?_ ?_
    ·refine List.perm_iff_count.2 fun a=>?_
     simp only[List.count_append,List.count_cons];omega
    ·rw[jJ.er hH1]
     have hbn:=UR B hH1 hbk.g ⟨b.asks,true,zs⟩ (by simp only;omega) (by have:=hbk.rl;omega) (cX hov rfl rfl (by simp only;omega)) (by decide)
     simp only[zH]at hbn
     simpa[TV.er,AV.er,AV.ers,-List.reduceReplicate]using hbn
    rintro y H2 ⟨rfl,hH2⟩ _
    refine⟨H2++HC,HSub.of_sub ((List.Sublist.refl _).append ((List.Sublist.refl _).cons _)),?_⟩
    (simp (maxSteps:=2000000) (disch:=first|omega|assumption) [zz,-List.reduceReplicate])
    refine qE (R:=fun y H'=>y=yS b'∧jJ B b' H'∧∃kn',Z4 a.env cs a.outs (jI a) kn' b') H2 HC (by first|exact List.Perm.refl _|exact List.perm_append_comm) rfl (by simp[qQ]) (by simp) ?_ ?_
    ·rw[jJ.er hH2]
     have hlg:=ZZ B hH2 hbk hab.bo known hkd (by omega) hgo
     simpa[TV.er,AV.er,hkns]using hlg
    rintro y H7 ⟨rfl,hH7,kn',hk7⟩ _
    refine⟨H7++HC,HSub.refl _,?_⟩
    (simp (maxSteps:=2000000) (disch:=first|omega|assumption) [zz,-List.reduceReplicate,yS])
    refine qE (R:=fun y H'=>y=yS b'∧jJ C b' H'∧∃kn',Z4 a.env cs a.outs (jI a) kn' b') HC H7 List.perm_append_comm rfl (by simp[qQ]) (by simp) ?_ ?_
    ·rw[hHCe]
     have hlg:=ZZ C hHC hbk hab.bo known hkd (by omega) hgo
     simpa[TV.er,AV.er,hkns]using hlg
    rintro y HC7 ⟨rfl,hHC7,_⟩ _
    refine⟨HC7++H7,HSub.refl _,?_⟩
    obtain⟨o,ho⟩:∃o,o=(yD b').1:=⟨_,rfl⟩
    have hol:o.outs.length≤1000000000∧o.reads.length≤1000000000:=by
     rw[ho]
     exact hk7.outl hab.bo
    have hss:WJ o o=true:=u5.2 rfl
    have hso:=VG o o hol.1 hol.2 hol.1 hol.2
    rw[hss]at hso
    have hoe:=KO o
    rw[←ho]
    cases hov7:b'.over with
    | true =>
     have ho2:=uJ hov7
     (simp (maxSteps:=2000000) (disch:=first|omega|assumption) [zz,-List.reduceReplicate,yS,hov7])
     rw[←ho]
     refine qL hso rfl rfl (by simp) (by simp[qS,TV.er,hoe]) ?_
     (simp (maxSteps:=2000000) (disch:=first|omega|assumption) [zz,-List.reduceReplicate])
     refine qE (R:=fun y H'=>y=.av (.int .i64) (.i .i64 19)∧jJ B b' H') H7 HC7 List.perm_append_comm rfl (by simp[qQ]) (by simp) ?_ ?_
     ·rw[jJ.er hH7]
      have hbn:=UR B hH7 hk7.g k (by omega) (by have:=hk7.rl;omega) (xI hov7 k) (by decide)
      simpa[TV.er,AV.er,AV.ers,zH,hpa]using hbn
     rintro y H8 ⟨rfl,hH8⟩ _
     refine⟨H8++HC7,HSub.refl _,?_⟩
     (simp (maxSteps:=2000000) (disch:=first|omega|assumption) [zz,-List.reduceReplicate])
     refine qE (R:=fun y H'=>y=.tup [(qD Tryz.prog 41,zI o),(.bool,.b true)]∧jJ B b' H') H8 HC7 (List.Perm.refl _) rfl (by simp[qQ]) (by simp) ?_ ?_
     ·rw[jJ.er hH8]
      have hou:=QN B hH8 (by have:=hk7.rl;omega) (hk7.wl hab.bo)
      rw[ho2,←ho]at hou
      simpa[TV.er,AV.er]using hou
     rintro y H9 ⟨rfl,hH9⟩ _
     refine⟨H9++HC7,HSub.refl _,?_⟩
     (simp (maxSteps:=2000000) (disch:=first|omega|assumption) [zz,-List.reduceReplicate])
     refine qL hso rfl rfl (by simp) (by simp[qS,TV.er,hoe]) ?_
     (simp (maxSteps:=2000000) (disch:=first|omega|assumption) [zz,-List.reduceReplicate,Tryz.f5])
    | false =>
     have hw:=KN hov7
     have ho2:(yD b').2=false:=by rw[hw]
     (simp (maxSteps:=2000000) (disch:=first|omega|assumption) [zz,-List.reduceReplicate,yS,hov7])
     rw[←ho]
     refine qL hso rfl rfl (by simp) (by simp[qS,TV.er,hoe]) ?_
     (simp (maxSteps:=2000000) (disch:=first|omega|assumption) [zz,-List.reduceReplicate])
     refine qE (R:=fun y H'=>y=.tup [(qD Tryz.prog 41,zI o),(.bool,.b false)]∧jJ B b' H') H7 HC7 List.perm_append_comm rfl (by simp[qQ]) (by simp) ?_ ?_
     ·rw[jJ.er hH7]
      have hou:=QN B hH7 (by have:=hk7.rl;omega) (hk7.wl hab.bo)
      rw[ho2,←ho]at hou
      simpa[TV.er,AV.er]using hou
     rintro y H9 ⟨rfl,hH9⟩ _
     refine⟨H9++HC7,HSub.refl _,?_⟩
     (simp (maxSteps:=2000000) (disch:=first|omega|assumption) [zz,-List.reduceReplicate])
     refine qL hso rfl rfl (by simp) (by simp[qS,TV.er,hoe]) ?_
     (simp (maxSteps:=2000000) (disch:=first|omega|assumption) [zz,-List.reduceReplicate,Tryz.f5])
   ·(simp (maxSteps:=2000000) (disch:=first|omega|assumption) [zz,-List.reduceReplicate,hov,hpa])
    refine qE (R:=fun y H'=>y=.av (.int .i64) (.i .i64 1)∧jJ B b H') H1 HC (by first|exact List.Perm.refl _|exact List.perm_append_comm) rfl (by simp[qQ]) (by simp) ?_ ?_
    ·rw[jJ.er hH1]
     have hbn:=UR B hH1 hbk.g (k) (by omega) (by have:=hbk.rl;omega) (zdG hov hpa) (by decide)
     simpa[TV.er,AV.er,AV.ers,zH]using hbn
    rintro y H2 ⟨rfl,hH2⟩ _
    refine⟨H2++HC,HSub.refl _,?_⟩
    (simp (maxSteps:=2000000) (disch:=first|omega|assumption) [zz,-List.reduceReplicate])
    intro zb z1 z2
    rw[hby]
    (simp (maxSteps:=2000000) (disch:=first|omega|assumption) [zz,-List.reduceReplicate])
    refine qE (R:=fun y H'=>y=.av (.int .i64) (.i .i64 6)∧jJ B b H') H2 ((zb,.var (.arr 65537 5) (.agg (List.replicate 65537 (.i .u8 0))))::HC) ?_ rfl (by simp[qQ]) (by simp) ?_ ?_
    ·refine List.perm_iff_count.2 fun a=>?_
     simp only[List.count_append,List.count_cons];omega
    ·rw[jJ.er hH2]
     have hbn:=UR B hH2 hbk.g ⟨b.asks,true,zs⟩ (by simp only;omega) (by have:=hbk.rl;omega) (cX hov rfl rfl (by simp only;omega)) (by decide)
     simp only[zH]at hbn
     simpa[TV.er,AV.er,AV.ers,-List.reduceReplicate]using hbn
    rintro y H3 ⟨rfl,hH3⟩ _
    refine⟨H3++HC,HSub.of_sub ((List.Sublist.refl _).append ((List.Sublist.refl _).cons _)),?_⟩
    (simp (maxSteps:=2000000) (disch:=first|omega|assumption) [zz,-List.reduceReplicate])
    refine qE (R:=fun y H'=>y=yS b'∧jJ B b' H'∧∃kn',Z4 a.env cs a.outs (jI a) kn' b') H3 HC (by first|exact List.Perm.refl _|exact List.perm_append_comm) rfl (by simp[qQ]) (by simp) ?_ ?_
    ·rw[jJ.er hH3]
     have hlg:=ZZ B hH3 hbk hab.bo known hkd (by omega) hgo
     simpa[TV.er,AV.er,hkns]using hlg
    rintro y H7 ⟨rfl,hH7,kn',hk7⟩ _
    refine⟨H7++HC,HSub.refl _,?_⟩
    (simp (maxSteps:=2000000) (disch:=first|omega|assumption) [zz,-List.reduceReplicate,yS])
    refine qE (R:=fun y H'=>y=yS b'∧jJ C b' H'∧∃kn',Z4 a.env cs a.outs (jI a) kn' b') HC H7 List.perm_append_comm rfl (by simp[qQ]) (by simp) ?_ ?_
    ·rw[hHCe]
     have hlg:=ZZ C hHC hbk hab.bo known hkd (by omega) hgo
     simpa[TV.er,AV.er,hkns]using hlg
    rintro y HC7 ⟨rfl,hHC7,_⟩ _
    refine⟨HC7++H7,HSub.refl _,?_⟩
    obtain⟨o,ho⟩:∃o,o=(yD b').1:=⟨_,rfl⟩
    have hol:o.outs.length≤1000000000∧o.reads.length≤1000000000:=by
     rw[ho]
     exact hk7.outl hab.bo
    have hss:WJ o o=true:=u5.2 rfl
    have hso:=VG o o hol.1 hol.2 hol.1 hol.2
    rw[hss]at hso
    have hoe:=KO o
    rw[←ho]
    cases hov7:b'.over with
    | true =>
     have ho2:=uJ hov7
     (simp (maxSteps:=2000000) (disch:=first|omega|assumption) [zz,-List.reduceReplicate,yS,hov7])
     rw[←ho]
     refine qL hso rfl rfl (by simp) (by simp[qS,TV.er,hoe]) ?_
     (simp (maxSteps:=2000000) (disch:=first|omega|assumption) [zz,-List.reduceReplicate])
     refine qE (R:=fun y H'=>y=.av (.int .i64) (.i .i64 19)∧jJ B b' H') H7 HC7 List.perm_append_comm rfl (by simp[qQ]) (by simp) ?_ ?_
     ·rw[jJ.er hH7]
      have hbn:=UR B hH7 hk7.g k (by omega) (by have:=hk7.rl;omega) (xI hov7 k) (by decide)
      simpa[TV.er,AV.er,AV.ers,zH]using hbn
     rintro y H8 ⟨rfl,hH8⟩ _
     refine⟨H8++HC7,HSub.refl _,?_⟩
     (simp (maxSteps:=2000000) (disch:=first|omega|assumption) [zz,-List.reduceReplicate])
     refine qE (R:=fun y H'=>y=.tup [(qD Tryz.prog 41,zI o),(.bool,.b true)]∧jJ B b' H') H8 HC7 (List.Perm.refl _) rfl (by simp[qQ]) (by simp) ?_ ?_
     ·rw[jJ.er hH8]
      have hou:=QN B hH8 (by have:=hk7.rl;omega) (hk7.wl hab.bo)
      rw[ho2,←ho]at hou
      simpa[TV.er,AV.er]using hou
     rintro y H9 ⟨rfl,hH9⟩ _
     refine⟨H9++HC7,HSub.refl _,?_⟩
     (simp (maxSteps:=2000000) (disch:=first|omega|assumption) [zz,-List.reduceReplicate])
     refine qL hso rfl rfl (by simp) (by simp[qS,TV.er,hoe]) ?_
     (simp (maxSteps:=2000000) (disch:=first|omega|assumption) [zz,-List.reduceReplicate,Tryz.f5])
    | false =>
     have hw:=KN hov7
     have ho2:(yD b').2=false:=by rw[hw]
     (simp (maxSteps:=2000000) (disch:=first|omega|assumption) [zz,-List.reduceReplicate,yS,hov7])
     rw[←ho]
     refine qL hso rfl rfl (by simp) (by simp[qS,TV.er,hoe]) ?_
     (simp (maxSteps:=2000000) (disch:=first|omega|assumption) [zz,-List.reduceReplicate])
     refine qE (R:=fun y H'=>y=.tup [(qD Tryz.prog 41,zI o),(.bool,.b false)]∧jJ B b' H') H7 HC7 List.perm_append_comm rfl (by simp[qQ]) (by simp) ?_ ?_
     ·rw[jJ.er hH7]
      have hou:=QN B hH7 (by have:=hk7.rl;omega) (hk7.wl hab.bo)
      rw[ho2,←ho]at hou
      simpa[TV.er,AV.er]using hou
     rintro y H9 ⟨rfl,hH9⟩ _
     refine⟨H9++HC7,HSub.refl _,?_⟩
     (simp (maxSteps:=2000000) (disch:=first|omega|assumption) [zz,-List.reduceReplicate])
     refine qL hso rfl rfl (by simp) (by simp[qS,TV.er,hoe]) ?_
     (simp (maxSteps:=2000000) (disch:=first|omega|assumption) [zz,-List.reduceReplicate,Tryz.f5])
end Go.Proofs.YthgocigdldgpgaaGreatDoor
