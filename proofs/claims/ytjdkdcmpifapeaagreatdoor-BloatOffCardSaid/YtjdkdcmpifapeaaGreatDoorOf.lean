/- What a step of a system needs: what drives it; by how much it may be off; Make. -/
import Derived.Test.YtjdkdcmpifapeaaGreatDoorOe
import Derived.Test.YtjdkdcmpifapeaaGreatDoorOb
import Derived.Test.YtjdkdcmpifapeaaGreatDoorMv
set_option linter.unusedVariables false
set_option linter.unusedSectionVars false
set_option linter.unusedSimpArgs false
set_option maxHeartbeats 4000000
set_option maxRecDepth 10000
namespace Go.Proofs.YtjdkdcmpifapeaaGreatDoor.Abs
section
open Go Go.RowKit Go.Proofs.Tryz
attribute [local irreducible] dRound dAdd dMul dCmp dMin dMax dAbs dLess sOut sAdd sMul sNear sSize vNear vPlus vInner dOf dNeg sSub sMid mid1 wid1 vNorm mNear mNorm mMake zOf zImage zPlus zTimes zReach dNear gRate gCurve gRise dTimes qSgn
structure MLen (m:MD):Prop where
 d1:1<=m.dim
 d2:m.dim<=16
 i2:m.inp<=16
 A:m.A.length=m.dim/\∀ r∈m.A,r.length=m.dim
 B:m.B.length=m.dim/\∀ r∈m.B,r.length=m.inp
 C:m.C.length=m.dim
 st:m.st.c.length=m.dim/\m.st.g.length<=32/\∀ g∈m.st.g,g.length=m.dim
 iz:m.iz.c.length=m.inp/\m.iz.g.length<=32/\∀ g∈m.iz.g,g.length=m.inp
theorem rows6_of {α:Type} {a:List (List α)} {n:Nat} (h:∀ r∈a,r.length=n) (hn:n<1000000):Rows6 a:=fun r hr=>by rw[h r hr]; exact hn
def zDrive (bits:Int) (m:MD):Except Nat ZO:=bnd (mNear m.B bits) fun b=>bnd (zOf bits m.iz) fun u=>bnd (zImage bits b u) fun v=>bnd (zOf bits ⟨m.C,[]⟩) fun c=>zPlus bits v c
theorem mNear_len {bits:Int} {a:List (List FQ)} {m:List (List FS)} (h:mNear a bits=.ok m):m.length=a.length:=by
 unfold mNear at h;exact runE_length h
theorem c_zDrive (m:MD) (bits:Int) (hb:BOk bits) (hm:MLen m):ACalls prog 122 [mdv m,i64 bits] (tZO (zDrive bits m)):=by
 have d2:=hm.d2;have i2:=hm.i2;have hB:Six m.B:=⟨by rw[hm.B.1]; omega,rows6_of hm.B.2 (by omega)⟩
 obtain⟨R,hR⟩:∃ R,zDrive bits m=R:=⟨_,rfl⟩
 rw[hR];unfold zDrive at hR;have C1:=c_mNear m.B bits hb hB.1 hB.2;cases h1:mNear m.B bits with
 |error e =>
  rw[h1] at C1 hR;rw[<- hR];refine conP func122 rfl (by kernel_rfl) ?_;repeat ((first | refine .gF ?_ | refine .eF ?_ | refine cE C1 ?_ | refine xK ?_ | rw[decide_eq_true (by omega)] | rw[decide_eq_false (by omega)]); conv=>whnf)
  exact⟨.sh _ _ rfl le_zo0,fin rfl rfl,trivial⟩
 |ok b =>
  rw[h1] at C1 hR
  replace hR:=bnd_okr hR
  have hb6:=near_six hB h1;have hbl:=mNear_len h1;have C2:=c_zOf m.iz bits hb (by rw[hm.iz.1]; omega) (by have:=hm.iz.2.1; omega) (rows6_of hm.iz.2.2 (by omega));cases h2:zOf bits m.iz with
  |error e =>
   rw[h2] at C2 hR;rw[<- hR];refine conP func122 rfl (by kernel_rfl) ?_;repeat ((first | refine .gF ?_ | refine .eF ?_ | refine cE C1 ?_ | refine cE C2 ?_ | refine xK ?_ | rw[decide_eq_true (by omega)] | rw[decide_eq_false (by omega)]); conv=>whnf)
   exact⟨.sh _ _ rfl le_zo0,fin rfl rfl,trivial⟩
  |ok u =>
   rw[h2] at C2 hR
   replace hR:=bnd_okr hR
   have hu:=zOf_len h2;have C3:=c_zImage b u bits hb hb6.1 hb6.2 (by rw[hu.1.c,hm.iz.1]; omega) (by rw[hu.2]; have:=hm.iz.2.1; omega) (rows6_of hu.1.g (by rw[hm.iz.1]; omega)) (by rw[hu.1.r,hm.iz.1]; omega);cases h3:zImage bits b u with
   |error e =>
    rw[h3] at C3 hR;rw[<- hR];refine conP func122 rfl (by kernel_rfl) ?_;repeat ((first | refine .gF ?_ | refine .eF ?_ | refine cE C1 ?_ | refine cE C2 ?_ | refine cE C3 ?_ | refine xK ?_ | rw[decide_eq_true (by omega)] | rw[decide_eq_false (by omega)]); conv=>whnf)
    exact⟨.sh _ _ rfl le_zo0,fin rfl rfl,trivial⟩
   |ok v =>
    rw[h3] at C3 hR
    replace hR:=bnd_okr hR
    have hv:=zImage_len h3;have hg3:=hm.iz.2.1;have C4:=(c_zOf ⟨m.C,[]⟩ bits hb (by show m.C.length<1000000; rw[hm.C]; omega) (by show 0<1000000; decide) (fun _ q=>by cases q)).arg (xs:=[.agg [lQ m.C,nilA],i64 bits]) ⟨.ag ⟨.refl _,.nil,trivial⟩,.refl _,trivial⟩;cases h4:zOf bits ⟨m.C,[]⟩ with
    |error e =>
     rw[h4] at C4 hR;rw[<- hR];refine conP func122 rfl (by kernel_rfl) ?_;repeat ((first | refine .gF ?_ | refine .eF ?_ | refine cE C1 ?_ | refine cE C2 ?_ | refine cE C3 ?_ | refine cE C4 ?_ | refine xK ?_ | rw[decide_eq_true (by omega)] | rw[decide_eq_false (by omega)]); conv=>whnf)
     exact⟨.sh _ _ rfl le_zo0,fin rfl rfl,trivial⟩
    |ok c =>
     rw[h4] at C4 hR
     replace hR:=bnd_okr hR
     have hc:=zOf_len h4;have C5:=c_zPlus v c bits hb (by rw[hv.1.c,hbl,hm.B.1]; omega) (by rw[hv.2,hu.2]; omega) (by rw[hc.2]; show 0<1000000; decide) (by rw[hc.1.c]; show m.C.length<1000000; rw[hm.C]; omega) (by rw[hv.1.c,hv.1.r]; exact Nat.le_refl _) (by rw[hv.1.c,hc.1.r,hbl,hm.B.1]; show m.dim<=m.C.length; rw[hm.C]; exact Nat.le_refl _);cases h5:zPlus bits v c with
     |error e =>
      rw[h5] at C5 hR;rw[<- hR];refine conP func122 rfl (by kernel_rfl) ?_;repeat ((first | refine .gF ?_ | refine .eF ?_ | refine cE C1 ?_ | refine cE C2 ?_ | refine cE C3 ?_ | refine cE C4 ?_ | refine cE C5 ?_ | refine xK ?_ | rw[decide_eq_true (by omega)] | rw[decide_eq_false (by omega)]); conv=>whnf)
      exact⟨fin rfl rfl,fin rfl rfl,trivial⟩
     |ok w =>
      rw[h5] at C5 hR
      replace hR:=bnd_okr hR
      rw[<- hR];refine conP func122 rfl (by kernel_rfl) ?_;repeat ((first | refine .gF ?_ | refine .eF ?_ | refine cE C1 ?_ | refine cE C2 ?_ | refine cE C3 ?_ | refine cE C4 ?_ | refine cE C5 ?_ | refine xK ?_ | rw[decide_eq_true (by omega)] | rw[decide_eq_false (by omega)]); conv=>whnf)
      exact⟨fin rfl rfl,fin rfl rfl,trivial⟩
theorem zPlus_len {bits:Int} {a b w:ZO} (h:zPlus bits a b=.ok w) (n:Nat) (ha:ZLen n a) (hb:ZLen n b):ZLen n w/\w.g.length=a.g.length+b.g.length:=by
 unfold zPlus at h;split at h
 ·cases h
 ·split at h
  ·cases h
  ·obtain⟨m,m1,h⟩:=bnd_some h;obtain⟨mo,m2,h⟩:=bnd_some h;obtain⟨r,m3,h⟩:=bnd_some h;cases h;have h1:m.length=n:=by
    have:m.length=((a.c.map sPoint).zip (b.c.map sPoint)).length:=by
     unfold vPlus at m1;split at m1
     ·cases m1
     ·exact runE_length m1
    simp[ha.c,hb.c] at this;exact this
   have h2:mo.length=m.length:=runE_length (f:=mid1 bits) m2;have h3:r.length=n:=foldE_inv (P:=fun l:List FD=>l.length=n) (by simp; omega) (fun s x t hx hs ht=>by
    have hx:x.length=n:=by
     rcases List.mem_cons.1 hx with rfl | hx
     ·exact ha.r
     ·rw[List.mem_singleton.1 hx]; exact hb.r
    rw[zWid_len ht (by omega)];exact hs) m3
   refine⟨⟨by simp; omega,h3,fun g hg=>?_⟩,by simp⟩;rcases List.mem_append.1 hg with hg | hg
   ·exact ha.g g hg
   ·exact hb.g g hg
theorem zDrive_len {bits:Int} {m:MD} {w:ZO} (hm:MLen m) (h:zDrive bits m=.ok w):ZLen m.dim w/\w.g.length=m.iz.g.length:=by
 unfold zDrive at h;obtain⟨b,h1,h⟩:=bnd_some h;obtain⟨u,h2,h⟩:=bnd_some h;obtain⟨v,h3,h⟩:=bnd_some h;obtain⟨c,h4,h⟩:=bnd_some h;have hv:=zImage_len h3;rw[mNear_len h1,hm.B.1] at hv;have hc:=zOf_len h4;have hc1:ZLen m.dim c:=⟨by rw[hc.1.c]; exact hm.C,by rw[hc.1.r]; exact hm.C,fun g hg=>by rw[hc.1.g g hg]; exact hm.C⟩
 have:=zPlus_len h _ hv.1 hc1;have hu:=zOf_len h2;exact⟨this.1,by rw[this.2,hv.2,hu.2,hc.2]; rfl⟩
def bOff (bits:Int) (A:List (List FQ)) (d:FQ) (st v:ZO):Except Nat (FD×FD) :=
 bnd (gRate A d) fun r=>bnd (gCurve r bits) fun cu=>bnd (gRise r bits) fun ri=>bnd (zReach bits st) fun x=>bnd (zReach bits v) fun y=>bnd (dNear d bits true) fun near=>bnd (dTimes bits ri near) fun one=>bnd (dTimes bits one y) fun later=>bnd (dTimes bits cu x) fun first=>bnd (sAdd (sPoint first) (sPoint later) bits) fun both=>.ok (both.hi,later)
def tOff (r:Except Nat (FD×FD)) (j:FD×FD):AV:=.tup [dyad (okOr j r).1,dyad (okOr j r).2,i64 ((errN r:Nat):Int)]
theorem c_bOff (m:MD) (d:FQ) (st v:ZO) (bits:Int) (hb:BOk bits) (hm:MLen m) (hs:ZLen m.dim st) (hv:ZLen m.dim v) (gs:st.g.length<1000000) (gv:v.g.length<1000000):∃ j,ACalls prog 125 [mdv m,rat d.q,zo st,zo v,i64 bits] (tOff (bOff bits m.A d st v) j):=by
 have d2:=hm.d2;have hA:Six m.A:=⟨by rw[hm.A.1]; omega,rows6_of hm.A.2 (by omega)⟩
 obtain⟨R,hR⟩:∃ R,bOff bits m.A d st v=R:=⟨_,rfl⟩
 rw[hR];unfold bOff at hR;have P:∀ a,ACalls prog 83 [dyad a] (spa (sPoint a)):=c_sPoint;have C1:=c_gRate m.A d hA;cases h1:gRate m.A d with
 |error e =>
  rw[h1] at C1 hR;rw[<- hR];refine⟨(d0,d0),?_⟩;refine conP func125 rfl (by kernel_rfl) ?_;repeat ((first | refine .gF ?_ | refine .eF ?_ | refine cE C1 ?_ | refine cE (P _) ?_ | refine xK ?_ | rw[decide_eq_true (by omega)] | rw[decide_eq_false (by omega)]); conv=>whnf)
  exact⟨.sh _ _ rfl le_dy0,.sh _ _ rfl le_dy0,fin rfl rfl,trivial⟩
 |ok r =>
  rw[h1] at C1 hR
  replace hR:=bnd_okr hR
  have C2:=c_gCurve r bits;cases h2:gCurve r bits with
  |error e =>
   rw[h2] at C2 hR;rw[<- hR];refine⟨(d0,d0),?_⟩;refine conP func125 rfl (by kernel_rfl) ?_;repeat ((first | refine .gF ?_ | refine .eF ?_ | refine cE C1 ?_ | refine cE C2 ?_ | refine cE (P _) ?_ | refine xK ?_ | rw[decide_eq_true (by omega)] | rw[decide_eq_false (by omega)]); conv=>whnf)
   exact⟨.sh _ _ rfl le_dy0,.sh _ _ rfl le_dy0,fin rfl rfl,trivial⟩
  |ok cu =>
   rw[h2] at C2 hR
   replace hR:=bnd_okr hR
   have C3:=c_gRise r bits;cases h3:gRise r bits with
   |error e =>
    rw[h3] at C3 hR;rw[<- hR];refine⟨(d0,d0),?_⟩;refine conP func125 rfl (by kernel_rfl) ?_;repeat ((first | refine .gF ?_ | refine .eF ?_ | refine cE C1 ?_ | refine cE C2 ?_ | refine cE C3 ?_ | refine cE (P _) ?_ | refine xK ?_ | rw[decide_eq_true (by omega)] | rw[decide_eq_false (by omega)]); conv=>whnf)
    exact⟨.sh _ _ rfl le_dy0,.sh _ _ rfl le_dy0,fin rfl rfl,trivial⟩
   |ok ri =>
    rw[h3] at C3 hR
    replace hR:=bnd_okr hR
    have C4:=c_zReach st bits hb (by rw[hs.c]; omega) gs (by rw[hs.c,hs.r]; exact Nat.le_refl _) (fun g hg=>by rw[hs.c,hs.g g hg]; exact Nat.le_refl _);cases h4:zReach bits st with
    |error e =>
     rw[h4] at C4 hR;rw[<- hR];refine⟨(d0,d0),?_⟩;refine conP func125 rfl (by kernel_rfl) ?_;repeat ((first | refine .gF ?_ | refine .eF ?_ | refine cE C1 ?_ | refine cE C2 ?_ | refine cE C3 ?_ | refine cE C4 ?_ | refine cE (P _) ?_ | refine xK ?_ | rw[decide_eq_true (by omega)] | rw[decide_eq_false (by omega)]); conv=>whnf)
     exact⟨.sh _ _ rfl le_dy0,.sh _ _ rfl le_dy0,fin rfl rfl,trivial⟩
    |ok x =>
     rw[h4] at C4 hR
     replace hR:=bnd_okr hR
     have C5:=c_zReach v bits hb (by rw[hv.c]; omega) gv (by rw[hv.c,hv.r]; exact Nat.le_refl _) (fun g hg=>by rw[hv.c,hv.g g hg]; exact Nat.le_refl _);cases h5:zReach bits v with
     |error e =>
      rw[h5] at C5 hR;rw[<- hR];refine⟨(d0,d0),?_⟩;refine conP func125 rfl (by kernel_rfl) ?_;repeat ((first | refine .gF ?_ | refine .eF ?_ | refine cE C1 ?_ | refine cE C2 ?_ | refine cE C3 ?_ | refine cE C4 ?_ | refine cE C5 ?_ | refine cE (P _) ?_ | refine xK ?_ | rw[decide_eq_true (by omega)] | rw[decide_eq_false (by omega)]); conv=>whnf)
      exact⟨.sh _ _ rfl le_dy0,.sh _ _ rfl le_dy0,fin rfl rfl,trivial⟩
     |ok y =>
      rw[h5] at C5 hR
      replace hR:=bnd_okr hR
      have C6:=c_dNear d bits true hb.1 hb.2;cases h6:dNear d bits true with
      |error e =>
       rw[h6] at C6 hR;rw[<- hR];refine⟨(d0,d0),?_⟩;refine conP func125 rfl (by kernel_rfl) ?_;repeat ((first | refine .gF ?_ | refine .eF ?_ | refine cE C1 ?_ | refine cE C2 ?_ | refine cE C3 ?_ | refine cE C4 ?_ | refine cE C5 ?_ | refine cE C6 ?_ | refine cE (P _) ?_ | refine xK ?_ | rw[decide_eq_true (by omega)] | rw[decide_eq_false (by omega)]); conv=>whnf)
       exact⟨.sh _ _ rfl le_dy0,.sh _ _ rfl le_dy0,fin rfl rfl,trivial⟩
      |ok near =>
       rw[h6] at C6 hR
       replace hR:=bnd_okr hR
       have C7:=c_dTimes ri near bits hb;cases h7:dTimes bits ri near with
       |error e =>
        rw[h7] at C7 hR;rw[<- hR];refine⟨(d0,d0),?_⟩;refine conP func125 rfl (by kernel_rfl) ?_;repeat ((first | refine .gF ?_ | refine .eF ?_ | refine cE C1 ?_ | refine cE C2 ?_ | refine cE C3 ?_ | refine cE C4 ?_ | refine cE C5 ?_ | refine cE C6 ?_ | refine cE C7 ?_ | refine cE (P _) ?_ | refine xK ?_ | rw[decide_eq_true (by omega)] | rw[decide_eq_false (by omega)]); conv=>whnf)
        exact⟨.sh _ _ rfl le_dy0,.sh _ _ rfl le_dy0,fin rfl rfl,trivial⟩
       |ok one =>
        rw[h7] at C7 hR
        replace hR:=bnd_okr hR
        have C8:=c_dTimes one y bits hb;cases h8:dTimes bits one y with
        |error e =>
         rw[h8] at C8 hR;rw[<- hR];refine⟨(d0,d0),?_⟩;refine conP func125 rfl (by kernel_rfl) ?_;repeat ((first | refine .gF ?_ | refine .eF ?_ | refine cE C1 ?_ | refine cE C2 ?_ | refine cE C3 ?_ | refine cE C4 ?_ | refine cE C5 ?_ | refine cE C6 ?_ | refine cE C7 ?_ | refine cE C8 ?_ | refine cE (P _) ?_ | refine xK ?_ | rw[decide_eq_true (by omega)] | rw[decide_eq_false (by omega)]); conv=>whnf)
         exact⟨.sh _ _ rfl le_dy0,.sh _ _ rfl le_dy0,fin rfl rfl,trivial⟩
        |ok later =>
         rw[h8] at C8 hR
         replace hR:=bnd_okr hR
         have C9:=c_dTimes cu x bits hb;cases h9:dTimes bits cu x with
         |error e =>
          rw[h9] at C9 hR;rw[<- hR];refine⟨(d0,d0),?_⟩;refine conP func125 rfl (by kernel_rfl) ?_;repeat ((first | refine .gF ?_ | refine .eF ?_ | refine cE C1 ?_ | refine cE C2 ?_ | refine cE C3 ?_ | refine cE C4 ?_ | refine cE C5 ?_ | refine cE C6 ?_ | refine cE C7 ?_ | refine cE C8 ?_ | refine cE C9 ?_ | refine cE (P _) ?_ | refine xK ?_ | rw[decide_eq_true (by omega)] | rw[decide_eq_false (by omega)]); conv=>whnf)
          exact⟨.sh _ _ rfl le_dy0,.sh _ _ rfl le_dy0,fin rfl rfl,trivial⟩
         |ok first =>
          rw[h9] at C9 hR
          replace hR:=bnd_okr hR
          have C10:=c_sAdd (sPoint first) (sPoint later) bits hb;cases h10:sAdd (sPoint first) (sPoint later) bits with
          |error e =>
           rw[h10] at C10 hR;rw[<- hR];refine⟨(d0,later),?_⟩;refine conP func125 rfl (by kernel_rfl) ?_;repeat ((first | refine .gF ?_ | refine .eF ?_ | refine cE C1 ?_ | refine cE C2 ?_ | refine cE C3 ?_ | refine cE C4 ?_ | refine cE C5 ?_ | refine cE C6 ?_ | refine cE C7 ?_ | refine cE C8 ?_ | refine cE C9 ?_ | refine cE C10 ?_ | refine cE (P _) ?_ | refine xK ?_ | rw[decide_eq_true (by omega)] | rw[decide_eq_false (by omega)]); conv=>whnf)
           exact⟨fin rfl rfl,fin rfl rfl,fin rfl rfl,trivial⟩
          |ok both =>
           rw[h10] at C10 hR
           replace hR:=bnd_okr hR
           rw[<- hR];refine⟨(d0,d0),?_⟩;refine conP func125 rfl (by kernel_rfl) ?_;repeat ((first | refine .gF ?_ | refine .eF ?_ | refine cE C1 ?_ | refine cE C2 ?_ | refine cE C3 ?_ | refine cE C4 ?_ | refine cE C5 ?_ | refine cE C6 ?_ | refine cE C7 ?_ | refine cE C8 ?_ | refine cE C9 ?_ | refine cE C10 ?_ | refine cE (P _) ?_ | refine xK ?_ | rw[decide_eq_true (by omega)] | rw[decide_eq_false (by omega)]); conv=>whnf)
           exact⟨fin rfl rfl,fin rfl rfl,fin rfl rfl,trivial⟩
structure BS where
 mv:List (List FS)
 hd:List (List FS)
 st:ZO
 dr:ZO
 fi:FD
 la:FD
def stp (s:BS):AV:=.agg [lU s.mv,lU s.hd,lD s.st.c,lG s.st.g,lD s.st.r,lD s.dr.c,lG s.dr.g,lD s.dr.r,boo (decide (s.fi.man<0)),nat s.fi.man.natAbs,i64 s.fi.exp,boo (decide (s.la.man<0)),nat s.la.man.natAbs,i64 s.la.exp]
def bs0:BS:=⟨[],[],zo0,zo0,d0,d0⟩
theorem le_bs0:Le (.agg [nilA,nilA,nilA,nilA,nilA,nilA,nilA,nilA,boo false,nilA,i64 0,boo false,nilA,i64 0]) (stp bs0):=.ag ⟨.nil,.nil,.nil,.nil,.nil,.nil,.nil,.nil,.refl _,le_nil,.refl _,.refl _,le_nil,.refl _,trivial⟩
def tBS (r:Except Nat BS) (j:BS):AV:=.tup [stp (okOr j r),i64 ((errN r:Nat):Int)]
def bMake (bits:Int) (m:MD) (d:FQ):Except Nat BS :=
 bnd (mMake m.A d bits) fun p=>bnd (zOf bits m.st) fun st=>bnd (zDrive bits m) fun v=>bnd (sNear d bits) fun near=>bnd (zTimes bits v near) fun dr=>bnd (bOff bits m.A d st v) fun fl=>.ok ⟨p.1,p.2,st,dr,fl.1,fl.2⟩
theorem c_bMake (m:MD) (d:FQ) (bits:Int) (h16:16<=bits) (h512:bits<=512) (hm:MLen m) (CC:ACalls prog 34 [mdv m] (i64 0)) (hd:¬ qSgn d<=0):∃ j,ACalls prog 36 [mdv m,rat d.q,i64 bits] (tBS (bMake bits m d) j):=by
 have hb:BOk bits:=⟨by omega,by omega⟩
 have d2:=hm.d2;have hg1:=hm.st.2.1;have hg2:=hm.iz.2.1;have hA:Six m.A:=⟨by rw[hm.A.1]; omega,rows6_of hm.A.2 (by omega)⟩
 have CS:=c_qSign d;obtain⟨sg,hsg⟩:∃ x,qSgn d=x:=⟨_,rfl⟩
 rw[hsg] at CS hd;obtain⟨j0,CM⟩:=c_mMake m.A d bits hA;obtain⟨R,hR⟩:∃ R,bMake bits m d=R:=⟨_,rfl⟩
 rw[hR];unfold bMake at hR;have D1:decide (sg<=0)=false:=decide_eq_false hd;have D2:decide (bits<16)=false:=decide_eq_false (by omega);have D3:decide (bits > 512)=false:=decide_eq_false (by omega);have C1:=CM;cases h1:mMake m.A d bits with
 |error e =>
  rw[h1] at C1 hR;rw[<- hR];refine⟨bs0,?_⟩;refine conP func36 rfl (by kernel_rfl) ?_;repeat ((first | refine .gF ?_ | refine .eF ?_ | refine cE C1 ?_ | refine cE CC ?_ | refine cE CS ?_ | rw[D1] | rw[D2] | rw[D3] | refine xK ?_ | rw[decide_eq_true (by omega)] | rw[decide_eq_false (by omega)]); conv=>whnf)
  exact⟨.sh _ _ rfl le_bs0,fin rfl rfl,trivial⟩
 |ok p =>
  rw[h1] at C1 hR
  replace hR:=bnd_okr hR
  change ACalls prog _ _ (.tup [gro p,i64 0]) at C1;have C2:=c_zOf m.st bits hb (by rw[hm.st.1]; omega) (by omega) (rows6_of hm.st.2.2 (by omega));cases h2:zOf bits m.st with
  |error e =>
   rw[h2] at C2 hR;rw[<- hR];refine⟨bs0,?_⟩;refine conP func36 rfl (by kernel_rfl) ?_;repeat ((first | refine .gF ?_ | refine .eF ?_ | refine cE C1 ?_ | refine cE C2 ?_ | refine cE CC ?_ | refine cE CS ?_ | rw[D1] | rw[D2] | rw[D3] | refine xK ?_ | rw[decide_eq_true (by omega)] | rw[decide_eq_false (by omega)]); conv=>whnf)
   exact⟨.sh _ _ rfl le_bs0,fin rfl rfl,trivial⟩
  |ok st =>
   rw[h2] at C2 hR
   replace hR:=bnd_okr hR
   have hst:=zOf_len h2;have C3:=c_zDrive m bits hb hm;cases h3:zDrive bits m with
   |error e =>
    rw[h3] at C3 hR;rw[<- hR];refine⟨bs0,?_⟩;refine conP func36 rfl (by kernel_rfl) ?_;repeat ((first | refine .gF ?_ | refine .eF ?_ | refine cE C1 ?_ | refine cE C2 ?_ | refine cE C3 ?_ | refine cE CC ?_ | refine cE CS ?_ | rw[D1] | rw[D2] | rw[D3] | refine xK ?_ | rw[decide_eq_true (by omega)] | rw[decide_eq_false (by omega)]); conv=>whnf)
    exact⟨.sh _ _ rfl le_bs0,fin rfl rfl,trivial⟩
   |ok v =>
    rw[h3] at C3 hR
    replace hR:=bnd_okr hR
    have hv:=zDrive_len hm h3;have C4:=c_sNear d bits hb;cases h4:sNear d bits with
    |error e =>
     rw[h4] at C4 hR;rw[<- hR];refine⟨bs0,?_⟩;refine conP func36 rfl (by kernel_rfl) ?_;repeat ((first | refine .gF ?_ | refine .eF ?_ | refine cE C1 ?_ | refine cE C2 ?_ | refine cE C3 ?_ | refine cE C4 ?_ | refine cE CC ?_ | refine cE CS ?_ | rw[D1] | rw[D2] | rw[D3] | refine xK ?_ | rw[decide_eq_true (by omega)] | rw[decide_eq_false (by omega)]); conv=>whnf)
     exact⟨.sh _ _ rfl le_bs0,fin rfl rfl,trivial⟩
    |ok near =>
     rw[h4] at C4 hR
     replace hR:=bnd_okr hR
     have C5:=c_zTimes v near bits hb (by rw[hv.1.c]; omega) (by rw[hv.2]; omega) (rows6_of hv.1.g (by omega)) (by rw[hv.1.r]; omega);cases h5:zTimes bits v near with
     |error e =>
      rw[h5] at C5 hR;rw[<- hR];refine⟨bs0,?_⟩;refine conP func36 rfl (by kernel_rfl) ?_;repeat ((first | refine .gF ?_ | refine .eF ?_ | refine cE C1 ?_ | refine cE C2 ?_ | refine cE C3 ?_ | refine cE C4 ?_ | refine cE C5 ?_ | refine cE CC ?_ | refine cE CS ?_ | rw[D1] | rw[D2] | rw[D3] | refine xK ?_ | rw[decide_eq_true (by omega)] | rw[decide_eq_false (by omega)]); conv=>whnf)
      exact⟨.sh _ _ rfl le_bs0,fin rfl rfl,trivial⟩
     |ok dr =>
      rw[h5] at C5 hR
      replace hR:=bnd_okr hR
      obtain⟨j1,CO⟩:=c_bOff m d st v bits hb hm (by rw[<- hm.st.1]; exact hst.1) hv.1 (by rw[hst.2]; omega) (by rw[hv.2]; omega);have C6:=CO;cases h6:bOff bits m.A d st v with
      |error e =>
       rw[h6] at C6 hR;rw[<- hR];refine⟨⟨p.1,p.2,st,dr,j1.1,j1.2⟩,?_⟩;refine conP func36 rfl (by kernel_rfl) ?_;repeat ((first | refine .gF ?_ | refine .eF ?_ | refine cE C1 ?_ | refine cE C2 ?_ | refine cE C3 ?_ | refine cE C4 ?_ | refine cE C5 ?_ | refine cE C6 ?_ | refine cE CC ?_ | refine cE CS ?_ | rw[D1] | rw[D2] | rw[D3] | refine xK ?_ | rw[decide_eq_true (by omega)] | rw[decide_eq_false (by omega)]); conv=>whnf)
       exact⟨fin rfl rfl,fin rfl rfl,trivial⟩
      |ok fl =>
       rw[h6] at C6 hR
       replace hR:=bnd_okr hR
       rw[<- hR];refine⟨bs0,?_⟩;refine conP func36 rfl (by kernel_rfl) ?_;repeat ((first | refine .gF ?_ | refine .eF ?_ | refine cE C1 ?_ | refine cE C2 ?_ | refine cE C3 ?_ | refine cE C4 ?_ | refine cE C5 ?_ | refine cE C6 ?_ | refine cE CC ?_ | refine cE CS ?_ | rw[D1] | rw[D2] | rw[D3] | refine xK ?_ | rw[decide_eq_true (by omega)] | rw[decide_eq_false (by omega)]); conv=>whnf)
       exact⟨fin rfl rfl,fin rfl rfl,trivial⟩
end
section
open Go Go.RowKit Go.Proofs.Tryz
def MD.raw (m:MD):RawM:=⟨(m.dim:Nat),(m.inp:Nat),m.A.map (·.map rawQ),m.B.map (·.map rawQ),m.C.map rawQ,⟨m.st.c.map rawQ,m.st.g.map (·.map rawQ)⟩,⟨m.iz.c.map rawQ,m.iz.g.map (·.map rawQ)⟩,rawQ m.hor,rawQ m.stp,m.cl⟩
theorem rl_raw (l:List FQ):rl (l.map rawQ)=lQ l:=by
 show AV.sl ((l.map rawQ).map rawv)=AV.sl (l.map ratv);rw[List.map_map];rfl
theorem rt_raw (t:List (List FQ)):rt (t.map (·.map rawQ))=lT t:=by
 show AV.sl ((t.map (·.map rawQ)).map rl)=AV.sl (t.map lQ);rw[List.map_map];congr 1;exact List.map_congr_left fun l _=>rl_raw l
theorem rmd_raw (m:MD):rmd m.raw=mdv m:=by
 show AV.agg [i64 (m.dim:Nat),i64 (m.inp:Nat),rt (m.A.map (·.map rawQ)),rt (m.B.map (·.map rawQ)),rl (m.C.map rawQ),rl (m.st.c.map rawQ),rt (m.st.g.map (·.map rawQ)),rl (m.iz.c.map rawQ),rt (m.iz.g.map (·.map rawQ)),boo (rawQ m.hor).1,lst (rawQ m.hor).2.1,lst (rawQ m.hor).2.2,boo (rawQ m.stp).1,lst (rawQ m.stp).2.1,lst (rawQ m.stp).2.2,.sl (m.cl.map rcl)]=_;rw[rt_raw,rt_raw,rl_raw,rl_raw,rt_raw,rl_raw,rt_raw];rfl
theorem raw_list:∀ {l:List RawQ},(∀ x∈l,RawB x)->(∀ x∈l,rawCheck x=0)->∃ a:List FQ,l=a.map rawQ
 |[],_,_=>⟨[],rfl⟩
 |x::l,h,g=>by
  obtain⟨a,ha⟩:=raw_q (h x (.head _)).2.2.1 (h x (.head _)).2.2.2 (g x (.head _));obtain⟨b,hb⟩:=raw_list (l:=l) (fun y hy=>h y (.tail _ hy)) fun y hy=>g y (.tail _ hy)
  exact⟨a::b,by rw[List.map_cons,ha,hb]⟩
theorem vCheck_in {l:List RawQ} {n:Int} (hb:LBd l) (h:vCheck l n=0):∃ a:List FQ,l=a.map rawQ/\(a.length:Int)=n/\n<=16:=by
 unfold vCheck at h;split at h
 ·cases h
 ·rename_i hn;obtain⟨a,ha⟩:=raw_list hb.2 fun x hx=>firstE_zero h _ (List.mem_map.2 ⟨x,hx,rfl⟩)
  refine⟨a,ha,?_,by omega⟩;rw[ha] at hn;simp at hn;omega
theorem table_in {t:List (List RawQ)} {n:Int} (hb:∀ r∈t,LBd r) (h:∀ r∈t,vCheck r n=0):∃ a:List (List FQ),t=a.map (·.map rawQ)/\∀ r∈a,(r.length:Int)=n:=by
 induction t with
 |nil=>exact⟨[],rfl,fun r hr=>by cases hr⟩
 |cons x t ih =>
  obtain⟨a,ha,hl,_⟩:=vCheck_in (hb x (.head _)) (h x (.head _));obtain⟨b,hb',hl'⟩:=ih (fun r hr=>hb r (.tail _ hr)) fun r hr=>h r (.tail _ hr)
  refine⟨a::b,by rw[List.map_cons,<- ha,<- hb'],fun r hr=>?_⟩;rcases List.mem_cons.1 hr with rfl | hr
  ·exact hl
  ·exact hl' r hr
theorem mCheck_in {t:List (List RawQ)} {n k:Int} (hb:TBd t) (h:mCheckR t n k=0):∃ a:List (List FQ),t=a.map (·.map rawQ)/\(a.length:Int)=n/\∀ r∈a,(r.length:Int)=k:=by
 unfold mCheckR at h;split at h
 ·cases h
 ·rename_i hn;obtain⟨a,ha,hl⟩:=table_in hb.2 fun r hr=>firstE_zero h _ (List.mem_map.2 ⟨r,hr,rfl⟩)
  refine⟨a,ha,?_,hl⟩;rw[ha] at hn;simp at hn;omega
theorem zCheck_in {z:RawZ} {n:Int} (hb:ZBd z) (h:zCheckR z n=0):∃ a:MZ,z=⟨a.c.map rawQ,a.g.map (·.map rawQ)⟩/\(a.c.length:Int)=n/\a.g.length<=32/\∀ r∈a.g,(r.length:Int)=n:=by
 unfold zCheckR at h;split at h
 ·cases h
 ·rename_i hn;split at h
  ·rename_i h0;exact absurd h h0
  ·rename_i h0;have h0:vCheck z.c n=0:=Classical.byContradiction h0;obtain⟨c,hc,hl,_⟩:=vCheck_in hb.1 h0;obtain⟨g,hg,hgl⟩:=table_in hb.2.2 fun r hr=>firstE_zero h _ (List.mem_map.2 ⟨r,hr,rfl⟩)
   obtain⟨zc,zg⟩:=z;dsimp only at hc hg hn;subst hc hg;exact⟨⟨c,g⟩,rfl,hl,by simp at hn; omega,hgl⟩
structure MTy (m:RawM) (M:MD):Prop where
 e:m=M.raw
 len:MLen M
 h0:¬ qSgn M.hor<=0
 s0:¬ qSgn M.stp<=0
 n:∃ n,mSteps M.hor M.stp=.ok n
 cl:M.cl.length<=32/\∀ c∈M.cl,ClOk c (M.dim:Nat) M.hor
theorem MOk.ty {m:RawM} (hb:MBd m) (h:MOk m):∃ M,MTy m M:=by
 obtain⟨hd,hA,hB,hC,hst,hiz,hh,hs,h',s',n,e1,e2,g1,g2,g3,g4,g5⟩:=h;obtain⟨A,a1,a2,a3⟩:=mCheck_in hb.A hA;obtain⟨B,b1,b2,b3⟩:=mCheck_in hb.B hB;obtain⟨C,c1,c2,_⟩:=vCheck_in hb.C hC;obtain⟨st,s1,s2,s3,s4⟩:=zCheck_in hb.st hst;obtain⟨iz,i1,i2,i3,i4⟩:=zCheck_in hb.iz hiz;obtain⟨dim,inp,ta,tb,tc,rst,riz,hor,stp,cl⟩:=m;dsimp only at *
 obtain⟨d,rfl⟩:∃ d:Nat,dim=(d:Int):=⟨dim.toNat,by omega⟩
 obtain⟨k,rfl⟩:∃ k:Nat,inp=(k:Int):=⟨inp.toNat,by omega⟩
 subst a1 b1 c1 s1 i1 e1 e2;exact⟨⟨d,k,A,B,C,st,iz,h',s',cl⟩,rfl,⟨by show 1<=d; omega,by show d<=16; omega,by show k<=16; omega,⟨by show A.length=d; omega,fun r hr=>by have:=a3 r hr; show r.length=d; omega⟩,⟨by show B.length=d; omega,fun r hr=>by have:=b3 r hr; show r.length=k; omega⟩,by show C.length=d; omega,⟨by show st.c.length=d; omega,s3,fun r hr=>by have:=s4 r hr; show r.length=d; omega⟩,⟨by show iz.c.length=k; omega,i3,fun r hr=>by have:=i4 r hr; show r.length=k; omega⟩⟩,g1,g2,⟨n,g3⟩,g4,g5⟩
theorem vCheck_raw {a:List FQ} {n:Nat} (h:a.length=n) (hn:n<=16):vCheck (a.map rawQ) (n:Nat)=0:=by
 unfold vCheck;rw[if_neg (by simp; omega)];refine firstE_all fun x hx=>?_
 rw[List.map_map] at hx;obtain⟨y,_,rfl⟩:=List.mem_map.1 hx;exact rawCheck_rawQ y
theorem mCheck_raw {a:List (List FQ)} {n k:Nat} (h:a.length=n) (hr:∀ r∈a,r.length=k) (hn:n<=16) (hk:k<=16):mCheckR (a.map (·.map rawQ)) (n:Nat) (k:Nat)=0:=by
 unfold mCheckR;rw[if_neg (by simp; omega)];refine firstE_all fun x hx=>?_
 rw[List.map_map] at hx;obtain⟨y,hy,rfl⟩:=List.mem_map.1 hx;exact vCheck_raw (hr y hy) hk
theorem zCheck_raw {z:MZ} {n:Nat} (h:z.c.length=n) (hg:z.g.length<=32) (hr:∀ r∈z.g,r.length=n) (hn:n<=16):zCheckR ⟨z.c.map rawQ,z.g.map (·.map rawQ)⟩ (n:Nat)=0:=by
 unfold zCheckR;rw[if_neg (by simp; omega),vCheck_raw h hn,if_neg (fun q=>q rfl)];refine firstE_all fun x hx=>?_
 rw[List.map_map] at hx;obtain⟨y,hy,rfl⟩:=List.mem_map.1 hx;exact vCheck_raw (hr y hy) hn
theorem raw_ok (M:MD) (hl:MLen M) (h0:¬ qSgn M.hor<=0) (s0:¬ qSgn M.stp<=0) (hn:∃ n,mSteps M.hor M.stp=.ok n) (hc:M.cl.length<=32/\∀ c∈M.cl,ClOk c (M.dim:Nat) M.hor):MOk M.raw:=by
 have d1:=hl.d1;have d2:=hl.d2;have i2:=hl.i2;obtain⟨n,hn⟩:=hn;exact⟨by show ¬ (((M.dim:Nat):Int)<1\/((M.dim:Nat):Int) > 16\/((M.inp:Nat):Int)<0\/((M.inp:Nat):Int) > 16); omega,mCheck_raw hl.A.1 hl.A.2 d2 d2,mCheck_raw hl.B.1 hl.B.2 d2 i2,vCheck_raw hl.C d2,zCheck_raw hl.st.1 hl.st.2.1 hl.st.2.2 d2,zCheck_raw hl.iz.1 hl.iz.2.1 hl.iz.2.2 i2,rawCheck_rawQ _,rawCheck_rawQ _,M.hor,M.stp,n,rfl,rfl,h0,s0,hn,hc.1,hc.2⟩
theorem LBd_raw {a:List FQ} (h:a.length<1000000):LBd (a.map rawQ):=⟨by simp; omega,fun x hx=>by
 obtain⟨y,_,rfl⟩:=List.mem_map.1 hx;exact rawQ_ok y⟩
theorem TBd_raw {a:List (List FQ)} (h:a.length<1000000) (hr:Rows6 a):TBd (a.map (·.map rawQ)):=⟨by simp; omega,fun x hx=>by
 obtain⟨y,hy,rfl⟩:=List.mem_map.1 hx;exact LBd_raw (hr y hy)⟩
theorem raw_bd (M:MD) (hl:MLen M) (hc:M.cl.length<=32) (hcb:∀ c∈M.cl,CBd c):MBd M.raw:=by
 have d2:=hl.d2;have i2:=hl.i2;have s1:=hl.st.2.1;have s2:=hl.iz.2.1;have l1:=hl.A.1;have l2:=hl.B.1;have l3:=hl.C;have l4:=hl.st.1;have l5:=hl.iz.1;exact⟨⟨by show -9223372036854775808<=((M.dim:Nat):Int); omega,by show ((M.dim:Nat):Int)<=_; omega⟩,⟨by show -9223372036854775808<=((M.inp:Nat):Int); omega,by show ((M.inp:Nat):Int)<=_; omega⟩,TBd_raw (by omega) (rows6_of hl.A.2 (by omega)),TBd_raw (by omega) (rows6_of hl.B.2 (by omega)),LBd_raw (by omega),⟨LBd_raw (by omega),TBd_raw (by omega) (rows6_of hl.st.2.2 (by omega))⟩,⟨LBd_raw (by omega),TBd_raw (by omega) (rows6_of hl.iz.2.2 (by omega))⟩,rawQ_ok _,rawQ_ok _,by show M.cl.length<=_; omega,hcb⟩
theorem c_mdOk (M:MD) (hl:MLen M) (h0:¬ qSgn M.hor<=0) (s0:¬ qSgn M.stp<=0) (hn:∃ n,mSteps M.hor M.stp=.ok n) (hc:M.cl.length<=32/\∀ c∈M.cl,ClOk c (M.dim:Nat) M.hor) (hcb:∀ c∈M.cl,CBd c):ACalls prog 34 [mdv M] (i64 0):=by
 obtain⟨e,C,he⟩:=c_mdCheck M.raw (raw_bd M hl hc.1 hcb);rw[he.2 (raw_ok M hl h0 s0 hn hc),rmd_raw] at C;exact C
end
end Go.Proofs.YtjdkdcmpifapeaaGreatDoor.Abs
