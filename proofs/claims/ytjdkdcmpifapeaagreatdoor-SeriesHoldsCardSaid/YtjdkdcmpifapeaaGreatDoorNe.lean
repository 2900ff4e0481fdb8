/- The document's tables of whole numbers: products, the walk (made by gentimes2.py, a program of this session). -/
import Derived.Test.YtjdkdcmpifapeaaGreatDoorNd
set_option linter.unusedVariables false
set_option linter.unusedSectionVars false
set_option linter.unusedSimpArgs false
set_option maxHeartbeats 4000000
set_option maxRecDepth 10000
namespace Go.Proofs.YtjdkdcmpifapeaaGreatDoor.Abs
section
open Go Go.RowKit Go.Proofs.Tryz
noncomputable def xtCode (l:List Bool):Code:=Code.at' (bodyOf f194) l
theorem xt_in0 {n A D:Nat} {a b:List (List XI)} (hI:0<n) (hn:n<1000) (ha:XT n A a) (hb:XT n D b) (hd:A+D+n<=20000) (K:NPost) :
  Pc prog f194.ntmps (xtCode [true,true,false,true,false,false,true,false,false,true,false]) [(0,lX a),(1,lX b),(5,nilA),(6,i64 (0:Nat)),(7,.own (10,4) n)] [((10,4),⟨185,2,List.replicate n xz⟩)] 15
   (thenP (wkP (fun _:Unit=>True) (fun _=>{ fr:=[(0,lX a),(1,lX b),(5,nilA),(6,i64 (0:Nat)),(7,.own (10,4) n)],st:=[((10,4),⟨185,2,(xrow a b n 0 n).map xi⟩)],g:=40 })) K):=by
 have lb:(((b.map rX).length:Nat):Int)=(n:Int):=by rw[List.length_map,hb.l]
 refine .gk ?_;conv=>whnf
 refine .block (.loop (fun k:Nat=>k<=n) (fun k=>{ fr:=[(0,lX a),(1,lX b),(5,nilA),(6,i64 (0:Nat)),(7,.own (10,4) n),(8,i64 (k:Nat))],st:=[((10,4),⟨185,2,fillV xi xz n (xrow a b n 0 k)⟩)],g:=20 }) (fun k=>n-k) 0 (Nat.zero_le _) ?_ ?_)
 ·exact⟨trivial,⟨x_R,x_R,x_R,x_R,x_R,x_R,trivial⟩,⟨.same rfl (fx_ltL _),x_N,x_L⟩,trivial⟩
 intro k hk;refine .gk ?_;conv=>whnf
 by_cases hkn:k<n
 ·rw[decide_eq_true (by omega:((k:Nat):Int)<((n:Nat):Int))];conv=>whnf
  refine .cut (fun _:Unit=>True) (fun _=>{ fr:=[(0,lX a),(1,lX b),(5,nilA),(6,i64 (0:Nat)),(7,.own (10,4) n),(8,i64 (k:Nat))],st:=[((10,4),⟨185,2,fillV xi xz n (xrow a b n 0 (k+1))⟩)],g:=60 }) ?_ ?_
  ·refine .block ?_;refine .gk ?_;conv=>whnf
   refine .block (.loop (fun j:Nat=>j<=n) (fun j=>{ fr:=[(0,lX a),(1,lX b),(5,nilA),(6,i64 (0:Nat)),(7,.own (10,4) n),(8,i64 (k:Nat)),(9,i64 (j:Nat))],st:=[((10,4),⟨185,2,xpart a b n 0 k j⟩)],g:=30 }) (fun j=>n-j) 0 (Nat.zero_le _) ?_ ?_)
   ·exact⟨trivial,⟨x_R,x_R,x_R,x_R,x_R,x_R,x_R,trivial⟩,⟨.same rfl (xpart_ltL a b n 0 k 0),x_N,x_L⟩,trivial⟩
   intro j hj;refine .gk ?_;conv=>whnf
   rw[lb];by_cases hjn:j<n
   ·rw[decide_eq_true (by omega:((j:Nat):Int)<((n:Nat):Int))];conv=>whnf
    obtain⟨e,e1,e2⟩:=xpart_get (a:=a) (b:=b) (i:=0) hkn j;have hset:=xpart_set (a:=a) (b:=b) (i:=0) hkn j;have CM:=c_xMul (xg a 0 j) (xg b j k) ((ha.d _ _).mono (by omega)) ((hb.d _ _).mono (by omega));have CA:=c_xAdd (xc a b 0 k j) (xMul (xg a 0 j) (xg b j k)) ((xc_dg ha hb _ _ j).mono (by omega)) (((ha.d _ _).mul (hb.d _ _)).mono (by omega));refine pcK ?_;conv=>whnf
    refine⟨by kernel_rfl,?_⟩;conv=>whnf
    refine⟨⟨rfl,rfl⟩,⟨by omega,by omega⟩,?_⟩;conv=>whnf
    rcases e2 with ⟨rfl,hz⟩ | rfl
    ·refine elA_mk xz e1 ?_;conv=>whnf
     refine⟨rX (a.getD 0 []),⟨by omega,(ha.row (i:=0) hI).1,rfl,rfl⟩,?_⟩;conv=>whnf
     refine⟨xi (xg a 0 j),⟨by omega,ha.at hI hjn,rfl,rfl⟩,?_⟩;conv=>whnf
     refine⟨rX (b.getD j []),⟨by omega,(hb.row hjn).1,rfl,rfl⟩,?_⟩;conv=>whnf
     refine⟨xi (xg b j k),⟨by omega,hb.at hjn hkn,rfl,rfl⟩,?_⟩;conv=>whnf
     refine callD CM rfl rfl ?_;conv=>whnf
     refine callLD [xi (xc a b 0 k j),xi (xMul (xg a 0 j) (xg b j k))] rfl ⟨by rw[hz]; exact le_x0,.refl _,trivial⟩ CA rfl ?_;conv=>whnf
     refine⟨⟨rfl,rfl⟩,⟨by omega,by omega⟩,?_⟩;conv=>whnf
     refine elA_mk xz e1 ?_;conv=>whnf
     refine⟨j+1,hjn,?_,by show n-(j+1)<n-j; omega⟩;refine⟨trivial,⟨x_R,x_R,x_R,x_R,x_R,x_R,x_E ((wI (n:=(j:Int)+1) (by omega) (by omega)).trans (by simp)),trivial⟩,⟨.same ?_ (xpart_ltL a b n 0 k (j+1)),x_N,x_L⟩,trivial⟩;exact congrArg (fun z=>some (Row.mk 185 2 z)) hset
    ·refine elA_mk (xi (xc a b 0 k j)) e1 ?_;conv=>whnf
     refine⟨rX (a.getD 0 []),⟨by omega,(ha.row (i:=0) hI).1,rfl,rfl⟩,?_⟩;conv=>whnf
     refine⟨xi (xg a 0 j),⟨by omega,ha.at hI hjn,rfl,rfl⟩,?_⟩;conv=>whnf
     refine⟨rX (b.getD j []),⟨by omega,(hb.row hjn).1,rfl,rfl⟩,?_⟩;conv=>whnf
     refine⟨xi (xg b j k),⟨by omega,hb.at hjn hkn,rfl,rfl⟩,?_⟩;conv=>whnf
     refine callD CM rfl rfl ?_;conv=>whnf
     refine callD CA rfl rfl ?_;conv=>whnf
     refine⟨⟨rfl,rfl⟩,⟨by omega,by omega⟩,?_⟩;conv=>whnf
     refine elA_mk (xi (xc a b 0 k j)) e1 ?_;conv=>whnf
     refine⟨j+1,hjn,?_,by show n-(j+1)<n-j; omega⟩;refine⟨trivial,⟨x_R,x_R,x_R,x_R,x_R,x_R,x_E ((wI (n:=(j:Int)+1) (by omega) (by omega)).trans (by simp)),trivial⟩,⟨.same ?_ (xpart_ltL a b n 0 k (j+1)),x_N,x_L⟩,trivial⟩;exact congrArg (fun z=>some (Row.mk 185 2 z)) hset
   ·rw[decide_eq_false (by omega:¬ ((j:Nat):Int)<((n:Nat):Int))];conv=>whnf
    have hj':j=n:=by omega
    refine⟨(),trivial,?_⟩;rw[hj'];refine⟨trivial,⟨x_R,x_R,x_R,x_R,x_R,x_R,trivial⟩,⟨.same ?_ (fx_ltL _),x_N,x_L⟩,trivial⟩;exact congrArg (fun z=>some (Row.mk 185 2 z)) (xpart_done (by omega))
  ·rintro⟨⟩ _;refine pcK ?_;conv=>whnf
   refine⟨k+1,hkn,?_,by show n-(k+1)<n-k; omega⟩;exact⟨trivial,⟨x_R,x_R,x_R,x_R,x_R,x_E ((wI (n:=(k:Int)+1) (by omega) (by omega)).trans (by simp)),trivial⟩,⟨.same rfl (fx_ltL _),x_N,x_L⟩,trivial⟩
 ·rw[decide_eq_false (by omega:¬ ((k:Nat):Int)<((n:Nat):Int))];conv=>whnf
  have hk':k=n:=by omega
  refine⟨(),trivial,?_⟩;rw[hk'];refine⟨trivial,⟨x_R,x_R,x_R,x_R,x_R,trivial⟩,⟨.same ?_ (xi_ltL _),x_N,x_L⟩,trivial⟩;exact congrArg (fun z=>some (Row.mk 185 2 z)) (xrow_full a b n 0)
theorem xt_in1 {n A D:Nat} {a b:List (List XI)} (hI:1<n) (hn:n<1000) (ha:XT n A a) (hb:XT n D b) (hd:A+D+n<=20000) (K:NPost) :
  Pc prog f194.ntmps (xtCode [true,true,false,true,false,false,true,false,false,true,false]) [(0,lX a),(1,lX b),(5,.own (5,0) 1),(6,i64 (1:Nat)),(7,.own (10,4) n)] [((5,0),⟨178,1,[.own (6,0) n]⟩),((6,0),⟨185,2,(xrow a b n 0 n).map xi⟩),((10,4),⟨185,2,List.replicate n xz⟩)] 15
   (thenP (wkP (fun _:Unit=>True) (fun _=>{ fr:=[(0,lX a),(1,lX b),(5,.own (5,0) 1),(6,i64 (1:Nat)),(7,.own (10,4) n)],st:=[((5,0),⟨178,1,[.own (6,0) n]⟩),((6,0),⟨185,2,(xrow a b n 0 n).map xi⟩),((10,4),⟨185,2,(xrow a b n 1 n).map xi⟩)],g:=40 })) K):=by
 have lb:(((b.map rX).length:Nat):Int)=(n:Int):=by rw[List.length_map,hb.l]
 refine .gk ?_;conv=>whnf
 refine .block (.loop (fun k:Nat=>k<=n) (fun k=>{ fr:=[(0,lX a),(1,lX b),(5,.own (5,0) 1),(6,i64 (1:Nat)),(7,.own (10,4) n),(8,i64 (k:Nat))],st:=[((5,0),⟨178,1,[.own (6,0) n]⟩),((6,0),⟨185,2,(xrow a b n 0 n).map xi⟩),((10,4),⟨185,2,fillV xi xz n (xrow a b n 1 k)⟩)],g:=20 }) (fun k=>n-k) 0 (Nat.zero_le _) ?_ ?_)
 ·exact⟨trivial,⟨x_R,x_R,x_R,x_R,x_R,x_R,trivial⟩,x_S,⟨.same rfl (xi_ltL _),x_N,x_L⟩,⟨.same rfl (fx_ltL _),x_N,x_L⟩,trivial⟩
 intro k hk;refine .gk ?_;conv=>whnf
 by_cases hkn:k<n
 ·rw[decide_eq_true (by omega:((k:Nat):Int)<((n:Nat):Int))];conv=>whnf
  refine .cut (fun _:Unit=>True) (fun _=>{ fr:=[(0,lX a),(1,lX b),(5,.own (5,0) 1),(6,i64 (1:Nat)),(7,.own (10,4) n),(8,i64 (k:Nat))],st:=[((5,0),⟨178,1,[.own (6,0) n]⟩),((6,0),⟨185,2,(xrow a b n 0 n).map xi⟩),((10,4),⟨185,2,fillV xi xz n (xrow a b n 1 (k+1))⟩)],g:=60 }) ?_ ?_
  ·refine .block ?_;refine .gk ?_;conv=>whnf
   refine .block (.loop (fun j:Nat=>j<=n) (fun j=>{ fr:=[(0,lX a),(1,lX b),(5,.own (5,0) 1),(6,i64 (1:Nat)),(7,.own (10,4) n),(8,i64 (k:Nat)),(9,i64 (j:Nat))],st:=[((5,0),⟨178,1,[.own (6,0) n]⟩),((6,0),⟨185,2,(xrow a b n 0 n).map xi⟩),((10,4),⟨185,2,xpart a b n 1 k j⟩)],g:=30 }) (fun j=>n-j) 0 (Nat.zero_le _) ?_ ?_)
   ·exact⟨trivial,⟨x_R,x_R,x_R,x_R,x_R,x_R,x_R,trivial⟩,x_S,⟨.same rfl (xi_ltL _),x_N,x_L⟩,⟨.same rfl (xpart_ltL a b n 1 k 0),x_N,x_L⟩,trivial⟩
   intro j hj;refine .gk ?_;conv=>whnf
   rw[lb];by_cases hjn:j<n
   ·rw[decide_eq_true (by omega:((j:Nat):Int)<((n:Nat):Int))];conv=>whnf
    obtain⟨e,e1,e2⟩:=xpart_get (a:=a) (b:=b) (i:=1) hkn j;have hset:=xpart_set (a:=a) (b:=b) (i:=1) hkn j;have CM:=c_xMul (xg a 1 j) (xg b j k) ((ha.d _ _).mono (by omega)) ((hb.d _ _).mono (by omega));have CA:=c_xAdd (xc a b 1 k j) (xMul (xg a 1 j) (xg b j k)) ((xc_dg ha hb _ _ j).mono (by omega)) (((ha.d _ _).mul (hb.d _ _)).mono (by omega));refine pcK ?_;conv=>whnf
    refine⟨by kernel_rfl,?_⟩;conv=>whnf
    refine⟨⟨rfl,rfl⟩,⟨by omega,by omega⟩,?_⟩;conv=>whnf
    rcases e2 with ⟨rfl,hz⟩ | rfl
    ·refine elA_mk xz e1 ?_;conv=>whnf
     refine⟨rX (a.getD 1 []),⟨by omega,(ha.row (i:=1) hI).1,rfl,rfl⟩,?_⟩;conv=>whnf
     refine⟨xi (xg a 1 j),⟨by omega,ha.at hI hjn,rfl,rfl⟩,?_⟩;conv=>whnf
     refine⟨rX (b.getD j []),⟨by omega,(hb.row hjn).1,rfl,rfl⟩,?_⟩;conv=>whnf
     refine⟨xi (xg b j k),⟨by omega,hb.at hjn hkn,rfl,rfl⟩,?_⟩;conv=>whnf
     refine callD CM rfl rfl ?_;conv=>whnf
     refine callLD [xi (xc a b 1 k j),xi (xMul (xg a 1 j) (xg b j k))] rfl ⟨by rw[hz]; exact le_x0,.refl _,trivial⟩ CA rfl ?_;conv=>whnf
     refine⟨⟨rfl,rfl⟩,⟨by omega,by omega⟩,?_⟩;conv=>whnf
     refine elA_mk xz e1 ?_;conv=>whnf
     refine⟨j+1,hjn,?_,by show n-(j+1)<n-j; omega⟩;refine⟨trivial,⟨x_R,x_R,x_R,x_R,x_R,x_R,x_E ((wI (n:=(j:Int)+1) (by omega) (by omega)).trans (by simp)),trivial⟩,x_S,⟨.same rfl (xi_ltL _),x_N,x_L⟩,⟨.same ?_ (xpart_ltL a b n 1 k (j+1)),x_N,x_L⟩,trivial⟩;exact congrArg (fun z=>some (Row.mk 185 2 z)) hset
    ·refine elA_mk (xi (xc a b 1 k j)) e1 ?_;conv=>whnf
     refine⟨rX (a.getD 1 []),⟨by omega,(ha.row (i:=1) hI).1,rfl,rfl⟩,?_⟩;conv=>whnf
     refine⟨xi (xg a 1 j),⟨by omega,ha.at hI hjn,rfl,rfl⟩,?_⟩;conv=>whnf
     refine⟨rX (b.getD j []),⟨by omega,(hb.row hjn).1,rfl,rfl⟩,?_⟩;conv=>whnf
     refine⟨xi (xg b j k),⟨by omega,hb.at hjn hkn,rfl,rfl⟩,?_⟩;conv=>whnf
     refine callD CM rfl rfl ?_;conv=>whnf
     refine callD CA rfl rfl ?_;conv=>whnf
     refine⟨⟨rfl,rfl⟩,⟨by omega,by omega⟩,?_⟩;conv=>whnf
     refine elA_mk (xi (xc a b 1 k j)) e1 ?_;conv=>whnf
     refine⟨j+1,hjn,?_,by show n-(j+1)<n-j; omega⟩;refine⟨trivial,⟨x_R,x_R,x_R,x_R,x_R,x_R,x_E ((wI (n:=(j:Int)+1) (by omega) (by omega)).trans (by simp)),trivial⟩,x_S,⟨.same rfl (xi_ltL _),x_N,x_L⟩,⟨.same ?_ (xpart_ltL a b n 1 k (j+1)),x_N,x_L⟩,trivial⟩;exact congrArg (fun z=>some (Row.mk 185 2 z)) hset
   ·rw[decide_eq_false (by omega:¬ ((j:Nat):Int)<((n:Nat):Int))];conv=>whnf
    have hj':j=n:=by omega
    refine⟨(),trivial,?_⟩;rw[hj'];refine⟨trivial,⟨x_R,x_R,x_R,x_R,x_R,x_R,trivial⟩,x_S,⟨.same rfl (xi_ltL _),x_N,x_L⟩,⟨.same ?_ (fx_ltL _),x_N,x_L⟩,trivial⟩;exact congrArg (fun z=>some (Row.mk 185 2 z)) (xpart_done (by omega))
  ·rintro⟨⟩ _;refine pcK ?_;conv=>whnf
   refine⟨k+1,hkn,?_,by show n-(k+1)<n-k; omega⟩;exact⟨trivial,⟨x_R,x_R,x_R,x_R,x_R,x_E ((wI (n:=(k:Int)+1) (by omega) (by omega)).trans (by simp)),trivial⟩,x_S,⟨.same rfl (xi_ltL _),x_N,x_L⟩,⟨.same rfl (fx_ltL _),x_N,x_L⟩,trivial⟩
 ·rw[decide_eq_false (by omega:¬ ((k:Nat):Int)<((n:Nat):Int))];conv=>whnf
  have hk':k=n:=by omega
  refine⟨(),trivial,?_⟩;rw[hk'];refine⟨trivial,⟨x_R,x_R,x_R,x_R,x_R,trivial⟩,x_S,⟨.same rfl (xi_ltL _),x_N,x_L⟩,⟨.same ?_ (xi_ltL _),x_N,x_L⟩,trivial⟩;exact congrArg (fun z=>some (Row.mk 185 2 z)) (xrow_full a b n 1)
theorem xt_in2 {n A D:Nat} {a b:List (List XI)} (hI:2<n) (hn:n<1000) (ha:XT n A a) (hb:XT n D b) (hd:A+D+n<=20000) (K:NPost) :
  Pc prog f194.ntmps (xtCode [true,true,false,true,false,false,true,false,false,true,false]) [(0,lX a),(1,lX b),(5,.own (5,0) 2),(6,i64 (2:Nat)),(7,.own (10,4) n)] [((5,0),⟨178,1,[.own (6,0) n,.own (6,1) n]⟩),((6,0),⟨185,2,(xrow a b n 0 n).map xi⟩),((6,1),⟨185,2,(xrow a b n 1 n).map xi⟩),((10,4),⟨185,2,List.replicate n xz⟩)] 15
   (thenP (wkP (fun _:Unit=>True) (fun _=>{ fr:=[(0,lX a),(1,lX b),(5,.own (5,0) 2),(6,i64 (2:Nat)),(7,.own (10,4) n)],st:=[((5,0),⟨178,1,[.own (6,0) n,.own (6,1) n]⟩),((6,0),⟨185,2,(xrow a b n 0 n).map xi⟩),((6,1),⟨185,2,(xrow a b n 1 n).map xi⟩),((10,4),⟨185,2,(xrow a b n 2 n).map xi⟩)],g:=40 })) K):=by
 have lb:(((b.map rX).length:Nat):Int)=(n:Int):=by rw[List.length_map,hb.l]
 refine .gk ?_;conv=>whnf
 refine .block (.loop (fun k:Nat=>k<=n) (fun k=>{ fr:=[(0,lX a),(1,lX b),(5,.own (5,0) 2),(6,i64 (2:Nat)),(7,.own (10,4) n),(8,i64 (k:Nat))],st:=[((5,0),⟨178,1,[.own (6,0) n,.own (6,1) n]⟩),((6,0),⟨185,2,(xrow a b n 0 n).map xi⟩),((6,1),⟨185,2,(xrow a b n 1 n).map xi⟩),((10,4),⟨185,2,fillV xi xz n (xrow a b n 2 k)⟩)],g:=20 }) (fun k=>n-k) 0 (Nat.zero_le _) ?_ ?_)
 ·exact⟨trivial,⟨x_R,x_R,x_R,x_R,x_R,x_R,trivial⟩,x_S,⟨.same rfl (xi_ltL _),x_N,x_L⟩,⟨.same rfl (xi_ltL _),x_N,x_L⟩,⟨.same rfl (fx_ltL _),x_N,x_L⟩,trivial⟩
 intro k hk;refine .gk ?_;conv=>whnf
 by_cases hkn:k<n
 ·rw[decide_eq_true (by omega:((k:Nat):Int)<((n:Nat):Int))];conv=>whnf
  refine .cut (fun _:Unit=>True) (fun _=>{ fr:=[(0,lX a),(1,lX b),(5,.own (5,0) 2),(6,i64 (2:Nat)),(7,.own (10,4) n),(8,i64 (k:Nat))],st:=[((5,0),⟨178,1,[.own (6,0) n,.own (6,1) n]⟩),((6,0),⟨185,2,(xrow a b n 0 n).map xi⟩),((6,1),⟨185,2,(xrow a b n 1 n).map xi⟩),((10,4),⟨185,2,fillV xi xz n (xrow a b n 2 (k+1))⟩)],g:=60 }) ?_ ?_
  ·refine .block ?_;refine .gk ?_;conv=>whnf
   refine .block (.loop (fun j:Nat=>j<=n) (fun j=>{ fr:=[(0,lX a),(1,lX b),(5,.own (5,0) 2),(6,i64 (2:Nat)),(7,.own (10,4) n),(8,i64 (k:Nat)),(9,i64 (j:Nat))],st:=[((5,0),⟨178,1,[.own (6,0) n,.own (6,1) n]⟩),((6,0),⟨185,2,(xrow a b n 0 n).map xi⟩),((6,1),⟨185,2,(xrow a b n 1 n).map xi⟩),((10,4),⟨185,2,xpart a b n 2 k j⟩)],g:=30 }) (fun j=>n-j) 0 (Nat.zero_le _) ?_ ?_)
   ·exact⟨trivial,⟨x_R,x_R,x_R,x_R,x_R,x_R,x_R,trivial⟩,x_S,⟨.same rfl (xi_ltL _),x_N,x_L⟩,⟨.same rfl (xi_ltL _),x_N,x_L⟩,⟨.same rfl (xpart_ltL a b n 2 k 0),x_N,x_L⟩,trivial⟩
   intro j hj;refine .gk ?_;conv=>whnf
   rw[lb];by_cases hjn:j<n
   ·rw[decide_eq_true (by omega:((j:Nat):Int)<((n:Nat):Int))];conv=>whnf
    obtain⟨e,e1,e2⟩:=xpart_get (a:=a) (b:=b) (i:=2) hkn j;have hset:=xpart_set (a:=a) (b:=b) (i:=2) hkn j;have CM:=c_xMul (xg a 2 j) (xg b j k) ((ha.d _ _).mono (by omega)) ((hb.d _ _).mono (by omega));have CA:=c_xAdd (xc a b 2 k j) (xMul (xg a 2 j) (xg b j k)) ((xc_dg ha hb _ _ j).mono (by omega)) (((ha.d _ _).mul (hb.d _ _)).mono (by omega));refine pcK ?_;conv=>whnf
    refine⟨by kernel_rfl,?_⟩;conv=>whnf
    refine⟨⟨rfl,rfl⟩,⟨by omega,by omega⟩,?_⟩;conv=>whnf
    rcases e2 with ⟨rfl,hz⟩ | rfl
    ·refine elA_mk xz e1 ?_;conv=>whnf
     refine⟨rX (a.getD 2 []),⟨by omega,(ha.row (i:=2) hI).1,rfl,rfl⟩,?_⟩;conv=>whnf
     refine⟨xi (xg a 2 j),⟨by omega,ha.at hI hjn,rfl,rfl⟩,?_⟩;conv=>whnf
     refine⟨rX (b.getD j []),⟨by omega,(hb.row hjn).1,rfl,rfl⟩,?_⟩;conv=>whnf
     refine⟨xi (xg b j k),⟨by omega,hb.at hjn hkn,rfl,rfl⟩,?_⟩;conv=>whnf
     refine callD CM rfl rfl ?_;conv=>whnf
     refine callLD [xi (xc a b 2 k j),xi (xMul (xg a 2 j) (xg b j k))] rfl ⟨by rw[hz]; exact le_x0,.refl _,trivial⟩ CA rfl ?_;conv=>whnf
     refine⟨⟨rfl,rfl⟩,⟨by omega,by omega⟩,?_⟩;conv=>whnf
     refine elA_mk xz e1 ?_;conv=>whnf
     refine⟨j+1,hjn,?_,by show n-(j+1)<n-j; omega⟩;refine⟨trivial,⟨x_R,x_R,x_R,x_R,x_R,x_R,x_E ((wI (n:=(j:Int)+1) (by omega) (by omega)).trans (by simp)),trivial⟩,x_S,⟨.same rfl (xi_ltL _),x_N,x_L⟩,⟨.same rfl (xi_ltL _),x_N,x_L⟩,⟨.same ?_ (xpart_ltL a b n 2 k (j+1)),x_N,x_L⟩,trivial⟩;exact congrArg (fun z=>some (Row.mk 185 2 z)) hset
    ·refine elA_mk (xi (xc a b 2 k j)) e1 ?_;conv=>whnf
     refine⟨rX (a.getD 2 []),⟨by omega,(ha.row (i:=2) hI).1,rfl,rfl⟩,?_⟩;conv=>whnf
     refine⟨xi (xg a 2 j),⟨by omega,ha.at hI hjn,rfl,rfl⟩,?_⟩;conv=>whnf
     refine⟨rX (b.getD j []),⟨by omega,(hb.row hjn).1,rfl,rfl⟩,?_⟩;conv=>whnf
     refine⟨xi (xg b j k),⟨by omega,hb.at hjn hkn,rfl,rfl⟩,?_⟩;conv=>whnf
     refine callD CM rfl rfl ?_;conv=>whnf
     refine callD CA rfl rfl ?_;conv=>whnf
     refine⟨⟨rfl,rfl⟩,⟨by omega,by omega⟩,?_⟩;conv=>whnf
     refine elA_mk (xi (xc a b 2 k j)) e1 ?_;conv=>whnf
     refine⟨j+1,hjn,?_,by show n-(j+1)<n-j; omega⟩;refine⟨trivial,⟨x_R,x_R,x_R,x_R,x_R,x_R,x_E ((wI (n:=(j:Int)+1) (by omega) (by omega)).trans (by simp)),trivial⟩,x_S,⟨.same rfl (xi_ltL _),x_N,x_L⟩,⟨.same rfl (xi_ltL _),x_N,x_L⟩,⟨.same ?_ (xpart_ltL a b n 2 k (j+1)),x_N,x_L⟩,trivial⟩;exact congrArg (fun z=>some (Row.mk 185 2 z)) hset
   ·rw[decide_eq_false (by omega:¬ ((j:Nat):Int)<((n:Nat):Int))];conv=>whnf
    have hj':j=n:=by omega
    refine⟨(),trivial,?_⟩;rw[hj'];refine⟨trivial,⟨x_R,x_R,x_R,x_R,x_R,x_R,trivial⟩,x_S,⟨.same rfl (xi_ltL _),x_N,x_L⟩,⟨.same rfl (xi_ltL _),x_N,x_L⟩,⟨.same ?_ (fx_ltL _),x_N,x_L⟩,trivial⟩;exact congrArg (fun z=>some (Row.mk 185 2 z)) (xpart_done (by omega))
  ·rintro⟨⟩ _;refine pcK ?_;conv=>whnf
   refine⟨k+1,hkn,?_,by show n-(k+1)<n-k; omega⟩;exact⟨trivial,⟨x_R,x_R,x_R,x_R,x_R,x_E ((wI (n:=(k:Int)+1) (by omega) (by omega)).trans (by simp)),trivial⟩,x_S,⟨.same rfl (xi_ltL _),x_N,x_L⟩,⟨.same rfl (xi_ltL _),x_N,x_L⟩,⟨.same rfl (fx_ltL _),x_N,x_L⟩,trivial⟩
 ·rw[decide_eq_false (by omega:¬ ((k:Nat):Int)<((n:Nat):Int))];conv=>whnf
  have hk':k=n:=by omega
  refine⟨(),trivial,?_⟩;rw[hk'];refine⟨trivial,⟨x_R,x_R,x_R,x_R,x_R,trivial⟩,x_S,⟨.same rfl (xi_ltL _),x_N,x_L⟩,⟨.same rfl (xi_ltL _),x_N,x_L⟩,⟨.same ?_ (xi_ltL _),x_N,x_L⟩,trivial⟩;exact congrArg (fun z=>some (Row.mk 185 2 z)) (xrow_full a b n 2)
end
section
open Go Go.RowKit Go.Proofs.Tryz
theorem conNP {f:FuncId} {fn:Func} {c:Code} {args:List AV} {rows:List Row} {res:AV} (hf:prog.funcs[f]?=some fn) (hb:fn.body=some c)
  (hc:((fn.name == "runtime.NumGoroutine")==false&&codeN fn.ntmps c&&Nat.ble args.length fn.ntmps)=true)
  (h:Pc prog fn.ntmps c (frI args 0) [] 0 (fun e fr st g=>∃ ids,resNR ty fn.results.toList ids rows res e (mkS fr st g))):ACallsN prog f args rows res:=ACallsN.ofPc ty_ok hm hf hb hc h
theorem xi_off {ρ:Ren}:∀ l:List XI,AV.offL ρ (l.map xi)=true
 |[]=>rfl
 |a::l=>by show (true&&_)=true; rw[xi_off l]; rfl
theorem xi_ok {ρ:Ren} {n:Nat} {l:List XI}:(AV.ltL n (l.map xi)&&AV.offL ρ (l.map xi))=true:=by rw[xi_ltL,xi_off]; rfl
theorem xi_okL (l:List XI) (n:Nat) {ρ:Ren} (h:ρ≠[]):okL ρ n (l.map xi)=true:=by
 cases ρ with
 |nil=>exact absurd rfl h
 |cons p ρ=>exact xi_ok
theorem c_xTimes1 {A D:Nat} {a b:List (List XI)} (ha:XT 1 A a) (hb:XT 1 D b) (hd:A+D+1<=20000):ACallsN prog 194 [lX a,lX b] [⟨178,1,[.own (0,1) 1]⟩,⟨185,2,(xrow a b 1 0 1).map xi⟩] (.own (0,0) 1):=by
 have la:(((a.map rX).length:Nat):Int)=((1:Nat):Int):=by rw[List.length_map,ha.l]
 have lb0:((((b.getD 0 []).map xi).length:Nat):Int)=((1:Nat):Int):=by rw[List.length_map,(hb.row (i:=0) (by omega)).2]
 refine conNP func194 rfl (by kernel_rfl) ?_;refine .gk ?_;conv=>whnf
 refine .gk ?_;conv=>whnf
 refine .cut (fun _:Unit=>True) (fun _=>{ fr:=[(5,.own (5,0) 1)],st:=[((5,0),⟨178,1,[.own (6,0) 1]⟩),((6,0),⟨185,2,(xrow a b 1 0 1).map xi⟩)],g:=60 }) ?_ ?_
 ·refine .gk ?_;conv=>whnf
  refine .block (.loop (fun i:Nat=>i<=1) (fun i=>match i with
   |0=>{ fr:=[(0,lX a),(1,lX b),(5,nilA),(6,i64 (0:Nat))],st:=[],g:=9 }
   |_+1=>{ fr:=[(0,lX a),(1,lX b),(5,.own (5,0) 1),(6,i64 (1:Nat))],st:=[((5,0),⟨178,1,[.own (6,0) 1]⟩),((6,0),⟨185,2,(xrow a b 1 0 1).map xi⟩)],g:=9 }) (fun i=>1-i) 0 (Nat.zero_le _) ?_ ?_)
  ·exact⟨trivial,⟨x_R,x_R,x_R,x_R,trivial⟩,trivial⟩
  intro i hi;have hi':i=0\/i=1:=by omega
  rcases hi' with rfl | rfl
  ·refine .gk ?_;conv=>whnf
   rw[la];conv=>whnf
   refine .cut (fun _:Unit=>True) (fun _=>{ ren:=[((40,3),(5,0)),((10,4),(6,0))],fr:=[(0,lX a),(1,lX b),(5,.own (5,0) 1),(6,i64 (0:Nat))],st:=[((5,0),⟨178,1,[.own (6,0) 1]⟩),((6,0),⟨185,2,(xrow a b 1 0 1).map xi⟩)],g:=50 }) ?_ ?_
   ·refine .block ?_;refine .cut (fun _:Unit=>True) (fun _=>{ fr:=[(0,lX a),(1,lX b),(5,nilA),(6,i64 (0:Nat)),(7,.own (10,4) 1)],st:=[((10,4),⟨185,2,List.replicate 1 xz⟩)],g:=15 }) ?_ ?_
    ·refine pcK ?_;conv=>whnf
     refine⟨rX (b.getD 0 []),⟨by omega,(hb.row (i:=0) (by omega)).1,rfl,rfl⟩,?_⟩;conv=>whnf
     rw[lb0];refine⟨⟨by omega,rfl,by simp only[lenLim]; omega⟩,?_⟩;conv=>whnf
     exact⟨(),trivial,⟨trivial,⟨x_R,x_R,x_R,x_R,x_R,trivial⟩,x_S,trivial⟩⟩
    ·rintro⟨⟩ _;refine .cut (fun _:Unit=>True) (fun _=>{ fr:=[(0,lX a),(1,lX b),(5,nilA),(6,i64 (0:Nat)),(7,.own (10,4) 1)],st:=[((10,4),⟨185,2,(xrow a b 1 0 1).map xi⟩)],g:=40 }) (xt_in0 (by omega) (by omega) ha hb hd _) ?_;rintro⟨⟩ _;refine pcK ?_;conv=>whnf
     refine⟨⟨by show 0<1; decide,by show 1<=1099511627776; decide,trivial⟩,?_⟩;conv=>whnf
     refine⟨(),trivial,?_⟩;refine⟨⟨trivial,rfl⟩,⟨x_R,x_R,.inr (.inr (.own (5,0) 1 rfl)),x_R,trivial⟩,⟨.less [.own (10,4) 1] rfl rfl (fun j x y hx hy=>?_),x_N,x_L⟩,⟨.same rfl (xi_okL (xrow a b 1 0 1) _ (List.cons_ne_nil _ _)),x_N,x_L⟩,trivial⟩;rcases j with _ | j
     ·have ex:=Option.some.inj hx;have ey:=Option.some.inj hy;rw[<- ex,<- ey];exact .inr (.inr (.own (6,0) 1 rfl))
     ·exact absurd hx (by show ¬ ([]:List AV)[j]?=some x; simp)
   ·rintro⟨⟩ _;refine pcK ?_;conv=>whnf
    refine⟨1,by omega,?_,by show 1-1<1-0; omega⟩;exact⟨trivial,⟨x_R,x_R,x_R,x_E (wI (by omega) (by omega)),trivial⟩,x_S,⟨.same rfl (xi_ltL _),x_N,x_L⟩,trivial⟩
  ·refine .gk ?_;conv=>whnf
   rw[la];conv=>whnf
   exact⟨(),trivial,⟨trivial,⟨x_R,trivial⟩,x_S,⟨.same rfl (xi_ltL _),x_N,x_L⟩,trivial⟩⟩
 ·rintro⟨⟩ _;refine .gk ?_;conv=>whnf
  refine pcK ?_;conv=>whnf
  refine⟨[(5,0),(6,0)],⟨.own 0 (5,0) 1 rfl,⟨⟨_,rfl,.els _ rfl (fun j x y hx hy=>?_)⟩,⟨_,rfl,.same (xi_closed _)⟩,trivial⟩,by decide⟩⟩;rcases j with _ | j
  ·have ex:=Option.some.inj hx;have ey:=Option.some.inj hy;rw[<- ex,<- ey];exact .inl ⟨1,(6,0),1,rfl,rfl,rfl⟩
  ·exact absurd hx (by show ¬ ([]:List AV)[j]?=some x; simp)
theorem c_xTimes2 {A D:Nat} {a b:List (List XI)} (ha:XT 2 A a) (hb:XT 2 D b) (hd:A+D+2<=20000):ACallsN prog 194 [lX a,lX b] [⟨178,1,[.own (0,1) 2,.own (0,2) 2]⟩,⟨185,2,(xrow a b 2 0 2).map xi⟩,⟨185,2,(xrow a b 2 1 2).map xi⟩] (.own (0,0) 2):=by
 have la:(((a.map rX).length:Nat):Int)=((2:Nat):Int):=by rw[List.length_map,ha.l]
 have lb0:((((b.getD 0 []).map xi).length:Nat):Int)=((2:Nat):Int):=by rw[List.length_map,(hb.row (i:=0) (by omega)).2]
 refine conNP func194 rfl (by kernel_rfl) ?_;refine .gk ?_;conv=>whnf
 refine .gk ?_;conv=>whnf
 refine .cut (fun _:Unit=>True) (fun _=>{ fr:=[(5,.own (5,0) 2)],st:=[((5,0),⟨178,1,[.own (6,0) 2,.own (6,1) 2]⟩),((6,0),⟨185,2,(xrow a b 2 0 2).map xi⟩),((6,1),⟨185,2,(xrow a b 2 1 2).map xi⟩)],g:=60 }) ?_ ?_
 ·refine .gk ?_;conv=>whnf
  refine .block (.loop (fun i:Nat=>i<=2) (fun i=>match i with
   |0=>{ fr:=[(0,lX a),(1,lX b),(5,nilA),(6,i64 (0:Nat))],st:=[],g:=9 }
   |1=>{ fr:=[(0,lX a),(1,lX b),(5,.own (5,0) 1),(6,i64 (1:Nat))],st:=[((5,0),⟨178,1,[.own (6,0) 2]⟩),((6,0),⟨185,2,(xrow a b 2 0 2).map xi⟩)],g:=9 }
   |_+2=>{ fr:=[(0,lX a),(1,lX b),(5,.own (5,0) 2),(6,i64 (2:Nat))],st:=[((5,0),⟨178,1,[.own (6,0) 2,.own (6,1) 2]⟩),((6,0),⟨185,2,(xrow a b 2 0 2).map xi⟩),((6,1),⟨185,2,(xrow a b 2 1 2).map xi⟩)],g:=9 }) (fun i=>2-i) 0 (Nat.zero_le _) ?_ ?_)
  ·exact⟨trivial,⟨x_R,x_R,x_R,x_R,trivial⟩,trivial⟩
  intro i hi;have hi':i=0\/i=1\/i=2:=by omega
  rcases hi' with rfl | rfl | rfl
  ·refine .gk ?_;conv=>whnf
   rw[la];conv=>whnf
   refine .cut (fun _:Unit=>True) (fun _=>{ ren:=[((40,3),(5,0)),((10,4),(6,0))],fr:=[(0,lX a),(1,lX b),(5,.own (5,0) 1),(6,i64 (0:Nat))],st:=[((5,0),⟨178,1,[.own (6,0) 2]⟩),((6,0),⟨185,2,(xrow a b 2 0 2).map xi⟩)],g:=50 }) ?_ ?_
   ·refine .block ?_;refine .cut (fun _:Unit=>True) (fun _=>{ fr:=[(0,lX a),(1,lX b),(5,nilA),(6,i64 (0:Nat)),(7,.own (10,4) 2)],st:=[((10,4),⟨185,2,List.replicate 2 xz⟩)],g:=15 }) ?_ ?_
    ·refine pcK ?_;conv=>whnf
     refine⟨rX (b.getD 0 []),⟨by omega,(hb.row (i:=0) (by omega)).1,rfl,rfl⟩,?_⟩;conv=>whnf
     rw[lb0];refine⟨⟨by omega,rfl,by simp only[lenLim]; omega⟩,?_⟩;conv=>whnf
     exact⟨(),trivial,⟨trivial,⟨x_R,x_R,x_R,x_R,x_R,trivial⟩,x_S,trivial⟩⟩
    ·rintro⟨⟩ _;refine .cut (fun _:Unit=>True) (fun _=>{ fr:=[(0,lX a),(1,lX b),(5,nilA),(6,i64 (0:Nat)),(7,.own (10,4) 2)],st:=[((10,4),⟨185,2,(xrow a b 2 0 2).map xi⟩)],g:=40 }) (xt_in0 (by omega) (by omega) ha hb hd _) ?_;rintro⟨⟩ _;refine pcK ?_;conv=>whnf
     refine⟨⟨by show 0<1; decide,by show 1<=1099511627776; decide,trivial⟩,?_⟩;conv=>whnf
     refine⟨(),trivial,?_⟩;refine⟨⟨trivial,rfl⟩,⟨x_R,x_R,.inr (.inr (.own (5,0) 1 rfl)),x_R,trivial⟩,⟨.less [.own (10,4) 2] rfl rfl (fun j x y hx hy=>?_),x_N,x_L⟩,⟨.same rfl (xi_okL (xrow a b 2 0 2) _ (List.cons_ne_nil _ _)),x_N,x_L⟩,trivial⟩;rcases j with _ | j
     ·have ex:=Option.some.inj hx;have ey:=Option.some.inj hy;rw[<- ex,<- ey];exact .inr (.inr (.own (6,0) 2 rfl))
     ·exact absurd hx (by show ¬ ([]:List AV)[j]?=some x; simp)
   ·rintro⟨⟩ _;refine pcK ?_;conv=>whnf
    refine⟨1,by omega,?_,by show 2-1<2-0; omega⟩;exact⟨trivial,⟨x_R,x_R,x_R,x_E (wI (by omega) (by omega)),trivial⟩,x_S,⟨.same rfl (xi_ltL _),x_N,x_L⟩,trivial⟩
  ·refine .gk ?_;conv=>whnf
   rw[la];conv=>whnf
   refine .cut (fun _:Unit=>True) (fun _=>{ ren:=[((40,3),(5,0)),((10,4),(6,1))],fr:=[(0,lX a),(1,lX b),(5,.own (5,0) 2),(6,i64 (1:Nat))],st:=[((5,0),⟨178,1,[.own (6,0) 2,.own (6,1) 2]⟩),((6,0),⟨185,2,(xrow a b 2 0 2).map xi⟩),((6,1),⟨185,2,(xrow a b 2 1 2).map xi⟩)],g:=50 }) ?_ ?_
   ·refine .block ?_;refine .cut (fun _:Unit=>True) (fun _=>{ fr:=[(0,lX a),(1,lX b),(5,.own (5,0) 1),(6,i64 (1:Nat)),(7,.own (10,4) 2)],st:=[((5,0),⟨178,1,[.own (6,0) 2]⟩),((6,0),⟨185,2,(xrow a b 2 0 2).map xi⟩),((10,4),⟨185,2,List.replicate 2 xz⟩)],g:=15 }) ?_ ?_
    ·refine pcK ?_;conv=>whnf
     refine⟨rX (b.getD 0 []),⟨by omega,(hb.row (i:=0) (by omega)).1,rfl,rfl⟩,?_⟩;conv=>whnf
     rw[lb0];refine⟨⟨by omega,rfl,by simp only[lenLim]; omega⟩,?_⟩;conv=>whnf
     exact⟨(),trivial,⟨trivial,⟨x_R,x_R,x_R,x_R,x_R,trivial⟩,x_S,⟨.same rfl (xi_ltL _),x_N,x_L⟩,x_S,trivial⟩⟩
    ·rintro⟨⟩ _;refine .cut (fun _:Unit=>True) (fun _=>{ fr:=[(0,lX a),(1,lX b),(5,.own (5,0) 1),(6,i64 (1:Nat)),(7,.own (10,4) 2)],st:=[((5,0),⟨178,1,[.own (6,0) 2]⟩),((6,0),⟨185,2,(xrow a b 2 0 2).map xi⟩),((10,4),⟨185,2,(xrow a b 2 1 2).map xi⟩)],g:=40 }) (xt_in1 (by omega) (by omega) ha hb hd _) ?_;rintro⟨⟩ _;refine pcK ?_;conv=>whnf
     refine⟨⟨rfl,rfl,rfl,by show 1+1<=1099511627776; decide,trivial⟩,?_⟩;conv=>whnf
     refine⟨(),trivial,?_⟩;refine⟨⟨trivial,rfl⟩,⟨x_R,x_R,.inr (.inr (.own (5,0) 2 rfl)),x_R,trivial⟩,⟨.less [.own (6,0) 2,.own (10,4) 2] rfl rfl (fun j x y hx hy=>?_),x_N,x_L⟩,⟨.same rfl (xi_okL (xrow a b 2 0 2) _ (List.cons_ne_nil _ _)),x_N,x_L⟩,⟨.same rfl (xi_okL (xrow a b 2 1 2) _ (List.cons_ne_nil _ _)),x_N,x_L⟩,trivial⟩;rcases j with _ | _ | j
     ·have ex:=Option.some.inj hx;have ey:=Option.some.inj hy;rw[<- ex,<- ey];exact .inr (.inr (.own (6,0) 2 rfl))
     ·have ex:=Option.some.inj hx;have ey:=Option.some.inj hy;rw[<- ex,<- ey];exact .inr (.inr (.own (6,1) 2 rfl))
     ·exact absurd hx (by show ¬ ([]:List AV)[j]?=some x; simp)
   ·rintro⟨⟩ _;refine pcK ?_;conv=>whnf
    refine⟨2,by omega,?_,by show 2-2<2-1; omega⟩;exact⟨trivial,⟨x_R,x_R,x_R,x_E (wI (by omega) (by omega)),trivial⟩,x_S,⟨.same rfl (xi_ltL _),x_N,x_L⟩,⟨.same rfl (xi_ltL _),x_N,x_L⟩,trivial⟩
  ·refine .gk ?_;conv=>whnf
   rw[la];conv=>whnf
   exact⟨(),trivial,⟨trivial,⟨x_R,trivial⟩,x_S,⟨.same rfl (xi_ltL _),x_N,x_L⟩,⟨.same rfl (xi_ltL _),x_N,x_L⟩,trivial⟩⟩
 ·rintro⟨⟩ _;refine .gk ?_;conv=>whnf
  refine pcK ?_;conv=>whnf
  refine⟨[(5,0),(6,0),(6,1)],⟨.own 0 (5,0) 2 rfl,⟨⟨_,rfl,.els _ rfl (fun j x y hx hy=>?_)⟩,⟨_,rfl,.same (xi_closed _)⟩,⟨_,rfl,.same (xi_closed _)⟩,trivial⟩,by decide⟩⟩;rcases j with _ | _ | j
  ·have ex:=Option.some.inj hx;have ey:=Option.some.inj hy;rw[<- ex,<- ey];exact .inl ⟨1,(6,0),2,rfl,rfl,rfl⟩
  ·have ex:=Option.some.inj hx;have ey:=Option.some.inj hy;rw[<- ex,<- ey];exact .inl ⟨2,(6,1),2,rfl,rfl,rfl⟩
  ·exact absurd hx (by show ¬ ([]:List AV)[j]?=some x; simp)
theorem c_xTimes3 {A D:Nat} {a b:List (List XI)} (ha:XT 3 A a) (hb:XT 3 D b) (hd:A+D+3<=20000):ACallsN prog 194 [lX a,lX b] [⟨178,1,[.own (0,1) 3,.own (0,2) 3,.own (0,3) 3]⟩,⟨185,2,(xrow a b 3 0 3).map xi⟩,⟨185,2,(xrow a b 3 1 3).map xi⟩,⟨185,2,(xrow a b 3 2 3).map xi⟩] (.own (0,0) 3):=by
 have la:(((a.map rX).length:Nat):Int)=((3:Nat):Int):=by rw[List.length_map,ha.l]
 have lb0:((((b.getD 0 []).map xi).length:Nat):Int)=((3:Nat):Int):=by rw[List.length_map,(hb.row (i:=0) (by omega)).2]
 refine conNP func194 rfl (by kernel_rfl) ?_;refine .gk ?_;conv=>whnf
 refine .gk ?_;conv=>whnf
 refine .cut (fun _:Unit=>True) (fun _=>{ fr:=[(5,.own (5,0) 3)],st:=[((5,0),⟨178,1,[.own (6,0) 3,.own (6,1) 3,.own (6,2) 3]⟩),((6,0),⟨185,2,(xrow a b 3 0 3).map xi⟩),((6,1),⟨185,2,(xrow a b 3 1 3).map xi⟩),((6,2),⟨185,2,(xrow a b 3 2 3).map xi⟩)],g:=60 }) ?_ ?_
 ·refine .gk ?_;conv=>whnf
  refine .block (.loop (fun i:Nat=>i<=3) (fun i=>match i with
   |0=>{ fr:=[(0,lX a),(1,lX b),(5,nilA),(6,i64 (0:Nat))],st:=[],g:=9 }
   |1=>{ fr:=[(0,lX a),(1,lX b),(5,.own (5,0) 1),(6,i64 (1:Nat))],st:=[((5,0),⟨178,1,[.own (6,0) 3]⟩),((6,0),⟨185,2,(xrow a b 3 0 3).map xi⟩)],g:=9 }
   |2=>{ fr:=[(0,lX a),(1,lX b),(5,.own (5,0) 2),(6,i64 (2:Nat))],st:=[((5,0),⟨178,1,[.own (6,0) 3,.own (6,1) 3]⟩),((6,0),⟨185,2,(xrow a b 3 0 3).map xi⟩),((6,1),⟨185,2,(xrow a b 3 1 3).map xi⟩)],g:=9 }
   |_+3=>{ fr:=[(0,lX a),(1,lX b),(5,.own (5,0) 3),(6,i64 (3:Nat))],st:=[((5,0),⟨178,1,[.own (6,0) 3,.own (6,1) 3,.own (6,2) 3]⟩),((6,0),⟨185,2,(xrow a b 3 0 3).map xi⟩),((6,1),⟨185,2,(xrow a b 3 1 3).map xi⟩),((6,2),⟨185,2,(xrow a b 3 2 3).map xi⟩)],g:=9 }) (fun i=>3-i) 0 (Nat.zero_le _) ?_ ?_)
  ·exact⟨trivial,⟨x_R,x_R,x_R,x_R,trivial⟩,trivial⟩
  intro i hi;have hi':i=0\/i=1\/i=2\/i=3:=by omega
  rcases hi' with rfl | rfl | rfl | rfl
  ·refine .gk ?_;conv=>whnf
   rw[la];conv=>whnf
   refine .cut (fun _:Unit=>True) (fun _=>{ ren:=[((40,3),(5,0)),((10,4),(6,0))],fr:=[(0,lX a),(1,lX b),(5,.own (5,0) 1),(6,i64 (0:Nat))],st:=[((5,0),⟨178,1,[.own (6,0) 3]⟩),((6,0),⟨185,2,(xrow a b 3 0 3).map xi⟩)],g:=50 }) ?_ ?_
   ·refine .block ?_;refine .cut (fun _:Unit=>True) (fun _=>{ fr:=[(0,lX a),(1,lX b),(5,nilA),(6,i64 (0:Nat)),(7,.own (10,4) 3)],st:=[((10,4),⟨185,2,List.replicate 3 xz⟩)],g:=15 }) ?_ ?_
    ·refine pcK ?_;conv=>whnf
     refine⟨rX (b.getD 0 []),⟨by omega,(hb.row (i:=0) (by omega)).1,rfl,rfl⟩,?_⟩;conv=>whnf
     rw[lb0];refine⟨⟨by omega,rfl,by simp only[lenLim]; omega⟩,?_⟩;conv=>whnf
     exact⟨(),trivial,⟨trivial,⟨x_R,x_R,x_R,x_R,x_R,trivial⟩,x_S,trivial⟩⟩
    ·rintro⟨⟩ _;refine .cut (fun _:Unit=>True) (fun _=>{ fr:=[(0,lX a),(1,lX b),(5,nilA),(6,i64 (0:Nat)),(7,.own (10,4) 3)],st:=[((10,4),⟨185,2,(xrow a b 3 0 3).map xi⟩)],g:=40 }) (xt_in0 (by omega) (by omega) ha hb hd _) ?_;rintro⟨⟩ _;refine pcK ?_;conv=>whnf
     refine⟨⟨by show 0<1; decide,by show 1<=1099511627776; decide,trivial⟩,?_⟩;conv=>whnf
     refine⟨(),trivial,?_⟩;refine⟨⟨trivial,rfl⟩,⟨x_R,x_R,.inr (.inr (.own (5,0) 1 rfl)),x_R,trivial⟩,⟨.less [.own (10,4) 3] rfl rfl (fun j x y hx hy=>?_),x_N,x_L⟩,⟨.same rfl (xi_okL (xrow a b 3 0 3) _ (List.cons_ne_nil _ _)),x_N,x_L⟩,trivial⟩;rcases j with _ | j
     ·have ex:=Option.some.inj hx;have ey:=Option.some.inj hy;rw[<- ex,<- ey];exact .inr (.inr (.own (6,0) 3 rfl))
     ·exact absurd hx (by show ¬ ([]:List AV)[j]?=some x; simp)
   ·rintro⟨⟩ _;refine pcK ?_;conv=>whnf
    refine⟨1,by omega,?_,by show 3-1<3-0; omega⟩;exact⟨trivial,⟨x_R,x_R,x_R,x_E (wI (by omega) (by omega)),trivial⟩,x_S,⟨.same rfl (xi_ltL _),x_N,x_L⟩,trivial⟩
  ·refine .gk ?_;conv=>whnf
   rw[la];conv=>whnf
   refine .cut (fun _:Unit=>True) (fun _=>{ ren:=[((40,3),(5,0)),((10,4),(6,1))],fr:=[(0,lX a),(1,lX b),(5,.own (5,0) 2),(6,i64 (1:Nat))],st:=[((5,0),⟨178,1,[.own (6,0) 3,.own (6,1) 3]⟩),((6,0),⟨185,2,(xrow a b 3 0 3).map xi⟩),((6,1),⟨185,2,(xrow a b 3 1 3).map xi⟩)],g:=50 }) ?_ ?_
   ·refine .block ?_;refine .cut (fun _:Unit=>True) (fun _=>{ fr:=[(0,lX a),(1,lX b),(5,.own (5,0) 1),(6,i64 (1:Nat)),(7,.own (10,4) 3)],st:=[((5,0),⟨178,1,[.own (6,0) 3]⟩),((6,0),⟨185,2,(xrow a b 3 0 3).map xi⟩),((10,4),⟨185,2,List.replicate 3 xz⟩)],g:=15 }) ?_ ?_
    ·refine pcK ?_;conv=>whnf
     refine⟨rX (b.getD 0 []),⟨by omega,(hb.row (i:=0) (by omega)).1,rfl,rfl⟩,?_⟩;conv=>whnf
     rw[lb0];refine⟨⟨by omega,rfl,by simp only[lenLim]; omega⟩,?_⟩;conv=>whnf
     exact⟨(),trivial,⟨trivial,⟨x_R,x_R,x_R,x_R,x_R,trivial⟩,x_S,⟨.same rfl (xi_ltL _),x_N,x_L⟩,x_S,trivial⟩⟩
    ·rintro⟨⟩ _;refine .cut (fun _:Unit=>True) (fun _=>{ fr:=[(0,lX a),(1,lX b),(5,.own (5,0) 1),(6,i64 (1:Nat)),(7,.own (10,4) 3)],st:=[((5,0),⟨178,1,[.own (6,0) 3]⟩),((6,0),⟨185,2,(xrow a b 3 0 3).map xi⟩),((10,4),⟨185,2,(xrow a b 3 1 3).map xi⟩)],g:=40 }) (xt_in1 (by omega) (by omega) ha hb hd _) ?_;rintro⟨⟩ _;refine pcK ?_;conv=>whnf
     refine⟨⟨rfl,rfl,rfl,by show 1+1<=1099511627776; decide,trivial⟩,?_⟩;conv=>whnf
     refine⟨(),trivial,?_⟩;refine⟨⟨trivial,rfl⟩,⟨x_R,x_R,.inr (.inr (.own (5,0) 2 rfl)),x_R,trivial⟩,⟨.less [.own (6,0) 3,.own (10,4) 3] rfl rfl (fun j x y hx hy=>?_),x_N,x_L⟩,⟨.same rfl (xi_okL (xrow a b 3 0 3) _ (List.cons_ne_nil _ _)),x_N,x_L⟩,⟨.same rfl (xi_okL (xrow a b 3 1 3) _ (List.cons_ne_nil _ _)),x_N,x_L⟩,trivial⟩;rcases j with _ | _ | j
     ·have ex:=Option.some.inj hx;have ey:=Option.some.inj hy;rw[<- ex,<- ey];exact .inr (.inr (.own (6,0) 3 rfl))
     ·have ex:=Option.some.inj hx;have ey:=Option.some.inj hy;rw[<- ex,<- ey];exact .inr (.inr (.own (6,1) 3 rfl))
     ·exact absurd hx (by show ¬ ([]:List AV)[j]?=some x; simp)
   ·rintro⟨⟩ _;refine pcK ?_;conv=>whnf
    refine⟨2,by omega,?_,by show 3-2<3-1; omega⟩;exact⟨trivial,⟨x_R,x_R,x_R,x_E (wI (by omega) (by omega)),trivial⟩,x_S,⟨.same rfl (xi_ltL _),x_N,x_L⟩,⟨.same rfl (xi_ltL _),x_N,x_L⟩,trivial⟩
  ·refine .gk ?_;conv=>whnf
   rw[la];conv=>whnf
   refine .cut (fun _:Unit=>True) (fun _=>{ ren:=[((40,3),(5,0)),((10,4),(6,2))],fr:=[(0,lX a),(1,lX b),(5,.own (5,0) 3),(6,i64 (2:Nat))],st:=[((5,0),⟨178,1,[.own (6,0) 3,.own (6,1) 3,.own (6,2) 3]⟩),((6,0),⟨185,2,(xrow a b 3 0 3).map xi⟩),((6,1),⟨185,2,(xrow a b 3 1 3).map xi⟩),((6,2),⟨185,2,(xrow a b 3 2 3).map xi⟩)],g:=50 }) ?_ ?_
   ·refine .block ?_;refine .cut (fun _:Unit=>True) (fun _=>{ fr:=[(0,lX a),(1,lX b),(5,.own (5,0) 2),(6,i64 (2:Nat)),(7,.own (10,4) 3)],st:=[((5,0),⟨178,1,[.own (6,0) 3,.own (6,1) 3]⟩),((6,0),⟨185,2,(xrow a b 3 0 3).map xi⟩),((6,1),⟨185,2,(xrow a b 3 1 3).map xi⟩),((10,4),⟨185,2,List.replicate 3 xz⟩)],g:=15 }) ?_ ?_
    ·refine pcK ?_;conv=>whnf
     refine⟨rX (b.getD 0 []),⟨by omega,(hb.row (i:=0) (by omega)).1,rfl,rfl⟩,?_⟩;conv=>whnf
     rw[lb0];refine⟨⟨by omega,rfl,by simp only[lenLim]; omega⟩,?_⟩;conv=>whnf
     exact⟨(),trivial,⟨trivial,⟨x_R,x_R,x_R,x_R,x_R,trivial⟩,x_S,⟨.same rfl (xi_ltL _),x_N,x_L⟩,⟨.same rfl (xi_ltL _),x_N,x_L⟩,x_S,trivial⟩⟩
    ·rintro⟨⟩ _;refine .cut (fun _:Unit=>True) (fun _=>{ fr:=[(0,lX a),(1,lX b),(5,.own (5,0) 2),(6,i64 (2:Nat)),(7,.own (10,4) 3)],st:=[((5,0),⟨178,1,[.own (6,0) 3,.own (6,1) 3]⟩),((6,0),⟨185,2,(xrow a b 3 0 3).map xi⟩),((6,1),⟨185,2,(xrow a b 3 1 3).map xi⟩),((10,4),⟨185,2,(xrow a b 3 2 3).map xi⟩)],g:=40 }) (xt_in2 (by omega) (by omega) ha hb hd _) ?_;rintro⟨⟩ _;refine pcK ?_;conv=>whnf
     refine⟨⟨rfl,rfl,rfl,by show 2+1<=1099511627776; decide,trivial⟩,?_⟩;conv=>whnf
     refine⟨(),trivial,?_⟩;refine⟨⟨trivial,rfl⟩,⟨x_R,x_R,.inr (.inr (.own (5,0) 3 rfl)),x_R,trivial⟩,⟨.less [.own (6,0) 3,.own (6,1) 3,.own (10,4) 3] rfl rfl (fun j x y hx hy=>?_),x_N,x_L⟩,⟨.same rfl (xi_okL (xrow a b 3 0 3) _ (List.cons_ne_nil _ _)),x_N,x_L⟩,⟨.same rfl (xi_okL (xrow a b 3 1 3) _ (List.cons_ne_nil _ _)),x_N,x_L⟩,⟨.same rfl (xi_okL (xrow a b 3 2 3) _ (List.cons_ne_nil _ _)),x_N,x_L⟩,trivial⟩;rcases j with _ | _ | _ | j
     ·have ex:=Option.some.inj hx;have ey:=Option.some.inj hy;rw[<- ex,<- ey];exact .inr (.inr (.own (6,0) 3 rfl))
     ·have ex:=Option.some.inj hx;have ey:=Option.some.inj hy;rw[<- ex,<- ey];exact .inr (.inr (.own (6,1) 3 rfl))
     ·have ex:=Option.some.inj hx;have ey:=Option.some.inj hy;rw[<- ex,<- ey];exact .inr (.inr (.own (6,2) 3 rfl))
     ·exact absurd hx (by show ¬ ([]:List AV)[j]?=some x; simp)
   ·rintro⟨⟩ _;refine pcK ?_;conv=>whnf
    refine⟨3,by omega,?_,by show 3-3<3-2; omega⟩;exact⟨trivial,⟨x_R,x_R,x_R,x_E (wI (by omega) (by omega)),trivial⟩,x_S,⟨.same rfl (xi_ltL _),x_N,x_L⟩,⟨.same rfl (xi_ltL _),x_N,x_L⟩,⟨.same rfl (xi_ltL _),x_N,x_L⟩,trivial⟩
  ·refine .gk ?_;conv=>whnf
   rw[la];conv=>whnf
   exact⟨(),trivial,⟨trivial,⟨x_R,trivial⟩,x_S,⟨.same rfl (xi_ltL _),x_N,x_L⟩,⟨.same rfl (xi_ltL _),x_N,x_L⟩,⟨.same rfl (xi_ltL _),x_N,x_L⟩,trivial⟩⟩
 ·rintro⟨⟩ _;refine .gk ?_;conv=>whnf
  refine pcK ?_;conv=>whnf
  refine⟨[(5,0),(6,0),(6,1),(6,2)],⟨.own 0 (5,0) 3 rfl,⟨⟨_,rfl,.els _ rfl (fun j x y hx hy=>?_)⟩,⟨_,rfl,.same (xi_closed _)⟩,⟨_,rfl,.same (xi_closed _)⟩,⟨_,rfl,.same (xi_closed _)⟩,trivial⟩,by decide⟩⟩;rcases j with _ | _ | _ | j
  ·have ex:=Option.some.inj hx;have ey:=Option.some.inj hy;rw[<- ex,<- ey];exact .inl ⟨1,(6,0),3,rfl,rfl,rfl⟩
  ·have ex:=Option.some.inj hx;have ey:=Option.some.inj hy;rw[<- ex,<- ey];exact .inl ⟨2,(6,1),3,rfl,rfl,rfl⟩
  ·have ex:=Option.some.inj hx;have ey:=Option.some.inj hy;rw[<- ex,<- ey];exact .inl ⟨3,(6,2),3,rfl,rfl,rfl⟩
  ·exact absurd hx (by show ¬ ([]:List AV)[j]?=some x; simp)
end
end Go.Proofs.YtjdkdcmpifapeaaGreatDoor.Abs
