/- GrowRefuses: the walk. -/
import Derived.Test.YtjdkdcmpifapeaaGreatDoorMx
import Derived.Test.YtjdkdcmpifapeaaGreatDoorMn
import Derived.Test.YtjdkdcmpifapeaaGreatDoorMy
set_option linter.unusedVariables false
set_option linter.unusedSectionVars false
set_option linter.unusedSimpArgs false
set_option maxHeartbeats 4000000
set_option maxRecDepth 20000
namespace Go.Proofs.YtjdkdcmpifapeaaGreatDoor.Abs
section
open Go Go.RowKit Go.Proofs.Tryz
def r32:FQ:=qOf 32 1
attribute [local irreducible] gExp gOne gTwo gCurve gRise qSgn qCmp
end
section
open Go Go.RowKit Go.Proofs.Tryz
def gT (s:Nat) (r:Rat) (m:Nat):Rat:=ex (m+s) 1*r^m
def gS (s:Nat) (r:Rat) (N:Nat):Rat:=SS N (gT s r)
theorem Lim.low {f:Nat->Rat} {s:FS} {x:Rat} {m:Nat} (h:Lim f s) (hx:∀ n,m<=n->x<=f n):x<=s.hi.v:=by
 obtain⟨k,k1,k2⟩:=h;apply Classical.byContradiction;intro c;obtain⟨n0,hn⟩:=k2 ((x-s.hi.v)/2) (by grind);have h1:=hn (n0+m) (by omega);have h2:=(k1 (n0+m)).2;have h3:=hx (n0+m) (by omega);rw[absQ_le] at h1;grind
theorem Lim.top {f:Nat->Rat} {s:FS} {x:Rat} {m:Nat} (h:Lim f s) (hx:∀ n,m<=n->f n<=x):s.lo.v<=x:=by
 obtain⟨k,k1,k2⟩:=h;apply Classical.byContradiction;intro c;obtain⟨n0,hn⟩:=k2 ((s.lo.v-x)/2) (by grind);have h1:=hn (n0+m) (by omega);have h2:=(k1 (n0+m)).1;have h3:=hx (n0+m) (by omega);rw[absQ_le] at h1;grind
theorem Lim.below {f g:Nat->Rat} {s t:FS} {m:Nat} (hf:Lim f s) (hg:Lim g t) (h:∀ n,m<=n->f n<=g n):s.lo.v<=t.hi.v:=by
 obtain⟨k,k1,k2⟩:=hf;obtain⟨l,l1,l2⟩:=hg;apply Classical.byContradiction;intro c;obtain⟨n0,hn⟩:=k2 ((s.lo.v-t.hi.v)/4) (by grind);obtain⟨n1,hn1⟩:=l2 ((s.lo.v-t.hi.v)/4) (by grind);have h1:=hn (n0+n1+m) (by omega);have h2:=hn1 (n0+n1+m) (by omega);have h3:=(k1 (n0+n1+m)).1;have h4:=(l1 (n0+n1+m)).2;have h5:=h (n0+n1+m) (by omega);rw[absQ_le] at h1 h2;grind
end
section
open Go Go.RowKit Go.Proofs.Tryz
structure G1 (r:FQ) (b f:Nat) (s t:FS):Prop where
 e:gExp r b=.ok s
 o:gOne r b=.ok t
 ge:SGr (2^f*3) (2^f*410) s
 go:SGr (100+3*f) (2^f*410+220) t
 le:Lim (gS 0 r.q) s
 lo:Lim (gS 1 r.q) t
end
section
open Go Go.RowKit Go.Proofs.Tryz
def r8:FQ:=qOf 8 1
structure Fit14 (t:RawQ) (bits:Int) (a:FQ) (b:Nat):Prop where
 q:rawQ a=t
 nb:bits=(b:Nat)
 b1:16<=b
 b2:b<=200
 s:sm 1 a
 h0:0<=a.q
 h8:a.q<=8
attribute [local irreducible] qSgn qCmp
theorem Fit14.sz {t:RawQ} {bits:Int} {a:FQ} {b:Nat} (h:Fit14 t bits a b):Sz a.q 32 32:=sm_sz h.s
end
end Go.Proofs.YtjdkdcmpifapeaaGreatDoor.Abs
