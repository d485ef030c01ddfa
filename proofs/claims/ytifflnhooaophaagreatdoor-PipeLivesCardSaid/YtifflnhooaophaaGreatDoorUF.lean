/- texts of the nf, fh behind the mA -/
import Derived.Lib.RuneCountTail
import Derived.Test.YtifflnhooaophaaGreatDoorUE
set_option linter.unusedVariables false
set_option linter.unusedSimpArgs false
set_option linter.unusedSectionVars false
set_option maxHeartbeats 4000000
set_option maxRecDepth 100000
open List Nat
namespace J
open Go Go.Ab
variable[cu:b0]
variable{H:au}{ae:List (Nat×ax)}{aa:VH}{v w x:Value}{b data:List Int}{e:Int}
abbrev u64(n:Nat):Value:=bT .u64 n
theorem vL{t:TypeId}{c:Bool}{a b:Nat}(h:a+b<18446744073709551616):(ar P .add t c).f (u64 a) (u64 b)=some (u64 (a+b)):=by rw[sH (k:=.u64) rfl,mod_eq_of_lt (show a+b<gr .u64 from h)]
theorem Is{t:TypeId}{c:Bool}{a b:Nat}(ak:0<b)(bn:a<9223372036854775807):(ar P .quo t c).f (int a) (int b)=some (int ((a/b:Nat):Int)):=by
 rw[rS _ _ rfl];show(match pD (b:Int) 0 with|true=>none|false=>some (Value.int .i64 (iN .i64 ((a:Int).tdiv b))))=_;rw[sq,decide_eq_false (by omega)];show some (Value.int .i64 (iN .i64 ((a/b:Nat):Int)))=_;have h1:((a/b:Nat):Int)<=(a:Int):=Int.ofNat_le.2 (div_le_self a b)
 grind[AI]
theorem ym{a n:Nat}(bn:a<4294967296)(aU:0<n)(E6:n<32)(ah:aa (u64 (nJ a n)) H):ay P 91 [u64 a,u64 n] H aa:=by
 apply arZ;unfold abK;have aFW:gr .u64=18446744073709551616:=rfl;have bJ:2^(32-n)<=2^31:=Nat.pow_le_pow_right (by omega) (by omega);have hm:a*2^(32-n)<18446744073709551616:=Nat.lt_of_le_of_lt (Nat.mul_le_mul (Nat.le_of_lt bn) bJ) (by decide);have aO:a/2^n<4294967296:=Nat.lt_of_le_of_lt (div_le_self _ _) bn;refine ag (zi (k:=.u64) rfl (show n<=64 by omega)) (ag (v:=u64 (32-n)) (by rw[show(Value.int .u64 32)=bT .u64 32 from rfl,QK rfl (by omega) (by decide)]) (ag (Fk (k:=.u64) rfl (show 32-n<=64 by omega)) ?_));rw[mod_eq_of_lt (show a*2^(32-n)<gr .u64 from hm)];refine ag (CP (k:=.u64) rfl (show _<18446744073709551616 by omega) hm) (ag (x8 (k:=.u64) (b:=4294967296) (by decide)) ?_);have e:(a/2^n|||a*2^(32-n))%4294967296=nJ a n:=by unfold nJ;rw[show(4294967296:Nat)=2^32 from rfl,or_mod_two_pow,mod_eq_of_lt (show a/2^n<2^32 from aO)]
 rw[e];exact ah
def tC(w:List Nat)(n:Nat):List Value:=(w.map fun(n:Nat)=>u64 n)++u64 n::List.replicate (63-w.length) (u64 0)
def q8(w:List Nat):List Value:=(w.map fun(n:Nat)=>u64 n)++List.replicate (64-w.length) (u64 0)
theorem afm{w:List Nat}{n:Nat}(h:w.length<=63):(tC w n).length=64:=by grind[tC]
theorem afn{w:List Nat}(h:w.length<=63):tC w 0=q8 w:=by
 unfold tC q8;obtain⟨m,hm⟩:∃m,64-w.length=m+1:=⟨63-w.length,by omega⟩
 grind
theorem afo{w:List Nat}{n:Nat}(h:w.length<=63):tC w n=q8 (w++[n]):=by simp_all[tC,q8]
theorem awh{w:List Nat}{n:Nat}:(tC w n)[w.length]?=some (u64 n):=by simp_all[tC]
theorem afp{w:List Nat}{n mC:Nat}:(tC w n).set w.length (u64 mC)=tC w mC:=by simp_all[tC]
theorem afq{w:List Nat}{i:Nat}(h:i<w.length):(q8 w)[i]?=some (u64 (w.getD i 0)):=by simp_all[q8,List.getElem?_append_left]
theorem afr{w:List Nat}:(q8 w).all fY=true:=by simp[q8,fY,uo]
def Bk(b:List Int)(t:Nat):Nat->Nat
 | 0=>0
 | y+1=>256*Bk b t y+(b.getD (4*t+y) 0).toNat
theorem awi{b:List Int}{t:Nat}:Bk b t 4=Bd b t:=by
 show 256*(256*(256*(256*0+(b.getD (4*t+0) 0).toNat)+(b.getD (4*t+1) 0).toNat)+(b.getD (4*t+2) 0).toNat)+(b.getD (4*t+3) 0).toNat=_;unfold Bd
 grind
theorem afs{b:List Int}(h:∀x∈b,0<=x/\x<=255)(t:Nat):∀y,Bk b t y<256^y
 | 0=>Nat.zero_lt_one
 | y+1=>by
  show 256*Bk b t y+_<256^(y+1);have h1:=afs h t y
  grind[yl]
theorem awj{bp dX kD mr m t:Nat}{hE:List Nat}{bC:LX}{ch:LN}(hv:RdB ae v data)(ak:∀x∈data,0<=x/\x<=255)(hm:64*m+64<=data.length)(aD:data.length<=1000000000)(ht:t<16)(aM:hE.length=t)
  (hO:aj H (ae++[(mr,⟨q8 hE,true⟩)]))
  (ah:∀ab,aj ab (ae++[(mr,⟨q8 (hE++[Bd ((data.drop (64*m)).take 64) t]),true⟩)])->bC 8 [ai bp 0,v,ai dX 0,ai kD 0,int ((64*m:Nat):Int),ai mr 0,int t] ab):
  eJ P true 252 RH 3980 [ai bp 0,v,ai dX 0,ai kD 0,int ((64*m:Nat):Int),ai mr 0,int t,int 0] H bC ch:=by
 have mH:∀x∈(data.drop (64*m)).take 64,0<=x/\x<=255:=fun x ao=>ak x (mem_of_mem_drop (mem_of_mem_take ao))
 rw[<- afn (by omega)]at hO;refine ard (fun k aA ab=>∃(y:Nat),y<=4/\k=4-y/\aA=[ai bp 0,v,ai dX 0,ai kD 0,int ((64*m:Nat):Int),ai mr 0,int t,int y]/\aj ab (ae++[(mr,⟨tC hE (Bk ((data.drop (64*m)).take 64) t y),true⟩)])) _ _ ?_ 4 _ _ ⟨0,by omega,rfl,rfl,hO⟩;rintro k aA H ⟨y,ba,rfl,rfl,hO⟩;unfold aaX
 try simp only[cj,ck]
 refine ag fr (bF (fun h=>?_) (fun h=>?_));have afi:y<4:=by omega
 have bJ:=afs mH t y;have xW:256^y<=256^3:=Nat.pow_le_pow_right (by omega) (by omega);have aFX:(256:Nat)^3=16777216:=rfl;have g:=yl ak (64*m+(4*t+y));refine ag (fX (by omega) (by omega)) ?_;rw[Int.toNat_natCast];refine aY hO (ae.length+0) (az rfl) (v:=u64 (Bk ((data.drop (64*m)).take 64) t y)) (by grind[awh]) ?_;refine ag (v:=u64 (256*Bk ((data.drop (64*m)).take 64) t y)) (by rw[show(Value.int .u64 256)=bT .u64 256 from rfl,QJ (k:=.u64) rfl,mod_eq_of_lt (show _<gr .u64 from(show _<18446744073709551616 by omega))]) ?_;refine ag (v:=int ((4*t:Nat):Int)) (by grind[vA]) (ag (v:=int ((64*m+4*t:Nat):Int)) (by grind[jg]) (ag (v:=int ((64*m+(4*t+y):Nat):Int)) (by grind[jg]) (FV hO hv.app ak rfl (by omega) (bW (uu (e6:=.u64) rfl) ?_))));rw[mod_eq_of_lt (show(data.getD (64*m+(4*t+y)) 0).toNat<gr .u64 from(show _<18446744073709551616 by omega))];refine ag (vL (by omega)) (ag (fX (by omega) (by omega)) ?_);rw[Int.toNat_natCast];refine fR hO (ae.length+0) (az rfl) rfl (by grind[afm]) (show _=tC hE (Bk ((data.drop (64*m)).take 64) t (y+1))from ?_) ?_;rw[show 0+t*1=hE.length by omega,afp];show _=tC hE (256*_+_)
 grind
 intro H hO
 replace hO:=hO.cD
 repeat refine bH ?_
 exact⟨4-(y+1),by omega,y+1,by omega,rfl,rfl,hO⟩;have ba:y=4:=by omega
 subst ba;rw[awi,afo (by omega)]at hO;exact ah H hO
theorem aft{x a b:Nat}:pV x [a,b]=nJ x a ^^^ nJ x b:=by
 show(0 ^^^ nJ x a) ^^^ nJ x b=_
 simp_all
theorem afu{x a b c:Nat}:pV x [a,b,c]=(nJ x a ^^^ nJ x b) ^^^ nJ x c:=by
 show((0 ^^^ nJ x a) ^^^ nJ x b) ^^^ nJ x c=_
 simp_all
theorem kW{a:Nat}(h:a<4294967296):a<gr .u64:=Nat.lt_trans h (by decide)
theorem awk{bp dX kD mr m:Nat}{bC:LX}{ch:LN}(hv:RdB ae v data)(ak:∀x∈data,0<=x/\x<=255)(hm:64*m+64<=data.length)(aD:data.length<=1000000000)
  (hO:aj H (ae++[(mr,⟨q8 [],true⟩)]))
  (ah:∀ab,aj ab (ae++[(mr,⟨q8 (iI ((data.drop (64*m)).take 64) 64),true⟩)])->bC 6 [ai bp 0,v,ai dX 0,ai kD 0,int ((64*m:Nat):Int),ai mr 0] ab):
  eJ P true 252 RG 1932 [ai bp 0,v,ai dX 0,ai kD 0,int ((64*m:Nat):Int),ai mr 0,int 0] H bC ch:=by
 have mH:∀x∈(data.drop (64*m)).take 64,0<=x/\x<=255:=fun x ao=>ak x (mem_of_mem_drop (mem_of_mem_take ao))
 refine ara (fun k aA ab=>∃(y:Nat),y<=64/\k=64-y/\aA=[ai bp 0,v,ai dX 0,ai kD 0,int ((64*m:Nat):Int),ai mr 0,int y]/\aj ab (ae++[(mr,⟨q8 (iI ((data.drop (64*m)).take 64) y),true⟩)])) _ _ ?_ 64 _ _ ⟨0,by omega,rfl,rfl,hO⟩;rintro k aA H ⟨y,ba,rfl,rfl,hO⟩;unfold aaU
 try simp only[cj,ck]
 have xe:=Ik (b:=(data.drop (64*m)).take 64) y;have aP:iI ((data.drop (64*m)).take 64) (y+1)=iI ((data.drop (64*m)).take 64) y++[uG ((data.drop (64*m)).take 64) (iI ((data.drop (64*m)).take 64) y) y]:=rfl;have dw:∀i,(iI ((data.drop (64*m)).take 64) y).getD i 0<4294967296:=Df (Il mH y);refine ag fr (bF (fun h=>?_) (fun h=>?_));refine ag fr (bF (fun nQ=>?_) (fun nQ=>?_));refine awj hv ak hm aD (by omega) xe hO ?_;intro H hO;refine k6 rfl ?_
 try simp only[cj,ck]
 repeat refine bH ?_
 refine⟨64-(y+1),by omega,y+1,by omega,rfl,rfl,?_⟩;rw[aP,show uG ((data.drop (64*m)).take 64) (iI ((data.drop (64*m)).take 64) y) y=Bd ((data.drop (64*m)).take 64) y by unfold uG;grind];exact hO;generalize It:iI ((data.drop (64*m)).take 64) y=hE at*;have cB:∀ {i:Nat} {aa:VH},i<y->aa (u64 (hE.getD i 0)) H->af (aw (ai mr (0+i*1)) H) aa:=fun {i aa} an ah=>aY hO (ae.length+0) (az rfl) (v:=u64 (hE.getD i 0)) (by simp_all[afq]) ah
 have kV:∀ {o:Nat},ey (en H H) (cm [ai mr o]):=ho hO (ae.length+0) (az rfl) hO (ae.length+0) (az rfl) afr;refine ag (ob (by omega) (by omega)) (ag (fX (by omega) (by omega)) ?_);rw[show((y:Int)-15).toNat=y-15 by omega];refine cB (by omega) (ag (ob (by omega) (by omega)) (ag (fX (by omega) (by omega)) ?_));rw[show((y:Int)-2).toNat=y-2 by omega];refine cB (by omega) (ag (ob (by omega) (by omega)) (ag (fX (by omega) (by omega)) ?_));rw[show((y:Int)-16).toNat=y-16 by omega];refine cB (by omega) (ym (n:=7) (dw _) (by omega) (by omega) (⟨kV,?_⟩));refine ym (n:=18) (dw _) (by omega) (by omega) (⟨kV,?_⟩);have b1:=vK (n:=7) (dw (y-15));have b2:=vK (n:=18) (dw (y-15));have gE:=vK (n:=17) (dw (y-2));have kJ:=vK (n:=19) (dw (y-2));have lX:hE.getD (y-15) 0/2^3<4294967296:=Nat.lt_of_le_of_lt (div_le_self _ _) (dw _);have og:hE.getD (y-2) 0/2^10<4294967296:=Nat.lt_of_le_of_lt (div_le_self _ _) (dw _);refine ag (oc (k:=.u64) rfl (kW b1) (kW b2)) (ag (zi (k:=.u64) (n:=3) rfl (by decide)) ?_);have sI:=xor_lt_two_pow (n:=32) b1 b2;refine ag (oc (k:=.u64) rfl (kW sI) (kW lX)) ?_;have tv:=xor_lt_two_pow (n:=32) sI lX;have dg:=dw (y-16);have cr:=dw (y-7);refine ag (vL (by omega)) (ag (ob (by omega) (by omega)) (ag (fX (by omega) (by omega)) ?_));rw[show((y:Int)-7).toNat=y-7 by omega];refine cB (by omega) (⟨kV,kV,?_⟩)
 refine ag (vL (by omega)) (ym (n:=17) (dw _) (by omega) (by omega) (⟨kV,kV,?_⟩));refine ym (n:=19) (dw _) (by omega) (by omega) (⟨kV,kV,?_⟩);refine ag (oc (k:=.u64) rfl (kW gE) (kW kJ)) (ag (zi (k:=.u64) (n:=10) rfl (by decide)) ?_);have w8:=xor_lt_two_pow (n:=32) gE kJ;refine ag (oc (k:=.u64) rfl (kW w8) (kW og)) ?_;have aFY:=xor_lt_two_pow (n:=32) w8 og;refine ag (vL (by omega)) (ag (x8 (k:=.u64) (b:=4294967296) (by decide)) (ag (fX (by omega) (by omega)) ?_));rw[Int.toNat_natCast];rw[<- afn (by omega)]at hO;refine fR hO (ae.length+0) (az rfl) rfl (by grind[afm]) (show _=q8 (hE++[uG ((data.drop (64*m)).take 64) hE y])from ?_) ?_;rw[show 0+y*1=hE.length by omega,afp,afo (by omega)];unfold uG;rw[if_neg (by omega),aft,aft];intro H hO
 replace hO:=hO.cD
 rw[<- aP]at hO
 repeat refine bH ?_
 exact⟨64-(y+1),by omega,y+1,by omega,rfl,rfl,hO⟩;have ba:y=64:=by omega
 subst ba;exact ah H hO
end J
namespace J
open Go Go.Ab
variable[cu:b0]
variable{H:au}{ae:List (Nat×ax)}{v w x:Value}{b:List Int}{e:Int}
def pW(x:W8):List Value:=x.l.map fun(n:Nat)=>u64 n
theorem awl(x:W8):(pW x).all fY=true:=rfl
theorem tv(a b c d e f g h:Int):(dq P 194).f [(0,.int .u64 a),(1,.int .u64 b),(2,.int .u64 c),(3,.int .u64 d),(4,.int .u64 e),(5,.int .u64 f),(6,.int .u64 g),(7,.int .u64 h)]=some (agg [.int .u64 a,.int .u64 b,.int .u64 c,.int .u64 d,.int .u64 e,.int .u64 f,.int .u64 g,.int .u64 h]):=by rfl
theorem awm{i:Nat}(h:i<64):(kM.map fun(n:Nat)=>u64 n)[i]?=some (u64 (kM.getD i 0)):=by
 have aD:kM.length=64:=rfl
 grind
theorem awn:(kM.map fun(n:Nat)=>u64 n).all fY=true:=by rfl
theorem Sv{t:TypeId}{c:Bool}{a:Nat}:(ar P .rem t c).f (u64 a) (.int .u64 4294967296)=some (u64 (a%4294967296)):=x8 (k:=.u64) (b:=4294967296) (by decide)
theorem awo{bp dX kD mr sN k4:Nat}{s:W8}{hE:List Nat}{bC:LX}{ch:LN}(al:s.b4)(aM:∀x∈hE,x<4294967296)(xe:hE.length=64){Bl afv:Nat}(c2:ae[Bl]?=some (kD,⟨kM.map fun(n:Nat)=>u64 n,true⟩))(gH:ae[afv]?=some (mr,⟨q8 hE,true⟩))
  (hO:aj H (ae++[(sN,⟨pW s,true⟩)]))
  (ah:∀ab,aj ab (ae++[(sN,⟨pW (sL hE s 64),true⟩)])->bC 10 [ai bp 0,v,ai dX 0,ai kD 0,int k4,ai sN 0] ab):
  eJ P true 252 RI 33676 [ai bp 0,v,ai dX 0,ai kD 0,int k4,ai mr 0,ai sN 0,int 0] H bC ch:=by
 refine arb (fun k aA ab=>∃(y:Nat),y<=64/\k=64-y/\aA=[ai bp 0,v,ai dX 0,ai kD 0,int k4,ai mr 0,ai sN 0,int y]/\aj ab (ae++[(sN,⟨pW (sL hE s y),true⟩)])) _ _ ?_ 64 _ _ ⟨0,by omega,rfl,rfl,hO⟩;rintro k aA H ⟨y,ba,rfl,rfl,hO⟩;unfold aaV
 try simp only[cj,ck]
 refine ag fr (bF (fun h=>?_) (fun h=>?_))
 rotate_left
 ·have mq:y=64:=by omega
  subst mq;exact ah _ hO
 have gG:=Ii (w:=hE) al y;have avS:hE.getD y 0<4294967296:=Df aM y;have aFZ:=avP y;have bj:sL hE s (y+1)=Ig (sL hE s y) (kM.getD y 0) (hE.getD y 0):=rfl;generalize sL hE s y=x at*;have mT:(ae++[(sN,(⟨pW x,true⟩:ax))])[ae.length+0]?=some (sN,⟨pW x,true⟩):=az rfl;have kV:∀ {o:Nat},ey (en H H) (cm [ai sN o]):=ho hO _ mT hO _ mT (awl x);have Sw:∀ {o:Nat},ey (en H H) (cm [ai kD o]):=ho hO _ (aL c2) hO _ (aL c2) awn;have Sx:∀ {o:Nat},ey (en H H) (cm [ai mr o]):=ho hO _ (aL gH) hO _ (aL gH) afr;have cZ:∀ {i:Int} {h:0<=i} {aT:i<8},True:=trivial;refine ag (fX (by omega) (by omega)) (aY hO _ mT (v:=u64 x.e) rfl (ag (fX (by omega) (by omega)) (aY hO _ mT (v:=u64 x.f) rfl (ag (w2 (k:=.u64) rfl (kW gG.e) (kW gG.f)) ?_))));refine ag (v:=u64 (4294967295-x.e)) (by have:=gG.e;rw[show(Value.int .u64 4294967295)=bT .u64 4294967295 from rfl,QK rfl (by omega) (by decide)]) ?_;refine ag (fX (by omega) (by omega)) (aY hO _ mT (v:=u64 x.g) rfl (ag (w2 (k:=.u64) rfl (kW (by omega)) (kW gG.g)) (ag (oc (k:=.u64) rfl (kW (and_lt_two_pow (n:=32) _ gG.f)) (kW (and_lt_two_pow (n:=32) _ gG.g))) ?_)));have afw:Be x.e x.f x.g<4294967296:=avw gG.e gG.f gG.g;rw[show(x.e&&&x.f) ^^^ ((4294967295-x.e)&&&x.g)=Be x.e x.f x.g from rfl];refine ag (fX (by omega) (by omega)) (aY hO _ mT (v:=u64 x.h) rfl ?_);have og:=vK (n:=6) gG.e;have afx:=vK (n:=11) gG.e;have awp:=vK (n:=25) gG.e;have b2:=vK (n:=2) gG.a;have afy:=vK (n:=13) gG.a;have awq:=vK (n:=22) gG.a;refine ym (n:=6) gG.e (by omega) (by omega) (⟨kV,?_⟩);refine ym (n:=11) gG.e (by omega) (by omega) (⟨kV,?_⟩);refine ag (oc (k:=.u64) rfl (kW og) (kW afx)) (ym (n:=25) gG.e (by omega) (by omega) (⟨kV,?_⟩));refine ag (oc (k:=.u64) rfl (kW (xor_lt_two_pow (n:=32) og afx)) (kW awp)) ?_;rw[<- afu];have aF0:pV x.e [6,11,25]<4294967296:=Ih gG.e;have hh:=gG.h;refine ag (vL (by omega)) (ag (vL (by omega)) (ag (fX (by omega) (by omega)) ?_));rw[Int.toNat_natCast];refine aY hO _ (aL c2) (v:=u64 (kM.getD y 0)) (by grind[awm]) (⟨Sw,Sw,Sw,?_⟩);refine ag (vL (by omega)) (ag (fX (by omega) (by omega)) ?_);rw[Int.toNat_natCast];refine aY hO _ (aL gH) (v:=u64 (hE.getD y 0)) (by grind[afq]) (⟨Sx,Sx,Sx,?_⟩)
 refine ag (vL (by omega)) (ag (fX (by omega) (by omega)) (aY hO _ mT (v:=u64 x.a) rfl (ag (fX (by omega) (by omega)) (aY hO _ mT (v:=u64 x.b) rfl (ag (w2 (k:=.u64) rfl (kW gG.a) (kW gG.b)) (ag (fX (by omega) (by omega)) (aY hO _ mT (v:=u64 x.a) rfl (ag (fX (by omega) (by omega)) (aY hO _ mT (v:=u64 x.c) rfl (ag (w2 (k:=.u64) rfl (kW gG.a) (kW gG.c)) ?_))))))))));have afz:=and_lt_two_pow (n:=32) x.a gG.b;have gg:=and_lt_two_pow (n:=32) x.a gG.c;have iF:=and_lt_two_pow (n:=32) x.b gG.c;refine ag (oc (k:=.u64) rfl (kW afz) (kW gg)) (ag (fX (by omega) (by omega)) (aY hO _ mT (v:=u64 x.b) rfl (ag (fX (by omega) (by omega)) (aY hO _ mT (v:=u64 x.c) rfl (ag (w2 (k:=.u64) rfl (kW gG.b) (kW gG.c)) (ag (oc (k:=.u64) rfl (kW (xor_lt_two_pow (n:=32) afz gg)) (kW iF)) ?_))))));rw[show((x.a&&&x.b) ^^^ (x.a&&&x.c)) ^^^ (x.b&&&x.c)=Db x.a x.b x.c from rfl];have aF1:Db x.a x.b x.c<4294967296:=avx gG.b gG.c;refine ag (fX (by omega) (by omega)) (aY hO _ mT (v:=u64 x.a) rfl (ym (n:=2) gG.a (by omega) (by omega) (ag (fX (by omega) (by omega)) (aY hO _ mT (v:=u64 x.a) rfl (⟨kV,?_⟩)))));refine ym (n:=13) gG.a (by omega) (by omega) (ag (oc (k:=.u64) rfl (kW b2) (kW afy)) (ag (fX (by omega) (by omega)) (aY hO _ mT (v:=u64 x.a) rfl (⟨kV,kV,?_⟩))))
 refine ym (n:=22) gG.a (by omega) (by omega) (ag (oc (k:=.u64) rfl (kW (xor_lt_two_pow (n:=32) b2 afy)) (kW awq)) ?_);rw[<- afu];have amy:pV x.a [2,13,22]<4294967296:=Ih gG.a;have aO:=gG.d;refine ag (vL (by omega)) (ag (vL (by omega)) (ag Sv (ag (fX (by omega) (by omega)) (aY hO _ mT (v:=u64 x.a) rfl (ag (fX (by omega) (by omega)) (aY hO _ mT (v:=u64 x.b) rfl (ag (fX (by omega) (by omega)) (aY hO _ mT (v:=u64 x.c) rfl (ag (fX (by omega) (by omega)) (aY hO _ mT (v:=u64 x.d) rfl (ag (vL (by omega)) (ag Sv (ag (fX (by omega) (by omega)) (aY hO _ mT (v:=u64 x.e) rfl (ag (fX (by omega) (by omega)) (aY hO _ mT (v:=u64 x.f) rfl (ag (fX (by omega) (by omega)) (aY hO _ mT (v:=u64 x.g) rfl (ag (tv _ _ _ _ _ _ _ _) (fT hO _ mT rfl rfl rfl ?_))))))))))))))))))));intro H hO
 replace hO:=hO.cD
 have a7:(x.h+pV x.e [6,11,25]+Be x.e x.f x.g+kM.getD y 0+hE.getD y 0+(pV x.a [2,13,22]+Db x.a x.b x.c))%4294967296=(zx x (kM.getD y 0) (hE.getD y 0)+Mo x)%4294967296:=by simp_all[zx,Mo]
 have bt:(x.d+(x.h+pV x.e [6,11,25]+Be x.e x.f x.g+kM.getD y 0+hE.getD y 0))%4294967296=(x.d+zx x (kM.getD y 0) (hE.getD y 0))%4294967296:=by simp_all[zx]
 rw[a7,bt]at hO
 repeat refine bH ?_
 refine⟨64-(y+1),by omega,y+1,by omega,rfl,rfl,?_⟩;rw[bj];exact hO
end J
namespace J
open Go Go.Ab
variable[cu:b0]
variable{H:au}{ae:List (Nat×ax)}{aa:VH}{v x:Value}{xs bh jV b data:List Int}{p:Nat}{e:Int}{aq:List Value}
theorem awr:(dq P 196).f []=some (agg (q8 [])):=by rfl
theorem Sy:df P 196=q8 []:=by rfl
theorem Sz:df P 194=List.replicate 8 (u64 0):=by rfl
theorem aws(hO:aj H ae)(ah:∀ab,aj ab ae->aa (agg (pW Dd)) ab):ay P 89 [] H aa:=by
 apply arX;unfold abI;rw[Sz];refine dH hO ?_;intro p H hO;refine ag (v:=agg (pW Dd)) (by rfl) (fT hO (ae.length+0) (az rfl) rfl rfl rfl ?_);intro H hO
 replace hO:=hO.cD
 exact gh hO (ae.length+0) (az rfl) rfl (by omega) (ah _ hO.left)
theorem awt(hO:aj H ae)(ah:∀ab,aj ab ae->aa (agg (kM.map fun(n:Nat)=>u64 n)) ab):ay P 90 [] H aa:=by
 apply arY;unfold abJ;rw[Sy];refine dH hO ?_;intro p H hO;refine ag (v:=agg (kM.map fun(n:Nat)=>u64 n)) (by rfl) (fT hO (ae.length+0) (az rfl) rfl rfl rfl ?_);intro H hO
 replace hO:=hO.cD
 exact gh hO (ae.length+0) (az rfl) rfl (by omega) (ah _ hO.left)
theorem afA{s:W8}(h:s.b4):∀x∈s.l,x<4294967296:=by
 intro x ao;simp only[W8.l,mem_cons,not_mem_nil,or_false]at ao;rcases ao with rfl|rfl|rfl|rfl|rfl|rfl|rfl|rfl
 exact h.a;exact h.b;exact h.c;exact h.d;exact h.e;exact h.f;exact h.g;exact h.h
theorem awu{s R:W8}{bp dX kD sN k4:Nat}{B:ax}{T:List (Nat×ax)}{bC:LX}{ch:LN}(al:s.b4)(aX:R.b4)(mT:T[1]?=some (sN,⟨pW R,true⟩))
  (hO:aj H (ae++([(dX,⟨pW s,true⟩),(kD,B)]++T)))
  (ah:∀ab,aj ab (ae++([(dX,⟨pW (FT s R),true⟩),(kD,B)]++T))->bC 12 [ai bp 0,v,ai dX 0,ai kD 0,int k4] ab):
  eJ P true 252 RJ 908 [ai bp 0,v,ai dX 0,ai kD 0,int k4,ai sN 0,int 0] H bC ch:=by
 refine arc (fun k aA ab=>∃(y:Nat),y<=8/\k=8-y/\aA=[ai bp 0,v,ai dX 0,ai kD 0,int k4,ai sN 0,int y]/\aj ab (ae++([(dX,⟨(sM s.l R.l y).map fun(n:Nat)=>u64 n,true⟩),(kD,B)]++T))) _ _ ?_ 8 _ _ ⟨0,by omega,rfl,rfl,hO⟩;rintro k aA H ⟨y,ba,rfl,rfl,hO⟩;unfold aaW
 try simp only[cj,ck]
 have LL:s.l.length=8:=rfl;have ae9:R.l.length=8:=rfl;refine ag fr (bF (fun h=>?_) (fun h=>?_));have Bi:y<8:=by omega
 have b1:s.l.getD y 0<4294967296:=Df (afA al) y;have b2:R.l.getD y 0<4294967296:=Df (afA aX) y;have cU:((sM s.l R.l y).map fun(n:Nat)=>u64 n)[0+y*1]?=some (u64 (s.l.getD y 0)):=by simp_all[Mv]
 have cR:(pW R)[0+y*1]?=some (u64 (R.l.getD y 0)):=by simp_all[pW]
 have a3:((sM s.l R.l y).map fun(n:Nat)=>u64 n).set (0+y*1) (u64 ((s.l.getD y 0+R.l.getD y 0)%4294967296))=(sM s.l R.l (y+1)).map fun(n:Nat)=>u64 n:=by grind[ae7,map_set]
 refine ag (fX (by omega) (by omega)) ?_;rw[Int.toNat_natCast];refine aY hO (ae.length+0) (az rfl) cU (ag (fX (by omega) (by omega)) ?_);rw[Int.toNat_natCast];refine aY hO (ae.length+(2+1)) (az (az (ae:=[_,_]) mT)) cR (ag (vL (by omega)) (ag Sv (ag (fX (by omega) (by omega)) ?_)));rw[Int.toNat_natCast];refine fR hO (ae.length+0) (az rfl) rfl (ae5 cU) a3 ?_;intro H hO
 replace hO:=hO.cD
 repeat refine bH ?_
 exact⟨_,by omega,y+1,by omega,rfl,rfl,hO⟩;have mq:y=8:=by omega
 subst mq;rw[ae8]at hO;exact ah _ hO
theorem awv{s:W8}{bp dX Dj:Nat}{T:List (Nat×ax)}{bC:LX}{ch:LN}(al:s.b4){zB:Nat}(bU:ae[zB]?=some (dX,⟨pW s,true⟩))(hO:aj H (ae++[(Dj,⟨pn [],true⟩)]))
  (ah:∀ab,aj ab (ae++[(Dj,⟨bd (oj s),true⟩)])->bC 14 [ai bp 0,ai Dj 0] ab):
  eJ P true 252 RK 8388612 [ai bp 0,ai dX 0,ai Dj 0,int 0] H bC ch:=by
 refine aq9 (fun k aA ab=>∃(y:Nat),y<=32/\k=32-y/\aA=[ai bp 0,ai dX 0,ai Dj 0,int y]/\aj ab (ae++[(Dj,⟨pn ((oj s).take y),true⟩)])) _ _ ?_ 32 _ _ ⟨0,by omega,rfl,rfl,hO⟩;rintro k aA H ⟨y,ba,rfl,rfl,hO⟩;unfold aaT
 try simp only[cj,ck]
 refine ag fr (bF (fun h=>?_) (fun h=>?_));have hlen:((oj s).take y).length=y:=by simp_all[afd]
 have hm:y/4<8:=by omega
 have an:y%4<4:=by omega
 have cR:(pW s)[0+y/4*1]?=some (u64 (s.l.getD (y/4) 0)):=by
  have ae9:s.l.length=8:=rfl
  simp_all[pW]
 refine ag (Is (b:=4) (by omega) (by omega)) (ag (fX (by omega) (by omega)) ?_);rw[Int.toNat_natCast];refine aY hO zB (aL bU) cR (ag (v:=int ((y%4:Nat):Int)) (x8 (k:=.i64) (b:=4) (by decide)) (ag (v:=int ((8*(y%4):Nat):Int)) (by grind[vA]) (ag (v:=int ((24-8*(y%4):Nat):Int)) (by grind[ob]) (ag (zi (k:=.u64) rfl (show 24-8*(y%4)<=64 by omega)) (ag (x8 (k:=.u64) (b:=256) (by decide)) (bW (uu (e6:=.u8) rfl) (ag (fX (by omega) (by omega)) ?_)))))));rw[Int.toNat_natCast];refine fR hO (ae.length+0) (az rfl) rfl (show 0+y*1<(pn ((oj s).take y)).length by grind[afb]) (show _=pn ((oj s).take (y+1))from ?_) ?_;have h1:=aff (s:=s) hm an;rw[show 4*(y/4)+y%4=y by omega]at h1;rw[<- h1,<- afc (by omega),hlen,show 0+y*1=y by omega];rw[show gr .u8=256 from rfl,mod_mod];intro H hO
 replace hO:=hO.cD
 repeat refine bH ?_
 exact⟨32-(y+1),by omega,y+1,by omega,rfl,rfl,hO⟩;have ba:y=32:=by omega
 subst ba;have e:pn ((oj s).take 32)=bd (oj s):=by rfl
 rw[e]at hO;exact ah H hO
theorem aww{t0:Value}{bp:Nat}{bC:LX}{ch:LN}(hO:aj H (ae++bQ v aq))(hv:gf v (xs++[128]) aq)(aD:xs.length<=90000000)
  (ah:∀ab aQ bE,aj ab (ae++bQ aQ bE)->gf aQ (xs++[128]++List.replicate (nS xs.length) 0) bE->bC 0 [t0,ai bp 0,aQ] ab):
  eJ P true 252 RD 13 [t0,ai bp 0,v] H bC ch:=by
 refine aq6 (fun k aA ab=>∃(y:Nat) (v:Value) (aq:List Value),y<=nS xs.length/\k=nS xs.length-y/\aA=[t0,ai bp 0,v]/\aj ab (ae++bQ v aq)/\gf v (xs++[128]++List.replicate y 0) aq) _ _ ?_ (nS xs.length) _ _ ⟨0,v,aq,by omega,rfl,rfl,hO,by rw[replicate_zero,append_nil];exact hv⟩;rintro k aA H ⟨y,v,aq,ba,rfl,rfl,hO,hv⟩;unfold aaQ
 try simp only[cj,ck]
 have hlen:(xs++[128]++List.replicate y (0:Int)).length=xs.length+1+y:=by grind
 have Ss:nS xs.length<64:=mod_lt _ (by decide);refine bW hv.bO (ag (v:=int (((xs++[128]++List.replicate y (0:Int)).length%64:Nat):Int)) (x8 (k:=.i64) (b:=64) (by decide)) ?_);rw[hlen];refine ag ij (bF (fun h=>?_) (fun h=>?_));have dw:y<nS xs.length:=by grind[nS]
 refine ik hO (FY 0 _) ?_;intro q H hO;refine AO (bh:=[0]) hO hv (by grind) rfl (.inr rfl) ?_;intro H v aq hO hv;rw[append_assoc _ (List.replicate y 0),<- replicate_succ']at hv
 grind
 have ba:y=nS xs.length:=by grind[nS]
 subst ba;exact ah H v aq hO hv
theorem awx:∀y,y<8->72057594037927936/256^y=2^(56-8*y):=by decide
theorem awy{bp n:Nat}{bC:LX}{ch:LN}(hO:aj H (ae++bQ v aq))(hv:gf v jV aq)(aD:jV.length<=95000000)(aU:n<18446744073709551616)
  (ah:∀ab aQ bE,aj ab (ae++bQ aQ bE)->gf aQ (jV++uH n) bE->bC 2 [ai bp 0,aQ] ab):
  eJ P true 252 RE 12 [ai bp 0,v,bT .u64 n,.int .u64 72057594037927936,int 0] H bC ch:=by
 refine aq7 (fun k aA ab=>∃(y:Nat) (v:Value) (aq:List Value),y<=8/\k=8-y/\aA=[ai bp 0,v,bT .u64 n,bT .u64 (72057594037927936/256^y),int y]/\aj ab (ae++bQ v aq)/\gf v (jV++(uH n).take y) aq) _ _ ?_ 8 _ _ ⟨0,v,aq,by omega,rfl,rfl,hO,by rw[take_zero,append_nil];exact hv⟩;rintro k aA H ⟨y,v,aq,ba,rfl,rfl,hO,hv⟩;unfold aaR
 try simp only[cj,ck]
 refine ag fr (bF (fun h=>?_) (fun h=>?_));have Bi:y<8:=by omega
 have hf:=awx y Bi;have bJ:0<2^(56-8*y):=Nat.two_pow_pos _;refine ag (QL (k:=.u64) rfl (by omega) aU) ?_;rw[hf];refine ag (x8 (k:=.u64) (b:=256) (by decide)) (bW (uu (e6:=.u8) rfl) ?_);rw[show gr .u8=256 from rfl,mod_mod];refine ik hO (FY _ _) ?_;intro q H hO;refine AO (bh:=[((n/2^(56-8*y)%256:Nat):Int)]) hO hv (by grind) rfl (.inr rfl) ?_;intro H v aq hO hv;have e:(uH n).take y++[((n/2^(56-8*y)%256:Nat):Int)]=(uH n).take (y+1):=by grind[take_add_one,afg]
 rw[append_assoc,e]at hv;have ak:2^(56-8*y)<gr .u64:=Nat.lt_of_le_of_lt (Nat.pow_le_pow_right (by omega) (show 56-8*y<=56 by omega)) (by decide);refine ag (QL (k:=.u64) (b:=256) rfl (by decide) ak) ?_
 repeat refine bH ?_
 refine⟨8-(y+1),by omega,y+1,v,aq,by omega,rfl,?_,hO,hv⟩;rw[<- hf,Nat.div_div_eq_div_mul,<- Nat.pow_succ];rfl;have ba:y=8:=by omega
 subst ba;rw[take_of_length_le (by rw[Mp];omega)]at hv;exact ah H v aq hO hv
theorem awz{bp dX kD:Nat}{bC:LX}{ch:LN}(hv:RdB ae v data)(ak:∀x∈data,0<=x/\x<=255)(hm:data.length%64=0)(aD:data.length<=1000000000)
  (hO:aj H (ae++[(dX,⟨pW Dd,true⟩),(kD,⟨kM.map fun(n:Nat)=>u64 n,true⟩)]))
  (ah:∀ab,aj ab (ae++[(dX,⟨pW (nr data),true⟩),(kD,⟨kM.map fun(n:Nat)=>u64 n,true⟩)])->bC 4 [ai bp 0,ai dX 0] ab):
  eJ P true 252 RF 132 [ai bp 0,v,ai dX 0,ai kD 0,int 0] H bC ch:=by
 refine aq8 (fun k aA ab=>∃(y:Nat),64*y<=data.length/\k=data.length/64-y/\aA=[ai bp 0,v,ai dX 0,ai kD 0,int ((64*y:Nat):Int)]/\aj ab (ae++[(dX,⟨pW (qm data y),true⟩),(kD,⟨kM.map fun(n:Nat)=>u64 n,true⟩)])) _ _ ?_ (data.length/64) _ _ ⟨0,by omega,rfl,rfl,hO⟩;rintro k aA H ⟨y,ba,rfl,rfl,hO⟩;unfold aaS
 try simp only[cj,ck]
 refine bW hv.bO (ag fr (bF (fun h=>?_) (fun h=>?_)));have awA:64*y+64<=data.length:=by omega
 have mH:∀x∈(data.drop (64*y)).take 64,0<=x/\x<=255:=fun x ao=>ak x (mem_of_mem_drop (mem_of_mem_take ao))
 refine ag awr ?_;rw[Sy];refine dH hO ?_;intro mr H hO;refine fT hO (_+0) (az rfl) rfl rfl rfl ?_;intro H hO
 replace hO:=hO.cD
 refine awk hv.app ak awA aD hO ?_;intro H hO;refine k6 rfl ?_
 try simp only[cj,ck]
 refine gh hO (ae.length+0) (aL (az rfl)) rfl (by omega) ?_;rw[Sz];refine dH hO ?_;intro sN H hO;refine fT hO (_+0) (az rfl) rfl rfl rfl ?_;intro H hO
 replace hO:=hO.cD
 refine awo (s:=qm data y) (hE:=iI ((data.drop (64*y)).take 64) 64) (Ij y) (Il mH 64) (Ik 64) (Bl:=ae.length+1) (afv:=_+0) (aL (az rfl)) (az rfl) hO ?_;intro H hO;refine k6 rfl ?_
 try simp only[cj,ck]
 rw[append_assoc,append_assoc]at hO;refine awu (s:=qm data y) (R:=sL (iI ((data.drop (64*y)).take 64) 64) (qm data y) 64) (T:=[(mr,_),(sN,_)]) (Ij y) (Ii (Ij y) 64) rfl hO ?_;intro H hO;refine k6 rfl ?_
 try simp only[cj,ck]
 refine ag (v:=int ((64*(y+1):Nat):Int)) (by grind[jg]) (⟨data.length/64-(y+1),by omega,y+1,by omega,rfl,rfl,?_⟩);rw[<- append_assoc]at hO;exact hO.left;have mq:y=data.length/64:=by omega
 subst mq;exact ah _ hO
theorem Iu(hO:aj H ae)(ao:RdB ae x xs)(ak:∀x∈xs,0<=x/\x<=255)(aD:xs.length<=80000000)(ah:∀ab,aj ab ae->aa (agg (bd (gC xs))) ab):ay P 35 [x] H aa:=by
 apply are;unfold aaY;rw[Bj];refine dH hO ?_;intro bp H hO;refine ik hO (C7 _) ?_;intro q H hO;refine uv (v:=aC q 0 0 3) (aq:=[]) (xs:=[]) hO (.inr ⟨q,.inr ⟨rfl,rfl⟩,rfl,Nat.le_refl _,rfl⟩) ao.app (by grind) ?_;intro H v aq hO hv;refine ik hO (FY 128 _) ?_;intro q2 H hO;refine AO (bh:=[128]) hO hv (by grind) rfl (.inr rfl) ?_;intro H v aq hO hv;refine aww (xs:=xs) hO hv (by omega) ?_;intro H v aq hO hv;refine k6 rfl ?_
 try simp only[cj,ck]
 have Ss:nS xs.length<64:=mod_lt _ (by decide);have qb:=avD (xs:=xs);have MB:∀x∈xc xs,0<=x/\x<=255:=mS (mS (mS ak (FX (by decide))) Ip) afh;have MC:(xc xs).length<=1000000000:=by grind[xc,Mp]
 refine bW ao.bO (bW (Fm (by omega) (by omega)) ?_);rw[Int.toNat_natCast];refine ag (v:=bT .u64 (8*xs.length)) (by rw[show(Value.int .u64 8)=bT .u64 8 from rfl,QJ (k:=.u64) rfl,mod_eq_of_lt (show xs.length*8<gr .u64 from(show _<18446744073709551616 by omega)),Nat.mul_comm]) ?_;refine awy hO hv (by grind) (by omega) ?_;intro H v aq hO hv
 replace hv:gf v (xc xs) aq:=hv
 refine k6 rfl ?_
 try simp only[cj,ck]
 refine aws hO ?_;intro H hO;refine awt hO ?_;intro H hO;rw[Sz,Sy];refine dH hO ?_;intro dX H hO;refine dH hO ?_;intro kD H hO;rw[append_assoc _ [_] [_]]at hO;refine fT hO (_+0) (az (L:=[_]++[_]) rfl) rfl rfl rfl ?_;intro H hO
 replace hO:=hO.cD
 refine fT hO (_+1) (az (L:=[_,_]) rfl) rfl rfl rfl ?_;intro H hO
 replace hO:=hO.cD
 refine awz (data:=xc xs) hv.lY.app' MB qb MC hO ?_;intro H hO;refine k6 rfl ?_
 try simp only[cj,ck]
 refine ag (v:=agg (pn [])) (by rfl) ?_;rw[show List.replicate 32 (bT .u8 0)=pn []from rfl]at hO⊢;refine dH hO ?_;intro Dj H hO;refine fT hO (_+0) (az rfl) rfl rfl rfl ?_;intro H hO
 replace hO:=hO.cD
 refine awv (s:=nr (xc xs)) (T:=[]) (Ij _) (zB:=_+0) (az (L:=[_,_]) rfl) hO ?_;intro H hO;refine k6 rfl ?_
 try simp only[cj,ck]
 refine gh hO (_+0) (az rfl) rfl (by omega) (fT hO (ae.length+0) (aL (aL (aL (az rfl)))) rfl rfl (mn _) ?_);intro H hO;rw[set_append_left _ _ (by simp),set_append_left _ _ (by simp),set_append_left _ _ (by simp),Go.Ab.cD]at hO;exact gh hO (ae.length+0) (aL (aL (aL (az rfl)))) rfl (by omega) (ah H hO.left.left.left.left)
end J
namespace J
open Go Go.Ab
variable[cu:b0]
variable{H:au}{ae:List (Nat×ax)}{aa:VH}{bh:List Int}
theorem awB{n:Nat}(aU:n<=8)(ah:aa (int n) H):ay P 211 [int n] H aa:=by
 apply ath;unfold ade
 repeat (first|refine bH ?_|refine w4 ?_)
 exact ah
theorem Iv{n size:Nat}(hO:aj H ae)(aU:n<2^64)(al:size<=8)(ah:A7 ae aa (fO size n)):ay P 147 [bT .u64 n,int size] H aa:=by
 apply asC;unfold acq;refine ik hO (C7 _) ?_;intro q H hO;refine asB (fun k aA ab=>∃(y:Nat) (aQ:Value) (bE:List Value),y<=size/\k=size-y/\aA=[bT .u64 (n/256^y),int size,bu,aQ,int y]/\aj ab (ae++bQ aQ bE)/\gf aQ (fO y n) bE) _ _ ?_ size _ _ ⟨0,aC q 0 0 3,[],by omega,by omega,by simp,hO,.inr ⟨q,.inr ⟨rfl,rfl⟩,rfl,zero_le _,rfl⟩⟩;rintro k aA ab ⟨y,aQ,bE,ba,rfl,rfl,hO,jT⟩;unfold acp
 try simp only[cj,ck]
 refine awB al ?_
 repeat refine bH ?_
 refine bF (fun h=>?_) (fun h=>?_);have gR:y<size:=by omega
 have ak:n/256^y<2^64:=Nat.lt_of_le_of_lt (div_le_self _ _) aU;refine ag (x8 (b:=256) (by decide)) (bW (uu rfl) (ik hO (RZ _ _ _) ?_));intro q H hO;rw[show n/256^y%256%gr .u8=n/256^y%256 from mod_mod _ _]at*;refine AO (bh:=[((n/256^y%256:Nat):Int)]) hO jT (by grind[q0]) rfl (.inr rfl) ?_;intro H Wk YL hO awC;refine ag (QL (b:=256) rfl (by decide) ak) ?_
 repeat refine bH ?_
 refine⟨_,by omega,y+1,Wk,YL,by omega,rfl,?_,hO,?_⟩;rw[Nat.div_div_eq_div_mul,<- Nat.pow_succ];rfl;rw[aup];exact awC;have e:y=size:=by omega
 subst e
 repeat refine CR ?_
 exact ah _ _ _ hO jT
end J
namespace J
open Go Go.Ab
variable[cu:b0]
end J
namespace J
open Go Go.Ab
variable[cu:b0]
end J
namespace J
open Go Go.Ab
variable[cu:b0]
variable{H:au}{ae L:List (Nat×ax)}{aa:VH}{v:Value}{xs bh b:List Int}{p q o n k:Nat}{e:Int}{aq:List Value}
section rules
variable[b0]
theorem _root_.Go.Ab.aj.z(h:aj H ae):aj H (ae++[]):=by rw[append_nil];exact h
theorem _root_.Go.Ab.aj.as{A B:List (Nat×ax)}(h:aj H ((ae++A)++B)):aj H (ae++(A++B)):=by rw[append_assoc]at h;exact h
theorem j3(h:aj H (ae++L))(ah:∀p ab,aj ab (ae++(L++[(p,⟨aq,true⟩)]))->aa (ai p 0) ab):cG aq H aa:=
 dH h fun p ab hO=>ah p ab hO.as
theorem dt{aa:VH}(h:aj H (ae++L))(k:Nat)(an:L[k]?=some (p,⟨aq,true⟩))(h1:eL v=true)(aU:o<aq.length)(ah:∀ab,aj ab (ae++L.set k (p,⟨aq.set o v,true⟩))->aa undef ab):af (bx 1 (ai p o) v H) aa:=
 fR h (ae.length+k) (az an) h1 aU rfl fun ab hO=>ah ab hO.cD
theorem lr{aa:VH}{cY:List Value}(h:aj H (ae++L))(k:Nat)(an:L[k]?=some (p,⟨aq,true⟩))(aU:aq.length=n)(aD:cY.length=n)(h1:cY.all eL=true)(ah:∀ab,aj ab (ae++L.set k (p,⟨cY,true⟩))->aa undef ab):af (bx n (ai p 0) (agg cY) H) aa:=
 fT h (ae.length+k) (az an) aU aD h1 fun ab hO=>ah ab hO.cD
theorem jN{aa:VH}{b:Bool}(h:aj H (ae++L))(k:Nat)(an:L[k]?=some (p,⟨aq,b⟩))(aU:aq.length=n)(bJ:0<n)(ah:aa (agg aq) H):af (bZ n (ai p 0) H) aa:=
 gh h (ae.length+k) (az an) aU bJ ah
theorem Iw(h:aj H (ae++L))(k:Nat)(an:L[k]?=some (p,⟨aq,true⟩))(aU:aq.length=n)(bJ:0<n):mK n 1 (ai p 0) none none none H=some (aC p 0 n 3):=
 zj h (ae.length+k) (az an) bJ (by simp_all)
theorem xh{b:Bool}(k:Nat)(an:L[k]?=some (p,⟨bd xs,b⟩)){c:Nat}(aB:c=2\/c=3)(aU:xs.length=n):RdB (ae++L) (aC p 0 n c) xs:=
 .inr ⟨p,0,c,by rw[aU],aB,.inr ⟨ae.length+k,_,az an,by simp_all[take_of_length_le]⟩⟩
theorem F0{q o n c:Nat}{aa:VH}(hO:aj H (ae++L))(k:Nat)(an:L[k]?=some (q,⟨aq,true⟩))(aU:0<n)(ah:aa (aC q o n c) H):af (u3 (aC q o n c) H) aa:=by
 have hg:H.get q=some ⟨aq,true⟩:=hO.at _ (az an) (.inl rfl);refine bW ?_ ah;have ak:Nat.beq n 0=false:=by grind[eq_of_beq_eq_true]
 unfold u3;simp only[ak,hg];have:au.o2 H q ⟨aq,true⟩=true:=by unfold au.o2;rw[hO.dc];rfl
 rw[this]
theorem Dk{A B:List (Nat×ax)}(h:aj H (ae++(A++B))):aj H (ae++A):=by rw[<- append_assoc]at h;exact h.left
theorem SA{A B:List (Nat×ax)}(h:aj H (ae++(A++B))):aj H (ae++B):=by rw[<- append_assoc]at h;exact aj.ca h
theorem SB{i:Nat}{aa:VH}{c:Nat}(hO:aj H ae)(an:ae[i]?=some (q,⟨aq,true⟩))(hv:RdB ae v bh)(aU:bh.length<=n)(aD:o+n<=aq.length)
  (ah:∀ab,aj ab (ae.set i (q,⟨aq.take o++(bd bh++aq.drop (o+bh.length)),true⟩))->aa (int bh.length) ab):af (rB 1 (aC q o n c) v H) aa:=by
 obtain⟨ab,aM,al⟩:=HF hO (o:=o) (vs:=bd bh) an (by grind) (by simp[eL]);unfold rB;simp only[hv.nC];have hm:Nat.min bh.length n=bh.length:=Nat.min_eq_left aU;rw[hm];cases ak:Nat.beq bh.length 0 with
 | true=>
  have aJ:=eq_of_beq_eq_true ak;have:bh=[]:=length_eq_zero_iff.1 aJ;subst this;have e:aq.take o++(bd []++aq.drop (o+([]:List Int).length))=aq:=by simp_all
  refine bW (show _=some (int (0:Nat),H)from rfl) (ah H ?_);rw[e,QC an];exact hO
 | false=>simp only[Bool.false_eq_true,if_false];rw[hv.pL hO];simp only;rw[aM];refine bW (show some (Value.int .i64 ((bh.length:Nat):Int),ab)=_ from rfl) ?_;rw[length_map]at al;exact ah _ al
end rules
end J
namespace J
open Go Go.Ab
variable[cu:b0]
variable{H:au}{ae:List (Nat×ax)}{aa:VH}{v w x:Value}{key:List Int}{j q n k:Nat}{e:Int}
def lu(k:List Int):List Int:=if 64<k.length then gC k else k
def vM(x:Int)(w:Nat):Int:=((x.toNat ^^^ w:Nat):Int)
def oT(k:List Int)(w:Nat):List Int:=(List.range 64).map fun i=>vM ((lu k).getD i 0) w
def po(k m:List Int):List Int:=gC (oT k 92++gC (oT k 54++m))
theorem qn{m:List Int}:(gC m).length=32:=rfl
theorem F1{m:List Int}:∀x∈gC m,0<=x/\x<=255:=by
 intro x ao;obtain⟨a,_,ao⟩:=mem_flatMap.1 ao;have hm:∀n:Nat,0<=((n%256:Nat):Int)/\((n%256:Nat):Int)<=255:=fun n=>by omega
 unfold Bf at ao
 grind
theorem SC(k:List Int):(lu k).length<=64:=by grind[lu,qn]
theorem Ix(ak:∀x∈key,0<=x/\x<=255):∀x∈lu key,0<=x/\x<=255:=by unfold lu;split;exact F1;omega
theorem r7{k:List Int}{w:Nat}:(oT k w).length=64:=by rfl
theorem SD{x:Int}{w:Nat}(ao:x.toNat<256)(aM:w<256):0<=vM x w/\vM x w<=255:=by
 have:=xor_lt_two_pow (n:=8) ao aM
 grind[vM]
theorem F2{w:Nat}(aM:w<256)(ak:∀x∈key,0<=x/\x<=255):∀x∈oT key w,0<=x/\x<=255:=by intro x ao;obtain⟨i,_,rfl⟩:=mem_map.1 ao;exact SD (yl (Ix ak) i) aM
def Dl(k:List Int):List Int:=lu k++List.replicate (64-(lu k).length) 0
theorem Iy{k:List Int}:(Dl k).length=64:=by simp_all[SC,Dl]
theorem awD{k:List Int}{i:Nat}:(Dl k).getD i 0=(lu k).getD i 0:=by grind[Dl]
def sO(k:List Int)(w y:Nat):List Int:=(oT k w).take y++(Dl k).drop y
theorem afB{k:List Int}{w y:Nat}(h:y<=64):(sO k w y).length=64:=by simp_all[sO,r7,Iy]
theorem awE{k:List Int}{w y:Nat}(h:y<64):(bd (sO k w y))[y]?=some (.int .u8 ((lu k).getD y 0)):=by
 unfold sO bd;rw[map_append,List.getElem?_append_right (by grind)];have:(Dl k)[y]?=some ((lu k).getD y 0):=by rw[List.getElem?_eq_getElem (by grind[Iy]),<- awD,getD_eq_getElem?_getD,List.getElem?_eq_getElem (by grind[Iy])];rfl
 grind[r7]
theorem awF{k:List Int}{w y:Nat}(h:y<64):(bd (sO k w y)).set y (.int .u8 (vM ((lu k).getD y 0) w))=bd (sO k w (y+1)):=by
 apply ext_getElem?;intro i;have aD:=r7 (k:=k) (w:=w);have dU:=Iy (k:=k);have bJ:(oT k w)[y]?=some (vM ((lu k).getD y 0) w):=by simp_all[oT]
 rw[List.getElem?_set];by_cases an:y=i;subst an;rw[if_pos rfl,if_pos (by grind[afB])];unfold sO bd;rw[map_append,List.getElem?_append_left (by grind)];simp[bJ];rw[if_neg an];unfold sO bd;rw[map_append,map_append];by_cases h2:i<y
 grind
 rw[List.getElem?_append_right (by grind),List.getElem?_append_right (by grind)]
 grind
theorem awG:df P 101=List.replicate 64 (bT .u8 0):=by rfl
theorem afC{m:Nat}(hm:m<256)(hO:aj H ae)(hv:RdB ae v key)(ak:∀x∈key,0<=x/\x<=255)(aD:key.length<=80000000)
  (ah:∀ab q,aj ab (ae++[(q,⟨bd (oT key m),true⟩)])->aa (aC q 0 64 3) ab):ay P 255 [v,.int .u8 m] H aa:=by
 apply atS;unfold adR;refine e3 (fun aA ab=>∃(aQ:Value) (B:List (Nat×ax)),aA=[aQ,.int .u8 m,bu]/\aj ab (ae++B)/\RdB (ae++B) aQ (lu key)) ?_ ?_;refine bW hv.bO (ag kS (bF (fun h=>?_) (fun h=>?_)));obtain⟨a,n,c,al⟩:=hv.lk;refine ik hO (by rw[al];exact aen _ _ _ _) ?_;rw[<- al];intro q H hO;refine St (j:=ae.length+0) hO (az rfl) hv.app ak aD ?_;intro H hO;rw[Bj];refine j3 hO ?_;intro fK H hO;refine lr hO 1 rfl (by simp) (by simp[qn]) (mn _) ?_;intro H hO;refine ag (Iw hO 1 rfl (by simp[qn]) (by omega)) (⟨_,_,rfl,hO,?_⟩);rw[show lu key=gC key from if_pos (by omega)];exact xh 1 rfl (.inr rfl) qn;refine⟨v,[],rfl,hO.z,?_⟩;rw[show lu key=key from if_neg (by omega)];exact hv.app;rintro aA H ⟨aQ,B,rfl,hO,U⟩
 try simp only[cj,ck]
 rw[awG];refine dH hO ?_;intro gQ H hO;have l1:=SC key;refine ag (zj hO ((ae++B).length+0) (az rfl) (by omega) (by simp)) (SB hO (az (k:=0) rfl) U.app l1 (by simp) ?_);intro H hO
 replace hO:=hO.cD
 have eX:((List.replicate 64 (bT .u8 0)).take 0++(bd (lu key)++(List.replicate 64 (bT .u8 0)).drop (0+(lu key).length)))=bd (sO key m 0):=by rw[Nat.zero_add,drop_replicate];simp only[sO,Dl,take_zero,nil_append,drop_zero,bd,map_append,map_replicate];rfl
 rw[eX]at hO
 replace hO:aj H (ae++[(gQ,⟨bd (sO key m 0),true⟩)]):=aj.ca hO
 refine atQ (fun k aA ab=>∃(y:Nat),y<=64/\k=64-y/\aA=[.int .u8 m,bu,ai gQ 0,int y]/\aj ab (ae++[(gQ,⟨bd (sO key m y),true⟩)])) _ _ ?_ 64 _ _ ⟨0,by omega,by omega,rfl,hO⟩;rintro k aA H ⟨y,ba,rfl,rfl,hO⟩;unfold adQ
 try simp only[cj,ck]
 refine ag fr (bF (fun h=>?_) (fun h=>?_));have ba:y<64:=by omega
 have hg:=yl (Ix ak) y
 repeat refine bH ?_
 refine cB hO 0 rfl (by rw[show 0+(y:Int).toNat*1=y by omega];exact awE ba) ?_;have ao:Value.int .u8 ((lu key).getD y 0)=bT .u8 ((lu key).getD y 0).toNat:=by refine HL ?_;rw[getD_eq_getElem?_getD];by_cases an:y<(lu key).length;rw[List.getElem?_eq_getElem an];exact(Ix ak _ (getElem_mem an)).1;rw[List.getElem?_eq_none (by omega)];decide
 rw[ao];refine ag (oc (k:=.u8) rfl hg hm) ?_
 repeat refine bH ?_
 refine dt hO 0 rfl rfl (by simp[afB (show y<=64 by omega)];omega) ?_;intro H hO
 repeat refine bH ?_
 refine⟨_,?_,y+1,by omega,rfl,rfl,?_⟩;omega;have a7:=awF (k:=key) (w:=m) ba;rw[show 0+(y:Int).toNat*1=y by omega]at hO;have hO:aj H (ae++[(gQ,⟨(bd (sO key m y)).set y (.int .u8 (vM ((lu key).getD y 0) m)),true⟩)]):=hO;rw[a7]at hO;exact hO;have e:y=64:=by omega
 subst e;have bt:sO key m 64=oT key m:=by unfold sO;rw[take_of_length_le (by rw[r7];omega),drop_of_length_le (by rw[Iy];omega),append_nil]
 rw[bt]at hO
 repeat refine CR ?_
 exact ag (Iw hO 0 rfl (by simp[r7]) (by omega)) (ah _ _ hO)
end J
namespace J
open Go Go.Ab
variable[cu:b0]
variable{H:au}{ae L:List (Nat×ax)}{aa:VH}{v w x:Value}{xs bh b key ms:List Int}{j q n k:Nat}{e:Int}
theorem awH{q:Nat}{ec:Value}(hO:aj H ae)(bY:ae[j]?=some (q,(⟨[v,ec],true⟩:ax)))(hv:RdB ae v xs)(jF:RdB ae ec bh)(ao:∀x∈xs,0<=x/\x<=255)(afD:∀x∈bh,0<=x/\x<=255)(aD:xs.length<=8000000)(q7:bh.length<=8000000)
  (ah:∀ab,aj ab ae->aa (agg (bd (gC (xs++bh)))) ab):ay P 204 [aC q 0 2 3] H aa:=by
 apply ac4;unfold RQ;rw[Bj];refine dH hO ?_;intro bp H hO;refine Mx hO ?_;intro H bl hO;have aO:lM bl [] (nT bl (nr []) bu ([]:List Int).length []):=⟨bu,[],rfl,.inl ⟨rfl,rfl,rfl⟩⟩;refine bW ze ?_;generalize (nT bl (nr []) bu ([]:List Int).length [])=L at*;refine ac3 (fun k aA ab=>∃(y:Nat) (L:List (Nat×ax)),y<=2/\k=2-y/\aA=[ai bp 0,ai bl 0,aC q 0 2 3,int 2,int y]/\aj ab ((ae++[(bp,⟨List.replicate 32 (bT .u8 0),true⟩)])++L)/\lM bl ([xs,bh].take y).flatten L) _ _ ?_ 2 _ _ ⟨0,L,by omega,rfl,rfl,hO,aO⟩;rintro k aA H ⟨y,L,ba,rfl,rfl,hO,aO⟩;unfold RP
 try simp only[cj,ck]
 refine ag fr (bF (fun h=>?_) (fun h=>?_));have xf:y=0\/y=1:=by omega
 rcases xf with rfl|rfl
 refine ag (jD (by omega) (by omega)) (aY hO j (aL (aL bY)) (v:=v) rfl (zA hO aO hv.app (by simp_all) ao (by simp) (by omega) ?_));intro H L hO aO
 repeat refine bH ?_
 exact⟨1,by omega,1,L,by omega,rfl,rfl,hO,by simpa using aO⟩;refine ag (jD (by omega) (by omega)) (aY hO j (aL (aL bY)) (v:=ec) rfl (zA hO aO jF.app (by simp_all) afD (by grind) (by omega) ?_));intro H L hO aO
 repeat refine bH ?_
 exact⟨0,by omega,2,L,by omega,rfl,rfl,hO,by simpa using aO⟩;have xf:y=2:=by omega
 subst xf
 replace aO:lM bl (xs++bh) L:=by simpa using aO
 refine k6 rfl ?_
 try simp only[cj,ck]
 refine MA hO aO (mS ao afD) (by grind) ?_;intro H hO;refine pR hO (ae.length+0) (aL (az rfl)) rfl (show 0+32<=32 by omega) (show(bd (gC (xs++bh))).all eL=true by rfl) ?_;intro H hO;rw[set_append_left _ _ (by simp),Go.Ab.cD]at hO;exact iH hO (ae.length+0) (aL (az rfl)) (show _=bd (gC (xs++bh))from rfl) rfl (by omega) (ah H hO.left.left)
theorem awI{q c:Nat}(hO:aj H ae)(hv:RdB ae v key)(bY:ae[j]?=some (q,(⟨[x],true⟩:ax)))(ao:RdB ae x ms)(ak:∀x∈key,0<=x/\x<=255)(hm:∀x∈ms,0<=x/\x<=255)(aD:key.length<=80000000)(q7:ms.length<=8000000)
  (ah:∀ab,aj ab ae->aa (agg (bd (po key ms))) ab):ay P 231 [v,aC q 0 1 c] H aa:=by
 apply atw;unfold adv;rw[Bj];refine dH hO ?_;intro c1 H hO;refine Mx hO ?_;intro H bl hO;have aO:lM bl [] (nT bl (nr []) bu ([]:List Int).length []):=⟨bu,[],rfl,.inl ⟨rfl,rfl,rfl⟩⟩;generalize (nT bl (nr []) bu ([]:List Int).length [])=L at*;refine afC (m:=54) (by omega) hO hv.app.app ak aD ?_;intro H bP hO;have dF:=Iq hO;refine zA dF aO (w:=aC bP 0 64 3) (bh:=oT key 54) (xh 0 rfl (.inr rfl) r7) (by simp_all) (F2 (by omega) ak) (by simp) (by rw[r7];omega) ?_;intro H L hO aO
 replace aO:lM bl (oT key 54) L:=aO
 replace hO:=Mz hO
 refine bW ze (atv (fun k aA ab=>∃(y:Nat) (L:List (Nat×ax)),y<=1/\k=1-y/\aA=[v,ai c1 0,ai bl 0,aC q 0 1 c,int 1,int y]/\aj ab ((ae++[(c1,⟨List.replicate 32 (bT .u8 0),true⟩)])++L)/\lM bl (oT key 54++([ms].take y).flatten) L) _ _ ?_ 1 _ _ ⟨0,L,by omega,rfl,rfl,hO,by simpa using aO⟩);rintro k aA H ⟨y,L,ba,rfl,rfl,hO,aO⟩;unfold adu
 try simp only[cj,ck]
 refine ag fr (bF (fun h=>?_) (fun h=>?_));have xf:y=0:=by omega
 subst xf;refine ag (jD (by omega) (by omega)) (aY hO j (aL (aL bY)) (v:=x) rfl (zA hO aO ao.app (by simpa using F2 (by omega) ak) hm (by simp[r7]) (by omega) ?_));intro H L hO aO
 repeat refine bH ?_
 exact⟨0,by omega,1,L,by omega,rfl,rfl,hO,by simpa using aO⟩;have xf:y=1:=by omega
 subst xf
 replace aO:lM bl (oT key 54++ms) L:=by simpa using aO
 refine k6 rfl ?_
 try simp only[cj,ck]
 refine MA hO aO (mS (F2 (by omega) ak) hm) (by grind[r7]) ?_;intro H hO
 replace hO:=hO.left
 refine j3 hO ?_;intro kD H hO;refine lr hO 1 rfl (by simp) (by rfl) (mn _) ?_;intro bB ez;refine afC (m:=92) (by omega) ez hv.app ak aD ?_;intro H q2 hO;refine ag (zj hO (ae.length+1) (aL (az rfl)) (by omega) (by simp[qn])) (⟨ho ez (ae.length+1) (az rfl) hO (ae.length+1) (aL (az rfl)) (A9 _),?_⟩);refine ik hO (aum _ _ _ _ _ _ _) ?_;intro cS H hO
 replace hO:=hO.as.as
 refine awH (j:=ae.length+3) (xs:=oT key 92) (bh:=gC (oT key 54++ms)) hO (az rfl) (xh 2 rfl (.inr rfl) r7) (xh 1 rfl (.inr rfl) qn) (F2 (by omega) ak) F1 (by rw[r7];omega) (by rw[qn];omega) ?_;intro H hO;refine lr hO 0 rfl (by simp) (by rfl) (mn _) ?_;intro H hO;exact jN hO 0 rfl (by rfl) (by omega) (ah H hO.left)
theorem awJ{a b:Nat}:a ^^^ b=0↔a=b:=by
 constructor;intro h;apply eq_of_testBit_eq;intro i;have:=congrArg (·.testBit i) h
 grind
 simp_all
theorem awK{a b:List Int}{y:Nat}(bn:y<a.length)(ak:y<b.length):a.take (y+1)=b.take (y+1)↔a.take y=b.take y/\a[y]=b[y]:=by grind[take_succ_eq_append_getElem,append_inj]
theorem awL{a b:List Int}(bn:a.length=32)(ak:b.length=32)(pX:∀x∈a,0<=x/\x<=255)(Iz:∀x∈b,0<=x/\x<=255)(hO:aj H ae)
  (ah:∀ab,aj ab ae->aa (.bool (decide (a=b))) ab):ay P 230 [agg (bd a),agg (bd b)] H aa:=by
 apply atu;unfold ads;refine j3 hO.z ?_;intro bp H hO;refine j3 hO ?_;intro eQ H hO
 replace hO:aj H (ae++[(bp,⟨bd a,true⟩),(eQ,⟨bd b,true⟩)]):=hO
 refine att (fun k aA ab=>∃(y d:Nat),y<=32/\k=32-y/\aA=[ai bp 0,ai eQ 0,.bool false,bT .u8 d,int y]/\ab=H/\d<256/\(d=0↔a.take y=b.take y)) _ _ ?_ 32 _ _ ⟨0,0,by omega,by omega,rfl,rfl,by omega,by simp⟩;rintro k aA ab ⟨y,d,ba,rfl,rfl,rfl,aO,an⟩;unfold adr
 try simp only[cj,ck]
 refine ag fr (bF (fun h=>?_) (fun h=>?_));have ba:y<32:=by omega
 have JY:=pX _ (getElem_mem (show y<a.length by omega));have OZ:=Iz _ (getElem_mem (show y<b.length by omega))
 repeat refine bH ?_
 refine cB hO 0 rfl (v:=.int .u8 a[y]) (by simp_all) ?_
 repeat refine bH ?_
 refine cB hO 1 rfl (v:=.int .u8 b[y]) (by simp_all) ?_;rw[HL JY.1,HL OZ.1];have wZ:a[y].toNat ^^^ b[y].toNat<256:=xor_lt_two_pow (n:=8) (by omega) (by omega);refine ag (oc (k:=.u8) rfl (show _<256 by omega) (show _<256 by omega)) (ag (CP (k:=.u8) rfl (show _<256 by omega) (show _<256 from wZ)) ?_)
 repeat refine bH ?_
 refine⟨_,?_,y+1,_,by omega,rfl,rfl,rfl,or_lt_two_pow (n:=8) aO wZ,?_⟩;omega
 grind[awJ,awK]
 have e:y=32:=by omega
 subst e;rw[take_of_length_le (by omega),take_of_length_le (by omega)]at an;refine k6 rfl ?_
 try simp only[cj,ck]
 refine ag (Y0 (k:=.u8) (b:=0)) ?_;have:=ah _ hO.left;rw[decide_eq_decide.2 an];exact this
end J
namespace J
open Go Go.Ab
variable[cu:b0]
variable{H:au}{ae b9:List (Nat×ax)}{aa:VH}{v w x:Value}{bh b key ms:List Int}{n k:Nat}{e:Int}
theorem afE{k:List Int}{w y:Nat}(h:y<64):(oT k w).take (y+1)=(oT k w).take y++[vM ((lu k).getD y 0) w]:=by simp_all[take_succ_eq_append_getElem,oT]
theorem awM(hO:aj H ae)(hv:RdB ae v key)(ao:RdB ae x ms)(ak:∀x∈key,0<=x/\x<=255)(hm:∀x∈ms,0<=x/\x<=255)(aD:key.length<=80000000)(q7:ms.length<=8000000)
  (ah:∀ab,aj ab ae->aa (agg (bd (po key ms))) ab):ay P 210 [v,x] H aa:=by
 apply atg;unfold adb;rw[Bj];refine dH hO ?_;intro c1 H hO;refine e3 (fun aA ab=>∃(aQ:Value) (B:List (Nat×ax)),aA=[aQ,x,ai c1 0]/\aj ab ((ae++B)++[(c1,⟨List.replicate 32 (bT .u8 0),true⟩)])/\RdB (ae++B) aQ (lu key)) ?_ ?_;refine bW hv.bO (ag kS (bF (fun h=>?_) (fun h=>?_)));refine Iu hO hv.app ak aD ?_;intro H hO;refine j3 hO ?_;intro fK H hO;refine lr hO 1 rfl (by simp) (by rfl) (mn _) ?_;intro H hO;refine ag (Iw hO 1 rfl (by rfl) (by omega)) ?_
 replace hO:aj H (ae++([(c1,⟨List.replicate 32 (bT .u8 0),true⟩)]++[(fK,⟨bd (gC key),true⟩)])):=hO
 rw[<- append_assoc]at hO;refine⟨_,_,rfl,hO.oi,?_⟩;rw[show lu key=gC key from if_pos (by omega)];exact xh 0 rfl (.inr rfl) qn;refine⟨v,[],rfl,by rw[append_nil];exact hO,?_⟩;rw[show lu key=key from if_neg (by omega)];exact hv.app;rintro aA H ⟨aQ,B,rfl,hO,U⟩
 try simp only[cj,ck]
 replace ao:=ao.app (b9:=B)
 replace ah:∀ab,aj ab (ae++B)->aa (agg (bd (po key ms))) ab:=fun ab h=>ah ab h.left
 generalize ae++B=ae at*;have l1:=SC key;refine ik hO (C7 _) ?_;intro bP H hO;refine ik hO (C7 _) ?_;intro q2 H hO;refine atf (fun k aA ab=>∃(y:Nat) (ej ec:Value) (dg cr:List Value),y<=64/\k=64-y/\aA=[aQ,x,ai c1 0,ej,ec,int y]/\aj ab (((ae++[(c1,⟨List.replicate 32 (bT .u8 0),true⟩)])++bQ ej dg)++bQ ec cr)/\gf ej ((oT key 54).take y) dg/\gf ec ((oT key 92).take y) cr) _ _ ?_ 64 _ _
  ⟨0,aC bP 0 0 3,aC q2 0 0 3,[],[],by omega,by omega,rfl,hO,.inr ⟨bP,.inr ⟨rfl,rfl⟩,rfl,zero_le _,rfl⟩,.inr ⟨q2,.inr ⟨rfl,rfl⟩,rfl,zero_le _,rfl⟩⟩
 rintro k aA H ⟨y,ej,ec,dg,cr,ba,rfl,rfl,hO,b3,dL⟩;unfold ada
 try simp only[cj,ck]
 refine ag fr (bF (fun h=>?_) (fun h=>?_));have ba:y<64:=by omega
 have hg:=yl (Ix ak) y;refine e3 (fun aA ab=>aA=[aQ,x,ai c1 0,ej,ec,int y,bT .u8 ((lu key).getD y 0).toNat]/\ab=H) ?_ ?_;refine bW U.bO (ag fr (bF (fun h=>?_) (fun h=>?_)));exact FV hO U.app.app.app (Ix ak) (n:=y) rfl (by omega) (⟨rfl,rfl⟩);refine⟨?_,rfl⟩
 simp_all
 rintro aA ab ⟨rfl,rfl⟩
 try simp only[cj,ck]
 have wZ:=SD hg (w:=54) (by omega);have HK:=SD hg (w:=92) (by omega);refine ag (oc (k:=.u8) (b:=54) rfl hg (show _<256 by omega)) (ik hO (RZ _ _ _) ?_);intro cS H hO
 replace hO:aj H (((ae++[(c1,⟨List.replicate 32 (bT .u8 0),true⟩)])++bQ ej dg++bQ ec cr)++[(cS,⟨bd [vM ((lu key).getD y 0) 54],true⟩)]):=hO
 replace hO:aj H (((ae++[(c1,⟨List.replicate 32 (bT .u8 0),true⟩)])++bQ ec cr++bQ ej dg)++[(cS,⟨bd [vM ((lu key).getD y 0) 54],true⟩)]):=hO.fj (by classical exact perm_iff_count.2 fun _=>by grind)
 refine AO hO b3 (by grind) rfl (.inr rfl) ?_;intro H v3 fJ hO hJ;rw[<- afE ba]at hJ;refine ag (oc (k:=.u8) (b:=92) rfl hg (show _<256 by omega)) (ik hO (RZ _ _ _) ?_);intro eI H hO
 replace hO:aj H (((ae++[(c1,⟨List.replicate 32 (bT .u8 0),true⟩)])++bQ ec cr++bQ v3 fJ)++[(eI,⟨bd [vM ((lu key).getD y 0) 92],true⟩)]):=hO
 replace hO:aj H (((ae++[(c1,⟨List.replicate 32 (bT .u8 0),true⟩)])++bQ v3 fJ++bQ ec cr)++[(eI,⟨bd [vM ((lu key).getD y 0) 92],true⟩)]):=hO.fj (by classical exact perm_iff_count.2 fun _=>by grind)
 refine AO hO dL (by grind) rfl (.inr rfl) ?_;intro H v4 iy hO fL;rw[<- afE ba]at fL
 repeat refine bH ?_
 exact⟨64-(y+1),by omega,y+1,v3,v4,fJ,iy,by omega,rfl,rfl,hO,hJ,fL⟩;have e:y=64:=by omega
 subst e;rw[take_of_length_le (by rw[r7];omega)]at b3 dL;refine k6 rfl ?_
 try simp only[cj,ck]
 replace hO:=hO.oi
 refine uv hO b3 ao.app.app (by rw[r7];omega) ?_;intro H v3 fJ hO hJ;refine Iu hO hJ.lY.app' (mS (F2 (by omega) ak) hm) (by grind[r7]) ?_;intro H hO
 replace hO:=hO.left
 refine dH hO ?_;intro fK H hO;refine fT hO (_+0) (az rfl) (by simp) (by rfl) (mn _) ?_;intro H hO
 replace hO:=hO.cD
 refine ag (zj hO (_+0) (az rfl) (by omega) (by simp[qn])) (AO (bh:=gC (oT key 54++ms)) hO dL (by simp[r7,qn]) (by rfl) (.inr rfl) ?_);intro H v4 iy hO fL;refine Iu hO fL.lY.app' (mS (F2 (by omega) ak) F1) (by simp[r7,qn]) ?_;intro H hO
 replace hO:=hO.left
 refine lr hO 0 rfl (by simp) (by rfl) (mn _) ?_;intro H hO;exact jN hO 0 rfl (by rfl) (by omega) (ah H hO.left)
end J
namespace J
open Go Go.Ab
variable[cu:b0]
variable{H:au}{ae:List (Nat×ax)}{b:List Int}{n k:Nat}{e:Int}{l m:List UInt8}
abbrev bS(l:List UInt8):Value:=.string ⟨l.toArray⟩
theorem F3:CJ (bS l) H=some (int l.length,H):=by show some (Value.int .i64 (Int.ofNat (gi l)),H)=_;rw[hB];rfl
theorem afF{k:IntKind}{i:Int}(aJ:0<=i)(h1:i<l.length):GC (bS l) (.int k i)=some (bT .u8 (l.getD i.toNat 0).toNat):=by show(match kx 0 i with|true=>(o1 l i.toNat).map xD|false=>none)=_;rw[lf,decide_eq_true aJ];simp only[wB];rw[getD_eq_getElem?_getD,List.getElem?_eq_getElem (by omega)];rfl
theorem SE{len n:Nat}(h:n<=len):oG len (some (int (n:Int)))=some n:=by
 show(match kx 0 (n:Int)with|true=>(match Nat.ble (n:Int).toNat len with|true=>some (n:Int).toNat|false=>none)|false=>none)=_
 simp_all[lf,ble_eq_true_of_le]
theorem SF{n:Nat}(h:n<=l.length):z8 (bS l) none (some (int n)) none=some (bS (l.take n)):=by
 show(match oG (gi l) (some (int n))with|some h=>(match qD h none with|some i=>some (Value.string ⟨(qB (ry l i) (h-i)).toArray⟩)|none=>none)|none=>none)=_
 simp_all[SE,hB,qD,ni,n1]
theorem awN{n:Nat}(h:n<=l.length):z8 (bS l) (some (int n)) none none=some (bS (l.drop n)):=by
 show(match oG (gi l) none with|some h=>(match qD h (some (int n))with|some i=>some (Value.string ⟨(qB (ry l i) (h-i)).toArray⟩)|none=>none)|none=>none)=_
 simp_all[hB,oG,Mw,ni,n1,take_of_length_le]
theorem awO(t:TypeId)(c:Bool):(ar P .eql t c).f (bS l) (bS m)=some (.bool (l==m)):=rfl
theorem awP(t:TypeId)(c:Bool):(ar P .neq t c).f (bS l) (bS m)=some (.bool (!(l==m))):=rfl
def gu(l:List UInt8)(i:Nat):Nat:=(l.getD i 0).toNat
theorem uJ(l:List UInt8)(i:Nat):gu l i<256:=(l.getD i 0).toNat_lt
def wL(c:Nat):Prop:=128<=c/\c<=191
instance (c:Nat):Decidable (wL c):=by unfold wL;exact inferInstance
def ns(l:List UInt8)(hn:Nat):Nat->Nat
 | 0=>hn
 | y+1=>64*ns l hn y+gu l (y+1)-128
def uK(l:List UInt8):Nat->Bool
 | 0=>true
 | y+1=>uK l y&&decide (wL (gu l (y+1)))
def r8(l:List UInt8)(size hn nU:Nat):Option (Nat×Nat):=
 if l.length<size then none else if uK l (size-1)=true then
  (if ns l hn (size-1)<nU\/ns l hn (size-1)>1114111\/(55296<=ns l hn (size-1)/\ns l hn (size-1)<=57343)then none else some (ns l hn (size-1),size))
 else none
def fL(l:List UInt8):Option (Nat×Nat):=
 if gu l 0<128 then some (gu l 0,1)
 else if 194<=gu l 0/\gu l 0<224 then r8 l 2 (gu l 0-192) 128
 else if 224<=gu l 0/\gu l 0<240 then r8 l 3 (gu l 0-224) 2048
 else if 240<=gu l 0/\gu l 0<245 then r8 l 4 (gu l 0-240) 65536
 else none
def qo(l:List UInt8):List Value:=match fL l with
 | none=>[int (gu l 0),bS (l.take 1),.bool true]
 | some r=>[int r.1,bS (l.take r.2),.bool false]
theorem SG:df P 276=[int 0,bS [],.bool false]:=by rfl
theorem SH(n:Int)(s:ByteArray)(b:Bool):(dq P 276).f [(0,int n),(1,.string s),(2,.bool b)]=some (agg [int n,.string s,.bool b]):=by rfl
theorem afG{hn:Nat}(h:hn<32):∀y,y<=3->ns l hn y<64^y*64:=by
 intro y ba
 match y,ba with
 | 0,_=>grind[ns]
 | 1,_=>grind[uJ,ns]
 | 2,_=>grind[uJ,ns]
 | 3,_=>grind[uJ,ns]
theorem awQ{hn:Nat}(y:Nat)(h:uK l (y+1)=true):128<=64*ns l hn y+gu l (y+1):=by
 have:wL (gu l (y+1)):=by have h:(uK l y&&decide (wL (gu l (y+1))))=true:=h;rw[Bool.and_eq_true]at h;exact of_decide_eq_true h.2
 have:=this.1;omega
theorem awR{bp c1 size hn nU:Nat}{bC:LX}{ch:LN}{iX:List Value}(ph:iX.length=3)(jo:iX.all eL=true)(xP:hn<32)(jJ:2<=size)(al:size<=4)(aD:size<=l.length)
  (hO:aj H (ae++[(bp,⟨[int 0,bS [],.bool false],true⟩),(c1,⟨iX,true⟩)]))
  (tu:uK l (size-1)=true->bC 1 [bS l,ai bp 0,ai c1 0,int size,int (ns l hn (size-1)),int nU] H)
  (hU:uK l (size-1)=false->∀ab aA,aj ab (ae++[(bp,⟨iX,true⟩),(c1,⟨iX,true⟩)])->cf aA 1=ai bp 0->ch aA ab):
  eJ P true 98 RR 245 [bS l,ai bp 0,ai c1 0,int size,int hn,int nU,int 1] H bC ch:=by
 refine ati (fun k aA ab=>∃(y:Nat),y+1<=size/\k=size-y/\aA=[bS l,ai bp 0,ai c1 0,int size,int (ns l hn y),int nU,int ((y+1:Nat):Int)]/\H=ab/\uK l y=true) _ _ ?_ size _ _ ⟨0,by omega,by omega,rfl,rfl,rfl⟩;rintro k aA ab ⟨y,ba,rfl,rfl,rfl,aB⟩;unfold adf
 try simp only[cj,ck]
 refine ag fr (bF (fun h=>?_) (fun h=>?_));have ba:y+1<size:=by omega
 have Bm:=uJ l (y+1);have aF2:=afG (l:=l) xP y (by omega);have uj:64^y<=64^3:=Nat.pow_le_pow_right (by omega) (by omega);refine ag (afF (by omega) (by omega)) ?_;rw[Int.toNat_natCast];refine bW (w3 (k:=.u8) (by grind[gu])) ?_;rw[show(l.getD (y+1) 0).toNat=gu l (y+1)from rfl];by_cases h2:wL (gu l (y+1));have xR:uK l (y+1)=true:=by grind[uK]
 have aF3:=awQ (hn:=hn) y xR;obtain⟨cg,cd⟩:=h2;refine e3 (fun aA ab=>aA=[bS l,ai bp 0,ai c1 0,int size,int (ns l hn y),int nU,int ((y+1:Nat):Int),int (gu l (y+1)),.bool false]/\H=ab) ?_ ?_
 repeat (first|refine bH ?_|refine w4 ?_)
 exact⟨by grind,(by rfl)⟩;rintro aA ab ⟨rfl,rfl⟩
 try simp only[cj,ck]
 refine dP rfl (ag (vA (by omega) (by omega)) ?_)
 repeat refine bH ?_
 refine⟨size-(y+1),by omega,y+1,by omega,rfl,?_,(by simp_all),xR⟩
 grind[ns]
 have awS:uK l (size-1)=false:=by
  have:∀z,y+1<=z->uK l z=false:=by
   intro z dU;induction z with
   | zero=>omega
   | succ z bg=>
    show(uK l z&&decide (wL (gu l (z+1))))=false
    grind
  grind
 refine e3 (fun aA ab=>aA=[bS l,ai bp 0,ai c1 0,int size,int (ns l hn y),int nU,int ((y+1:Nat):Int),int (gu l (y+1)),.bool true]/\H=ab) ?_ ?_;refine ag fr (bF (fun h3=>?_) (fun h3=>?_))
 repeat refine bH ?_
 exact⟨(by rfl),(by rfl)⟩
 repeat refine bH ?_
 refine⟨?_,(by rfl)⟩
 grind[wL]
 rintro aA ab ⟨rfl,rfl⟩
 try simp only[cj,ck]
 refine eT rfl (jN hO 1 rfl ph (by omega) (lr hO 0 rfl rfl ph jo ?_));intro cJ dF;exact hU awS _ _ dF rfl;have e:y=size-1:=by omega
 subst e;exact tu aB
end J
namespace J
open Go Go.Ab
variable[cu:b0]
variable{H:au}{ae b9:List (Nat×ax)}{aa:VH}{n k:Nat}{l:List UInt8}
theorem afH(l:List UInt8):(qo l).all eL=true/\(qo l).length=3:=by unfold qo;split<;>exact⟨rfl,rfl⟩
theorem zC{size hn nU:Nat}{r:Nat×Nat}(h:r8 l size hn nU=some r):size<=l.length/\r.2=size:=by grind[r8]
theorem SI{r:Nat×Nat}(h:fL l=some r)(aD:l≠[]):1<=r.2/\r.2<=4/\r.2<=l.length:=by
 have aD:0<l.length:=length_pos_iff.2 aD;unfold fL at h;split at h
 grind
 split at h;obtain⟨h1,h2⟩:=zC h;omega;split at h;obtain⟨h1,h2⟩:=zC h;omega;split at h;obtain⟨h1,h2⟩:=zC h;omega;cases h
theorem awT(aD:l≠[])(hO:aj H ae)(ah:∀ab,aj ab ae->aa (agg (qo l)) ab):ay P 212 [bS l] H aa:=by
 apply atj;unfold adg;have mc:0<l.length:=length_pos_iff.2 aD;have bn:=uJ l 0;rw[SG];refine j3 hO.z ?_;intro bp H hO;refine ag (afF (by omega) (by omega)) ?_;rw[show(l.getD (0:Int).toNat 0).toNat=gu l 0 from rfl];refine bW (w3 (k:=.u8) (by omega)) (ag (SF (n:=1) (by omega)) (ag (SH _ _ _) (j3 hO ?_)));intro c1 H hO;refine lr hO 1 rfl rfl rfl rfl ?_;intro H hO
 replace hO:aj H (ae++[(bp,⟨[int 0,bS [],.bool false],true⟩),(c1,⟨[int (gu l 0),bS (l.take 1),.bool true],true⟩)]):=hO
 by_cases aJ:gu l 0<128
 repeat (first|refine bH ?_|refine vD ?_)
 refine ag (SF (n:=1) (by omega)) (ag (SH _ _ _) (lr hO 0 rfl rfl rfl rfl ?_));intro H hO;refine jN hO 0 rfl rfl (by omega) ?_;have:=ah _ hO.left;unfold qo at this;rw[show fL l=some (gu l 0,1)from if_pos aJ]at this;exact this;have iY:fL l=none->∀H (b9:List (Nat×ax)),aj H (ae++b9)->aa (agg [int (gu l 0),bS (l.take 1),.bool true]) H:=fun h H b9 hO=>by have:=ah _ hO.left;unfold qo at this;rw[h]at this;exact this
 refine ag fr (sF (by omega) (e3 (fun aA ab=>∃(size hn nU:Nat),aA=[bS l,ai bp 0,ai c1 0,int size,int hn,int nU]/\H=ab/\hn<32/\2<=size/\size<=4/\fL l=r8 l size hn nU) ?_ ?_));by_cases cr:194<=gu l 0/\gu l 0<224;refine AL ?_
 repeat (first|refine bH ?_|refine vD ?_)
 try simp only[cj,ck]
 refine⟨2,gu l 0-192,128,by grind,(by simp_all),by omega,by omega,by omega,?_⟩
 simp_all[fL,if_neg]
 by_cases fJ:224<=gu l 0/\gu l 0<240;refine e3 (fun aA ab=>aA=[bS l,ai bp 0,int (gu l 0),ai c1 0,int 0,int 0,int 0,.bool false]/\H=ab) ?_ ?_
 repeat (first|refine bH ?_|refine vD ?_)
 exact⟨by grind,(by rfl)⟩;rintro aA ab ⟨rfl,rfl⟩
 try simp only[cj,ck]
 refine dP rfl (AL ?_)
 repeat (first|refine bH ?_|refine vD ?_)
 try simp only[cj,ck]
 refine⟨3,gu l 0-224,2048,by grind,(by simp_all),by omega,by omega,by omega,?_⟩
 simp_all[fL,if_neg]
 refine e3 (fun aA ab=>aA=[bS l,ai bp 0,int (gu l 0),ai c1 0,int 0,int 0,int 0,.bool false]/\H=ab) ?_ ?_;refine ag um (bF (fun h1=>?_) (fun h1=>?_))
 repeat refine bH ?_
 exact⟨by grind,(by rfl)⟩
 repeat refine bH ?_
 exact⟨(by rfl),(by rfl)⟩;rintro aA ab ⟨rfl,rfl⟩
 try simp only[cj,ck]
 refine dP rfl (e3 (fun aA ab=>aA=[bS l,ai bp 0,int (gu l 0),ai c1 0,int 0,int 0,int 0,.bool false]/\H=ab) ?_ ?_);refine ag um (bF (fun h1=>?_) (fun h1=>?_))
 repeat refine bH ?_
 exact⟨by grind,(by rfl)⟩
 repeat refine bH ?_
 exact⟨(by rfl),(by rfl)⟩;rintro aA ab ⟨rfl,rfl⟩
 try simp only[cj,ck]
 refine dP rfl ?_;by_cases iy:240<=gu l 0/\gu l 0<245;refine AL ?_
 repeat (first|refine bH ?_|refine vD ?_)
 try simp only[cj,ck]
 refine⟨4,gu l 0-240,65536,by grind,(by simp_all),by omega,by omega,by omega,?_⟩
 simp_all[fL,if_neg]
 have aU:fL l=none:=by simp_all[fL,if_neg]
 refine e3 (fun aA ab=>aA=[bS l,ai bp 0,int (gu l 0),ai c1 0,int 0,int 0,int 0,.bool false]/\H=ab) ?_ ?_;refine ag um (bF (fun h1=>?_) (fun h1=>?_))
 repeat refine bH ?_
 exact⟨by grind,(by rfl)⟩
 repeat refine bH ?_
 exact⟨(by rfl),(by rfl)⟩;rintro aA ab ⟨rfl,rfl⟩
 try simp only[cj,ck]
 refine dP rfl (jN hO 1 rfl rfl (by omega) (lr hO 0 rfl rfl rfl rfl ?_));intro H hO;exact jN hO 0 rfl rfl (by omega) (iY aU _ _ hO);rintro aA ab ⟨size,hn,nU,rfl,rfl,cg,cd,g3,g4⟩
 try simp only[cj,ck]
 refine bW F3 (ag fr (bF (fun h=>?_) (fun h=>?_)));refine jN hO 1 rfl rfl (by omega) (lr hO 0 rfl rfl rfl rfl ?_);intro H hO;refine jN hO 0 rfl rfl (by omega) (iY ?_ _ _ hO);rw[g4];unfold r8
 simp_all
 refine awR rfl rfl cg cd g3 (by omega) hO ?_ ?_;intro aB;refine k6 rfl ?_;have dw:=afG (l:=l) cg (size-1) (by omega);have al:fL l=if ns l hn (size-1)<nU\/ns l hn (size-1)>1114111\/(55296<=ns l hn (size-1)/\ns l hn (size-1)<=57343)then none else some (ns l hn (size-1),size):=by
  rw[g4];unfold r8
  grind
 generalize ns l hn (size-1)=N at*
 try simp only[cj,ck]
 refine e3 (fun aA ab=>aA=[bS l,ai bp 0,ai c1 0,int size,int N,.bool (decide (N<nU\/N>1114111\/(55296<=N/\N<=57343)))]/\H=ab) ?_ ?_;by_cases mF:N<nU
 repeat (first|refine bH ?_|refine vD ?_)
 exact⟨by simp_all,(by rfl)⟩;by_cases o8:N>1114111
 repeat (first|refine bH ?_|refine vD ?_|refine w4 ?_)
 exact⟨by simp_all,(by rfl)⟩;by_cases z3:55296<=N
 repeat (first|refine bH ?_|refine vD ?_|refine w4 ?_)
 exact⟨by grind,(by rfl)⟩
 repeat (first|refine bH ?_|refine w4 ?_)
 exact⟨by grind,(by rfl)⟩;rintro aA ab ⟨rfl,rfl⟩
 try simp only[cj,ck]
 refine bF (fun z=>?_) (fun z=>?_);refine jN hO 1 rfl rfl (by omega) (lr hO 0 rfl rfl rfl rfl ?_);intro H hO;exact jN hO 0 rfl rfl (by omega) (iY (by simp_all) _ _ hO);refine ag (SF (by omega)) (ag (SH _ _ _) (lr hO 0 rfl rfl rfl rfl ?_));intro H hO;refine jN hO 0 rfl rfl (by omega) ?_;have:=ah _ hO.left;unfold qo at this;rw[al,if_neg z]at this;exact this;intro aB H aA hO bJ;rw[bJ];refine jN hO 0 rfl rfl (by omega) (iY ?_ _ _ hO)
 simp_all[r8]
end J
namespace J
open Go Go.Ab
variable[cu:b0]
variable{H:au}{ae:List (Nat×ax)}{aa:VH}{v:Value}{b:List Int}{q n k:Nat}{l m:List UInt8}{ds:List (List UInt8)}
def qp(l:List UInt8):Nat:=match fL l with
 | none=>1
 | some r=>r.2
def tD:Nat->List UInt8->List (List UInt8)
 | 0,_=>[]
 | n+1,l=>if l=[]then []else l::tD n (l.drop (qp l))
def tE(l:List UInt8):List (List UInt8):=tD l.length l
theorem MD(aD:l≠[]):1<=qp l/\qp l<=l.length:=by
 unfold qp;split
 grind
 grind[SI]
theorem afI:∀(n:Nat) (l:List UInt8),(tD n l).length<=n
 | 0,_=>zero_le _
 | n+1,l=>by
  unfold tD;split
  simp_all
  simp_all[afI]
theorem awU(l:List UInt8):(qo l)[1]?=some (bS (l.take (qp l))):=by grind[qo,qp]
theorem awV(a b c:Value)(H:au):(eV P 273 1).f [(0,agg [a,b,c])] H=some (aC H.next 0 1 7,H.push [a,b,c]):=by rfl
theorem awW(H:au):(eV P 273 0).f [] H=some (aC H.next 0 0 7,H.push []):=by rfl
theorem IA{l:List Value}(h:l.length=3):∃a b c,l=[a,b,c]:=by
 match l,h with
 | [a,b,c],_=>simp_all
abbrev tF(ds:List (List UInt8)):List Value:=ds.flatMap qo
theorem awX(aD:l.length<=1000000)(hO:aj H ae)(ah:∀ab v,aj ab (ae++bQ v (tF (tE l)))->iV 3 v (tE l).length (tF (tE l))->aa v ab):ay P 155 [bS l] H aa:=by
 apply asM;unfold acD;refine ik hO (awW _) ?_;intro q H hO;refine asL (fun k aA ab=>∃(r:List UInt8) (ds:List (List UInt8)) (v:Value),r.length<=k/\ds.length+k<=l.length/\tE l=ds++tD k r/\aA=[bS r,bu,v]/\aj ab (ae++bQ v (tF ds))/\iV 3 v ds.length (tF ds)) _ _ ?_ l.length _ _ ⟨l,[],aC q 0 0 7,Nat.le_refl _,by simp,rfl,rfl,hO,.inr ⟨q,.inr rfl,rfl⟩⟩;rintro k aA H ⟨r,ds,v,U,aO,he,rfl,hO,hv⟩;unfold acC
 try simp only[cj,ck]
 refine ag (show _=some (.bool (!(r== [])))from rfl) ?_;by_cases aJ:r=[];subst aJ;refine dP rfl (k6 rfl ?_)
 try simp only[cj,ck]
 have eX:tD k []=[]:=by cases k<;>rfl
 rw[eX,append_nil]at he;rw[he]at ah;exact ah H v hO hv;have ak:(r== [])=false:=by cases r<;>first|rfl|exact absurd rfl aJ
 rw[ak];refine eT rfl (awT aJ hO ?_);intro H hO;rw[SG];obtain⟨cg,cd⟩:=afH r;refine dH hO ?_;intro c1 H hO;refine fT hO (_+0) (az rfl) rfl cd cg ?_;intro H hO
 replace hO:=hO.cD
 replace hO:aj H ((ae++bQ v (tF ds))++[(c1,⟨qo r,true⟩)]):=hO
 refine gh hO (_+0) (az rfl) cd (by omega) ?_;obtain⟨q9,gu,cc,aB⟩:=IA cd;refine ik hO (by rw[aB];exact awV _ _ _ _) ?_;rw[<- aB];intro q2 H hO
 replace hO:aj H (((ae++[(c1,⟨qo r,true⟩)])++bQ v (tF ds))++[(q2,⟨qo r,true⟩)]):=hO.fj (by classical exact perm_iff_count.2 fun _=>by simp only[count_append,count_nil,set_cons_zero];omega)
 refine FO hO hv cd (by omega) cg (by omega) (by omega) ?_;intro ec H hO jF;obtain⟨dT,fb⟩:=MD aJ;refine ag b7 (aY hO (ae.length+0) (aL (az rfl)) (v:=bS (r.take (qp r))) (awU r) (bW F3 ?_));rw[length_take,Nat.min_eq_left fb];refine ag (awN fb) ?_;cases k with
 | zero=>omega
 | succ k=>
  refine⟨k,lt_succ_self _,r.drop (qp r),ds++[r],ec,?_,?_,?_,rfl,?_,?_⟩;rw[length_drop];omega;rw[length_append];simp;omega;rw[he];show ds++(if r=[]then []else r::tD k (r.drop (qp r)))=_;rw[if_neg aJ];simp
  replace hO:aj H (ae++bQ ec (tF ds++qo r)):=aj.ca hO
  simpa using hO;simpa using jF
def vN(l:List UInt8)(first:Bool):Bool:=match fL l with
 | none=>false
 | some r=>Go.Lib.isLetterU r.1||(!first&&(Go.Lib.isDigitU r.1||(l.take r.2== [45]||(l.take r.2== [95]||l.take r.2== [46]))))
def ME(l:List UInt8):Bool:=match fL l with
 | none=>false
 | some r=>Go.Lib.isLetterU r.1
def vO:Nat->List (List UInt8)->Bool
 | _,[]=>true
 | i,r::ds=>vN r (i==0)&&vO (i+1) ds
def IB(l:List UInt8):Int:=if(tE l).length=0\/(tE l).length>24 then 41 else if vO 0 (tE l)=true then 0 else 41
theorem awY{n:Int}(aJ:0<=n)(h1:n<2147483648):iw .i32 (int n) H=some (.int .i32 n,H):=by
 show some (Value.int .i32 (iN .i32 n),H)=_;have:iN .i32 n=n:=by
  show u2 2147483648 4294967296 n=n;unfold u2;obtain⟨m,rfl⟩:∃m:Nat,n=m:=⟨n.toNat,by omega⟩
  grind[qI]
 rw[this]
theorem awZ{i:Nat}{ds:List (List UInt8)}:∀(y:Nat) (h:y<ds.length),vO (i+y) (ds.drop y)=(vN ds[y] (i+y==0)&&vO (i+(y+1)) (ds.drop (y+1))):=by intro y h;rw[drop_eq_getElem_cons h];rfl
end J
namespace J
open Go Go.Ab
variable[cu:b0]
variable{H:au}{ae:List (Nat×ax)}{aa:VH}{v x:Value}{o n k:Nat}{e:Int}{l m:List UInt8}{ds:List (List UInt8)}
theorem aw0{size hn nU:Nat}{r:Nat×Nat}(h:r8 l size hn nU=some r):r.1<=1114111:=by grind[r8]
theorem aw1{r:Nat×Nat}(h:fL l=some r):r.1<=1114111:=by grind[fL,aw0]
structure aw2 (l:List UInt8) (n:Nat) (vP:List UInt8) (fB:Bool):Prop where
 cells:qo l=[int n,bS vP,.bool fB]
 lt:n<=1114111
 afJ:ME l=(!fB&&Go.Lib.isLetterU n)
 ok:∀f,vN l f=(!fB&&(Go.Lib.isLetterU n||(!f&&(Go.Lib.isDigitU n||(vP== [45]||(vP== [95]||vP== [46]))))))
theorem aw3(l:List UInt8):∃n vP fB,aw2 l n vP fB:=by
 cases h:fL l with
 | none=>exact⟨gu l 0,l.take 1,true,by grind[qo],by grind[uJ],by simp_all[ME],fun f=>by simp_all[vN]⟩
 | some r=>exact⟨r.1,l.take r.2,false,by grind[qo],aw1 h,by simp_all[ME],fun f=>by simp_all[vN]⟩
theorem aw4{bC:LX}{ch:LN}(aD:ds.length<=1000000)(hv:iV 3 v ds.length (tF ds))(hO:aj H (ae++bQ v (tF ds)))
  (tu:vO 0 ds=true->∀ab,aj ab ae->bC 0 [int 0] ab) (hU:vO 0 ds=false->∀ab,aj ab ae->ch [int 41] ab):
  eJ P true 64 RL 4 [int 0,v,int ds.length,int 0] H bC ch:=by
 refine arU (fun k aA ab=>∃(y:Nat),y<=ds.length/\k=ds.length-y/\aA=[int 0,v,int ds.length,int y]/\aj ab (ae++bQ v (tF ds))/\vO 0 ds=vO y (ds.drop y)) _ _ ?_ ds.length _ _ ⟨0,by omega,by omega,rfl,hO,rfl⟩;rintro k aA H ⟨y,ba,rfl,rfl,hO,fq⟩;unfold abF
 try simp only[cj,ck]
 refine ag fr (bF (fun h=>?_) (fun h=>?_));have ba:y<ds.length:=by omega
 obtain⟨pv,aZ,rfl,tm⟩:∃pv aZ,v=aC pv 0 ds.length aZ/\bQ v (tF ds)=[(pv,⟨tF ds,true⟩)]:=by
  rcases hv with⟨_,aJ,_⟩|⟨pv,rfl|rfl,_⟩
  omega;exact⟨pv,_,rfl,rfl⟩;exact⟨pv,_,rfl,rfl⟩
 rw[tm]at hO;have afK:=awZ (i:=0) (ds:=ds) y ba;rw[Nat.zero_add,Nat.zero_add]at afK;rw[afK]at fq;obtain⟨n,vP,fB,r3⟩:=aw3 ds[y];have aw5:=Ib (f:=qo) (n:=3) (l:=ds) (i:=y) (o:=0) (m:=3) (fun x _=>(afH x).2) ba (by omega);rw[r3.cells]at aw5;refine ag (jD (by omega) (by omega)) (iH hO (ae.length+0) (az rfl) (show _=[int n,bS vP,.bool fB]from by simp_all) rfl (by omega) ?_);rw[SG];refine j3 hO ?_;intro fK H hO;refine lr hO 1 rfl rfl rfl rfl ?_;intro H hO
 replace hO:aj H (ae++[(pv,⟨tF ds,true⟩),(fK,⟨[int n,bS vP,.bool fB],true⟩)]):=hO
 repeat (first|refine bH ?_|refine cB hO 1 rfl rfl ?_)
 have aU:=r3.lt;refine bW (awY (by omega) (by omega)) (e3 (fun aA ab=>aA=[int 0,int y,ai fK 0,.int .i32 n,.bool (ME ds[y]),aC pv 0 ds.length aZ,int ds.length,int y]/\H=ab) ?_ ?_)
 repeat (first|refine bH ?_|refine cB hO 1 rfl rfl ?_)
 rw[r3.afJ];cases fB with
 | true=>
  refine dP rfl ?_
  repeat refine bH ?_
  exact⟨(by rfl),(by rfl)⟩
 | false=>
  refine eT rfl (aqA (by omega) (by omega) ?_)
  repeat refine bH ?_
  exact⟨(by rfl),(by rfl)⟩
 rintro aA ab ⟨rfl,rfl⟩
 try simp only[cj,ck]
 refine e3 (fun aA ab=>aA=[int 0,.bool (vN ds[y] (y==0)),aC pv 0 ds.length aZ,int ds.length,int y]/\H=ab) ?_ ?_;rw[r3.afJ,r3.ok];refine ag kS (bF (fun aJ=>?_) (fun aJ=>?_));have eX:(y==0)=false:=by grind
 rw[eX]
 repeat (first|refine bH ?_|refine cB hO 1 rfl rfl ?_)
 cases fB with
 | true=>
  refine dP rfl ?_
  repeat (first|refine bH ?_|refine x9 ?_)
  exact⟨(by rfl),(by rfl)⟩
 | false=>
  refine eT rfl (aqB (by omega) (by omega) (qj (fun aO=>?_) (fun aO=>?_)));rw[aO]
  repeat (first|refine bH ?_|refine kA ?_)
  exact⟨by simp,(by rfl)⟩;rw[aO]
  repeat (first|refine bH ?_|refine cB hO 1 rfl rfl ?_)
  refine ag (show _=some (.bool (vP== [45]))from rfl) (ag km (qj (fun h1=>?_) (fun h1=>?_)));rw[h1]
  repeat (first|refine bH ?_|refine kA ?_)
  exact⟨by simp,(by rfl)⟩;rw[h1]
  repeat (first|refine bH ?_|refine cB hO 1 rfl rfl ?_)
  refine ag (show _=some (.bool (vP== [95]))from rfl) (ag km (qj (fun h2=>?_) (fun h2=>?_)));rw[h2]
  repeat (first|refine bH ?_|refine kA ?_)
  exact⟨by simp,(by rfl)⟩;rw[h2]
  repeat (first|refine bH ?_|refine cB hO 1 rfl rfl ?_)
  refine ag (show _=some (.bool (vP== [46]))from rfl) (ag km ?_)
  repeat refine bH ?_
  refine qj (fun h3=>?_) (fun h3=>?_);rw[h3];exact⟨by simp,(by rfl)⟩;rw[h3];exact⟨by simp,(by rfl)⟩
 have eX:(y==0)=true:=by grind
 rw[eX]
 repeat (first|refine bH ?_|refine x9 ?_)
 exact⟨by simp,(by rfl)⟩;rintro aA ab ⟨rfl,rfl⟩
 try simp only[cj,ck]
 refine ag ix ?_;cases dU:vN ds[y] (y==0)with
 | false=>rw[dU]at fq;exact eT rfl (hU fq _ hO.left)
 | true=>
  rw[dU]at fq;refine dP rfl ?_
  repeat refine bH ?_
  refine⟨ds.length-(y+1),by omega,y+1,by omega,rfl,rfl,?_,?_⟩;rw[tm];exact Dk (A:=[(pv,⟨tF ds,true⟩)]) hO
  simp_all
 have e:y=ds.length:=by omega
 subst e;rw[drop_of_length_le (Nat.le_refl _)]at fq;exact tu fq _ hO.left
theorem aw6(aD:l.length<=1000000)(hO:aj H ae)(ah:∀ab,aj ab ae->aa (int (IB l)) ab):ay P 87 [bS l] H aa:=by
 apply arV;unfold abG;refine awX aD hO ?_;intro H v hO hv;have wI:(tE l).length<=l.length:=afI _ _;unfold IB at ah;generalize tE l=ds at*;refine e3 (fun aA ab=>aA=[int 0,v]/\H=ab/\¬(ds.length=0\/ds.length>24)) ?_ ?_;refine bW hv.bO (ag e2 (bF (fun h=>?_) (fun h=>?_)))
 repeat (first|refine bH ?_|refine kA ?_)
 have:=ah H hO.left;rw[if_pos (.inl (by omega))]at this;exact this;refine bW hv.bO (ag kS (ag (gP h) (bF (fun h2=>?_) (fun h2=>?_))));have:=ah H hO.left;rw[if_pos (.inr (by omega))]at this;exact this;exact⟨rfl,rfl,by omega⟩;rintro aA ab ⟨rfl,rfl,aU⟩
 try simp only[cj,ck]
 rw[if_neg aU]at ah;refine bW hv.bO (aw4 (by omega) hv hO ?_ ?_);intro h H hO;rw[if_pos h]at ah;exact ah H hO;intro h H hO;rw[if_neg (by grind)]at ah;exact ah H hO
end J
namespace J
open Go Go.Ab
variable[cu:b0]
variable{l:List UInt8}
abbrev j4(l:List UInt8):ByteArray:=⟨l.toArray⟩
theorem aw7(l:List UInt8)(k:Nat):((j4 l).get! k).toNat=gu l k:=by
 show((l.toArray)[k]!).toNat=(l.getD k 0).toNat;rw[getD_eq_getElem?_getD];by_cases h:k<l.length
 simp_all
 rw[getElem!_neg _ _ (by omega),List.getElem?_eq_none (by omega)];rfl
theorem Bn(l:List UInt8):(j4 l).size=l.length:=rfl
theorem afL(aD:l≠[]):(fL l=none->Utf8.decode (j4 l) 0=(65533,1))/\(∀r,fL l=some r->Utf8.decode (j4 l) 0=r):=by
 have mc:0<l.length:=length_pos_iff.2 aD;have n5:=uJ l 0;have dg:=uJ l 1;have cr:=uJ l 2;have fJ:=uJ l 3;have key:Utf8.decode (j4 l) 0=(fL l).getD (65533,1):=by
  unfold Utf8.decode;simp only[Nat.zero_add,aw7,Bn,Utf8.runeError,Utf8.valid];unfold fL r8;have an:∀c,(decide (wL c)=true)=(128<=c/\c<=191):=fun c=>by rw[decide_eq_true_eq];rfl
  simp only[uK,ns,an,Bool.true_and,Bool.and_eq_true,decide_eq_true_eq,beq_iff_eq,Nat.add_one_sub_one,Nat.reduceSub,Nat.reduceAdd];generalize gu l 0=a at*;generalize gu l 1=b at*;generalize gu l 2=c at*;generalize gu l 3=d at*;generalize l.length=n at*;simp only[Bool.or_eq_true,Bool.and_eq_true,decide_eq_true_eq]
  repeat' split
  all_goals simp only[Option.getD_some,Option.getD_none]
  all_goals first
   | rfl
   |(exfalso;omega)
   |(refine Prod.ext ?_ rfl;show(_:Nat)=_;omega)
 simp_all
theorem afM{r:Nat×Nat}(h:fL l=some r):¬(r.1=65533/\r.2=1):=by
 have:=uJ l 0;unfold fL at h;split at h
 grind
 split at h;have:=(zC h).2;omega;split at h;have:=(zC h).2;omega;split at h;have:=(zC h).2;omega;cases h
theorem SJ{size hn nU:Nat}{r:Nat×Nat}(h:r8 l size hn nU=some r):nU<=r.1:=by grind[r8]
theorem aw8{r:Nat×Nat}(h:fL l=some r):(r.1<128->r.2=1/\r.1=gu l 0)/\(r.2=1->r.1=gu l 0/\r.1<128):=by
 have:=uJ l 0;unfold fL at h;split at h
 grind
 split at h;have:=(zC h).2;have:=SJ h;omega;split at h;have:=(zC h).2;have:=SJ h;omega;split at h;have:=(zC h).2;have:=SJ h;omega;cases h
theorem aw9{r:Nat×Nat}(aD:l≠[])(h:fL l=some r)(c:UInt8)(aB:c.toNat<128):(l.take r.2== [c])=((r.1:Int)==(c.toNat:Int)):=by
 obtain⟨h1,h2⟩:=aw8 h;obtain⟨dT,fb,kz⟩:=SI h aD
 match l,aD with
 | a::t,_=>
 have bn:gu (a::t) 0=a.toNat:=rfl;rw[Bool.eq_iff_iff,beq_iff_eq,beq_iff_eq];constructor
 ·intro e;have aM:r.2=1:=by
   have:=congrArg List.length e
   grind
  simp_all
 grind[UInt8.toNat_inj]
theorem afN(l:List UInt8)(bc i:Nat)(bJ:bc<l.length):Seal.FE (j4 l) bc i=!vN (l.drop bc) (i==0)/\(Utf8.decode (j4 l) bc).2=qp (l.drop bc):=by
 have dC:l.drop bc≠[]:=by simp_all
 have ao:(j4 l).extract bc (j4 l).size=j4 (l.drop bc):=by
  apply ByteArray.ext
  simp_all[Bn,take_of_length_le]
 have ht:=Go.Lib.tail_decode (j4 l) bc 0;rw[ao,Nat.add_zero]at ht;obtain⟨d0,d1⟩:=afL dC;have dU:(((i:Int))==0)=(i==0):=by grind
 unfold Seal.FE Seal.A0;rw[ao];have iQ:Go.Lib.decodeGo (j4 (l.drop bc))=Utf8.decode (j4 (l.drop bc)) 0:=by unfold Go.Lib.decodeGo;rw[if_neg (by grind[Bn])]
 rw[iQ,<- ht,dU];cases bM:fL (l.drop bc)with
 | none=>grind[vN,qp]
 | some r=>
  rw[d1 r bM];refine⟨?_,by simp_all[qp]⟩;have axa:=afM bM;rw[decide_eq_false (show¬((r.1:Int)=65533/\r.2=1) by omega),Bool.false_or]
  simp_all[vN,Seal.yh,aw9,Bool.or_assoc]
theorem afO(l:List UInt8):∀(b bc i:Nat),bc<=l.length->Seal.pT (j4 l) b bc i=if vO i (tD b (l.drop bc))=true then Seal.AZ ((i+(tD b (l.drop bc)).length:Nat):Int)else 41
 | 0,bc,i,_=>by rfl
 | b+1,bc,i,bJ=>by
  unfold Seal.pT tD;by_cases h:bc<l.length;obtain⟨h1,h2⟩:=afN l bc i h;have dC:l.drop bc≠[]:=by simp_all
  have aM:=MD dC;rw[length_drop]at aM;rw[if_pos (show bc<(j4 l).size from h),if_neg dC,h1,h2];cases bM:vN (l.drop bc) (i==0)with
  | false=>simp_all[vO]
  | true=>
   rw[if_neg (show¬(!true)=true by simp)];have bg:=afO l b (bc+qp (l.drop bc)) (i+1) (by omega);rw[show((i:Int)+1)=((i+1:Nat):Int) by omega,bg,drop_drop];show _=if(vN (l.drop bc) (i==0)&&vO (i+1) _)=true then _ else _
   grind
  have SK:l.drop bc=[]:=drop_of_length_le (by omega);rw[if_neg (show¬bc<(j4 l).size from h),if_pos SK];rfl
theorem afP(l:List UInt8):IB l=Seal.pT (j4 l) (j4 l).size 0 0:=by
 have:=afO l l.length 0 0 (zero_le _);rw[drop_zero,Nat.zero_add]at this;rw[Bn];refine Eq.trans ?_ this.symm;unfold IB Seal.AZ;show _=if vO 0 (tE l)=true then(if(((tE l).length:Nat):Int)<1\/(((tE l).length:Nat):Int)>24 then 41 else 0)else 41
 grind
end J
