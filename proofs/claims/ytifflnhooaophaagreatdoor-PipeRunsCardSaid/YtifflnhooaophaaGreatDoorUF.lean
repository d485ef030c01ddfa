/- texts of the kp, du behind the jV -/
import Derived.Lib.RuneCountTail
import Derived.Test.YtifflnhooaophaaGreatDoorUE
set_option linter.unusedVariables false
set_option linter.unusedSimpArgs false
set_option linter.unusedSectionVars false
set_option maxHeartbeats 4000000
set_option maxRecDepth 100000
open List Nat
namespace J
open Go Go.Ab
variable[c0:cH]
section
variable{H K eR dF a b c data i m n k6 mC ax e4 kQ t v w gf x ab}
abbrev u64(n:Nat):Value:=bB .u64 n
theorem qW(h:a+b<18446744073709551616):(cz P .add t c).f (u64 a) (u64 b)=some (u64 (a+b)):=by rw[ph rfl,mod_eq_of_lt (show a+b<fw .u64 from h)]
theorem qX{a:Nat}{b:Nat}(d:0<b)(e:a<9223372036854775807):(cz P .quo t c).f (int a) (int b)=some (int ((a/b:Nat):Int)):=by
 show(match mN (b:Int) 0 with|true=>none|false=>some (Value.int .i64 (hk .i64 ((a:Int).tdiv b))))=_;rw[ow,decide_eq_false U];have g:=Int.ofNat_le.2 (div_le_self a b)
 grind[tz]
theorem sJ(b:a<4294967296)(j:0<n)(d:n<32)(f:K (u64 (jN a n)) H):aG P 91 [u64 a,u64 n] H K:=by
 refine ahq.1 ?_;have g:fw .u64=18446744073709551616:=rfl;have h:2^(32-n)<=2^31:=Nat.pow_le_pow_right U U;have c:a*2^(32-n)<18446744073709551616:=Nat.lt_of_le_of_lt (Nat.mul_le_mul (Nat.le_of_lt b) h) bT;have i:a/2^n<4294967296:=Nat.lt_of_le_of_lt (div_le_self _ _) b;refine Z (tF rfl (show n<=64 by omega)) (Z (by rw[show(Value.int .u64 32)=bB .u64 32 from rfl,Ia rfl U bT]) (Z (yb rfl (show 32-n<=64 by omega)) ?_));rw[mod_eq_of_lt (show a*2^(32-n)<fw .u64 from c)];refine Z (wC rfl U c) (Z (tE bT) ?_);have e:(a/2^n|||a*2^(32-n))%4294967296=jN a n:=by unfold jN;rw[show(4294967296:Nat)=2^32 from rfl,or_mod_two_pow,mod_eq_of_lt (i)]
 rw[e];exact f
def po(w:List Nat)(n:Nat):aj:=(w.map fun(n:Nat)=>u64 n)++u64 n::replicate (63-w.length) (u64 0)
def nq(w:List Nat):aj:=(w.map fun(n:Nat)=>u64 n)++replicate (64-w.length) (u64 0)
theorem TO(h:w.length<=63):(po w n).length=64:=by grind[po]
theorem TP(h:w.length<=63):po w 0=nq w:=by
 unfold po nq;obtain⟨m,a⟩:∃m,64-w.length=m+1:=⟨63-w.length,U⟩
 grind
theorem TQ(h:w.length<=63):po w n=nq (w++[n]):=by simp_all[po,nq]
theorem amo:(po w n)[w.length]?=some (u64 n):=by simp_all[po]
theorem TR:(po w n).set w.length (u64 k6)=po w k6:=by simp_all[po]
theorem TS(h:i<w.length):(nq w)[i]?=some (u64 (w.getD i 0)):=by simp_all[nq,getElem?_append_left]
theorem TT:(nq w).all dx=true:=by simp[nq,dx,nj]
def wP(b:LI)(t:Nat):Nat->Nat
 | 0=>0
 | y+1=>256*wP b t y+(b.getD (4*t+y) 0).toNat
theorem amp:wP b t 4=vc b t:=by
 show 256*(256*(256*(256*0+(b.getD (4*t+0) 0).toNat)+(b.getD (4*t+1) 0).toNat)+(b.getD (4*t+2) 0).toNat)+(b.getD (4*t+3) 0).toNat=_;unfold vc
 grind
theorem TU(h:∀x∈b,0<=x/\x<=255)(t:Nat):∀y,wP b t y<256^y
 | 0=>Nat.zero_lt_one
 | y+1=>by
  show 256*wP b t y+_<256^(y+1);have a:=TU h t y
  grind[qU]
theorem amq{t:Nat}(f:bx ab v data)(b:∀x∈data,0<=x/\x<=255)(o:64*m+64<=data.length)(p:data.length<=1000000000)(q:t<16)(r:gf.length=t)
  (a:ac H (ab++[aa mC (nq gf)]))
  (i:∀E,ac E (ab++[aa mC (nq (gf++[vc ((data.drop (64*m)).take 64) t]))])->dF 8 [ad ax 0,v,ad e4 0,ad kQ 0,int ((64*m:Nat):Int),ad mC 0,int t] E):
  i7 P true 252 IR 3980 [ad ax 0,v,ad e4 0,ad kQ 0,int ((64*m:Nat):Int),ad mC 0,int t,int 0] H dF eR:=by
 have c:∀x∈(data.drop (64*m)).take 64,0<=x/\x<=255:=fun x j=>b x (mem_of_mem_drop (mem_of_mem_take j))
 rw[<- TP U]at a;refine agl (fun k d E=>∃(y:Nat),y<=4/\k=4-y/\d=[ad ax 0,v,ad e4 0,ad kQ 0,int ((64*m:Nat):Int),ad mC 0,int t,int y]/\ac E (ab++[aa mC (po gf (wP ((data.drop (64*m)).take 64) t y))])) _ _ ?_ 4 _ _ ⟨0,U,rfl,rfl,a⟩;rintro k d H ⟨y,e,rfl,rfl,a⟩;unfold Q7;refine ul ?_
 try simp only[c1,c2]
 refine Z cV (ay (fun h=>?_) (fun h=>?_));have s:=TU c t y;have l:256^y<=256^3:=Nat.pow_le_pow_right U U;have n:(256:Nat)^3=16777216:=rfl;have g:=qU b (64*m+(4*t+y));refine Z (eo U U) ?_;rw[Int.toNat_natCast];refine aD a (v:=u64 (wP ((data.drop (64*m)).take 64) t y)) (by grind[amo]) ?_;refine Z (by rw[show(Value.int .u64 256)=bB .u64 256 from rfl,AI rfl,mod_eq_of_lt (show _<fw .u64 from(show _<18446744073709551616 by omega))]) ?_;refine Z (v:=int ((4*t:Nat):Int)) (by grind[su]) (Z (v:=int ((64*m+4*t:Nat):Int)) (by grind[f2]) (Z (v:=int ((64*m+(4*t+y):Nat):Int)) (by grind[f2]) (sH a f.app b rfl U (bg (qI rfl) ?_))));rw[mod_eq_of_lt (show(data.getD (64*m+(4*t+y)) 0).toNat<fw .u64 from(show _<18446744073709551616 by omega))];refine Z (qW U) (Z (eo U U) ?_);rw[Int.toNat_natCast];refine cQ a (ab.length+0) (al rfl) rfl (by grind[TO]) (show _=po gf (wP ((data.drop (64*m)).take 64) t (y+1))from ?_) ?_;rw[show 0+t*1=gf.length by omega,TR];show _=po gf (256*_+_)
 grind
 intro H a
 replace a:=a.bp
 repeat refine aQ ?_
 exact⟨4-(y+1),U,y+1,U,rfl,rfl,a⟩;have e:y=4:=U
 subst e;rw[amp,TQ U]at a;exact i H a
theorem TV:mz x [a,b]=jN x a ^^^ jN x b:=by
 show(0 ^^^ jN x a) ^^^ jN x b=_
 simp_all
theorem TW:mz x [a,b,c]=(jN x a ^^^ jN x b) ^^^ jN x c:=by
 show((0 ^^^ jN x a) ^^^ jN x b) ^^^ jN x c=_
 simp_all
theorem iV(h:a<4294967296):a<fw .u64:=Nat.lt_trans h bT
theorem amr(F:bx ab v data)(l:∀x∈data,0<=x/\x<=255)(I:64*m+64<=data.length)(J:data.length<=1000000000)
  (c:ac H (ab++[aa mC (nq [])]))
  (e:∀E,ac E (ab++[aa mC (nq (hz ((data.drop (64*m)).take 64) 64))])->dF 6 [ad ax 0,v,ad e4 0,ad kQ 0,int ((64*m:Nat):Int),ad mC 0] E):
  i7 P true 252 IQ 1932 [ad ax 0,v,ad e4 0,ad kQ 0,int ((64*m:Nat):Int),ad mC 0,int 0] H dF eR:=by
 have f:∀x∈(data.drop (64*m)).take 64,0<=x/\x<=255:=fun x L=>l x (mem_of_mem_drop (mem_of_mem_take L))
 refine agi (fun k p E=>∃(y:Nat),y<=64/\k=64-y/\p=[ad ax 0,v,ad e4 0,ad kQ 0,int ((64*m:Nat):Int),ad mC 0,int y]/\ac E (ab++[aa mC (nq (hz ((data.drop (64*m)).take 64) y))])) _ _ ?_ 64 _ _ ⟨0,U,rfl,rfl,c⟩;rintro k p H ⟨y,q,rfl,rfl,c⟩;unfold Q3;refine ul ?_
 try simp only[c1,c2]
 have g:=Bb (b:=(data.drop (64*m)).take 64) y;have aI:hz ((data.drop (64*m)).take 64) (y+1)=hz ((data.drop (64*m)).take 64) y++[qS ((data.drop (64*m)).take 64) (hz ((data.drop (64*m)).take 64) y) y]:=rfl;have a:∀i,(hz ((data.drop (64*m)).take 64) y).getD i 0<4294967296:=wO (Bd f y);refine Z cV (ay (fun h=>?_) (fun h=>?_));refine Z cV (ay (fun j=>?_) (fun j=>?_));refine amq F l I J U g c ?_;intro H c;refine iR rfl ?_
 try simp only[c1,c2]
 repeat refine aQ ?_
 refine⟨64-(y+1),U,y+1,U,rfl,rfl,?_⟩;rw[aI,show qS ((data.drop (64*m)).take 64) (hz ((data.drop (64*m)).take 64) y) y=vc ((data.drop (64*m)).take 64) y by unfold qS;grind];exact c;generalize M:hz ((data.drop (64*m)).take 64) y=gf at*;have bY:∀ {i:Nat} {K:VH},i<y->K (u64 (gf.getD i 0)) H->a7 (db (ad mC (0+i*1)) H) K:=fun {i K} S e=>aD c (by simp_all[TS]) e
 have d:∀ {o:Nat},iP (ik H H) (dM [ad mC o]):=jf c c TT;refine Z (iS U U) (Z (eo U U) ?_);rw[show((y:Int)-15).toNat=y-15 by omega];refine bY U (Z (iS U U) (Z (eo U U) ?_));rw[show((y:Int)-2).toNat=y-2 by omega];refine bY U (Z (iS U U) (Z (eo U U) ?_));rw[show((y:Int)-16).toNat=y-16 by omega];refine bY U (sJ (n:=7) (a _) U U (⟨d,?_⟩));refine sJ (n:=18) (a _) U U (⟨d,?_⟩);have r:=qT (n:=7) (a (y-15));have s:=qT (n:=18) (a (y-15));have t:=qT (n:=17) (a (y-2));have u:=qT (n:=19) (a (y-2));have w:gf.getD (y-15) 0/2^3<4294967296:=Nat.lt_of_le_of_lt (div_le_self _ _) (a _);have z:gf.getD (y-2) 0/2^10<4294967296:=Nat.lt_of_le_of_lt (div_le_self _ _) (a _);refine Z (lc rfl (iV r) (iV s)) (Z (tF (n:=3) rfl bT) ?_);have B:=xor_lt_two_pow (n:=32) r s;refine Z (lc (k:=.u64) rfl (iV B) (iV w)) ?_;have JB:=xor_lt_two_pow (n:=32) B w;have V:=a (y-16);have W:=a (y-7);refine Z (qW U) (Z (iS U U) (Z (eo U U) ?_));rw[show((y:Int)-7).toNat=y-7 by omega];refine bY U (⟨d,d,?_⟩);refine Z (qW U) (sJ (n:=17) (a _) U U (⟨d,d,?_⟩))
 refine sJ (n:=19) (a _) U U (⟨d,d,?_⟩);refine Z (lc (k:=.u64) rfl (iV t) (iV u)) (Z (tF (k:=.u64) (n:=10) rfl bT) ?_);have C:=xor_lt_two_pow (n:=32) t u;refine Z (lc (k:=.u64) rfl (iV C) (iV z)) ?_;have N:=xor_lt_two_pow (n:=32) C z;refine Z (qW U) (Z (tE (k:=.u64) (b:=4294967296) bT) (Z (eo U U) ?_));rw[Int.toNat_natCast];rw[<- TP U]at c;refine cQ c (ab.length+0) (al rfl) rfl (by grind[TO]) (show _=nq (gf++[qS ((data.drop (64*m)).take 64) gf y])from ?_) ?_;rw[show 0+y*1=gf.length by omega,TR,TQ U];unfold qS;rw[if_neg U,TV,TV];intro H c
 replace c:=c.bp
 rw[<- aI]at c
 repeat refine aQ ?_
 exact⟨64-(y+1),U,y+1,U,rfl,rfl,c⟩;have q:y=64:=U
 subst q;exact e H c
end
section
variable{H eR dF a c i mC p2 ax e4 kQ s t v gf ab}
def mT(x:W8):aj:=x.l.map fun(n:Nat)=>u64 n
theorem ams(x:W8):(mT x).all dx=true:=rfl
theorem JB(a b c d e f g h:Int):(eg P 194).f [(0,.int .u64 a),(1,.int .u64 b),(2,.int .u64 c),(3,.int .u64 d),(4,.int .u64 e),(5,.int .u64 f),(6,.int .u64 g),(7,.int .u64 h)]=some (agg [.int .u64 a,.int .u64 b,.int .u64 c,.int .u64 d,.int .u64 e,.int .u64 f,.int .u64 g,.int .u64 h]):=ao
theorem amt(h:i<64):(iU.map fun(n:Nat)=>u64 n)[i]?=some (u64 (iU.getD i 0)):=by
 have a:iU.length=64:=rfl
 grind
theorem amu:(iU.map fun(n:Nat)=>u64 n).all dx=true:=ao
theorem JC:(cz P .rem t c).f (u64 a) (.int .u64 4294967296)=some (u64 (a%4294967296)):=tE bT
theorem amv{p:Nat}{TX:Nat}{TY:Nat}(ah:s.br)(S:∀x∈gf,x<4294967296)(V:gf.length=64)(B:ab[TX]?=some (aa kQ (iU.map fun(n:Nat)=>u64 n)))(q:ab[TY]?=some (aa mC (nq gf)))
  (l:ac H (ab++[aa p2 (mT s)]))
  (W:∀E,ac E (ab++[aa p2 (mT (pm gf s 64))])->dF 10 [ad ax 0,v,ad e4 0,ad kQ 0,int p,ad p2 0] E):
  i7 P true 252 IS 33676 [ad ax 0,v,ad e4 0,ad kQ 0,int p,ad mC 0,ad p2 0,int 0] H dF eR:=by
 refine agj (fun k J E=>∃(y:Nat),y<=64/\k=64-y/\J=[ad ax 0,v,ad e4 0,ad kQ 0,int p,ad mC 0,ad p2 0,int y]/\ac E (ab++[aa p2 (mT (pm gf s y))])) _ _ ?_ 64 _ _ ⟨0,U,rfl,rfl,l⟩;rintro k J H ⟨y,fS,rfl,rfl,l⟩;unfold Q4;refine ul ?_
 try simp only[c1,c2]
 refine Z cV (ay (fun h=>?_) (fun h=>?_))
 rotate_left
 ·have X:y=64:=U
  subst X;exact W _ l
 have j:=EI (w:=gf) ah y;have al8:gf.getD y 0<4294967296:=wO S y;have axl:=al5 y;have aX:pm gf s (y+1)=A7 (pm gf s y) (iU.getD y 0) (gf.getD y 0):=rfl;generalize pm gf s y=x at*;have C:(ab++[aa p2 (mT x)])[ab.length+0]?=some (aa p2 (mT x)):=al rfl;have t:∀ {o:Nat},iP (ik H H) (dM [ad p2 o]):=jf l l (ams x);have r:∀ {o:Nat},iP (ik H H) (dM [ad kQ o]):=gw l _ (ak B) l _ (ak B) amu;have m:∀ {o:Nat},iP (ik H H) (dM [ad mC o]):=gw l _ (ak q) l _ (ak q) TT;have cI:∀ {i:Int} {h:0<=i} {aH:i<8},True:=trivial;refine Z (eo U U) (aD l rfl (Z (eo U U) (aD l rfl (Z (rG rfl (iV j.e) (iV j.f)) ?_))));refine Z (by have:=j.e;rw[show(Value.int .u64 4294967295)=bB .u64 4294967295 from rfl,Ia rfl U bT]) ?_;refine Z (eo U U) (aD l rfl (Z (rG rfl (iV U) (iV j.g)) (Z (lc rfl (iV (and_lt_two_pow (n:=32) _ j.f)) (iV (and_lt_two_pow (n:=32) _ j.g))) ?_)));have axm:vd x.e x.f x.g<4294967296:=alK j.e j.f j.g;rw[show(x.e&&&x.f) ^^^ ((4294967295-x.e)&&&x.g)=vd x.e x.f x.g from rfl];refine Z (eo U U) (aD l (v:=u64 x.h) rfl ?_);have K:=qT (n:=6) j.e;have u:=qT (n:=11) j.e;have F:=qT (n:=25) j.e;have L:=qT (n:=2) j.a;have z:=qT (n:=13) j.a;have I:=qT (n:=22) j.a;refine sJ (n:=6) j.e U U (⟨t,?_⟩);refine sJ (n:=11) j.e U U (⟨t,?_⟩);refine Z (lc (k:=.u64) rfl (iV K) (iV u)) (sJ (n:=25) j.e U U (⟨t,?_⟩));refine Z (lc (k:=.u64) rfl (iV (xor_lt_two_pow (n:=32) K u)) (iV F)) ?_;rw[<- TW];have axn:mz x.e [6,11,25]<4294967296:=A9 j.e;have hh:=j.h;refine Z (qW U) (Z (qW U) (Z (eo U U) ?_));rw[Int.toNat_natCast];refine bk l _ (ak B) (v:=u64 (iU.getD y 0)) (by grind[amt]) (⟨r,r,r,?_⟩);refine Z (qW U) (Z (eo U U) ?_);rw[Int.toNat_natCast];refine bk l _ (ak q) (v:=u64 (gf.getD y 0)) (by grind[TS]) (⟨m,m,m,?_⟩);refine Z (qW U) (Z (eo U U) (aD l (v:=u64 x.a) rfl (Z (eo U U) (aD l (v:=u64 x.b) rfl (Z (rG (k:=.u64) rfl (iV j.a) (iV j.b)) (Z (eo U U) (aD l (v:=u64 x.a) rfl (Z (eo U U) (aD l (v:=u64 x.c) rfl (Z (rG (k:=.u64) rfl (iV j.a) (iV j.c)) ?_))))))))))
 have M:=and_lt_two_pow (n:=32) x.a j.b;have N:=and_lt_two_pow (n:=32) x.a j.c;have TZ:=and_lt_two_pow (n:=32) x.b j.c;refine Z (lc (k:=.u64) rfl (iV M) (iV N)) (Z (eo U U) (aD l (v:=u64 x.b) rfl (Z (eo U U) (aD l (v:=u64 x.c) rfl (Z (rG (k:=.u64) rfl (iV j.b) (iV j.c)) (Z (lc (k:=.u64) rfl (iV (xor_lt_two_pow (n:=32) M N)) (iV TZ)) ?_))))));rw[show((x.a&&&x.b) ^^^ (x.a&&&x.c)) ^^^ (x.b&&&x.c)=wL x.a x.b x.c from rfl];have axo:wL x.a x.b x.c<4294967296:=alL j.b j.c;refine Z (eo U U) (aD l (v:=u64 x.a) rfl (sJ (n:=2) j.a U U (Z (eo U U) (aD l (v:=u64 x.a) rfl (⟨t,?_⟩)))));refine sJ (n:=13) j.a U U (Z (lc (k:=.u64) rfl (iV L) (iV z)) (Z (eo U U) (aD l (v:=u64 x.a) rfl (⟨t,t,?_⟩))));refine sJ (n:=22) j.a U U (Z (lc (k:=.u64) rfl (iV (xor_lt_two_pow (n:=32) L z)) (iV I)) ?_);rw[<- TW];have axp:mz x.a [2,13,22]<4294967296:=A9 j.a;have a2:=j.d;refine Z (qW U) (Z (qW U) (Z JC (Z (eo U U) (aD l (v:=u64 x.a) rfl (Z (eo U U) (aD l (v:=u64 x.b) rfl (Z (eo U U) (aD l (v:=u64 x.c) rfl (Z (eo U U) (aD l (v:=u64 x.d) rfl (Z (qW U) (Z JC (Z (eo U U) (aD l (v:=u64 x.e) rfl (Z (eo U U) (aD l (v:=u64 x.f) rfl (Z (eo U U) (aD l (v:=u64 x.g) rfl (Z (JB _ _ _ _ _ _ _ _) (dn l _ C rfl rfl rfl ?_))))))))))))))))))))
 intro H l
 replace l:=l.bp
 have cU:(x.h+mz x.e [6,11,25]+vd x.e x.f x.g+iU.getD y 0+gf.getD y 0+(mz x.a [2,13,22]+wL x.a x.b x.c))%4294967296=(tO x (iU.getD y 0) (gf.getD y 0)+EH x)%4294967296:=by simp_all[tO,EH]
 have dw:(x.d+(x.h+mz x.e [6,11,25]+vd x.e x.f x.g+iU.getD y 0+gf.getD y 0))%4294967296=(x.d+tO x (iU.getD y 0) (gf.getD y 0))%4294967296:=by simp_all[tO]
 rw[cU,dw]at l
 repeat refine aQ ?_
 refine⟨64-(y+1),U,y+1,U,rfl,rfl,?_⟩;rw[aX];exact l
end
section
variable{B H K eR dF R T ag data n p2 ax yW e4 kQ s t0 v x ae jx ab}
theorem amw:(eg P 196).f []=some (agg (nq [])):=ao
theorem amx:fF P 196=nq []:=ao
theorem amy:fF P 194=replicate 8 (u64 0):=ao
theorem amz(a:ac H ab)(b:∀E,ac E ab->K (agg (mT A8)) E):aG P 89 [] H K:=by
 refine aho.1 ?_;refine b0 a fun p H a=>Z ao (dn a (ab.length+0) (al rfl) rfl rfl rfl ?_)
 intro H a
 replace a:=a.bp
 exact gQ a (ab.length+0) (al rfl) rfl U (b _ a.left)
theorem amA(a:ac H ab)(b:∀E,ac E ab->K (agg (iU.map fun(n:Nat)=>u64 n)) E):aG P 90 [] H K:=by
 refine ahp.1 ?_;refine b0 a fun p H a=>Z ao (dn a (ab.length+0) (al rfl) rfl rfl rfl ?_)
 intro H a
 replace a:=a.bp
 exact gQ a (ab.length+0) (al rfl) rfl U (b _ a.left)
theorem T0{s:W8}(h:s.br):∀x∈s.l,x<4294967296:=by
 intro x i;simp[W8.l,or_false]at i;rcases i with rfl|rfl|rfl|rfl|rfl|rfl|rfl|rfl
 exact h.a;exact h.b;exact h.c;exact h.d;exact h.e;exact h.f;exact h.g;exact h.h
theorem amB{b:Nat}(ah:s.br)(ar:R.br)(c:T[1]?=some (aa p2 (mT R)))
  (a:ac H (ab++([aa e4 (mT s),(kQ,B)]++T)))
  (f:∀E,ac E (ab++([aa e4 (mT (yN s R)),(kQ,B)]++T))->dF 12 [ad ax 0,v,ad e4 0,ad kQ 0,int b] E):
  i7 P true 252 IT 908 [ad ax 0,v,ad e4 0,ad kQ 0,int b,ad p2 0,int 0] H dF eR:=by
 refine agk (fun k d E=>∃(y:Nat),y<=8/\k=8-y/\d=[ad ax 0,v,ad e4 0,ad kQ 0,int b,ad p2 0,int y]/\ac E (ab++([aa e4 ((oO s.l R.l y).map fun(n:Nat)=>u64 n),(kQ,B)]++T))) _ _ ?_ 8 _ _ ⟨0,U,rfl,rfl,a⟩;rintro k d H ⟨y,q,rfl,rfl,a⟩;unfold Q6;refine ul ?_;have g:s.l.length=8:=rfl;have i:R.l.length=8:=rfl;refine Z cV (ay (fun h=>?_) (fun h=>?_));have j:y<8:=U
 have r:=wO (T0 ah) y;have t:=wO (T0 ar) y;have e:((oO s.l R.l y).map fun(n:Nat)=>u64 n)[0+y*1]?=some (u64 (s.l.getD y 0)):=by simp_all[EM]
 have m:(mT R)[0+y*1]?=some (u64 (R.l.getD y 0)):=by simp_all[mT]
 have o:((oO s.l R.l y).map fun(n:Nat)=>u64 n).set (0+y*1) (u64 ((s.l.getD y 0+R.l.getD y 0)%4294967296))=(oO s.l R.l (y+1)).map fun(n:Nat)=>u64 n:=by grind[TC,map_set]
 refine Z (eo U U) ?_;refine aD a e (Z (eo U U) ?_);refine bk a _ (al (al c)) m (Z (qW U) (Z JC (Z (eo U U) ?_)));refine cQ a (ab.length+0) (al rfl) rfl (TA e) o ?_;intro H a
 replace a:=a.bp
 repeat refine aQ ?_
 exact⟨_,U,y+1,U,rfl,rfl,a⟩;have p:y=8:=U
 subst p;rw[al9]at a;exact f _ a
theorem amC{T:LB}{JD:Nat}(ah:s.br)(i:ab[JD]?=some (aa e4 (mT s)))(a:ac H (ab++[aa yW (np [])]))
  (j:∀E,ac E (ab++[aa yW (aN (mB s))])->dF 14 [ad ax 0,ad yW 0] E):
  i7 P true 252 IU 8388612 [ad ax 0,ad e4 0,ad yW 0,int 0] H dF eR:=by
 refine agh (fun k d E=>∃(y:Nat),y<=32/\k=32-y/\d=[ad ax 0,ad e4 0,ad yW 0,int y]/\ac E (ab++[aa yW (np ((mB s).take y))])) _ _ ?_ 32 _ _ ⟨0,U,rfl,rfl,a⟩;rintro k d H ⟨y,f,rfl,rfl,a⟩;unfold Q2;refine ul ?_
 try simp only[c1,c2]
 refine Z cV (ay (fun h=>?_) (fun h=>?_));have c:((mB s).take y).length=y:=by simp_all[TG]
 have m:y/4<8:=U
 have n:y%4<4:=U
 have o:(mT s)[0+y/4*1]?=some (u64 (s.l.getD (y/4) 0)):=by
  have p:s.l.length=8:=rfl
  simp_all[mT]
 refine Z (qX (b:=4) U U) (Z (eo U U) ?_);rw[Int.toNat_natCast];refine bk a JD (ak i) o (Z (tE bT) (Z (v:=int ((8*(y%4):Nat):Int)) (by grind[su]) (Z (v:=int ((24-8*(y%4):Nat):Int)) (by grind[iS]) (Z (tF rfl (show 24-8*(y%4)<=64 by omega)) (Z (tE bT) (bg (qI rfl) (Z (eo U U) ?_)))))));rw[Int.toNat_natCast];refine cQ a (ab.length+0) (al rfl) rfl (show 0+y*1<(np ((mB s).take y)).length by grind[TE]) (show _=np ((mB s).take (y+1))from ?_) ?_;have g:=TI (s:=s) m n;rw[show 4*(y/4)+y%4=y by omega]at g;rw[<- g,<- TF U,c,show 0+y*1=y by omega];rw[show fw .u8=256 from rfl,mod_mod];intro H a
 replace a:=a.bp
 repeat refine aQ ?_
 exact⟨32-(y+1),U,y+1,U,rfl,rfl,a⟩;have f:y=32:=U
 subst f;have e:np ((mB s).take 32)=aN (mB s):=ao
 rw[e]at a;exact j H a
theorem amD(a:ac H (ab++aw v ag))(b:dm v (ae++[128]) ag)(j:ae.length<=90000000)
  (f:∀E ap bI,ac E (ab++aw ap bI)->dm ap (ae++[128]++replicate (le ae.length) 0) bI->dF 0 [t0,ad ax 0,ap] E):
  i7 P true 252 IM 13 [t0,ad ax 0,v] H dF eR:=by
 refine agd (fun k c E=>∃(y:Nat) (v:Value) (ag:aj),y<=le ae.length/\k=le ae.length-y/\c=[t0,ad ax 0,v]/\ac E (ab++aw v ag)/\dm v (ae++[128]++replicate y 0) ag) _ _ ?_ (le ae.length) _ _ ⟨0,v,ag,U,rfl,rfl,a,by rw[replicate_zero,append_nil];exact b⟩;rintro k c H ⟨y,v,ag,d,rfl,rfl,a,b⟩;unfold QZ;refine ul ?_
 try simp[c1,c2]
 have e:(ae++[128]++replicate y (0:Int)).length=ae.length+1+y:=aT
 have g:le ae.length<64:=mod_lt _ bT;refine bg b.aZ (Z (tE bT) ?_);refine Z dX (ay (fun h=>?_) (fun h=>?_));have i:y<le ae.length:=by grind[le]
 refine el a (yV 0 _) ?_;intro q H a;refine rI (bl:=[0]) a b aT rfl (.inr rfl) ?_;intro H v ag a b;rw[append_assoc _ (replicate y 0),<- replicate_succ']at b
 grind
 have d:y=le ae.length:=by grind[le]
 subst d;exact f H v ag a b
theorem amE:∀y,y<8->72057594037927936/256^y=2^(56-8*y):=bT
theorem amF(a:ac H (ab++aw v ag))(b:dm v jx ag)(m:jx.length<=95000000)(i:n<18446744073709551616)
  (j:∀E ap bI,ac E (ab++aw ap bI)->dm ap (jx++p0 n) bI->dF 2 [ad ax 0,ap] E):
  i7 P true 252 IN 12 [ad ax 0,v,bB .u64 n,.int .u64 72057594037927936,int 0] H dF eR:=by
 refine age (fun k d E=>∃(y:Nat) (v:Value) (ag:aj),y<=8/\k=8-y/\d=[ad ax 0,v,bB .u64 n,bB .u64 (72057594037927936/256^y),int y]/\ac E (ab++aw v ag)/\dm v (jx++(p0 n).take y) ag) _ _ ?_ 8 _ _ ⟨0,v,ag,U,rfl,rfl,a,by rw[take_zero,append_nil];exact b⟩;rintro k d H ⟨y,v,ag,f,rfl,rfl,a,b⟩;unfold Q0;refine ul ?_;refine Z cV (ay (fun h=>?_) (fun h=>?_));have c:y<8:=U
 have g:=amE y c;have o:0<2^(56-8*y):=Nat.two_pow_pos _;refine Z (Ib rfl U i) ?_;rw[g];refine Z (tE bT) (bg (qI rfl) ?_);rw[show fw .u8=256 from rfl,mod_mod];refine el a (yV _ _) ?_;intro q H a;refine rI (bl:=[((n/2^(56-8*y)%256:Nat):Int)]) a b aT rfl (.inr rfl) ?_;intro H v ag a b;have e:(p0 n).take y++[((n/2^(56-8*y)%256:Nat):Int)]=(p0 n).take (y+1):=by grind[take_add_one,TJ]
 rw[append_assoc,e]at b;have l:2^(56-8*y)<fw .u64:=Nat.lt_of_le_of_lt (Nat.pow_le_pow_right U (show 56-8*y<=56 by omega)) bT;refine Z (Ib rfl bT l) ?_
 repeat refine aQ ?_
 refine⟨8-(y+1),U,y+1,v,ag,U,rfl,?_,a,b⟩;rw[<- g,Nat.div_div_eq_div_mul,<- Nat.pow_succ];rfl;have f:y=8:=U
 subst f;rw[take_of_length_le (by rw[EJ];omega)]at b;exact j H v ag a b
theorem amG(d:bx ab v data)(e:∀x∈data,0<=x/\x<=255)(p:data.length%64=0)(g:data.length<=1000000000)
  (a:ac H (ab++[aa e4 (mT A8),aa kQ (iU.map fun(n:Nat)=>u64 n)]))
  (i:∀E,ac E (ab++[aa e4 (mT (mA data)),aa kQ (iU.map fun(n:Nat)=>u64 n)])->dF 4 [ad ax 0,ad e4 0] E):
  i7 P true 252 IP 132 [ad ax 0,v,ad e4 0,ad kQ 0,int 0] H dF eR:=by
 refine agf (fun k f E=>∃(y:Nat),64*y<=data.length/\k=data.length/64-y/\f=[ad ax 0,v,ad e4 0,ad kQ 0,int ((64*y:Nat):Int)]/\ac E (ab++[aa e4 (mT (pZ data y)),aa kQ (iU.map fun(n:Nat)=>u64 n)])) _ _ ?_ (data.length/64) _ _ ⟨0,U,rfl,rfl,a⟩;rintro k f H ⟨y,q,rfl,rfl,a⟩;unfold Q1;refine ul ?_;refine bg d.aZ (Z cV (ay (fun h=>?_) (fun h=>?_)));have b:64*y+64<=data.length:=U
 have c:∀x∈(data.drop (64*y)).take 64,0<=x/\x<=255:=fun x j=>e x (mem_of_mem_drop (mem_of_mem_take j))
 refine Z amw ?_;refine b0 a ?_;intro l H a;refine dn a (_+0) (al rfl) rfl rfl rfl ?_;intro H a
 replace a:=a.bp
 refine amr d.app e b g a ?_;intro H a;refine iR rfl ?_;refine bK a rfl U ?_;refine b0 a ?_;intro m H a;refine dn a (_+0) (al rfl) rfl rfl rfl ?_;intro H a
 replace a:=a.bp
 refine amv (Ba y) (Bd c 64) (Bb 64) (TX:=ab.length+1) (TY:=_+0) (ak (al rfl)) (al rfl) a ?_;intro H a;refine iR rfl ?_;rw[append_assoc,append_assoc]at a;refine amB (Ba y) (EI (Ba y) 64) rfl a ?_;intro H a;refine iR rfl ?_
 try simp only[c1,c2]
 refine Z (by grind[f2]) (⟨data.length/64-(y+1),U,y+1,U,rfl,rfl,?_⟩);rw[<- append_assoc]at a;exact a.left;have o:y=data.length/64:=U
 subst o;exact i _ a
theorem vf(a:ac H ab)(f:bx ab x ae)(g:∀x∈ae,0<=x/\x<=255)(k:ae.length<=80000000)(h:∀E,ac E ab->K (agg (aN (hP ae))) E):aG P 35 [x] H K:=by
 refine agm.1 ?_;rw[Bg];refine b0 a ?_;intro ax H a;refine el a (rO _) ?_;intro q H a;refine oL (ae:=[]) a (.inr ⟨q,.inr ⟨rfl,rfl⟩,rfl,Nat.le_refl _,rfl⟩) f.app aT ?_;intro H v ag a b;refine el a (yV 128 _) ?_;intro q2 H a;refine rI (bl:=[128]) a b aT rfl (.inr rfl) ?_;intro H v ag a b;refine amD (ae:=ae) a b U ?_;intro H v ag a b;refine iR rfl ?_
 try simp only[c1,c2]
 have i:le ae.length<64:=mod_lt _ bT;have c:=alR (ae:=ae);have d:∀x∈wN ae,0<=x/\x<=255:=kP (kP (kP g (yU bT)) Bf) TK;have e:(wN ae).length<=1000000000:=by grind[wN,EJ]
 refine bg f.aZ (bg (yd U U) ?_);rw[Int.toNat_natCast];refine Z (by rw[show(Value.int .u64 8)=bB .u64 8 from rfl,AI rfl,mod_eq_of_lt (show ae.length*8<fw .u64 from(show _<18446744073709551616 by omega)),Nat.mul_comm]) ?_;refine amF a b aT U ?_;intro H v ag a b
 replace b:dm v (wN ae) ag:=b
 refine iR rfl ?_
 try simp only[c1,c2]
 refine amz a ?_;intro H a;refine amA a ?_;intro H a;rw[amy,amx];refine b0 a ?_;intro l H a;refine b0 a ?_;intro m H a;rw[append_assoc _ [_] [_]]at a;refine dn a (_+0) (al rfl) rfl rfl rfl ?_;intro H a
 replace a:=a.bp
 refine dn a (_+1) (al rfl) rfl rfl rfl ?_;intro H a
 replace a:=a.bp
 refine amG b.gd.app' d c e a ?_;intro H a;refine iR rfl ?_
 try simp only[c1,c2]
 refine Z ao ?_;rw[show replicate 32 (bB .u8 0)=np []from rfl]at a⊢;refine b0 a ?_;intro j H a;refine dn a (_+0) (al rfl) rfl rfl rfl ?_;intro H a
 replace a:=a.bp
 refine amC (T:=[]) (Ba _) (JD:=_+0) (al (L:=[_,_]) rfl) a ?_;intro H a;refine iR rfl ?_
 try simp only[c1,c2]
 refine bK a rfl U (dn a (ab.length+0) (ak (ak (ak (al rfl)))) rfl rfl (ge _) ?_);intro H a;rw[set_append_left _ _ aW,set_append_left _ _ aW,set_append_left _ _ aW,Go.Ab.bp]at a;exact gQ a (ab.length+0) (ak (ak (ak (al rfl)))) rfl U (h H a.left.left.left.left)
end
section
variable{H K n size ab}
theorem T1{n:Nat}(b:n<=8)(a:K (int n) H):aG P 211 [int n] H K:=by
 refine ajr.1 ?_
 repeat (first|refine aQ ?_|refine nl ?_)
 exact a
theorem Bi(a:ac H ab)(j:n<2^64)(ah:size<=8)(l:tM ab K (iT size n)):aG P 147 [bB .u64 n,int size] H K:=by
 refine aiu.1 ?_;refine el a (rO _) fun q H a=>ait (fun k i E=>∃(y:Nat) (ap:Value) (b:aj),y<=size/\k=size-y/\i=[bB .u64 (n/256^y),int size,aA,ap,int y]/\ac E (ab++aw ap b)/\dm ap (iT y n) b) _ _ ?_ size _ _ ⟨0,am q 0 0 3,[],U,U,aW,a,.inr ⟨q,.inr ⟨rfl,rfl⟩,rfl,zero_le _,rfl⟩⟩
 rintro k i E ⟨y,ap,b,o,rfl,rfl,a,c⟩;apply T1 ah
 repeat refine aQ ?_
 refine ay (fun h=>?_) (fun h=>?_);have m:n/256^y<2^64:=Nat.lt_of_le_of_lt (div_le_self _ _) j;refine Z (tE bT) (bg (qI rfl) (el a (AZ _ _ _) ?_));intro q H a;rw[show n/256^y%256%fw .u8=n/256^y%256 from mod_mod _ _]at*;refine rI (bl:=[((n/256^y%256:Nat):Int)]) a c (by grind[pX]) rfl (.inr rfl) fun H g d a f=>Z (Ib rfl bT m) ?_
 repeat refine aQ ?_
 refine⟨_,U,y+1,g,d,U,rfl,?_,a,?_⟩;rw[Nat.div_div_eq_div_mul,<- Nat.pow_succ];rfl;rw[akU];exact f;have e:y=size:=U
 subst e
 repeat refine qJ ?_
 exact l _ _ _ a c
end
section
variable{H K e j n p v ae ab}
theorem JE(a:ac H ab)(f:ab[j]?=some (p,eC v e))(i:bx ab v ae)(z:n<=1000000)(B:ae.length<=1000000)
  (q:∀E cF ap bI,ac E (yG ab j p ae e n cF++aw ap bI)->lN v ae cF (ki ae e n)->dm ap (hl ae e n) bI->K ap E):aG P 280 [ad p 0,int n] H K:=by
 refine akL.1 ?_;have t:=(List.getElem?_eq_some_iff.1 f).1;refine cy (fun d E=>d=[ad p 0,int n]/\ac E ab) ?_ ?_
 repeat (first|refine aQ ?_|refine nl ?_)
 exact⟨rfl,a⟩;rintro d H ⟨rfl,a⟩
 try simp only[c1,c2]
 refine cy (fun d E=>d=[ad p 0,int n]/\ac E (ab.set j (p,eC v (hw ae e n)))) ?_ ?_;refine cy (fun d E=>d=[ad p 0,int n,.bool (decide (e=0/\ae.length<n))]/\ac E ab) ?_ ?_;refine ai (bk a j f rfl (Z cN (ay (fun h=>?_) (fun h=>?_))));refine ai (bk a j f rfl (bg i.aZ ?_))
 repeat refine aQ ?_
 refine⟨?_,a⟩
 simp_all
 repeat refine aQ ?_
 exact⟨a1,a⟩;rintro d H ⟨rfl,a⟩
 try simp only[c1,c2]
 refine ay (fun h=>?_) (fun h=>?_);refine ai (cQ a j f rfl (show 1<2 by omega) (rfl) ?_)
 simp_all[hw,if_neg]
 refine⟨trivial,?_⟩;have:hw ae e n=e:=by unfold hw;omega
 rw[this,x7 f];exact a;rintro d H ⟨rfl,a⟩
 try simp only[c1,c2]
 have b:=yC (y:=(p,eC v (hw ae e n))) f;refine ai (bk a j b rfl (Z dX ?_));by_cases g:e=0/\n<=ae.length;have k:hw ae e n=0:=if_pos g;have l:hl ae e n=ae.take n:=if_pos g;have m:ki ae e n=ae.drop n:=if_pos g;refine ix (fun h=>h k) (el a (rO _) ?_);intro r H a;refine ai (bk a j (ak b) rfl ?_);have c:=yD (cA:=eC v (hw ae e n)) (d7:=p) i f (bx.ha i);obtain⟨C,u,w⟩:=qP c g.2;obtain⟨cF,x,s⟩:=A0 c g.2;refine Z u (oL (ae:=[]) a (.inr ⟨r,.inr ⟨rfl,rfl⟩,rfl,Nat.le_refl _,rfl⟩) (w _ c) aT ?_);intro H ap bI a o;refine ai (bk a j (ak b) rfl (Z x (ai ?_)));obtain⟨F,I,J,rfl⟩:=bx.ha (s _ c);refine cQ a j (ak b) rfl (show 0<2 by omega) (rfl) ?_;intro H a;rw[set_append_left _ _ a1,set_set]at a;exact q _ _ _ bI a (by rw[m];exact s) (by rw[l];exact o);have k:hw ae e n≠0:=by unfold hw;omega
 have l:hl ae e n=[]:=if_neg g;have m:ki ae e n=[]:=if_neg g;refine kf k (ai (cQ a j b rfl (show 0<2 by omega) (rfl) ?_));intro H a;rw[set_set]at a;refine q _ aA aA [] (by show ac H (_++[]);rw[append_nil];exact a) (by rw[m];exact .none) (by rw[l];exact .nil)
end
section
variable{H K e j k p v ae y ab}{bs:LI}
theorem T2:∀(ae:LI) (y:Nat) (h:y<ae.length),er (ae.take (y+1))=er (ae.take y)+256^y*ae[y].toNat
 | x::r,0,_=>by simp[er]
 | x::r,y+1,h=>by
  have a:y<r.length:=by simpa using h
  have:=T2 r y a;simp[er,Nat.pow_succ];have:256*(256^y*r[y].toNat)=256^y*256*r[y].toNat:=by rw[<- Nat.mul_assoc,Nat.mul_comm 256 (256^y)]
  omega
theorem amH(h:y<=8):256^y<=2^64:=by have:(256:Nat)^y<=256^8:=Nat.pow_le_pow_right U h;exact this
theorem amI(h:y<8):256^y<2^64:=by have:(256:Nat)^y<=256^7:=Nat.pow_le_pow_right U U;omega
theorem amJ(a:∀x∈bs,0<=x/\x<=255)(h:y<=8):er (bs.take y)<2^64:=by grind[A1,amH,length_take]
theorem amK(a:∀x∈bs,0<=x/\x<=255)(b:y<8)(h:y<bs.length):(er (bs.take y)+bs[y].toNat*(256^y%2^64)%2^64)%2^64=er (bs.take (y+1))/\256^y%2^64*256%2^64=256^(y+1)%2^64:=by grind[T2,amJ,amI,Nat.mul_comm]
theorem ES(i:k<=8)(a:ac H ab)(s:ab[j]?=some (p,eC v e))(t:bx ab v ae)(l:ae.length<=1000000)(u:∀x∈ae,0<=x/\x<=255)
  (m:∀E cF,ac E (yG ab j p ae e k cF)->lN v ae cF (ki ae e k)->K (bB .u64 (er (hl ae e k))) E):aG P 267 [ad p 0,int k] H K:=by
 refine akt.1 ?_;refine T1 i (JE a s t U l ?_);intro H cF ap n a w f;have g:=bx.bytes u k e;have z:=yE ae e k;generalize hl ae e k=bs at*;have m:=m (cF:=cF);generalize yG ab j p ae e k cF=q at*;refine bg f.aZ (aks (fun k r E=>∃y:Nat,y<=bs.length/\k=bs.length-y/\r=[.int .u64 0,bB .u64 (er (bs.take y)),bB .u64 (256^y%2^64),ap,int bs.length,int y]/\ac E (q++aw ap n)) _ _ ?_ bs.length _ _ ⟨0,U,U,ao,a⟩);rintro k r E ⟨y,F,rfl,rfl,a⟩
 repeat refine aQ ?_
 refine ay (fun h=>?_) (fun h=>?_);have d:y<bs.length:=U
 have l:=g _ (getElem_mem d);obtain⟨cr,ej⟩:=amK g U d;obtain⟨ax,o,c,B,b,rfl,C,I⟩:=(f.gd.app').at d
 repeat refine aQ ?_
 refine bk a B C (v:=.int .u8 bs[y]) a1 ?_;rw[ye l.1];refine bg (qI rfl) ?_;rw[show bs[y].toNat%fw .u64=bs[y].toNat from mod_eq_of_lt (show bs[y].toNat<2^64 by omega)];refine Z (AI rfl) (Z (ph rfl) (Z (AI rfl) ?_));rw[show fw .u64=2^64 from rfl,cr,ej]
 repeat refine aQ ?_
 exact⟨_,U,y+1,U,rfl,rfl,a⟩;have e:y=bs.length:=U
 subst e
 repeat refine qJ ?_
 rw[take_of_length_le (Nat.le_refl _)];exact m _ a.left w
end
section
variable{A B H K L b c ag i n ci o p q v ae bl ab}
section rules
variable[cH]
theorem _root_.Go.Ab.ac.z(h:ac H ab):ac H (ab++[]):=by rw[append_nil];exact h
theorem _root_.Go.Ab.ac.as(h:ac H ((ab++A)++B)):ac H (ab++(A++B)):=by rw[append_assoc]at h;exact h
theorem dA(h:ac H (ab++L))(a:∀p E,ac E (ab++(L++[aa p ag]))->K (ad p 0) E):iO ag H K:=
 b0 h fun p E b=>a p E b.as
theorem cr(h:ac H (ab++L))(k:Nat)(a:L[k]?=some (aa p ag))(b:cS v=true)(c:o<ag.length)(d:∀E,ac E (ab++L.set k (aa p (ag.set o v)))->K undef E):a7 (d9 1 (ad p o) v H) K:=
 cQ h _ (al a) b c rfl fun E e=>d E e.bp
theorem gS(h:ac H (ab++L))(k:Nat)(a:L[k]?=some (aa p ag))(b:ag.length=n)(c:ci.length=n)(d:ci.all cS=true)(e:∀E,ac E (ab++L.set k (aa p ci))->K undef E):a7 (d9 n (ad p 0) (agg ci) H) K:=
 dn h _ (al a) b c d fun E f=>e E f.bp
theorem fI(h:ac H (ab++L))(k:Nat)(a:L[k]?=some (p,⟨ag,b⟩))(c:ag.length=n)(d:0<n)(e:K (agg ag) H):a7 (jo n (ad p 0) H) K:=
 gQ h _ (al a) c d e
theorem Bj(h:ac H (ab++L))(k:Nat)(a:L[k]?=some (aa p ag))(c:ag.length=n)(b:0<n):qr n 1 (ad p 0) none none none H=some (am p 0 n 3):=
 sy h _ (al a) b a1
theorem tS(k:Nat)(a:L[k]?=some (p,⟨aN ae,b⟩))(d:c=2\/c=3)(e:ae.length=n):bx (ab++L) (am p 0 n c) ae:=
 .inr ⟨p,0,c,by rw[e],d,.inr ⟨ab.length+k,_,al a,by simp_all[take_of_length_le]⟩⟩
theorem ET(a:ac H (ab++L))(k:Nat)(b:L[k]?=some (aa q ag))(g:0<n)(d:K (am q o n c) H):a7 (sa (am q o n c) H) K:=by
 have e:=a.at _ (al b) (.inl rfl);refine bg ?_ d;have f:beq n 0=false:=by grind[eq_of_beq_eq_true]
 unfold sa;simp[f,e];have:an.lY H q ⟨ag,true⟩=true:=by unfold an.lY;rw[a.cj];rfl
 rw[this]
theorem tT(h:ac H (ab++(A++B))):ac H (ab++A):=by rw[<- append_assoc]at h;exact h.left
theorem sK(h:ac H (ab++(A++B))):ac H (ab++B):=by rw[<- append_assoc]at h;exact ac.bR h
theorem JF(a:ac H ab)(aB:ab[i]?=some (aa q ag))(b:bx ab v bl)(f:bl.length<=n)(l:o+n<=ag.length)
  (d:∀E,ac E (ab.set i (aa q (ag.take o++(aN bl++ag.drop (o+bl.length)))))->K (int bl.length) E):a7 (nJ 1 (am q o n c) v H) K:=by
 have⟨E,g,ah⟩:=AF a (o:=o) (vs:=aN bl) aB aT (by simp[cS]);unfold nJ;simp only[b.kr];have h:Nat.min bl.length n=bl.length:=Nat.min_eq_left f;rw[h];cases j:beq bl.length 0 with
 | true=>
  have k:=eq_of_beq_eq_true j;have:bl=[]:=length_eq_zero_iff.1 k;subst this;have e:ag.take o++(aN []++ag.drop (o+([]:LI).length))=ag:=a1
  refine bg (rfl) (d H ?_);rw[e,x7 aB];exact a
 | false=>rw[b.l9 a];simp only;rw[g];apply bg (rfl);rw[length_map]at ah;exact d _ ah
end rules
end
section
variable{H K i k key m v w x y ab}
def jh(k:LI):LI:=if 64<k.length then hP k else k
def qY(x:Int)(w:Nat):Int:=((x.toNat ^^^ w:Nat):Int)
def nr(k:LI)(w:Nat):LI:=(range 64).map fun i=>qY ((jh k).getD i 0) w
def ns(k m:LI):LI:=hP (nr k 92++hP (nr k 54++m))
theorem lP:(hP m).length=32:=rfl
theorem yX:∀x∈hP m,0<=x/\x<=255:=by
 intro x b;have⟨a,_,b⟩:=List.mem_flatMap.1 b;unfold yP at b
 grind
theorem JG(k:LI):(jh k).length<=64:=by grind[jh,lP]
theorem Bk(a:∀x∈key,0<=x/\x<=255):∀x∈jh key,0<=x/\x<=255:=by unfold jh;split;exact yX;omega
theorem oP:(nr k w).length=64:=ao
theorem JH(a:x.toNat<256)(b:w<256):0<=qY x w/\qY x w<=255:=by
 have:=xor_lt_two_pow (n:=8) a b
 grind[qY]
theorem yY(a:w<256)(b:∀x∈key,0<=x/\x<=255):∀x∈nr key w,0<=x/\x<=255:=by intro x c;obtain⟨i,_,rfl⟩:=List.mem_map.1 c;exact JH (qU (Bk b) i) a
def wQ(k:LI):LI:=jh k++replicate (64-(jh k).length) 0
theorem EU:(wQ k).length=64:=by simp_all[JG,wQ]
theorem amL:(wQ k).getD i 0=(jh k).getD i 0:=by grind[wQ]
def pp(k:LI)(w y:Nat):LI:=(nr k w).take y++(wQ k).drop y
theorem T3(h:y<=64):(pp k w y).length=64:=by simp_all[pp,oP,EU]
theorem amM(h:y<64):(aN (pp k w y))[y]?=some (.int .u8 ((jh k).getD y 0)):=by
 unfold pp aN;have:(wQ k)[y]?=some ((jh k).getD y 0):=by rw[getElem?_eq_getElem (by grind[EU]),<- amL,getD_eq_getElem?_getD,getElem?_eq_getElem (by grind[EU])];rfl
 grind[oP]
theorem amN(h:y<64):(aN (pp k w y)).set y (.int .u8 (qY ((jh k).getD y 0) w))=aN (pp k w (y+1)):=by
 apply ext_getElem?;intro i;have a:(nr k w)[y]?=some (qY ((jh k).getD y 0) w):=by simp_all[nr]
 rw[getElem?_set];by_cases aB:y=i;subst aB;rw[if_pos rfl,if_pos (by grind[T3])];unfold pp aN;rw[map_append,getElem?_append_left aT];simp[a];rw[if_neg aB];unfold pp aN;rw[map_append,map_append];by_cases b:i<y
 grind
 rw[getElem?_append_right aT,getElem?_append_right aT]
 grind
theorem amO:fF P 101=replicate 64 (bB .u8 0):=ao
theorem T4{m:Nat}(p:m<256)(b:ac H ab)(f:bx ab v key)(g:∀x∈key,0<=x/\x<=255)(r:key.length<=80000000)
  (s:∀E q,ac E (ab++[aa q (aN (nr key m))])->K (am q 0 64 3) E):aG P 255 [v,.int .u8 m] H K:=by
 refine ake.1 ?_;refine cy (fun d E=>∃(ap:Value) (B:LB),d=[ap,.int .u8 m,aA]/\ac E (ab++B)/\bx (ab++B) ap (jh key)) ?_ ?_;refine bg f.aZ (Z go (ay (fun h=>?_) (fun h=>?_)));obtain⟨a,n,c,ah⟩:=f.ha;refine el b (by rw[ah];exact SO _ _ _ _) ?_;rw[<- ah];intro q H b;refine JA (j:=ab.length+0) b (al rfl) f.app g r ?_;intro H b;rw[Bg];refine dA b ?_;intro L H b;refine gS b 1 rfl aW (by simp[lP]) (ge _) ?_;intro H b;refine Z (Bj b 1 rfl (by simp[lP]) U) (⟨_,_,rfl,b,?_⟩);rw[show jh key=hP key from if_pos U];exact tS 1 rfl (.inr rfl) lP;refine⟨v,[],rfl,b.z,?_⟩;rw[show jh key=key from if_neg U];exact f.app;rintro d H ⟨ap,B,rfl,b,t⟩
 try simp only[c1,c2]
 rw[amO];refine b0 b ?_;intro i H b;have l:=JG key;refine Z (sy b ((ab++B).length+0) (al rfl) U aW) (JF b (al (k:=0) rfl) t.app l aW ?_);intro H b
 replace b:=b.bp
 have u:((replicate 64 (bB .u8 0)).take 0++(aN (jh key)++(replicate 64 (bB .u8 0)).drop (0+(jh key).length)))=aN (pp key m 0):=by rw[Nat.zero_add,drop_replicate];simp only[pp,wQ,take_zero,nil_append,drop_zero,aN,map_append,map_replicate];rfl
 rw[u]at b
 replace b:=ac.bR b
 refine akd (fun k d E=>∃(y:Nat),y<=64/\k=64-y/\d=[.int .u8 m,aA,ad i 0,int y]/\ac E (ab++[aa i (aN (pp key m y))])) _ _ ?_ 64 _ _ ⟨0,U,U,rfl,b⟩;rintro k d H ⟨y,o,rfl,rfl,b⟩;unfold SB;refine ul ?_
 try simp only[c1,c2]
 refine Z cV (ay (fun h=>?_) (fun h=>?_));have o:y<64:=U
 have C:=qU (Bk g) y
 repeat refine aQ ?_
 refine aD b (by rw[show 0+(y:Int).toNat*1=y by omega];exact amM o) ?_;have F:Value.int .u8 ((jh key).getD y 0)=bB .u8 ((jh key).getD y 0).toNat:=by refine ye ?_;rw[getD_eq_getElem?_getD];by_cases aB:y<(jh key).length;rw[getElem?_eq_getElem aB];exact(Bk g _ (getElem_mem aB)).1;rw[getElem?_eq_none U];decide
 rw[F];refine Z (lc rfl C p) ?_
 repeat refine aQ ?_
 refine cr b 0 rfl rfl (by simp[T3 U];omega) ?_;intro H b
 repeat refine aQ ?_
 refine⟨_,?_,y+1,U,rfl,rfl,?_⟩;omega;have I:=amN (k:=key) (w:=m) o;rw[show 0+(y:Int).toNat*1=y by omega]at b;have b:ac H (ab++[aa i ((aN (pp key m y)).set y (.int .u8 (qY ((jh key).getD y 0) m)))]):=b;rw[I]at b;exact b;have e:y=64:=U
 subst e;have J:pp key m 64=nr key m:=by unfold pp;rw[take_of_length_le (by rw[oP];omega),drop_of_length_le (by rw[EU];omega),append_nil]
 rw[J]at b
 repeat refine qJ ?_
 exact Z (Bj b 0 rfl (by simp[oP]) U) (s _ _ b)
end
section
variable{H K a b c key ms q v cF x ae y bl ab}{j:Nat}
theorem amP(a:ac H ab)(g:ab[j]?=some (aa q [v,cF]))(m:bx ab v ae)(f:bx ab cF bl)(i:∀x∈ae,0<=x/\x<=255)(e:∀x∈bl,0<=x/\x<=255)(p:ae.length<=8000000)(n:bl.length<=8000000)
  (o:∀E,ac E ab->K (agg (aN (hP (ae++bl)))) E):aG P 204 [am q 0 2 3] H K:=by
 refine Sb.1 ?_;refine b0 a ?_;intro ax H a;refine EO a ?_;intro H d a;have b:j7 d [] (lu d (mA []) aA ([]:LI).length []):=⟨aA,[],rfl,.inl ⟨rfl,rfl,rfl⟩⟩;refine bg pQ ?_;generalize (lu d (mA []) aA ([]:LI).length [])=L at*;refine Sa (fun k l E=>∃(y:Nat) (L:LB),y<=2/\k=2-y/\l=[ad ax 0,ad d 0,am q 0 2 3,int 2,int y]/\ac E ((ab++[aa ax (replicate 32 (bB .u8 0))])++L)/\j7 d ([ae,bl].take y).flatten L) _ _ ?_ 2 _ _ ⟨0,L,U,rfl,rfl,a,b⟩;rintro k l H ⟨y,L,r,rfl,rfl,a,b⟩;unfold IY;refine ul ?_;refine Z cV (ay (fun h=>?_) (fun h=>?_));have c:y=0\/y=1:=U
 rcases c with rfl|rfl
 refine Z (ez U U) (bk a j (ak (ak g)) rfl (tQ a b m.app a1 i aW U ?_));intro H L a b
 repeat refine aQ ?_
 exact⟨1,U,1,L,U,rfl,rfl,a,by simpa using b⟩;refine Z (ez U U) (bk a j (ak (ak g)) rfl (tQ a b f.app a1 e aT U ?_));intro H L a b
 repeat refine aQ ?_
 exact⟨0,U,2,L,U,rfl,rfl,a,by simpa using b⟩;have c:y=2:=U
 subst c
 replace b:j7 d (ae++bl) L:=by simpa using b
 refine iR rfl ?_
 try simp only[c1,c2]
 refine EQ a b (kP i e) aT ?_;intro H a;refine kx a (ab.length+0) (ak (al rfl)) rfl (show 0+32<=32 by omega) ao ?_;intro H a;rw[set_append_left _ _ aW,Go.Ab.bp]at a;exact fe a (ab.length+0) (ak (al rfl)) (rfl) rfl U (o H a.left.left)
theorem amQ(a:ac H ab)(l:bx ab v key)(s:ab[j]?=some (aa q [x]))(t:bx ab x ms)(e:∀x∈key,0<=x/\x<=255)(n:∀x∈ms,0<=x/\x<=255)(o:key.length<=80000000)(u:ms.length<=8000000)
  (w:∀E,ac E ab->K (agg (aN (ns key ms))) E):aG P 231 [v,am q 0 1 c] H K:=by
 refine ajP.1 ?_;rw[Bg];refine b0 a ?_;intro p H a;refine EO a ?_;intro H f a;have b:j7 f [] (lu f (mA []) aA ([]:LI).length []):=⟨aA,[],rfl,.inl ⟨rfl,rfl,rfl⟩⟩;generalize (lu f (mA []) aA ([]:LI).length [])=L at*;refine T4 (m:=54) U a l.app.app e o ?_;intro H bO a;have i:=Bh a;refine tQ i b (tS 0 rfl (.inr rfl) oP) a1 (yY U e) aW (by rw[oP];omega) ?_;intro H L a b
 replace b:=b
 replace a:=EP a
 refine bg pQ (ajO (fun k r E=>∃(y:Nat) (L:LB),y<=1/\k=1-y/\r=[v,ad p 0,ad f 0,am q 0 1 c,int 1,int y]/\ac E ((ab++[aa p (replicate 32 (bB .u8 0))])++L)/\j7 f (nr key 54++([ms].take y).flatten) L) _ _ ?_ 1 _ _ ⟨0,L,U,rfl,rfl,a,by simpa using b⟩);rintro k r H ⟨y,L,z,rfl,rfl,a,b⟩;unfold Sq;refine ul ?_
 try simp only[c1,c2]
 refine Z cV (ay (fun h=>?_) (fun h=>?_));have d:y=0:=U
 subst d;refine Z (ez U U) (bk a j (ak (ak s)) rfl (tQ a b t.app (by simpa using yY U e) n (by simp[oP]) U ?_));intro H L a b
 repeat refine aQ ?_
 exact⟨0,U,1,L,U,rfl,rfl,a,by simpa using b⟩;have d:y=1:=U
 subst d
 replace b:j7 f (nr key 54++ms) L:=by simpa using b
 refine iR rfl ?_
 try simp only[c1,c2]
 refine EQ a b (kP (yY U e) n) (by grind[oP]) ?_;intro H a
 replace a:=a.left
 refine dA a ?_;intro B H a;refine gS a 1 rfl aW ao (ge _) ?_;intro C g;refine T4 (m:=92) U g l.app e o ?_;intro H q2 a;refine Z (sy a (ab.length+1) (ak (al rfl)) U (by simp[lP])) (⟨gw g (ab.length+1) (al rfl) a (ab.length+1) (ak (al rfl)) (sD _),?_⟩);refine el a (akR _ _ _ _ _ _ _) ?_;intro F H a
 replace a:=a.as.as
 refine amP (j:=ab.length+3) a (al rfl) (tS 2 rfl (.inr rfl) oP) (tS 1 rfl (.inr rfl) lP) (yY U e) yX (by rw[oP];omega) (by rw[lP];omega) ?_;intro H a;refine gS a 0 rfl aW ao (ge _) ?_;intro H a;exact fI a 0 rfl ao U (w H a.left)
theorem amR:a ^^^ b=0↔a=b:=by
 constructor;intro h;apply eq_of_testBit_eq;intro i;have:=congrArg (·.testBit i) h
 grind
 simp_all
theorem amS{a:LI}{b:LI}(c:y<a.length)(d:y<b.length):a.take (y+1)=b.take (y+1)↔a.take y=b.take y/\a[y]=b[y]:=by grind[take_succ_eq_append_getElem,append_inj]
theorem amT(s:a.length=32)(t:b.length=32)(j:∀x∈a,0<=x/\x<=255)(l:∀x∈b,0<=x/\x<=255)(c:ac H ab)
  (m:∀E,ac E ab->K (.bool (decide (a=b))) E):aG P 230 [agg (aN a),agg (aN b)] H K:=by
 refine ajN.1 ?_;refine dA c.z ?_;intro ax H c;refine dA c ?_;intro f H c
 replace c:ac H (ab++[aa ax (aN a),aa f (aN b)]):=c
 refine ajM (fun k g E=>∃(y d:Nat),y<=32/\k=32-y/\g=[ad ax 0,ad f 0,.bool false,bB .u8 d,int y]/\E=H/\d<256/\(d=0↔a.take y=b.take y)) _ _ ?_ 32 _ _ ⟨0,0,U,U,rfl,rfl,U,aW⟩;rintro k g E ⟨y,d,o,rfl,rfl,rfl,p,aB⟩;unfold So;refine ul ?_
 try simp only[c1,c2]
 refine Z cV (ay (fun h=>?_) (fun h=>?_));have o:y<32:=U
 have q:=j _ (getElem_mem (show y<a.length by omega));have r:=l _ (getElem_mem (show y<b.length by omega))
 repeat refine aQ ?_
 refine aD c (v:=.int .u8 a[y]) a1 ?_
 repeat refine aQ ?_
 refine aD c (v:=.int .u8 b[y]) a1 ?_;rw[ye q.1,ye r.1];have i:a[y].toNat ^^^ b[y].toNat<256:=xor_lt_two_pow (n:=8) U U;refine Z (lc rfl (show _<256 by omega) (show _<256 by omega)) (Z (wC rfl (show _<256 by omega) (show _<256 from i)) ?_)
 repeat refine aQ ?_
 refine⟨_,?_,y+1,_,U,rfl,rfl,rfl,or_lt_two_pow (n:=8) p i,?_⟩;omega
 grind[amR,amS]
 have e:y=32:=U
 subst e;rw[take_of_length_le U,take_of_length_le U]at aB;refine iR rfl ?_
 try simp only[c1,c2]
 refine Z (DY) ?_;have:=m _ c.left;rw[decide_eq_decide.2 aB];exact this
end
section
variable{H K k key ms v w x y ab}
theorem T5(h:y<64):(nr k w).take (y+1)=(nr k w).take y++[qY ((jh k).getD y 0) w]:=by simp_all[take_succ_eq_append_getElem,nr]
theorem amU(a:ac H ab)(p:bx ab v key)(q:bx ab x ms)(j:∀x∈key,0<=x/\x<=255)(I:∀x∈ms,0<=x/\x<=255)(J:key.length<=80000000)(L:ms.length<=8000000)
  (r:∀E,ac E ab->K (agg (aN (ns key ms))) E):aG P 210 [v,x] H K:=by
 refine ajq.1 ?_;rw[Bg];refine b0 a ?_;intro c H a;refine cy (fun f E=>∃(ap:Value) (B:LB),f=[ap,x,ad c 0]/\ac E ((ab++B)++[aa c (replicate 32 (bB .u8 0))])/\bx (ab++B) ap (jh key)) ?_ ?_;refine bg p.aZ (Z go (ay (fun h=>?_) (fun h=>?_)));refine vf a p.app j J ?_;intro H a;refine dA a ?_;intro t H a;refine gS a 1 rfl aW ao (ge _) ?_;intro H a;refine Z (Bj a 1 rfl ao U) ?_
 replace a:ac H (ab++([aa c (replicate 32 (bB .u8 0))]++[aa t (aN (hP key))])):=a
 rw[<- append_assoc]at a;refine⟨_,_,rfl,a.je,?_⟩;rw[show jh key=hP key from if_pos U];exact tS 0 rfl (.inr rfl) lP;refine⟨v,[],rfl,by rw[append_nil];exact a,?_⟩;rw[show jh key=key from if_neg U];exact p.app;rintro f H ⟨ap,B,rfl,a,u⟩
 try simp only[c1,c2]
 replace q:=q.app (bL:=B)
 replace r:∀E,ac E (ab++B)->K (agg (aN (ns key ms))) E:=fun E h=>r E h.left
 generalize ab++B=ab at*;have M:=JG key;refine el a (rO _) ?_;intro bO H a;refine el a (rO _) ?_;intro q2 H a;refine ajp (fun k f E=>∃(y:Nat) (g d:Value) (l i:aj),y<=64/\k=64-y/\f=[ap,x,ad c 0,g,d,int y]/\ac E (((ab++[aa c (replicate 32 (bB .u8 0))])++aw g l)++aw d i)/\dm g ((nr key 54).take y) l/\dm d ((nr key 92).take y) i) _ _ ?_ 64 _ _
  ⟨0,am bO 0 0 3,am q2 0 0 3,[],[],U,U,rfl,a,.inr ⟨bO,.inr ⟨rfl,rfl⟩,rfl,zero_le _,rfl⟩,.inr ⟨q2,.inr ⟨rfl,rfl⟩,rfl,zero_le _,rfl⟩⟩
 rintro k f H ⟨y,g,d,l,i,s,rfl,rfl,a,bP,cP⟩;unfold Se;refine ul ?_
 try simp only[c1,c2]
 refine Z cV (ay (fun h=>?_) (fun h=>?_));have s:y<64:=U
 have m:=qU (Bk j) y;refine cy (fun f E=>f=[ap,x,ad c 0,g,d,int y,bB .u8 ((jh key).getD y 0).toNat]/\E=H) ?_ ?_;refine bg u.aZ (Z cV (ay (fun h=>?_) (fun h=>?_)));exact sH a u.app.app.app (Bk j) rfl U (⟨rfl,rfl⟩);refine⟨?_,rfl⟩
 simp_all
 rintro f E ⟨rfl,rfl⟩
 try simp only[c1,c2]
 have N:=JH m U;have S:=JH m U;refine Z (lc (b:=54) rfl m (show _<256 by omega)) (el a (AZ _ _ _) ?_);intro w H a
 replace a:ac H (((ab++[aa c (replicate 32 (bB .u8 0))])++aw g l++aw d i)++[aa w (aN [qY ((jh key).getD y 0) 54])]):=a
 replace a:ac H (((ab++[aa c (replicate 32 (bB .u8 0))])++aw d i++aw g l)++[aa w (aN [qY ((jh key).getD y 0) 54])]):=a.cf (by classical exact perm_iff_count.2 fun _=>aT)
 refine rI a bP aT rfl (.inr rfl) ?_;intro H n o a fN;rw[<- T5 s]at fN;refine Z (lc (k:=.u8) (b:=92) rfl m (show _<256 by omega)) (el a (AZ _ _ _) ?_);intro z H a
 replace a:ac H (((ab++[aa c (replicate 32 (bB .u8 0))])++aw d i++aw n o)++[aa z (aN [qY ((jh key).getD y 0) 92])]):=a
 replace a:ac H (((ab++[aa c (replicate 32 (bB .u8 0))])++aw n o++aw d i)++[aa z (aN [qY ((jh key).getD y 0) 92])]):=a.cf (by classical exact perm_iff_count.2 fun _=>aT)
 refine rI a cP aT rfl (.inr rfl) ?_;intro H C F a eN;rw[<- T5 s]at eN
 repeat refine aQ ?_
 exact⟨64-(y+1),U,y+1,n,C,o,F,U,rfl,rfl,a,fN,eN⟩;have e:y=64:=U
 subst e;rw[take_of_length_le (by rw[oP];omega)]at bP cP;refine iR rfl ?_
 try simp only[c1,c2]
 replace a:=a.je
 refine oL a bP q.app.app (by rw[oP];omega) ?_;intro H n o a fN;refine vf a fN.gd.app' (kP (yY U j) I) (by grind[oP]) ?_;intro H a
 replace a:=a.left
 refine b0 a ?_;intro t H a;refine dn a (_+0) (al rfl) aW ao (ge _) ?_;intro H a
 replace a:=a.bp
 refine Z (sy a (_+0) (al rfl) U (by simp[lP])) (rI (bl:=hP (nr key 54++ms)) a cP (by simp[oP,lP]) ao (.inr rfl) ?_);intro H C F a eN;refine vf a eN.gd.app' (kP (yY U j) yX) (by simp[oP,lP]) ?_;intro H a
 replace a:=a.left
 refine gS a 0 rfl aW ao (ge _) ?_;intro H a;exact fI a 0 rfl ao U (r H a.left)
end
section
variable{H eR dF Bl i k l len m iv ax jw size ab}{n:Nat}
abbrev a6(l:List UInt8):Value:=.string ⟨l.toArray⟩
theorem yZ:wu (a6 l) H=some (int l.length,H):=by show some (Value.int .i64 (Int.ofNat (e6 l)),H)=_;rw[f0];rfl
theorem T6(a:0<=i)(b:i<l.length):zM (a6 l) (.int k i)=some (bB .u8 (l.getD i.toNat 0).toNat):=by show(match hq 0 i with|true=>(lW l i.toNat).map r9|false=>none)=_;rw[i0,decide_eq_true a];simp only[ru];rw[getD_eq_getElem?_getD,getElem?_eq_getElem U];rfl
theorem JI(h:n<=len):lC len (some (int (n:Int)))=some n:=by
 show(match hq 0 (n:Int)with|true=>(match ble (n:Int).toNat len with|true=>some (n:Int).toNat|false=>none)|false=>none)=_
 simp_all[i0,ble_eq_true_of_le]
theorem JJ(h:n<=l.length):zL (a6 l) none (some (int n)) none=some (a6 (l.take n)):=by
 show(match lC (e6 l) (some (int n))with|some h=>(match mo h none with|some i=>some (Value.string ⟨(m3 (nI l i) (h-i)).toArray⟩)|none=>none)|none=>none)=_
 simp_all[JI,f0,mo,kH,lk]
theorem amV(h:n<=l.length):zL (a6 l) (some (int n)) none none=some (a6 (l.drop n)):=by
 show(match lC (e6 l) none with|some h=>(match mo h (some (int n))with|some i=>some (Value.string ⟨(m3 (nI l i) (h-i)).toArray⟩)|none=>none)|none=>none)=_
 simp_all[f0,lC,EN,kH,lk,take_of_length_le]
theorem T7(t:TypeId)(c:Bool):(cz P .eql t c).f (a6 l) (a6 m)=some (.bool (l==m)):=rfl
theorem amW(t:TypeId)(c:Bool):(cz P .neq t c).f (a6 l) (a6 m)=some (.bool (!(l==m))):=rfl
def fc(l:List UInt8)(i:Nat):Nat:=(l.getD i 0).toNat
theorem qZ(l:List UInt8)(i:Nat):fc l i<256:=(l.getD i 0).toNat_lt
def rA(c:Nat):Prop:=128<=c/\c<=191
instance (c:Nat):Decidable (rA c):=by unfold rA;exact inferInstance
def kR(l:List UInt8)(iv:Nat):Nat->Nat
 | 0=>iv
 | y+1=>64*kR l iv y+fc l (y+1)-128
def p3(l:List UInt8):Nat->Bool
 | 0=>true
 | y+1=>p3 l y&&decide (rA (fc l (y+1)))
def nW(l:List UInt8)(size iv pq:Nat):Option (Nat×Nat):=
 if l.length<size then none else if p3 l (size-1)=true then
  (if kR l iv (size-1)<pq\/kR l iv (size-1)>1114111\/(55296<=kR l iv (size-1)/\kR l iv (size-1)<=57343)then none else some (kR l iv (size-1),size))
 else none
def eN(l:List UInt8):Option (Nat×Nat):=
 if fc l 0<128 then some (fc l 0,1)
 else if 194<=fc l 0/\fc l 0<224 then nW l 2 (fc l 0-192) 128
 else if 224<=fc l 0/\fc l 0<240 then nW l 3 (fc l 0-224) 2048
 else if 240<=fc l 0/\fc l 0<245 then nW l 4 (fc l 0-240) 65536
 else none
def lQ(l:List UInt8):aj:=match eN l with
 | none=>[int (fc l 0),a6 (l.take 1),.bool true]
 | some r=>[int r.1,a6 (l.take r.2),.bool false]
theorem JK:fF P 276=[int 0,a6 [],.bool false]:=ao
theorem JL(n:Int)(s:ByteArray)(b:Bool):(eg P 276).f [(0,int n),(1,.string s),(2,.bool b)]=some (agg [int n,.string s,.bool b]):=ao
theorem T8(h:iv<32):∀y,y<=3->kR l iv y<64^y*64:=by
 intro y a
 match y,a with
 | 0,_=>grind[kR]
 | 1,_=>grind[qZ,kR]
 | 2,_=>grind[qZ,kR]
 | 3,_=>grind[qZ,kR]
theorem amX(y:Nat)(h:p3 l (y+1)=true):128<=64*kR l iv y+fc l (y+1):=by
 have:rA (fc l (y+1)):=by have h:(p3 l y&&decide (rA (fc l (y+1))))=true:=h;rw[Bool.and_eq_true]at h;exact of_decide_eq_true h.2
 have:=this.1;omega
theorem amY{iv:Nat}{pq:Nat}(a:Bl.length=3)(c:Bl.all cS=true)(d:iv<32)(n:2<=size)(ah:size<=4)(w:size<=l.length)
  (m:ac H (ab++[aa ax [int 0,a6 [],.bool false],aa jw Bl]))
  (f:p3 l (size-1)=true->dF 1 [a6 l,ad ax 0,ad jw 0,int size,int (kR l iv (size-1)),int pq] H)
  (g:p3 l (size-1)=false->∀E bN,ac E (ab++[aa ax Bl,aa jw Bl])->bS bN 1=ad ax 0->eR bN E):
  i7 P true 98 IZ 245 [a6 l,ad ax 0,ad jw 0,int size,int iv,int pq,int 1] H dF eR:=by
 refine ajs (fun k bN E=>∃(y:Nat),y+1<=size/\k=size-y/\bN=[a6 l,ad ax 0,ad jw 0,int size,int (kR l iv y),int pq,int ((y+1:Nat):Int)]/\H=E/\p3 l y=true) _ _ ?_ size _ _ ⟨0,U,U,rfl,rfl,rfl⟩;rintro k bN E ⟨y,o,rfl,rfl,rfl,p⟩;unfold Sf;refine ul ?_
 try simp only[c1,c2]
 refine Z cV (ay (fun h=>?_) (fun h=>?_));have o:y+1<size:=U
 have q:=qZ l (y+1);have r:=T8 (l:=l) d y U;have s:64^y<=64^3:=Nat.pow_le_pow_right U U;refine Z (T6 U U) ?_;rw[Int.toNat_natCast];refine bg (rH (by grind[fc])) ?_;rw[show(l.getD (y+1) 0).toNat=fc l (y+1)from rfl];by_cases t:rA (fc l (y+1));have b:p3 l (y+1)=true:=by grind[p3]
 have u:=amX (iv:=iv) y b;obtain⟨x,B⟩:=t;refine cy (fun bN E=>bN=[a6 l,ad ax 0,ad jw 0,int size,int (kR l iv y),int pq,int ((y+1:Nat):Int),int (fc l (y+1)),.bool false]/\H=E) ?_ ?_
 repeat (first|refine aQ ?_|refine nl ?_)
 exact⟨aT,ao⟩;rintro bN E ⟨rfl,rfl⟩
 try simp only[c1,c2]
 refine cT rfl (Z (su U U) ?_)
 repeat refine aQ ?_
 refine⟨size-(y+1),U,y+1,U,rfl,?_,a1,b⟩
 grind[kR]
 have i:p3 l (size-1)=false:=by
  have:∀z,y+1<=z->p3 l z=false:=by
   intro z C;induction z with
   | zero=>omega
   | succ z F=>
    show(p3 l z&&decide (rA (fc l (z+1))))=false
    grind
  grind
 refine cy (fun bN E=>bN=[a6 l,ad ax 0,ad jw 0,int size,int (kR l iv y),int pq,int ((y+1:Nat):Int),int (fc l (y+1)),.bool true]/\H=E) ?_ ?_;refine Z cV (ay (fun v=>?_) (fun v=>?_))
 repeat refine aQ ?_
 exact⟨ao,ao⟩
 repeat refine aQ ?_
 refine⟨?_,ao⟩
 grind[rA]
 rintro bN E ⟨rfl,rfl⟩
 try simp only[c1,c2]
 refine dz rfl (fI m 1 rfl a U (gS m 0 rfl rfl a c ?_));intro I j;exact g i _ _ j rfl;have e:y=size-1:=U
 subst e;exact f p
end
section
variable{H K l pq iv r size ab}
theorem JM(l:List UInt8):(lQ l).all cS=true/\(lQ l).length=3:=by unfold lQ;split<;>exact⟨rfl,rfl⟩
theorem tU(h:nW l size iv pq=some r):size<=l.length/\r.2=size:=by grind[nW]
theorem JN(h:eN l=some r)(a:l≠[]):1<=r.2/\r.2<=4/\r.2<=l.length:=by
 have a:=length_pos_iff.2 a;unfold eN at h;split at h
 grind
 split at h;have⟨b,c⟩:=tU h;omega;split at h;have⟨b,c⟩:=tU h;omega;split at h;have⟨b,c⟩:=tU h;omega;cases h
theorem amZ(p:l≠[])(b:ac H ab)(j:∀E,ac E ab->K (agg (lQ l)) E):aG P 212 [a6 l] H K:=by
 refine ajt.1 ?_;have q:0<l.length:=length_pos_iff.2 p;have y:=qZ l 0;rw[JK];refine dA b.z ?_;intro ax H b;refine Z (T6 U U) ?_;rw[show(l.getD (0:Int).toNat 0).toNat=fc l 0 from rfl];refine bg (rH (k:=.u8) U) (Z (JJ (n:=1) U) (Z (JL _ _ _) (dA b ?_)));intro g H b;refine gS b 1 rfl rfl rfl rfl ?_;intro H b
 replace b:ac H (ab++[aa ax [int 0,a6 [],.bool false],aa g [int (fc l 0),a6 (l.take 1),.bool true]]):=b
 by_cases r:fc l 0<128
 repeat (first|refine aQ ?_|refine oM ?_)
 refine Z (JJ (n:=1) U) (Z (JL _ _ _) (gS b 0 rfl rfl rfl rfl ?_));intro H b;refine fI b 0 rfl rfl U ?_;have:=j _ b.left;unfold lQ at this;rw[show eN l=some (fc l 0,1)from if_pos r]at this;exact this;have e:eN l=none->∀H (m:LB),ac H (ab++m)->K (agg [int (fc l 0),a6 (l.take 1),.bool true]) H:=fun h H m b=>by have:=j _ b.left;unfold lQ at this;rw[h]at this;exact this
 refine Z cV (ix U (cy (fun d E=>∃(a f c:Nat),d=[a6 l,ad ax 0,ad g 0,int a,int f,int c]/\H=E/\f<32/\2<=a/\a<=4/\eN l=nW l a f c) ?_ ?_));by_cases B:194<=fc l 0/\fc l 0<224;refine sv ?_
 repeat (first|refine aQ ?_|refine oM ?_)
 try simp only[c1,c2]
 refine⟨2,fc l 0-192,128,aT,a1,U,U,U,?_⟩
 simp_all[eN,if_neg]
 by_cases C:224<=fc l 0/\fc l 0<240;refine cy (fun d E=>d=[a6 l,ad ax 0,int (fc l 0),ad g 0,int 0,int 0,int 0,.bool false]/\H=E) ?_ ?_
 repeat (first|refine aQ ?_|refine oM ?_)
 exact⟨aT,ao⟩;rintro d E ⟨rfl,rfl⟩
 try simp only[c1,c2]
 refine cT rfl (sv ?_)
 repeat (first|refine aQ ?_|refine oM ?_)
 try simp only[c1,c2]
 refine⟨3,fc l 0-224,2048,aT,a1,U,U,U,?_⟩
 simp_all[eN,if_neg]
 refine cy (fun d E=>d=[a6 l,ad ax 0,int (fc l 0),ad g 0,int 0,int 0,int 0,.bool false]/\H=E) ?_ ?_;refine Z kM (ay (fun i=>?_) (fun i=>?_))
 repeat refine aQ ?_
 exact⟨aT,ao⟩
 repeat refine aQ ?_
 exact⟨ao,ao⟩;rintro d E ⟨rfl,rfl⟩
 try simp only[c1,c2]
 refine cT rfl (cy (fun d E=>d=[a6 l,ad ax 0,int (fc l 0),ad g 0,int 0,int 0,int 0,.bool false]/\H=E) ?_ ?_);refine Z kM (ay (fun i=>?_) (fun i=>?_))
 repeat refine aQ ?_
 exact⟨aT,ao⟩
 repeat refine aQ ?_
 exact⟨ao,ao⟩;rintro d E ⟨rfl,rfl⟩
 try simp only[c1,c2]
 refine cT rfl ?_;by_cases F:240<=fc l 0/\fc l 0<245;refine sv ?_
 repeat (first|refine aQ ?_|refine oM ?_)
 try simp only[c1,c2]
 refine⟨4,fc l 0-240,65536,aT,a1,U,U,U,?_⟩
 simp_all[eN,if_neg]
 have s:eN l=none:=by simp_all[eN,if_neg]
 refine cy (fun d E=>d=[a6 l,ad ax 0,int (fc l 0),ad g 0,int 0,int 0,int 0,.bool false]/\H=E) ?_ ?_;refine Z kM (ay (fun i=>?_) (fun i=>?_))
 repeat refine aQ ?_
 exact⟨aT,ao⟩
 repeat refine aQ ?_
 exact⟨ao,ao⟩;rintro d E ⟨rfl,rfl⟩
 try simp only[c1,c2]
 refine cT rfl (fI b 1 rfl rfl U (gS b 0 rfl rfl rfl rfl ?_));intro H b;exact fI b 0 rfl rfl U (e s _ _ b);rintro d E ⟨a,f,c,rfl,rfl,o,t,u,g4⟩
 try simp only[c1,c2]
 refine bg yZ (Z cV (ay (fun h=>?_) (fun h=>?_)));refine fI b 1 rfl rfl U (gS b 0 rfl rfl rfl rfl ?_);intro H b;refine fI b 0 rfl rfl U (e ?_ _ _ b);rw[g4];unfold nW
 simp_all
 refine amY rfl rfl o t u U b ?_ ?_;intro v;refine iR rfl ?_;have w:=T8 (l:=l) o (a-1) U;have ah:eN l=if kR l f (a-1)<c\/kR l f (a-1)>1114111\/(55296<=kR l f (a-1)/\kR l f (a-1)<=57343)then none else some (kR l f (a-1),a):=by
  rw[g4];unfold nW
  grind
 generalize kR l f (a-1)=N at*
 try simp only[c1,c2]
 refine cy (fun d E=>d=[a6 l,ad ax 0,ad g 0,int a,int N,.bool (decide (N<c\/N>1114111\/(55296<=N/\N<=57343)))]/\H=E) ?_ ?_;by_cases I:N<c
 repeat (first|refine aQ ?_|refine oM ?_)
 exact⟨a1,ao⟩;by_cases J:N>1114111
 repeat (first|refine aQ ?_|refine oM ?_|refine nl ?_)
 exact⟨a1,ao⟩;by_cases z3:55296<=N
 repeat (first|refine aQ ?_|refine oM ?_|refine nl ?_)
 exact⟨aT,ao⟩
 repeat (first|refine aQ ?_|refine nl ?_)
 exact⟨aT,ao⟩;rintro d E ⟨rfl,rfl⟩
 try simp only[c1,c2]
 refine ay (fun z=>?_) (fun z=>?_);refine fI b 1 rfl rfl U (gS b 0 rfl rfl rfl rfl ?_);intro H b;exact fI b 0 rfl rfl U (e a1 _ _ b);refine Z (JJ U) (Z (JL _ _ _) (gS b 0 rfl rfl rfl rfl ?_));intro H b;refine fI b 0 rfl rfl U ?_;have:=j _ b.left;unfold lQ at this;rw[ah,if_neg z]at this;exact this;intro v H d b x;rw[x];refine fI b 0 rfl rfl U (e ?_ _ _ b)
 simp_all[nW]
end
section
variable{H K i l n ab}
def nt(l:List UInt8):Nat:=match eN l with
 | none=>1
 | some r=>r.2
def pr:Nat->List UInt8->List (List UInt8)
 | 0,_=>[]
 | n+1,l=>if l=[]then []else l::pr n (l.drop (nt l))
def oQ(l:List UInt8):List (List UInt8):=pr l.length l
theorem EV(a:l≠[]):1<=nt l/\nt l<=l.length:=by
 unfold nt;split
 grind
 grind[JN]
theorem T9:∀(n:Nat) (l:List UInt8),(pr n l).length<=n
 | 0,_=>zero_le _
 | n+1,l=>by
  unfold pr;split
  simp_all
  simp_all[T9]
theorem am0(l:List UInt8):(lQ l)[1]?=some (a6 (l.take (nt l))):=by grind[lQ,nt]
theorem am1(a b c:Value)(H:an):(gY P 273 1).f [(0,agg [a,b,c])] H=some (am H.next 0 1 7,H.push [a,b,c]):=ao
theorem am2(H:an):(gY P 273 0).f [] H=some (am H.next 0 0 7,H.push []):=ao
theorem am3{l:aj}(h:l.length=3):∃a b c,l=[a,b,c]:=by
 match l,h with
 | [a,b,c],_=>simp_all
abbrev mD(ds:List (List UInt8)):aj:=ds.flatMap lQ
theorem Ua(t:l.length<=1000000)(a:ac H ab)(g:∀E v,ac E (ab++aw v (mD (oQ l)))->dK 3 v (oQ l).length (mD (oQ l))->K v E):aG P 155 [a6 l] H K:=by
 refine aiE.1 ?_;refine el a (am2 _) ?_;intro q H a;refine aiD (fun k h E=>∃(r:List UInt8) (b:List (List UInt8)) (v:Value),r.length<=k/\b.length+k<=l.length/\oQ l=b++pr k r/\h=[a6 r,aA,v]/\ac E (ab++aw v (mD b))/\dK 3 v b.length (mD b)) _ _ ?_ l.length _ _ ⟨l,[],am q 0 0 7,Nat.le_refl _,aW,rfl,rfl,a,.inr ⟨q,.inr rfl,rfl⟩⟩;rintro k h H ⟨r,b,v,u,w,e,rfl,a,i⟩;unfold RU;refine ul ?_;refine Z (rfl) ?_;by_cases c:r=[];subst c;refine cT rfl (iR rfl ?_);have o:pr k []=[]:=by cases k<;>rfl
 rw[o,append_nil]at e;rw[e]at g;exact g H v a i;have p:(r== [])=false:=by cases r<;>first|rfl|exact absurd rfl c
 rw[p];refine dz rfl (amZ c a ?_);intro H a;obtain⟨j,d⟩:=JM r;refine b0 a ?_;intro m H a;refine dn a (_+0) (al rfl) rfl d j ?_;intro H a
 replace a:=a.bp
 replace a:ac H ((ab++aw v (mD b))++[aa m (lQ r)]):=a
 refine bK a d U ?_;obtain⟨pi,fc,cc,n⟩:=am3 d;refine el a (by rw[n];exact am1 _ _ _ _) ?_;rw[<- n];intro q2 H a
 replace a:ac H (((ab++[aa m (lQ r)])++aw v (mD b))++[aa q2 (lQ r)]):=a.cf (by classical exact perm_iff_count.2 fun _=>by simp only[count_append,count_nil,set_cons_zero];omega)
 refine qQ a i d U j U U ?_;intro s H a f;obtain⟨aM,ca⟩:=EV c;refine Z bj (aD a (am0 r) (bg yZ ?_));rw[length_take,Nat.min_eq_left ca];refine Z (amV ca) ?_;cases k with
 | zero=>omega
 | succ k=>
  refine⟨k,lt_succ_self _,r.drop (nt r),b++[r],s,?_,?_,?_,rfl,?_,?_⟩;rw[length_drop];omega;rw[length_append];simp;omega;rw[e];show b++(if r=[]then []else r::pr k (r.drop (nt r)))=_;rw[if_neg c];simp
  replace a:=ac.bR a
  simpa using a;simpa using f
def q0(l:List UInt8)(first:Bool):Bool:=match eN l with
 | none=>false
 | some r=>Go.Lib.isLetterU r.1||(!first&&(Go.Lib.isDigitU r.1||(l.take r.2== [45]||(l.take r.2== [95]||l.take r.2== [46]))))
def EW(l:List UInt8):Bool:=match eN l with
 | none=>false
 | some r=>Go.Lib.isLetterU r.1
def q1:Nat->List (List UInt8)->Bool
 | _,[]=>true
 | i,r::ds=>q0 r (i==0)&&q1 (i+1) ds
def Bm(l:List UInt8):Int:=if(oQ l).length=0\/(oQ l).length>24 then 41 else if q1 0 (oQ l)=true then 0 else 41
theorem Ub(a:0<=n)(b:n<2147483648):fd .i32 (int n) H=some (.int .i32 n,H):=by
 show some (Value.int .i32 (hk .i32 n),H)=_;have:hk .i32 n=n:=by
  show qo 2147483648 4294967296 n=n;unfold qo;obtain⟨m,rfl⟩:∃m:Nat,n=m:=⟨n.toNat,U⟩
  grind[m8]
 rw[this]
theorem am4{ds:List (List UInt8)}:∀(y:Nat) (h:y<ds.length),q1 (i+y) (ds.drop y)=(q0 ds[y] (i+y==0)&&q1 (i+(y+1)) (ds.drop (y+1))):=by intro y h;rw[drop_eq_getElem_cons h];rfl
end
section
variable{H K eR dF ds l pq iv r size v ab}
theorem am5(h:nW l size iv pq=some r):r.1<=1114111:=by grind[nW]
theorem Uc(h:eN l=some r):r.1<=1114111:=by grind[eN,am5]
structure am6 (l:List UInt8) (n:Nat) (mE:List UInt8) (dD:Bool):Prop where
 cells:lQ l=[int n,a6 mE,.bool dD]
 lt:n<=1114111
 Ud:EW l=(!dD&&Go.Lib.isLetterU n)
 ok:∀f,q0 l f=(!dD&&(Go.Lib.isLetterU n||(!f&&(Go.Lib.isDigitU n||(mE== [45]||(mE== [95]||mE== [46]))))))
theorem am7(l:List UInt8):∃n mE dD,am6 l n mE dD:=by
 cases h:eN l with
 | none=>exact⟨fc l 0,l.take 1,true,by grind[lQ],by grind[qZ],by simp_all[EW],fun f=>by simp_all[q0]⟩
 | some r=>exact⟨r.1,l.take r.2,false,by grind[lQ],Uc h,by simp_all[EW],fun f=>by simp_all[q0]⟩
theorem am8(K:ds.length<=1000000)(J:dK 3 v ds.length (mD ds))(a:ac H (ab++aw v (mD ds)))
  (r:q1 0 ds=true->∀E,ac E ab->dF 0 [int 0] E) (s:q1 0 ds=false->∀E,ac E ab->eR [int 41] E):
  i7 P true 64 IV 4 [int 0,v,int ds.length,int 0] H dF eR:=by
 refine ahl (fun k g E=>∃(y:Nat),y<=ds.length/\k=ds.length-y/\g=[int 0,v,int ds.length,int y]/\ac E (ab++aw v (mD ds))/\q1 0 ds=q1 y (ds.drop y)) _ _ ?_ ds.length _ _ ⟨0,U,U,rfl,a,rfl⟩;rintro k g H ⟨y,t,rfl,rfl,a,b⟩;unfold Rt;refine ul ?_
 try simp only[c1,c2]
 refine Z cV (ay (fun h=>?_) (fun h=>?_));have t:y<ds.length:=U
 obtain⟨dR,q,rfl,j⟩:∃dR q,v=am dR 0 ds.length q/\aw v (mD ds)=[aa dR (mD ds)]:=by
  rcases J with⟨_,C,_⟩|⟨dR,rfl|rfl,_⟩
  omega;exact⟨dR,_,rfl,rfl⟩;exact⟨dR,_,rfl,rfl⟩
 rw[j]at a;have c:=am4 (i:=0) (ds:=ds) y t;rw[Nat.zero_add,Nat.zero_add]at c;rw[c]at b;obtain⟨n,mE,dD,p⟩:=am7 ds[y];have d:=u6 (f:=lQ) (n:=3) (l:=ds) (i:=y) (o:=0) (m:=3) (fun x _=>(JM x).2) t U;rw[p.cells]at d;refine Z (ez U U) (mg a (show _=[int n,a6 mE,.bool dD]from by simp_all) rfl U ?_);rw[JK];refine dA a ?_;intro F H a;refine gS a 1 rfl rfl rfl rfl ?_;intro H a
 replace a:ac H (ab++[aa dR (mD ds),aa F [int n,a6 mE,.bool dD]]):=a
 repeat (first|refine aQ ?_|refine aD a rfl ?_)
 have L:=p.lt;refine bg (Ub U U) (cy (fun g E=>g=[int 0,int y,ad F 0,.int .i32 n,.bool (EW ds[y]),am dR 0 ds.length q,int ds.length,int y]/\H=E) ?_ ?_)
 repeat (first|refine aQ ?_|refine aD a rfl ?_)
 rw[p.Ud];cases dD with
 | true=>
  refine cT rfl ?_
  repeat refine aQ ?_
  exact⟨ao,ao⟩
 | false=>
  refine dz rfl (afF U U ?_)
  repeat refine aQ ?_
  exact⟨ao,ao⟩
 rintro g E ⟨rfl,rfl⟩
 try simp only[c1,c2]
 refine cy (fun g E=>g=[int 0,.bool (q0 ds[y] (y==0)),am dR 0 ds.length q,int ds.length,int y]/\H=E) ?_ ?_;rw[p.Ud,p.ok];refine Z go (ay (fun C=>?_) (fun C=>?_));have u:(y==0)=false:=aT
 rw[u]
 repeat (first|refine aQ ?_|refine aD a rfl ?_)
 cases dD with
 | true=>
  refine cT rfl ?_
  repeat (first|refine aQ ?_|refine rJ ?_)
  exact⟨ao,ao⟩
 | false=>
  refine dz rfl (afG U U (lr (fun a2=>?_) (fun a2=>?_)));rw[a2]
  repeat (first|refine aQ ?_|refine hK ?_)
  exact⟨aW,ao⟩;rw[a2]
  repeat (first|refine aQ ?_|refine aD a rfl ?_)
  refine Z (show _=some (.bool (mE== [45]))from rfl) (Z lb (lr (fun w=>?_) (fun w=>?_)));rw[w]
  repeat (first|refine aQ ?_|refine hK ?_)
  exact⟨aW,ao⟩;rw[w]
  repeat (first|refine aQ ?_|refine aD a rfl ?_)
  refine Z (show _=some (.bool (mE== [95]))from rfl) (Z lb (lr (fun z=>?_) (fun z=>?_)));rw[z]
  repeat (first|refine aQ ?_|refine hK ?_)
  exact⟨aW,ao⟩;rw[z]
  repeat (first|refine aQ ?_|refine aD a rfl ?_)
  refine Z (show _=some (.bool (mE== [46]))from rfl) (Z lb ?_)
  repeat refine aQ ?_
  refine lr (fun B=>?_) (fun B=>?_);rw[B];exact⟨aW,ao⟩;rw[B];exact⟨aW,ao⟩
 have u:(y==0)=true:=aT
 rw[u]
 repeat (first|refine aQ ?_|refine rJ ?_)
 exact⟨aW,ao⟩;rintro g E ⟨rfl,rfl⟩
 try simp only[c1,c2]
 refine Z fX ?_;cases I:q0 ds[y] (y==0)with
 | false=>rw[I]at b;exact dz rfl (s b _ a.left)
 | true=>
  rw[I]at b;refine cT rfl ?_
  repeat refine aQ ?_
  refine⟨ds.length-(y+1),U,y+1,U,rfl,rfl,?_,?_⟩;rw[j];exact tT (A:=[aa dR (mD ds)]) a
  simp_all
 have e:y=ds.length:=U
 subst e;rw[drop_of_length_le (Nat.le_refl _)]at b;exact r b _ a.left
theorem am9(e:l.length<=1000000)(a:ac H ab)(b:∀E,ac E ab->K (int (Bm l)) E):aG P 87 [a6 l] H K:=by
 refine ahm.1 ?_;apply Ua e a;intro H v a c;unfold Bm at b;generalize oQ l=ds at*;refine cy (fun d E=>d=[int 0,v]/\H=E/\¬(ds.length=0\/ds.length>24)) ?_ ?_;refine bg c.aZ (Z cN (ay (fun h=>?_) (fun h=>?_)))
 repeat (first|refine aQ ?_|refine hK ?_)
 have:=b H a.left;rw[if_pos (.inl U)]at this;exact this;refine bg c.aZ (Z go (Z (dl h) (ay (fun f=>?_) (fun f=>?_))));have:=b H a.left;rw[if_pos (.inr U)]at this;exact this;exact⟨rfl,rfl,U⟩;rintro d E ⟨rfl,rfl,g⟩;rw[if_neg g]at b;refine bg c.aZ (am8 U c a ?_ ?_);intro h H a;rw[if_pos h]at b;exact b H a;intro h H a;rw[if_neg aT]at b;exact b H a
end
section
variable{l:List UInt8}
abbrev hQ(l:List UInt8):ByteArray:=⟨l.toArray⟩
theorem ana(l:List UInt8)(k:Nat):((hQ l).get! k).toNat=fc l k:=by
 show((l.toArray)[k]!).toNat=(l.getD k 0).toNat;rw[getD_eq_getElem?_getD];by_cases h:k<l.length
 simp_all
 rw[getElem!_neg _ _ U,getElem?_eq_none U];rfl
theorem wR(l:List UInt8):(hQ l).size=l.length:=rfl
theorem Ue(e:l≠[]):(eN l=none->Utf8.decode (hQ l) 0=(65533,1))/\(∀r,eN l=some r->Utf8.decode (hQ l) 0=r):=by
 have f:0<l.length:=length_pos_iff.2 e;have h:=qZ l 0;have i:=qZ l 1;have j:=qZ l 2;have k:=qZ l 3;have g:Utf8.decode (hQ l) 0=(eN l).getD (65533,1):=by
  unfold Utf8.decode;simp only[Nat.zero_add,ana,wR,Utf8.runeError,Utf8.valid];unfold eN nW;have aB:∀c,(decide (rA c)=true)=(128<=c/\c<=191):=fun c=>by rw[decide_eq_true_eq];rfl
  simp only[p3,kR,aB,Bool.true_and,Bool.and_eq_true,decide_eq_true_eq,beq_iff_eq,Nat.add_one_sub_one,Nat.reduceSub,Nat.reduceAdd];generalize fc l 0=a at*;generalize fc l 1=b at*;generalize fc l 2=c at*;generalize fc l 3=d at*;generalize l.length=n at*;simp only[Bool.or_eq_true,Bool.and_eq_true,decide_eq_true_eq]
  repeat' split
  all_goals simp only[Option.getD_some,Option.getD_none]
  all_goals first
   | rfl
   |(exfalso;omega)
   |(refine Prod.ext ?_ rfl;show(_:Nat)=_;omega)
 simp_all
theorem Uf{r:Nat×Nat}(h:eN l=some r):¬(r.1=65533/\r.2=1):=by
 unfold eN at h;split at h
 grind
 split at h;have:=(tU h).2;omega;split at h;have:=(tU h).2;omega;split at h;have:=(tU h).2;omega;cases h
theorem JO{size iv pq:Nat}{r:Nat×Nat}(h:nW l size iv pq=some r):pq<=r.1:=by grind[nW]
theorem anb{r:Nat×Nat}(h:eN l=some r):(r.1<128->r.2=1/\r.1=fc l 0)/\(r.2=1->r.1=fc l 0/\r.1<128):=by
 unfold eN at h;split at h
 grind
 split at h;have:=(tU h).2;have:=JO h;omega;split at h;have:=(tU h).2;have:=JO h;omega;split at h;have:=(tU h).2;have:=JO h;omega;cases h
theorem anc{r:Nat×Nat}(b:l≠[])(h:eN l=some r)(c:UInt8)(d:c.toNat<128):(l.take r.2== [c])=((r.1:Int)==(c.toNat:Int)):=by
 have⟨f,g⟩:=anb h;have⟨aM,ca,i⟩:=JN h b
 match l,b with
 | a::t,_=>
 have j:fc (a::t) 0=a.toNat:=rfl;rw[Bool.eq_iff_iff,beq_iff_eq,beq_iff_eq];constructor
 ·intro e;have k:r.2=1:=by
   have:=congrArg length e
   grind
  simp_all
 grind[UInt8.toNat_inj]
theorem Ug(l:List UInt8)(bb i:Nat)(h:bb<l.length):Seal.yr (hQ l) bb i=!q0 (l.drop bb) (i==0)/\(Utf8.decode (hQ l) bb).2=nt (l.drop bb):=by
 have a:l.drop bb≠[]:=a1
 have c:(hQ l).extract bb (hQ l).size=hQ (l.drop bb):=by
  apply ByteArray.ext
  simp_all[wR,take_of_length_le]
 have d:=Go.Lib.tail_decode (hQ l) bb 0;rw[c,Nat.add_zero]at d;have⟨j,d1⟩:=Ue a;have f:(((i:Int))==0)=(i==0):=aT
 unfold Seal.yr Seal.u3;rw[c];have b:Go.Lib.decodeGo (hQ (l.drop bb))=Utf8.decode (hQ (l.drop bb)) 0:=by unfold Go.Lib.decodeGo;rw[if_neg (by grind[wR])]
 rw[b,<- d,f];cases e:eN (l.drop bb)with
 | none=>grind[q0,nt]
 | some r=>
  rw[d1 r e];refine⟨?_,by simp_all[nt]⟩;have g:=Uf e;rw[decide_eq_false U,Bool.false_or]
  simp_all[q0,Seal.sB,anc,Bool.or_assoc]
theorem Uh(l:List UInt8):∀(b bb i:Nat),bb<=l.length->Seal.my (hQ l) b bb i=if q1 i (pr b (l.drop bb))=true then Seal.D1 ((i+(pr b (l.drop bb)).length:Nat):Int)else 41
 | 0,bb,i,_=>ao
 | b+1,bb,i,j=>by
  unfold Seal.my pr;by_cases h:bb<l.length;have⟨d,e⟩:=Ug l bb i h;have a:l.drop bb≠[]:=a1
  have f:=EV a;rw[length_drop]at f;rw[if_pos (show bb<(hQ l).size from h),if_neg a,d,e];cases k:q0 (l.drop bb) (i==0)with
  | false=>simp_all[q1]
  | true=>
   have g:=Uh l b (bb+nt (l.drop bb)) (i+1) U;rw[show((i:Int)+1)=((i+1:Nat):Int) by omega,g,drop_drop];show _=if(q0 (l.drop bb) (i==0)&&q1 (i+1) _)=true then _ else _
   grind
  have c:l.drop bb=[]:=drop_of_length_le U;rw[if_neg (show¬bb<(hQ l).size from h),if_pos c];rfl
theorem Ui(l:List UInt8):Bm l=Seal.my (hQ l) (hQ l).size 0 0:=by
 have:=Uh l l.length 0 0 (zero_le _);rw[drop_zero,Nat.zero_add]at this;refine Eq.trans ?_ this.symm;unfold Bm Seal.D1;show _=if q1 0 (oQ l)=true then(if(((oQ l).length:Nat):Int)<1\/(((oQ l).length:Nat):Int)>24 then 41 else 0)else 41
 grind
end
end J
