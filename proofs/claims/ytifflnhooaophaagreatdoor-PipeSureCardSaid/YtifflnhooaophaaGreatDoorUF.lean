/- texts of the nF, e5 behind the l0 -/
import Derived.Lib.RuneCountTail
import Derived.Test.YtifflnhooaophaaGreatDoorUE
set_option linter.unusedVariables false
set_option linter.unusedSimpArgs false
set_option linter.unusedSectionVars false
set_option maxHeartbeats 4000000
set_option maxRecDepth 100000
open List Nat
namespace J
open Go Go.Ab
variable[cr:bW]
variable{H:ar}{ae:List (Nat×ay)}{ab:VH}{v w x:Value}{b data:List Int}{e:Int}
abbrev u64(n:Nat):Value:=bQ .u64 n
theorem uw{t:TypeId}{c:Bool}{a b:Nat}(h:a+b<18446744073709551616):(au P .add t c).f (u64 a) (u64 b)=some (u64 (a+b)):=by rw[sy (k:=.u64) rfl,mod_eq_of_lt (show a+b<gk .u64 from h)]
theorem wT{t:TypeId}{c:Bool}{a b:Nat}(an:0<b)(bp:a<9223372036854775807):(au P .quo t c).f (int a) (int b)=some (int ((a/b:Nat):Int)):=by
 rw[qT _ _ rfl];show(match oN (b:Int) 0 with|true=>none|false=>some (Value.int .i64 (iJ .i64 ((a:Int).tdiv b))))=_;rw[rA,decide_eq_false (by omega)];show some (Value.int .i64 (iJ .i64 ((a/b:Nat):Int)))=_;have h1:((a/b:Nat):Int)<=(a:Int):=Int.ofNat_le.2 (div_le_self a b)
 grind[xM]
theorem wU{a n:Nat}(bp:a<4294967296)(aR:0<n)(Dl:n<32)(ag:ab (u64 (mT a n)) H):az P 91 [u64 a,u64 n] H ab:=by
 apply apP;unfold Zn;have aDu:gk .u64=18446744073709551616:=rfl;have bS:2^(32-n)<=2^31:=Nat.pow_le_pow_right (by omega) (by omega);have hm:a*2^(32-n)<18446744073709551616:=Nat.lt_of_le_of_lt (Nat.mul_le_mul (Nat.le_of_lt bp) bS) (by decide);have aO:a/2^n<4294967296:=Nat.lt_of_le_of_lt (div_le_self _ _) bp;refine ah (xT (k:=.u64) rfl (show n<=64 by omega)) (ah (v:=u64 (32-n)) (by rw[show(Value.int .u64 32)=bQ .u64 32 from rfl,OR rfl (by omega) (by decide)]) (ah (Dx (k:=.u64) rfl (show 32-n<=64 by omega)) ?_));rw[mod_eq_of_lt (show a*2^(32-n)<gk .u64 from hm)];refine ah (Bl (k:=.u64) rfl (show _<18446744073709551616 by omega) hm) (ah (xS (k:=.u64) (b:=4294967296) (by decide)) ?_);have e:(a/2^n|||a*2^(32-n))%4294967296=mT a n:=by unfold mT;rw[show(4294967296:Nat)=2^32 from rfl,or_mod_two_pow,mod_eq_of_lt (show a/2^n<2^32 from aO)]
 rw[e];exact ag
def sF(w:List Nat)(n:Nat):List Value:=(w.map fun(n:Nat)=>u64 n)++u64 n::List.replicate (63-w.length) (u64 0)
def qn(w:List Nat):List Value:=(w.map fun(n:Nat)=>u64 n)++List.replicate (64-w.length) (u64 0)
theorem adm{w:List Nat}{n:Nat}(h:w.length<=63):(sF w n).length=64:=by grind[sF]
theorem adn{w:List Nat}(h:w.length<=63):sF w 0=qn w:=by
 unfold sF qn;obtain⟨m,hm⟩:∃m,64-w.length=m+1:=⟨63-w.length,by omega⟩
 grind
theorem ado{w:List Nat}{n:Nat}(h:w.length<=63):sF w n=qn (w++[n]):=by simp_all[sF,qn]
theorem auk{w:List Nat}{n:Nat}:(sF w n)[w.length]?=some (u64 n):=by simp_all[sF]
theorem adp{w:List Nat}{n k7:Nat}:(sF w n).set w.length (u64 k7)=sF w k7:=by simp_all[sF]
theorem adq{w:List Nat}{i:Nat}(h:i<w.length):(qn w)[i]?=some (u64 (w.getD i 0)):=by simp_all[qn,List.getElem?_append_left]
theorem adr{w:List Nat}:(qn w).all fE=true:=by simp[qn,fE,sv]
def zJ(b:List Int)(t:Nat):Nat->Nat
 | 0=>0
 | y+1=>256*zJ b t y+(b.getD (4*t+y) 0).toNat
theorem aul{b:List Int}{t:Nat}:zJ b t 4=zD b t:=by
 show 256*(256*(256*(256*0+(b.getD (4*t+0) 0).toNat)+(b.getD (4*t+1) 0).toNat)+(b.getD (4*t+2) 0).toNat)+(b.getD (4*t+3) 0).toNat=_;unfold zD
 grind
theorem ads{b:List Int}(h:∀x∈b,0<=x/\x<=255)(t:Nat):∀y,zJ b t y<256^y
 | 0=>Nat.zero_lt_one
 | y+1=>by
  show 256*zJ b t y+_<256^(y+1);have h1:=ads h t y
  grind[wS]
theorem aum{bw dC jV lK m t:Nat}{gQ:List Nat}{bL:LX}{cy:LN}(hv:b3 ae v data)(an:∀x∈data,0<=x/\x<=255)(hm:64*m+64<=data.length)(aE:data.length<=1000000000)(ht:t<16)(aM:gQ.length=t)
  (hO:aj H (ae++[(lK,⟨qn gQ,true⟩)]))
  (ag:∀aa,aj aa (ae++[(lK,⟨qn (gQ++[zD ((data.drop (64*m)).take 64) t]),true⟩)])->bL 8 [ai bw 0,v,ai dC 0,ai jV 0,int ((64*m:Nat):Int),ai lK 0,int t] aa):
  eI P true 252 PR 3980 [ai bw 0,v,ai dC 0,ai jV 0,int ((64*m:Nat):Int),ai lK 0,int t,int 0] H bL cy:=by
 have mw:∀x∈(data.drop (64*m)).take 64,0<=x/\x<=255:=fun x al=>an x (mem_of_mem_drop (mem_of_mem_take al))
 rw[<- adn (by omega)]at hO;refine ao0 (fun k aF aa=>∃(y:Nat),y<=4/\k=4-y/\aF=[ai bw 0,v,ai dC 0,ai jV 0,int ((64*m:Nat):Int),ai lK 0,int t,int y]/\aj aa (ae++[(lK,⟨sF gQ (zJ ((data.drop (64*m)).take 64) t y),true⟩)])) _ _ ?_ 4 _ _ ⟨0,by omega,rfl,rfl,hO⟩;rintro k aF H ⟨y,a8,rfl,rfl,hO⟩;unfold Yv
 try simp only[cu,cv]
 refine ah ez (bz (fun h=>?_) (fun h=>?_));have adh:y<4:=by omega
 have bS:=ads mw t y;have IU:256^y<=256^3:=Nat.pow_le_pow_right (by omega) (by omega);have aDv:(256:Nat)^3=16777216:=rfl;have g:=wS an (64*m+(4*t+y));refine ah (fy (by omega) (by omega)) ?_;rw[Int.toNat_natCast];refine aP hO (ae.length+0) (aA rfl) (v:=u64 (zJ ((data.drop (64*m)).take 64) t y)) (by grind[auk]) ?_;refine ah (v:=u64 (256*zJ ((data.drop (64*m)).take 64) t y)) (by rw[show(Value.int .u64 256)=bQ .u64 256 from rfl,OQ (k:=.u64) rfl,mod_eq_of_lt (show _<gk .u64 from(show _<18446744073709551616 by omega))]) ?_;refine ah (v:=int ((4*t:Nat):Int)) (by grind[xN]) (ah (v:=int ((64*m+4*t:Nat):Int)) (by grind[jg]) (ah (v:=int ((64*m+(4*t+y):Nat):Int)) (by grind[jg]) (DZ hO hv.app an rfl (by omega) (bV (vv (eE:=.u64) rfl) ?_))));rw[mod_eq_of_lt (show(data.getD (64*m+(4*t+y)) 0).toNat<gk .u64 from(show _<18446744073709551616 by omega))];refine ah (uw (by omega)) (ah (fy (by omega) (by omega)) ?_);rw[Int.toNat_natCast];refine fm hO (ae.length+0) (aA rfl) rfl (by grind[adm]) (show _=sF gQ (zJ ((data.drop (64*m)).take 64) t (y+1))from ?_) ?_;rw[show 0+t*1=gQ.length by omega,adp];show _=sF gQ (256*_+_)
 grind
 intro H hO
 replace hO:=hO.cb
 repeat refine bD ?_
 exact⟨4-(y+1),by omega,y+1,by omega,rfl,rfl,hO⟩;have a8:y=4:=by omega
 subst a8;rw[aul,ado (by omega)]at hO;exact ag H hO
theorem adt{x a b:Nat}:pa x [a,b]=mT x a ^^^ mT x b:=by
 show(0 ^^^ mT x a) ^^^ mT x b=_
 simp_all
theorem adu{x a b c:Nat}:pa x [a,b,c]=(mT x a ^^^ mT x b) ^^^ mT x c:=by
 show((0 ^^^ mT x a) ^^^ mT x b) ^^^ mT x c=_
 simp_all
theorem kf{a:Nat}(h:a<4294967296):a<gk .u64:=Nat.lt_trans h (by decide)
theorem aun{bw dC jV lK m:Nat}{bL:LX}{cy:LN}(hv:b3 ae v data)(an:∀x∈data,0<=x/\x<=255)(hm:64*m+64<=data.length)(aE:data.length<=1000000000)
  (hO:aj H (ae++[(lK,⟨qn [],true⟩)]))
  (ag:∀aa,aj aa (ae++[(lK,⟨qn (hU ((data.drop (64*m)).take 64) 64),true⟩)])->bL 6 [ai bw 0,v,ai dC 0,ai jV 0,int ((64*m:Nat):Int),ai lK 0] aa):
  eI P true 252 PQ 1932 [ai bw 0,v,ai dC 0,ai jV 0,int ((64*m:Nat):Int),ai lK 0,int 0] H bL cy:=by
 have mw:∀x∈(data.drop (64*m)).take 64,0<=x/\x<=255:=fun x al=>an x (mem_of_mem_drop (mem_of_mem_take al))
 refine aoX (fun k aF aa=>∃(y:Nat),y<=64/\k=64-y/\aF=[ai bw 0,v,ai dC 0,ai jV 0,int ((64*m:Nat):Int),ai lK 0,int y]/\aj aa (ae++[(lK,⟨qn (hU ((data.drop (64*m)).take 64) y),true⟩)])) _ _ ?_ 64 _ _ ⟨0,by omega,rfl,rfl,hO⟩;rintro k aF H ⟨y,a8,rfl,rfl,hO⟩;unfold Ys
 try simp only[cu,cv]
 have D0:=Gy (b:=(data.drop (64*m)).take 64) y;have aJ:hU ((data.drop (64*m)).take 64) (y+1)=hU ((data.drop (64*m)).take 64) y++[tn ((data.drop (64*m)).take 64) (hU ((data.drop (64*m)).take 64) y) y]:=rfl;have dy:∀i,(hU ((data.drop (64*m)).take 64) y).getD i 0<4294967296:=BJ (Gz mw y);refine ah ez (bz (fun h=>?_) (fun h=>?_));refine ah ez (bz (fun mZ=>?_) (fun mZ=>?_));refine aum hv an hm aE (by omega) D0 hO ?_;intro H hO;refine km rfl ?_
 try simp only[cu,cv]
 repeat refine bD ?_
 refine⟨64-(y+1),by omega,y+1,by omega,rfl,rfl,?_⟩;rw[aJ,show tn ((data.drop (64*m)).take 64) (hU ((data.drop (64*m)).take 64) y) y=zD ((data.drop (64*m)).take 64) y by unfold tn;grind];exact hO;generalize QM:hU ((data.drop (64*m)).take 64) y=gQ at*;have cw:∀ {i:Nat} {ab:VH},i<y->ab (u64 (gQ.getD i 0)) H->af (ax (ai lK (0+i*1)) H) ab:=fun {i ab} aq ag=>aP hO (ae.length+0) (aA rfl) (v:=u64 (gQ.getD i 0)) (by simp_all[adq]) ag
 have ke:∀ {o:Nat},ea (dV H H) (b9 [ai lK o]):=gu hO (ae.length+0) (aA rfl) hO (ae.length+0) (aA rfl) adr;refine ah (mu (by omega) (by omega)) (ah (fy (by omega) (by omega)) ?_);rw[show((y:Int)-15).toNat=y-15 by omega];refine cw (by omega) (ah (mu (by omega) (by omega)) (ah (fy (by omega) (by omega)) ?_));rw[show((y:Int)-2).toNat=y-2 by omega];refine cw (by omega) (ah (mu (by omega) (by omega)) (ah (fy (by omega) (by omega)) ?_));rw[show((y:Int)-16).toNat=y-16 by omega];refine cw (by omega) (wU (n:=7) (dy _) (by omega) (by omega) (⟨ke,?_⟩));refine wU (n:=18) (dy _) (by omega) (by omega) (⟨ke,?_⟩);have b1:=uv (n:=7) (dy (y-15));have b2:=uv (n:=18) (dy (y-15));have hB:=uv (n:=17) (dy (y-2));have ml:=uv (n:=19) (dy (y-2));have lS:gQ.getD (y-15) 0/2^3<4294967296:=Nat.lt_of_le_of_lt (div_le_self _ _) (dy _);have nO:gQ.getD (y-2) 0/2^10<4294967296:=Nat.lt_of_le_of_lt (div_le_self _ _) (dy _);refine ah (mV (k:=.u64) rfl (kf b1) (kf b2)) (ah (xT (k:=.u64) (n:=3) rfl (by decide)) ?_);have uo:=xor_lt_two_pow (n:=32) b1 b2;refine ah (mV (k:=.u64) rfl (kf uo) (kf lS)) ?_;have tl:=xor_lt_two_pow (n:=32) uo lS;have eP:=dy (y-16);have dR:=dy (y-7);refine ah (uw (by omega)) (ah (mu (by omega) (by omega)) (ah (fy (by omega) (by omega)) ?_));rw[show((y:Int)-7).toNat=y-7 by omega];refine cw (by omega) (⟨ke,ke,?_⟩)
 refine ah (uw (by omega)) (wU (n:=17) (dy _) (by omega) (by omega) (⟨ke,ke,?_⟩));refine wU (n:=19) (dy _) (by omega) (by omega) (⟨ke,ke,?_⟩);refine ah (mV (k:=.u64) rfl (kf hB) (kf ml)) (ah (xT (k:=.u64) (n:=10) rfl (by decide)) ?_);have x8:=xor_lt_two_pow (n:=32) hB ml;refine ah (mV (k:=.u64) rfl (kf x8) (kf nO)) ?_;have aDw:=xor_lt_two_pow (n:=32) x8 nO;refine ah (uw (by omega)) (ah (xS (k:=.u64) (b:=4294967296) (by decide)) (ah (fy (by omega) (by omega)) ?_));rw[Int.toNat_natCast];rw[<- adn (by omega)]at hO;refine fm hO (ae.length+0) (aA rfl) rfl (by grind[adm]) (show _=qn (gQ++[tn ((data.drop (64*m)).take 64) gQ y])from ?_) ?_;rw[show 0+y*1=gQ.length by omega,adp,ado (by omega)];unfold tn;rw[if_neg (by omega),adt,adt];intro H hO
 replace hO:=hO.cb
 rw[<- aJ]at hO
 repeat refine bD ?_
 exact⟨64-(y+1),by omega,y+1,by omega,rfl,rfl,hO⟩;have a8:y=64:=by omega
 subst a8;exact ag H hO
end J
namespace J
open Go Go.Ab
variable[cr:bW]
variable{H:ar}{ae:List (Nat×ay)}{v w x:Value}{b:List Int}{e:Int}
def pb(x:W8):List Value:=x.l.map fun(n:Nat)=>u64 n
theorem auo(x:W8):(pb x).all fE=true:=rfl
theorem tl(a b c d e f g h:Int):(c9 P 194).f [(0,.int .u64 a),(1,.int .u64 b),(2,.int .u64 c),(3,.int .u64 d),(4,.int .u64 e),(5,.int .u64 f),(6,.int .u64 g),(7,.int .u64 h)]=some (agg [.int .u64 a,.int .u64 b,.int .u64 c,.int .u64 d,.int .u64 e,.int .u64 f,.int .u64 g,.int .u64 h]):=by rfl
theorem aup{i:Nat}(h:i<64):(j3.map fun(n:Nat)=>u64 n)[i]?=some (u64 (j3.getD i 0)):=by
 have aE:j3.length=64:=rfl
 grind
theorem auq:(j3.map fun(n:Nat)=>u64 n).all fE=true:=by rfl
theorem QN{t:TypeId}{c:Bool}{a:Nat}:(au P .rem t c).f (u64 a) (.int .u64 4294967296)=some (u64 (a%4294967296)):=xS (k:=.u64) (b:=4294967296) (by decide)
theorem aur{bw dC jV lK rW kj:Nat}{s:W8}{gQ:List Nat}{bL:LX}{cy:LN}(aw:s.b6)(aM:∀x∈gQ,x<4294967296)(D0:gQ.length=64){adv adw:Nat}(hM:ae[adv]?=some (jV,⟨j3.map fun(n:Nat)=>u64 n,true⟩))(my:ae[adw]?=some (lK,⟨qn gQ,true⟩))
  (hO:aj H (ae++[(rW,⟨pb s,true⟩)]))
  (ag:∀aa,aj aa (ae++[(rW,⟨pb (rU gQ s 64),true⟩)])->bL 10 [ai bw 0,v,ai dC 0,ai jV 0,int kj,ai rW 0] aa):
  eI P true 252 PS 33676 [ai bw 0,v,ai dC 0,ai jV 0,int kj,ai lK 0,ai rW 0,int 0] H bL cy:=by
 refine aoY (fun k aF aa=>∃(y:Nat),y<=64/\k=64-y/\aF=[ai bw 0,v,ai dC 0,ai jV 0,int kj,ai lK 0,ai rW 0,int y]/\aj aa (ae++[(rW,⟨pb (rU gQ s y),true⟩)])) _ _ ?_ 64 _ _ ⟨0,by omega,rfl,rfl,hO⟩;rintro k aF H ⟨y,a8,rfl,rfl,hO⟩;unfold Yt
 try simp only[cu,cv]
 refine ah ez (bz (fun h=>?_) (fun h=>?_))
 rotate_left
 ·have lI:y=64:=by omega
  subst lI;exact ag _ hO
 have ga:=Gw (w:=gQ) aw y;have atS:gQ.getD y 0<4294967296:=BJ aM y;have aDx:=atO y;have bA:rU gQ s (y+1)=Gu (rU gQ s y) (j3.getD y 0) (gQ.getD y 0):=rfl;generalize rU gQ s y=x at*;have mc:(ae++[(rW,(⟨pb x,true⟩:ay))])[ae.length+0]?=some (rW,⟨pb x,true⟩):=aA rfl;have ke:∀ {o:Nat},ea (dV H H) (b9 [ai rW o]):=gu hO _ mc hO _ mc (auo x);have QO:∀ {o:Nat},ea (dV H H) (b9 [ai jV o]):=gu hO _ (aK hM) hO _ (aK hM) auq;have QP:∀ {o:Nat},ea (dV H H) (b9 [ai lK o]):=gu hO _ (aK my) hO _ (aK my) adr;have cm:∀ {i:Int} {h:0<=i} {a6:i<8},True:=trivial;refine ah (fy (by omega) (by omega)) (aP hO _ mc (v:=u64 x.e) rfl (ah (fy (by omega) (by omega)) (aP hO _ mc (v:=u64 x.f) rfl (ah (vu (k:=.u64) rfl (kf ga.e) (kf ga.f)) ?_))));refine ah (v:=u64 (4294967295-x.e)) (by have:=ga.e;rw[show(Value.int .u64 4294967295)=bQ .u64 4294967295 from rfl,OR rfl (by omega) (by decide)]) ?_;refine ah (fy (by omega) (by omega)) (aP hO _ mc (v:=u64 x.g) rfl (ah (vu (k:=.u64) rfl (kf (by omega)) (kf ga.g)) (ah (mV (k:=.u64) rfl (kf (and_lt_two_pow (n:=32) _ ga.f)) (kf (and_lt_two_pow (n:=32) _ ga.g))) ?_)));have adx:zE x.e x.f x.g<4294967296:=atv ga.e ga.f ga.g;rw[show(x.e&&&x.f) ^^^ ((4294967295-x.e)&&&x.g)=zE x.e x.f x.g from rfl];refine ah (fy (by omega) (by omega)) (aP hO _ mc (v:=u64 x.h) rfl ?_);have nO:=uv (n:=6) ga.e;have ady:=uv (n:=11) ga.e;have aus:=uv (n:=25) ga.e;have b2:=uv (n:=2) ga.a;have adz:=uv (n:=13) ga.a;have aut:=uv (n:=22) ga.a;refine wU (n:=6) ga.e (by omega) (by omega) (⟨ke,?_⟩);refine wU (n:=11) ga.e (by omega) (by omega) (⟨ke,?_⟩);refine ah (mV (k:=.u64) rfl (kf nO) (kf ady)) (wU (n:=25) ga.e (by omega) (by omega) (⟨ke,?_⟩));refine ah (mV (k:=.u64) rfl (kf (xor_lt_two_pow (n:=32) nO ady)) (kf aus)) ?_;rw[<- adu];have aDy:pa x.e [6,11,25]<4294967296:=Gv ga.e;have hh:=ga.h;refine ah (uw (by omega)) (ah (uw (by omega)) (ah (fy (by omega) (by omega)) ?_));rw[Int.toNat_natCast];refine aP hO _ (aK hM) (v:=u64 (j3.getD y 0)) (by grind[aup]) (⟨QO,QO,QO,?_⟩);refine ah (uw (by omega)) (ah (fy (by omega) (by omega)) ?_);rw[Int.toNat_natCast];refine aP hO _ (aK my) (v:=u64 (gQ.getD y 0)) (by grind[adq]) (⟨QP,QP,QP,?_⟩)
 refine ah (uw (by omega)) (ah (fy (by omega) (by omega)) (aP hO _ mc (v:=u64 x.a) rfl (ah (fy (by omega) (by omega)) (aP hO _ mc (v:=u64 x.b) rfl (ah (vu (k:=.u64) rfl (kf ga.a) (kf ga.b)) (ah (fy (by omega) (by omega)) (aP hO _ mc (v:=u64 x.a) rfl (ah (fy (by omega) (by omega)) (aP hO _ mc (v:=u64 x.c) rfl (ah (vu (k:=.u64) rfl (kf ga.a) (kf ga.c)) ?_))))))))));have adA:=and_lt_two_pow (n:=32) x.a ga.b;have iB:=and_lt_two_pow (n:=32) x.a ga.c;have fX:=and_lt_two_pow (n:=32) x.b ga.c;refine ah (mV (k:=.u64) rfl (kf adA) (kf iB)) (ah (fy (by omega) (by omega)) (aP hO _ mc (v:=u64 x.b) rfl (ah (fy (by omega) (by omega)) (aP hO _ mc (v:=u64 x.c) rfl (ah (vu (k:=.u64) rfl (kf ga.b) (kf ga.c)) (ah (mV (k:=.u64) rfl (kf (xor_lt_two_pow (n:=32) adA iB)) (kf fX)) ?_))))));rw[show((x.a&&&x.b) ^^^ (x.a&&&x.c)) ^^^ (x.b&&&x.c)=BF x.a x.b x.c from rfl];have aDz:BF x.a x.b x.c<4294967296:=atw ga.b ga.c;refine ah (fy (by omega) (by omega)) (aP hO _ mc (v:=u64 x.a) rfl (wU (n:=2) ga.a (by omega) (by omega) (ah (fy (by omega) (by omega)) (aP hO _ mc (v:=u64 x.a) rfl (⟨ke,?_⟩)))));refine wU (n:=13) ga.a (by omega) (by omega) (ah (mV (k:=.u64) rfl (kf b2) (kf adz)) (ah (fy (by omega) (by omega)) (aP hO _ mc (v:=u64 x.a) rfl (⟨ke,ke,?_⟩))))
 refine wU (n:=22) ga.a (by omega) (by omega) (ah (mV (k:=.u64) rfl (kf (xor_lt_two_pow (n:=32) b2 adz)) (kf aut)) ?_);rw[<- adu];have akb:pa x.a [2,13,22]<4294967296:=Gv ga.a;have aO:=ga.d;refine ah (uw (by omega)) (ah (uw (by omega)) (ah QN (ah (fy (by omega) (by omega)) (aP hO _ mc (v:=u64 x.a) rfl (ah (fy (by omega) (by omega)) (aP hO _ mc (v:=u64 x.b) rfl (ah (fy (by omega) (by omega)) (aP hO _ mc (v:=u64 x.c) rfl (ah (fy (by omega) (by omega)) (aP hO _ mc (v:=u64 x.d) rfl (ah (uw (by omega)) (ah QN (ah (fy (by omega) (by omega)) (aP hO _ mc (v:=u64 x.e) rfl (ah (fy (by omega) (by omega)) (aP hO _ mc (v:=u64 x.f) rfl (ah (fy (by omega) (by omega)) (aP hO _ mc (v:=u64 x.g) rfl (ah (tl _ _ _ _ _ _ _ _) (e7 hO _ mc rfl rfl rfl ?_))))))))))))))))))));intro H hO
 replace hO:=hO.cb
 have bb:(x.h+pa x.e [6,11,25]+zE x.e x.f x.g+j3.getD y 0+gQ.getD y 0+(pa x.a [2,13,22]+BF x.a x.b x.c))%4294967296=(yg x (j3.getD y 0) (gQ.getD y 0)+KO x)%4294967296:=by simp_all[yg,KO]
 have bt:(x.d+(x.h+pa x.e [6,11,25]+zE x.e x.f x.g+j3.getD y 0+gQ.getD y 0))%4294967296=(x.d+yg x (j3.getD y 0) (gQ.getD y 0))%4294967296:=by simp_all[yg]
 rw[bb,bt]at hO
 repeat refine bD ?_
 refine⟨64-(y+1),by omega,y+1,by omega,rfl,rfl,?_⟩;rw[bA];exact hO
end J
namespace J
open Go Go.Ab
variable[cr:bW]
variable{H:ar}{ae:List (Nat×ay)}{ab:VH}{v x:Value}{ak aX jj b data:List Int}{p:Nat}{e:Int}{ao:List Value}
theorem auu:(c9 P 196).f []=some (agg (qn [])):=by rfl
theorem QQ:cQ P 196=qn []:=by rfl
theorem QR:cQ P 194=List.replicate 8 (u64 0):=by rfl
theorem auv(hO:aj H ae)(ag:∀aa,aj aa ae->ab (agg (pb BH)) aa):az P 89 [] H ab:=by
 apply apN;unfold Zl;rw[QR];refine c4 hO ?_;intro p H hO;refine ah (v:=agg (pb BH)) (by rfl) (e7 hO (ae.length+0) (aA rfl) rfl rfl rfl ?_);intro H hO
 replace hO:=hO.cb
 exact fs hO (ae.length+0) (aA rfl) rfl (by omega) (ag _ hO.left)
theorem auw(hO:aj H ae)(ag:∀aa,aj aa ae->ab (agg (j3.map fun(n:Nat)=>u64 n)) aa):az P 90 [] H ab:=by
 apply apO;unfold Zm;rw[QQ];refine c4 hO ?_;intro p H hO;refine ah (v:=agg (j3.map fun(n:Nat)=>u64 n)) (by rfl) (e7 hO (ae.length+0) (aA rfl) rfl rfl rfl ?_);intro H hO
 replace hO:=hO.cb
 exact fs hO (ae.length+0) (aA rfl) rfl (by omega) (ag _ hO.left)
theorem adB{s:W8}(h:s.b6):∀x∈s.l,x<4294967296:=by
 intro x al;simp only[W8.l,mem_cons,not_mem_nil,or_false]at al;rcases al with rfl|rfl|rfl|rfl|rfl|rfl|rfl|rfl
 exact h.a;exact h.b;exact h.c;exact h.d;exact h.e;exact h.f;exact h.g;exact h.h
theorem auy{s R:W8}{bw dC jV rW kj:Nat}{B:ay}{T:List (Nat×ay)}{bL:LX}{cy:LN}(aw:s.b6)(aQ:R.b6)(mc:T[1]?=some (rW,⟨pb R,true⟩))
  (hO:aj H (ae++([(dC,⟨pb s,true⟩),(jV,B)]++T)))
  (ag:∀aa,aj aa (ae++([(dC,⟨pb (DX s R),true⟩),(jV,B)]++T))->bL 12 [ai bw 0,v,ai dC 0,ai jV 0,int kj] aa):
  eI P true 252 PT 908 [ai bw 0,v,ai dC 0,ai jV 0,int kj,ai rW 0,int 0] H bL cy:=by
 refine aoZ (fun k aF aa=>∃(y:Nat),y<=8/\k=8-y/\aF=[ai bw 0,v,ai dC 0,ai jV 0,int kj,ai rW 0,int y]/\aj aa (ae++([(dC,⟨(rV s.l R.l y).map fun(n:Nat)=>u64 n,true⟩),(jV,B)]++T))) _ _ ?_ 8 _ _ ⟨0,by omega,rfl,rfl,hO⟩;rintro k aF H ⟨y,a8,rfl,rfl,hO⟩;unfold Yu
 try simp only[cu,cv]
 have Kb:s.l.length=8:=rfl;have ac6:R.l.length=8:=rfl;refine ah ez (bz (fun h=>?_) (fun h=>?_));have zH:y<8:=by omega
 have b1:s.l.getD y 0<4294967296:=BJ (adB aw) y;have b2:R.l.getD y 0<4294967296:=BJ (adB aQ) y;have c1:((rV s.l R.l y).map fun(n:Nat)=>u64 n)[0+y*1]?=some (u64 (s.l.getD y 0)):=by simp_all[KV]
 have c2:(pb R)[0+y*1]?=some (u64 (R.l.getD y 0)):=by simp_all[pb]
 have a3:((rV s.l R.l y).map fun(n:Nat)=>u64 n).set (0+y*1) (u64 ((s.l.getD y 0+R.l.getD y 0)%4294967296))=(rV s.l R.l (y+1)).map fun(n:Nat)=>u64 n:=by grind[ac4,map_set]
 refine ah (fy (by omega) (by omega)) ?_;rw[Int.toNat_natCast];refine aP hO (ae.length+0) (aA rfl) c1 (ah (fy (by omega) (by omega)) ?_);rw[Int.toNat_natCast];refine aP hO (ae.length+(2+1)) (aA (aA (ae:=[_,_]) mc)) c2 (ah (uw (by omega)) (ah QN (ah (fy (by omega) (by omega)) ?_)));rw[Int.toNat_natCast];refine fm hO (ae.length+0) (aA rfl) rfl (ac2 c1) a3 ?_;intro H hO
 replace hO:=hO.cb
 repeat refine bD ?_
 exact⟨_,by omega,y+1,by omega,rfl,rfl,hO⟩;have lI:y=8:=by omega
 subst lI;rw[ac5]at hO;exact ag _ hO
theorem auz{s:W8}{bw dC BN:Nat}{T:List (Nat×ay)}{bL:LX}{cy:LN}(aw:s.b6){QS:Nat}(fP:ae[QS]?=some (dC,⟨pb s,true⟩))(hO:aj H (ae++[(BN,⟨ou [],true⟩)]))
  (ag:∀aa,aj aa (ae++[(BN,⟨a1 (ny s),true⟩)])->bL 14 [ai bw 0,ai BN 0] aa):
  eI P true 252 PU 8388612 [ai bw 0,ai dC 0,ai BN 0,int 0] H bL cy:=by
 refine aoW (fun k aF aa=>∃(y:Nat),y<=32/\k=32-y/\aF=[ai bw 0,ai dC 0,ai BN 0,int y]/\aj aa (ae++[(BN,⟨ou ((ny s).take y),true⟩)])) _ _ ?_ 32 _ _ ⟨0,by omega,rfl,rfl,hO⟩;rintro k aF H ⟨y,a8,rfl,rfl,hO⟩;unfold Yr
 try simp only[cu,cv]
 refine ah ez (bz (fun h=>?_) (fun h=>?_));have hlen:((ny s).take y).length=y:=by simp_all[ada]
 have hm:y/4<8:=by omega
 have aq:y%4<4:=by omega
 have c2:(pb s)[0+y/4*1]?=some (u64 (s.l.getD (y/4) 0)):=by
  have ac6:s.l.length=8:=rfl
  simp_all[pb]
 refine ah (wT (b:=4) (by omega) (by omega)) (ah (fy (by omega) (by omega)) ?_);rw[Int.toNat_natCast];refine aP hO QS (aK fP) c2 (ah (v:=int ((y%4:Nat):Int)) (xS (k:=.i64) (b:=4) (by decide)) (ah (v:=int ((8*(y%4):Nat):Int)) (by grind[xN]) (ah (v:=int ((24-8*(y%4):Nat):Int)) (by grind[mu]) (ah (xT (k:=.u64) rfl (show 24-8*(y%4)<=64 by omega)) (ah (xS (k:=.u64) (b:=256) (by decide)) (bV (vv (eE:=.u8) rfl) (ah (fy (by omega) (by omega)) ?_)))))));rw[Int.toNat_natCast];refine fm hO (ae.length+0) (aA rfl) rfl (show 0+y*1<(ou ((ny s).take y)).length by grind[ac8]) (show _=ou ((ny s).take (y+1))from ?_) ?_;have h1:=ade (s:=s) hm aq;rw[show 4*(y/4)+y%4=y by omega]at h1;rw[<- h1,<- ac9 (by omega),hlen,show 0+y*1=y by omega];rw[show gk .u8=256 from rfl,mod_mod];intro H hO
 replace hO:=hO.cb
 repeat refine bD ?_
 exact⟨32-(y+1),by omega,y+1,by omega,rfl,rfl,hO⟩;have a8:y=32:=by omega
 subst a8;have e:ou ((ny s).take 32)=a1 (ny s):=by rfl
 rw[e]at hO;exact ag H hO
theorem auA{t0:Value}{bw:Nat}{bL:LX}{cy:LN}(hO:aj H (ae++bB v ao))(hv:e8 v (ak++[128]) ao)(aE:ak.length<=90000000)
  (ag:∀aa aH bu,aj aa (ae++bB aH bu)->e8 aH (ak++[128]++List.replicate (na ak.length) 0) bu->bL 0 [t0,ai bw 0,aH] aa):
  eI P true 252 PM 13 [t0,ai bw 0,v] H bL cy:=by
 refine aoT (fun k aF aa=>∃(y:Nat) (v:Value) (ao:List Value),y<=na ak.length/\k=na ak.length-y/\aF=[t0,ai bw 0,v]/\aj aa (ae++bB v ao)/\e8 v (ak++[128]++List.replicate y 0) ao) _ _ ?_ (na ak.length) _ _ ⟨0,v,ao,by omega,rfl,rfl,hO,by rw[replicate_zero,append_nil];exact hv⟩;rintro k aF H ⟨y,v,ao,a8,rfl,rfl,hO,hv⟩;unfold Yo
 try simp only[cu,cv]
 have hlen:(ak++[128]++List.replicate y (0:Int)).length=ak.length+1+y:=by grind
 have QJ:na ak.length<64:=mod_lt _ (by decide);refine bV hv.bP (ah (v:=int (((ak++[128]++List.replicate y (0:Int)).length%64:Nat):Int)) (xS (k:=.i64) (b:=64) (by decide)) ?_);rw[hlen];refine ah ik (bz (fun h=>?_) (fun h=>?_));have dy:y<na ak.length:=by grind[na]
 refine gj hO (Eb 0 _) ?_;intro q H hO;refine wA (aX:=[0]) hO hv (by grind) rfl (.inr rfl) ?_;intro H v ao hO hv;rw[append_assoc _ (List.replicate y 0),<- replicate_succ']at hv
 grind
 have a8:y=na ak.length:=by grind[na]
 subst a8;exact ag H v ao hO hv
theorem auB:∀y,y<8->72057594037927936/256^y=2^(56-8*y):=by decide
theorem auC{bw n:Nat}{bL:LX}{cy:LN}(hO:aj H (ae++bB v ao))(hv:e8 v jj ao)(aE:jj.length<=95000000)(aR:n<18446744073709551616)
  (ag:∀aa aH bu,aj aa (ae++bB aH bu)->e8 aH (jj++tp n) bu->bL 2 [ai bw 0,aH] aa):
  eI P true 252 PN 12 [ai bw 0,v,bQ .u64 n,.int .u64 72057594037927936,int 0] H bL cy:=by
 refine aoU (fun k aF aa=>∃(y:Nat) (v:Value) (ao:List Value),y<=8/\k=8-y/\aF=[ai bw 0,v,bQ .u64 n,bQ .u64 (72057594037927936/256^y),int y]/\aj aa (ae++bB v ao)/\e8 v (jj++(tp n).take y) ao) _ _ ?_ 8 _ _ ⟨0,v,ao,by omega,rfl,rfl,hO,by rw[take_zero,append_nil];exact hv⟩;rintro k aF H ⟨y,v,ao,a8,rfl,rfl,hO,hv⟩;unfold Yp
 try simp only[cu,cv]
 refine ah ez (bz (fun h=>?_) (fun h=>?_));have zH:y<8:=by omega
 have hf:=auB y zH;have bS:0<2^(56-8*y):=Nat.two_pow_pos _;refine ah (OS (k:=.u64) rfl (by omega) aR) ?_;rw[hf];refine ah (xS (k:=.u64) (b:=256) (by decide)) (bV (vv (eE:=.u8) rfl) ?_);rw[show gk .u8=256 from rfl,mod_mod];refine gj hO (Eb _ _) ?_;intro q H hO;refine wA (aX:=[((n/2^(56-8*y)%256:Nat):Int)]) hO hv (by grind) rfl (.inr rfl) ?_;intro H v ao hO hv;have e:(tp n).take y++[((n/2^(56-8*y)%256:Nat):Int)]=(tp n).take (y+1):=by grind[take_add_one,adf]
 rw[append_assoc,e]at hv;have an:2^(56-8*y)<gk .u64:=Nat.lt_of_le_of_lt (Nat.pow_le_pow_right (by omega) (show 56-8*y<=56 by omega)) (by decide);refine ah (OS (k:=.u64) (b:=256) rfl (by decide) an) ?_
 repeat refine bD ?_
 refine⟨8-(y+1),by omega,y+1,v,ao,by omega,rfl,?_,hO,hv⟩;rw[<- hf,Nat.div_div_eq_div_mul,<- Nat.pow_succ];rfl;have a8:y=8:=by omega
 subst a8;rw[take_of_length_le (by rw[KP];omega)]at hv;exact ag H v ao hO hv
theorem auD{bw dC jV:Nat}{bL:LX}{cy:LN}(hv:b3 ae v data)(an:∀x∈data,0<=x/\x<=255)(hm:data.length%64=0)(aE:data.length<=1000000000)
  (hO:aj H (ae++[(dC,⟨pb BH,true⟩),(jV,⟨j3.map fun(n:Nat)=>u64 n,true⟩)]))
  (ag:∀aa,aj aa (ae++[(dC,⟨pb (mx data),true⟩),(jV,⟨j3.map fun(n:Nat)=>u64 n,true⟩)])->bL 4 [ai bw 0,ai dC 0] aa):
  eI P true 252 PO 132 [ai bw 0,v,ai dC 0,ai jV 0,int 0] H bL cy:=by
 refine aoV (fun k aF aa=>∃(y:Nat),64*y<=data.length/\k=data.length/64-y/\aF=[ai bw 0,v,ai dC 0,ai jV 0,int ((64*y:Nat):Int)]/\aj aa (ae++[(dC,⟨pb (pN data y),true⟩),(jV,⟨j3.map fun(n:Nat)=>u64 n,true⟩)])) _ _ ?_ (data.length/64) _ _ ⟨0,by omega,rfl,rfl,hO⟩;rintro k aF H ⟨y,a8,rfl,rfl,hO⟩;unfold Yq
 try simp only[cu,cv]
 refine bV hv.bP (ah ez (bz (fun h=>?_) (fun h=>?_)));have auE:64*y+64<=data.length:=by omega
 have mw:∀x∈(data.drop (64*y)).take 64,0<=x/\x<=255:=fun x al=>an x (mem_of_mem_drop (mem_of_mem_take al))
 refine ah auu ?_;rw[QQ];refine c4 hO ?_;intro lK H hO;refine e7 hO (_+0) (aA rfl) rfl rfl rfl ?_;intro H hO
 replace hO:=hO.cb
 refine aun hv.app an auE aE hO ?_;intro H hO;refine km rfl ?_
 try simp only[cu,cv]
 refine fs hO (ae.length+0) (aK (aA rfl)) rfl (by omega) ?_;rw[QR];refine c4 hO ?_;intro rW H hO;refine e7 hO (_+0) (aA rfl) rfl rfl rfl ?_;intro H hO
 replace hO:=hO.cb
 refine aur (s:=pN data y) (gQ:=hU ((data.drop (64*y)).take 64) 64) (Gx y) (Gz mw 64) (Gy 64) (adv:=ae.length+1) (adw:=_+0) (aK (aA rfl)) (aA rfl) hO ?_;intro H hO;refine km rfl ?_
 try simp only[cu,cv]
 rw[append_assoc,append_assoc]at hO;refine auy (s:=pN data y) (R:=rU (hU ((data.drop (64*y)).take 64) 64) (pN data y) 64) (T:=[(lK,_),(rW,_)]) (Gx y) (Gw (Gx y) 64) rfl hO ?_;intro H hO;refine km rfl ?_
 try simp only[cu,cv]
 refine ah (v:=int ((64*(y+1):Nat):Int)) (by grind[jg]) (⟨data.length/64-(y+1),by omega,y+1,by omega,rfl,rfl,?_⟩);rw[<- append_assoc]at hO;exact hO.left;have lI:y=data.length/64:=by omega
 subst lI;exact ag _ hO
theorem BO(hO:aj H ae)(al:b3 ae x ak)(an:∀x∈ak,0<=x/\x<=255)(aE:ak.length<=80000000)(ag:∀aa,aj aa ae->ab (agg (a1 (hr ak))) aa):az P 35 [x] H ab:=by
 apply ao1;unfold Yw;rw[zI];refine c4 hO ?_;intro bw H hO;refine gj hO (yd _) ?_;intro q H hO;refine tf (v:=aC q 0 0 3) (ao:=[]) (ak:=[]) hO (.inr ⟨q,.inr ⟨rfl,rfl⟩,rfl,Nat.le_refl _,rfl⟩) al.app (by grind) ?_;intro H v ao hO hv;refine gj hO (Eb 128 _) ?_;intro q2 H hO;refine wA (aX:=[128]) hO hv (by grind) rfl (.inr rfl) ?_;intro H v ao hO hv;refine auA (ak:=ak) hO hv (by omega) ?_;intro H v ao hO hv;refine km rfl ?_
 try simp only[cu,cv]
 have QJ:na ak.length<64:=mod_lt _ (by decide);have pv:=atC (ak:=ak);have auF:∀x∈vE ak,0<=x/\x<=255:=nc (nc (nc an (Ea (by decide))) GC) adg;have K1:(vE ak).length<=1000000000:=by grind[vE,KP]
 refine bV al.bP (bV (DA (by omega) (by omega)) ?_);rw[Int.toNat_natCast];refine ah (v:=bQ .u64 (8*ak.length)) (by rw[show(Value.int .u64 8)=bQ .u64 8 from rfl,OQ (k:=.u64) rfl,mod_eq_of_lt (show ak.length*8<gk .u64 from(show _<18446744073709551616 by omega)),Nat.mul_comm]) ?_;refine auC hO hv (by grind) (by omega) ?_;intro H v ao hO hv
 replace hv:e8 v (vE ak) ao:=hv
 refine km rfl ?_
 try simp only[cu,cv]
 refine auv hO ?_;intro H hO;refine auw hO ?_;intro H hO;rw[QR,QQ];refine c4 hO ?_;intro dC H hO;refine c4 hO ?_;intro jV H hO;rw[append_assoc _ [_] [_]]at hO;refine e7 hO (_+0) (aA (L:=[_]++[_]) rfl) rfl rfl rfl ?_;intro H hO
 replace hO:=hO.cb
 refine e7 hO (_+1) (aA (L:=[_,_]) rfl) rfl rfl rfl ?_;intro H hO
 replace hO:=hO.cb
 refine auD (data:=vE ak) hv.hF.app' auF pv K1 hO ?_;intro H hO;refine km rfl ?_
 try simp only[cu,cv]
 refine ah (v:=agg (ou [])) (by rfl) ?_;rw[show List.replicate 32 (bQ .u8 0)=ou []from rfl]at hO⊢;refine c4 hO ?_;intro BN H hO;refine e7 hO (_+0) (aA rfl) rfl rfl rfl ?_;intro H hO
 replace hO:=hO.cb
 refine auz (s:=mx (vE ak)) (T:=[]) (Gx _) (QS:=_+0) (aA (L:=[_,_]) rfl) hO ?_;intro H hO;refine km rfl ?_
 try simp only[cu,cv]
 refine fs hO (_+0) (aA rfl) rfl (by omega) (e7 hO (ae.length+0) (aK (aK (aK (aA rfl)))) rfl rfl (lG _) ?_);intro H hO;rw[set_append_left _ _ (by simp),set_append_left _ _ (by simp),set_append_left _ _ (by simp),Go.Ab.cb]at hO;exact fs hO (ae.length+0) (aK (aK (aK (aA rfl)))) rfl (by omega) (ag H hO.left.left.left.left)
end J
namespace J
open Go Go.Ab
variable[cr:bW]
variable{H:ar}{ae:List (Nat×ay)}{ab:VH}{aX:List Int}
theorem auG{n:Nat}(aR:n<=8)(ag:ab (int n) H):az P 211 [int n] H ab:=by
 apply are;unfold aa6
 repeat (first|refine bD ?_|refine vw ?_)
 exact ag
theorem GG{n size:Nat}(hO:aj H ae)(aR:n<2^64)(aw:size<=8)(ag:yc ae ab (kc size n)):az P 147 [bQ .u64 n,int size] H ab:=by
 apply aqw;unfold aah;refine gj hO (yd _) ?_;intro q H hO;refine aqv (fun k aF aa=>∃(y:Nat) (aH:Value) (bu:List Value),y<=size/\k=size-y/\aF=[bQ .u64 (n/256^y),int size,bq,aH,int y]/\aj aa (ae++bB aH bu)/\e8 aH (kc y n) bu) _ _ ?_ size _ _ ⟨0,aC q 0 0 3,[],by omega,by omega,by simp,hO,.inr ⟨q,.inr ⟨rfl,rfl⟩,rfl,zero_le _,rfl⟩⟩;rintro k aF aa ⟨y,aH,bu,a8,rfl,rfl,hO,hJ⟩;unfold aag
 try simp only[cu,cv]
 refine auG aw ?_
 repeat refine bD ?_
 refine bz (fun h=>?_) (fun h=>?_);have fU:y<size:=by omega
 have an:n/256^y<2^64:=Nat.lt_of_le_of_lt (div_le_self _ _) aR;refine ah (xS (b:=256) (by decide)) (bV (vv rfl) (gj hO (Gr _ _ _) ?_));intro q H hO;rw[show n/256^y%256%gk .u8=n/256^y%256 from mod_mod _ _]at*;refine wA (aX:=[((n/256^y%256:Nat):Int)]) hO hJ (by grind[tm]) rfl (.inr rfl) ?_;intro H T2 Wm hO auH;refine ah (OS (b:=256) rfl (by decide) an) ?_
 repeat refine bD ?_
 refine⟨_,by omega,y+1,T2,Wm,by omega,rfl,?_,hO,?_⟩;rw[Nat.div_div_eq_div_mul,<- Nat.pow_succ];rfl;rw[asn];exact auH;have e:y=size:=by omega
 subst e
 repeat refine Bn ?_
 exact ag _ _ _ hO hJ
end J
namespace J
open Go Go.Ab
variable[cr:bW]
end J
namespace J
open Go Go.Ab
variable[cr:bW]
end J
namespace J
open Go Go.Ab
variable[cr:bW]
variable{H:ar}{ae L:List (Nat×ay)}{ab:VH}{v:Value}{ak aX b:List Int}{p q o n k:Nat}{e:Int}{ao:List Value}
section rules
variable[bW]
theorem _root_.Go.Ab.aj.z(h:aj H ae):aj H (ae++[]):=by rw[append_nil];exact h
theorem _root_.Go.Ab.aj.as{A B:List (Nat×ay)}(h:aj H ((ae++A)++B)):aj H (ae++(A++B)):=by rw[append_assoc]at h;exact h
theorem ja(h:aj H (ae++L))(ag:∀p aa,aj aa (ae++(L++[(p,⟨ao,true⟩)]))->ab (ai p 0) aa):cp ao H ab:=
 c4 h fun p aa hO=>ag p aa hO.as
theorem di{ab:VH}(h:aj H (ae++L))(k:Nat)(aq:L[k]?=some (p,⟨ao,true⟩))(h1:eA v=true)(aR:o<ao.length)(ag:∀aa,aj aa (ae++L.set k (p,⟨ao.set o v,true⟩))->ab undef aa):af (bm 1 (ai p o) v H) ab:=
 fm h (ae.length+k) (aA aq) h1 aR rfl fun aa hO=>ag aa hO.cb
theorem kq{ab:VH}{cL:List Value}(h:aj H (ae++L))(k:Nat)(aq:L[k]?=some (p,⟨ao,true⟩))(aR:ao.length=n)(aE:cL.length=n)(h1:cL.all eA=true)(ag:∀aa,aj aa (ae++L.set k (p,⟨cL,true⟩))->ab undef aa):af (bm n (ai p 0) (agg cL) H) ab:=
 e7 h (ae.length+k) (aA aq) aR aE h1 fun aa hO=>ag aa hO.cb
theorem iQ{ab:VH}{b:Bool}(h:aj H (ae++L))(k:Nat)(aq:L[k]?=some (p,⟨ao,b⟩))(aR:ao.length=n)(bS:0<n)(ag:ab (agg ao) H):af (bT n (ai p 0) H) ab:=
 fs h (ae.length+k) (aA aq) aR bS ag
theorem GH(h:aj H (ae++L))(k:Nat)(aq:L[k]?=some (p,⟨ao,true⟩))(aR:ao.length=n)(bS:0<n):l1 n 1 (ai p 0) none none none H=some (aC p 0 n 3):=
 xU h (ae.length+k) (aA aq) bS (by simp_all)
theorem yk{b:Bool}(k:Nat)(aq:L[k]?=some (p,⟨a1 ak,b⟩)){c:Nat}(aD:c=2\/c=3)(aR:ak.length=n):b3 (ae++L) (aC p 0 n c) ak:=
 .inr ⟨p,0,c,by rw[aR],aD,.inr ⟨ae.length+k,_,aA aq,by simp_all[take_of_length_le]⟩⟩
theorem K2{q o n c:Nat}{ab:VH}(hO:aj H (ae++L))(k:Nat)(aq:L[k]?=some (q,⟨ao,true⟩))(aR:0<n)(ag:ab (aC q o n c) H):af (vT (aC q o n c) H) ab:=by
 have hg:H.get q=some ⟨ao,true⟩:=hO.at _ (aA aq) (.inl rfl);refine bV ?_ ag;have an:Nat.beq n 0=false:=by grind[eq_of_beq_eq_true]
 unfold vT;simp only[an,hg];have:ar.nZ H q ⟨ao,true⟩=true:=by unfold ar.nZ;rw[hO.ck];rfl
 rw[this]
theorem yl{A B:List (Nat×ay)}(h:aj H (ae++(A++B))):aj H (ae++A):=by rw[<- append_assoc]at h;exact h.left
theorem QT{A B:List (Nat×ay)}(h:aj H (ae++(A++B))):aj H (ae++B):=by rw[<- append_assoc]at h;exact aj.cd h
theorem QU{i:Nat}{ab:VH}{c:Nat}(hO:aj H ae)(aq:ae[i]?=some (q,⟨ao,true⟩))(hv:b3 ae v aX)(aR:aX.length<=n)(aE:o+n<=ao.length)
  (ag:∀aa,aj aa (ae.set i (q,⟨ao.take o++(a1 aX++ao.drop (o+aX.length)),true⟩))->ab (int aX.length) aa):af (qF 1 (aC q o n c) v H) ab:=by
 obtain⟨aa,aM,aw⟩:=FW hO (o:=o) (vs:=a1 aX) aq (by grind) (by simp[eA]);unfold qF;simp only[hv.mM];have hm:Nat.min aX.length n=aX.length:=Nat.min_eq_left aR;rw[hm];cases an:Nat.beq aX.length 0 with
 | true=>
  have aN:=eq_of_beq_eq_true an;have:aX=[]:=length_eq_zero_iff.1 aN;subst this;have e:ao.take o++(a1 []++ao.drop (o+([]:List Int).length))=ao:=by simp_all
  refine bV (show _=some (int (0:Nat),H)from rfl) (ag H ?_);rw[e,OG aq];exact hO
 | false=>simp only[Bool.false_eq_true,if_false];rw[hv.pB hO];simp only;rw[aM];refine bV (show some (Value.int .i64 ((aX.length:Nat):Int),aa)=_ from rfl) ?_;rw[length_map]at aw;exact ag _ aw
end rules
end J
namespace J
open Go Go.Ab
variable[cr:bW]
variable{H:ar}{ae:List (Nat×ay)}{ab:VH}{v w x:Value}{key:List Int}{j q n k:Nat}{e:Int}
def kG(k:List Int):List Int:=if 64<k.length then hr k else k
def ux(x:Int)(w:Nat):Int:=((x.toNat ^^^ w:Nat):Int)
def nQ(k:List Int)(w:Nat):List Int:=(List.range 64).map fun i=>ux ((kG k).getD i 0) w
def q4(k m:List Int):List Int:=hr (nQ k 92++hr (nQ k 54++m))
theorem pO{m:List Int}:(hr m).length=32:=rfl
theorem Ed{m:List Int}:∀x∈hr m,0<=x/\x<=255:=by
 intro x al;obtain⟨a,_,al⟩:=mem_flatMap.1 al;have hm:∀n:Nat,0<=((n%256:Nat):Int)/\((n%256:Nat):Int)<=255:=fun n=>by omega
 unfold zF at al
 grind
theorem QV(k:List Int):(kG k).length<=64:=by grind[kG,pO]
theorem GI(an:∀x∈key,0<=x/\x<=255):∀x∈kG key,0<=x/\x<=255:=by unfold kG;split;exact Ed;omega
theorem q5{k:List Int}{w:Nat}:(nQ k w).length=64:=by rfl
theorem QW{x:Int}{w:Nat}(al:x.toNat<256)(aM:w<256):0<=ux x w/\ux x w<=255:=by
 have:=xor_lt_two_pow (n:=8) al aM
 grind[ux]
theorem Ee{w:Nat}(aM:w<256)(an:∀x∈key,0<=x/\x<=255):∀x∈nQ key w,0<=x/\x<=255:=by intro x al;obtain⟨i,_,rfl⟩:=mem_map.1 al;exact QW (wS (GI an) i) aM
def BP(k:List Int):List Int:=kG k++List.replicate (64-(kG k).length) 0
theorem GJ{k:List Int}:(BP k).length=64:=by simp_all[QV,BP]
theorem auI{k:List Int}{i:Nat}:(BP k).getD i 0=(kG k).getD i 0:=by grind[BP]
def rX(k:List Int)(w y:Nat):List Int:=(nQ k w).take y++(BP k).drop y
theorem adC{k:List Int}{w y:Nat}(h:y<=64):(rX k w y).length=64:=by simp_all[rX,q5,GJ]
theorem auJ{k:List Int}{w y:Nat}(h:y<64):(a1 (rX k w y))[y]?=some (.int .u8 ((kG k).getD y 0)):=by
 unfold rX a1;rw[map_append,List.getElem?_append_right (by grind)];have:(BP k)[y]?=some ((kG k).getD y 0):=by rw[List.getElem?_eq_getElem (by grind[GJ]),<- auI,getD_eq_getElem?_getD,List.getElem?_eq_getElem (by grind[GJ])];rfl
 grind[q5]
theorem auK{k:List Int}{w y:Nat}(h:y<64):(a1 (rX k w y)).set y (.int .u8 (ux ((kG k).getD y 0) w))=a1 (rX k w (y+1)):=by
 apply ext_getElem?;intro i;have aE:=q5 (k:=k) (w:=w);have dQ:=GJ (k:=k);have bS:(nQ k w)[y]?=some (ux ((kG k).getD y 0) w):=by simp_all[nQ]
 rw[List.getElem?_set];by_cases aq:y=i;subst aq;rw[if_pos rfl,if_pos (by grind[adC])];unfold rX a1;rw[map_append,List.getElem?_append_left (by grind)];simp[bS];rw[if_neg aq];unfold rX a1;rw[map_append,map_append];by_cases h2:i<y
 grind
 rw[List.getElem?_append_right (by grind),List.getElem?_append_right (by grind)]
 grind
theorem auL:cQ P 101=List.replicate 64 (bQ .u8 0):=by rfl
theorem adD{m:Nat}(hm:m<256)(hO:aj H ae)(hv:b3 ae v key)(an:∀x∈key,0<=x/\x<=255)(aE:key.length<=80000000)
  (ag:∀aa q,aj aa (ae++[(q,⟨a1 (nQ key m),true⟩)])->ab (aC q 0 64 3) aa):az P 255 [v,.int .u8 m] H ab:=by
 apply arR;unfold abK;refine e6 (fun aF aa=>∃(aH:Value) (B:List (Nat×ay)),aF=[aH,.int .u8 m,bq]/\aj aa (ae++B)/\b3 (ae++B) aH (kG key)) ?_ ?_;refine bV hv.bP (ah kQ (bz (fun h=>?_) (fun h=>?_)));obtain⟨a,n,c,aw⟩:=hv.kz;refine gj hO (by rw[aw];exact ach _ _ _ _) ?_;rw[<- aw];intro q H hO;refine QK (j:=ae.length+0) hO (aA rfl) hv.app an aE ?_;intro H hO;rw[zI];refine ja hO ?_;intro fo H hO;refine kq hO 1 rfl (by simp) (by simp[pO]) (lG _) ?_;intro H hO;refine ah (GH hO 1 rfl (by simp[pO]) (by omega)) (⟨_,_,rfl,hO,?_⟩);rw[show kG key=hr key from if_pos (by omega)];exact yk 1 rfl (.inr rfl) pO;refine⟨v,[],rfl,hO.z,?_⟩;rw[show kG key=key from if_neg (by omega)];exact hv.app;rintro aF H ⟨aH,B,rfl,hO,U⟩
 try simp only[cu,cv]
 rw[auL];refine c4 hO ?_;intro gH H hO;have nR:=QV key;refine ah (xU hO ((ae++B).length+0) (aA rfl) (by omega) (by simp)) (QU hO (aA (k:=0) rfl) U.app nR (by simp) ?_);intro H hO
 replace hO:=hO.cb
 have ic:((List.replicate 64 (bQ .u8 0)).take 0++(a1 (kG key)++(List.replicate 64 (bQ .u8 0)).drop (0+(kG key).length)))=a1 (rX key m 0):=by rw[Nat.zero_add,drop_replicate];simp only[rX,BP,take_zero,nil_append,drop_zero,a1,map_append,map_replicate];rfl
 rw[ic]at hO
 replace hO:aj H (ae++[(gH,⟨a1 (rX key m 0),true⟩)]):=aj.cd hO
 refine arQ (fun k aF aa=>∃(y:Nat),y<=64/\k=64-y/\aF=[.int .u8 m,bq,ai gH 0,int y]/\aj aa (ae++[(gH,⟨a1 (rX key m y),true⟩)])) _ _ ?_ 64 _ _ ⟨0,by omega,by omega,rfl,hO⟩;rintro k aF H ⟨y,a8,rfl,rfl,hO⟩;unfold abJ
 try simp only[cu,cv]
 refine ah ez (bz (fun h=>?_) (fun h=>?_));have a8:y<64:=by omega
 have hg:=wS (GI an) y
 repeat refine bD ?_
 refine cw hO 0 rfl (by rw[show 0+(y:Int).toNat*1=y by omega];exact auJ a8) ?_;have al:Value.int .u8 ((kG key).getD y 0)=bQ .u8 ((kG key).getD y 0).toNat:=by refine F1 ?_;rw[getD_eq_getElem?_getD];by_cases aq:y<(kG key).length;rw[List.getElem?_eq_getElem aq];exact(GI an _ (getElem_mem aq)).1;rw[List.getElem?_eq_none (by omega)];decide
 rw[al];refine ah (mV (k:=.u8) rfl hg hm) ?_
 repeat refine bD ?_
 refine di hO 0 rfl rfl (by simp[adC (show y<=64 by omega)];omega) ?_;intro H hO
 repeat refine bD ?_
 refine⟨_,?_,y+1,by omega,rfl,rfl,?_⟩;omega;have bb:=auK (k:=key) (w:=m) a8;rw[show 0+(y:Int).toNat*1=y by omega]at hO;have hO:aj H (ae++[(gH,⟨(a1 (rX key m y)).set y (.int .u8 (ux ((kG key).getD y 0) m)),true⟩)]):=hO;rw[bb]at hO;exact hO;have e:y=64:=by omega
 subst e;have bt:rX key m 64=nQ key m:=by unfold rX;rw[take_of_length_le (by rw[q5];omega),drop_of_length_le (by rw[GJ];omega),append_nil]
 rw[bt]at hO
 repeat refine Bn ?_
 exact ah (GH hO 0 rfl (by simp[q5]) (by omega)) (ag _ _ hO)
end J
namespace J
open Go Go.Ab
variable[cr:bW]
variable{H:ar}{ae L:List (Nat×ay)}{ab:VH}{v w x:Value}{ak aX b key ms:List Int}{j q n k:Nat}{e:Int}
theorem auM{q:Nat}{dD:Value}(hO:aj H ae)(cf:ae[j]?=some (q,(⟨[v,dD],true⟩:ay)))(hv:b3 ae v ak)(jG:b3 ae dD aX)(al:∀x∈ak,0<=x/\x<=255)(adE:∀x∈aX,0<=x/\x<=255)(aE:ak.length<=8000000)(sD:aX.length<=8000000)
  (ag:∀aa,aj aa ae->ab (agg (a1 (hr (ak++aX)))) aa):az P 204 [aC q 0 2 3] H ab:=by
 apply aaY;unfold Qa;rw[zI];refine c4 hO ?_;intro bw H hO;refine KX hO ?_;intro H ba hO;have aO:ju ba [] (nb ba (mx []) bq ([]:List Int).length []):=⟨bq,[],rfl,.inl ⟨rfl,rfl,rfl⟩⟩;refine bV xL ?_;generalize (nb ba (mx []) bq ([]:List Int).length [])=L at*;refine aaX (fun k aF aa=>∃(y:Nat) (L:List (Nat×ay)),y<=2/\k=2-y/\aF=[ai bw 0,ai ba 0,aC q 0 2 3,int 2,int y]/\aj aa ((ae++[(bw,⟨List.replicate 32 (bQ .u8 0),true⟩)])++L)/\ju ba ([ak,aX].take y).flatten L) _ _ ?_ 2 _ _ ⟨0,L,by omega,rfl,rfl,hO,aO⟩;rintro k aF H ⟨y,L,a8,rfl,rfl,hO,aO⟩;unfold P0
 try simp only[cu,cv]
 refine ah ez (bz (fun h=>?_) (fun h=>?_));have vF:y=0\/y=1:=by omega
 rcases vF with rfl|rfl
 refine ah (h4 (by omega) (by omega)) (aP hO j (aK (aK cf)) (v:=v) rfl (yj hO aO hv.app (by simp_all) al (by simp) (by omega) ?_));intro H L hO aO
 repeat refine bD ?_
 exact⟨1,by omega,1,L,by omega,rfl,rfl,hO,by simpa using aO⟩;refine ah (h4 (by omega) (by omega)) (aP hO j (aK (aK cf)) (v:=dD) rfl (yj hO aO jG.app (by simp_all) adE (by grind) (by omega) ?_));intro H L hO aO
 repeat refine bD ?_
 exact⟨0,by omega,2,L,by omega,rfl,rfl,hO,by simpa using aO⟩;have vF:y=2:=by omega
 subst vF
 replace aO:ju ba (ak++aX) L:=by simpa using aO
 refine km rfl ?_
 try simp only[cu,cv]
 refine K0 hO aO (nc al adE) (by grind) ?_;intro H hO;refine o0 hO (ae.length+0) (aK (aA rfl)) rfl (show 0+32<=32 by omega) (show(a1 (hr (ak++aX))).all eA=true by rfl) ?_;intro H hO;rw[set_append_left _ _ (by simp),Go.Ab.cb]at hO;exact hG hO (ae.length+0) (aK (aA rfl)) (show _=a1 (hr (ak++aX))from rfl) rfl (by omega) (ag H hO.left.left)
theorem auN{q c:Nat}(hO:aj H ae)(hv:b3 ae v key)(cf:ae[j]?=some (q,(⟨[x],true⟩:ay)))(al:b3 ae x ms)(an:∀x∈key,0<=x/\x<=255)(hm:∀x∈ms,0<=x/\x<=255)(aE:key.length<=80000000)(sD:ms.length<=8000000)
  (ag:∀aa,aj aa ae->ab (agg (a1 (q4 key ms))) aa):az P 231 [v,aC q 0 1 c] H ab:=by
 apply arw;unfold abn;rw[zI];refine c4 hO ?_;intro cM H hO;refine KX hO ?_;intro H ba hO;have aO:ju ba [] (nb ba (mx []) bq ([]:List Int).length []):=⟨bq,[],rfl,.inl ⟨rfl,rfl,rfl⟩⟩;generalize (nb ba (mx []) bq ([]:List Int).length [])=L at*;refine adD (m:=54) (by omega) hO hv.app.app an aE ?_;intro H bO hO;have de:=GD hO;refine yj de aO (w:=aC bO 0 64 3) (aX:=nQ key 54) (yk 0 rfl (.inr rfl) q5) (by simp_all) (Ee (by omega) an) (by simp) (by rw[q5];omega) ?_;intro H L hO aO
 replace aO:ju ba (nQ key 54) L:=aO
 replace hO:=KZ hO
 refine bV xL (arv (fun k aF aa=>∃(y:Nat) (L:List (Nat×ay)),y<=1/\k=1-y/\aF=[v,ai cM 0,ai ba 0,aC q 0 1 c,int 1,int y]/\aj aa ((ae++[(cM,⟨List.replicate 32 (bQ .u8 0),true⟩)])++L)/\ju ba (nQ key 54++([ms].take y).flatten) L) _ _ ?_ 1 _ _ ⟨0,L,by omega,rfl,rfl,hO,by simpa using aO⟩);rintro k aF H ⟨y,L,a8,rfl,rfl,hO,aO⟩;unfold abm
 try simp only[cu,cv]
 refine ah ez (bz (fun h=>?_) (fun h=>?_));have vF:y=0:=by omega
 subst vF;refine ah (h4 (by omega) (by omega)) (aP hO j (aK (aK cf)) (v:=x) rfl (yj hO aO al.app (by simpa using Ee (by omega) an) hm (by simp[q5]) (by omega) ?_));intro H L hO aO
 repeat refine bD ?_
 exact⟨0,by omega,1,L,by omega,rfl,rfl,hO,by simpa using aO⟩;have vF:y=1:=by omega
 subst vF
 replace aO:ju ba (nQ key 54++ms) L:=by simpa using aO
 refine km rfl ?_
 try simp only[cu,cv]
 refine K0 hO aO (nc (Ee (by omega) an) hm) (by grind[q5]) ?_;intro H hO
 replace hO:=hO.left
 refine ja hO ?_;intro jV H hO;refine kq hO 1 rfl (by simp) (by rfl) (lG _) ?_;intro br eh;refine adD (m:=92) (by omega) eh hv.app an aE ?_;intro H q2 hO;refine ah (xU hO (ae.length+1) (aK (aA rfl)) (by omega) (by simp[pO])) (⟨gu eh (ae.length+1) (aA rfl) hO (ae.length+1) (aK (aA rfl)) (zA _),?_⟩);refine gj hO (asj _ _ _ _ _ _ _) ?_;intro dz H hO
 replace hO:=hO.as.as
 refine auM (j:=ae.length+3) (ak:=nQ key 92) (aX:=hr (nQ key 54++ms)) hO (aA rfl) (yk 2 rfl (.inr rfl) q5) (yk 1 rfl (.inr rfl) pO) (Ee (by omega) an) Ed (by rw[q5];omega) (by rw[pO];omega) ?_;intro H hO;refine kq hO 0 rfl (by simp) (by rfl) (lG _) ?_;intro H hO;exact iQ hO 0 rfl (by rfl) (by omega) (ag H hO.left)
theorem auO{a b:Nat}:a ^^^ b=0↔a=b:=by
 constructor;intro h;apply eq_of_testBit_eq;intro i;have:=congrArg (·.testBit i) h
 grind
 simp_all
theorem auP{a b:List Int}{y:Nat}(bp:y<a.length)(an:y<b.length):a.take (y+1)=b.take (y+1)↔a.take y=b.take y/\a[y]=b[y]:=by grind[take_succ_eq_append_getElem,append_inj]
theorem auQ{a b:List Int}(bp:a.length=32)(an:b.length=32)(kX:∀x∈a,0<=x/\x<=255)(auR:∀x∈b,0<=x/\x<=255)(hO:aj H ae)
  (ag:∀aa,aj aa ae->ab (.bool (decide (a=b))) aa):az P 230 [agg (a1 a),agg (a1 b)] H ab:=by
 apply aru;unfold abk;refine ja hO.z ?_;intro bw H hO;refine ja hO ?_;intro eX H hO
 replace hO:aj H (ae++[(bw,⟨a1 a,true⟩),(eX,⟨a1 b,true⟩)]):=hO
 refine art (fun k aF aa=>∃(y d:Nat),y<=32/\k=32-y/\aF=[ai bw 0,ai eX 0,.bool false,bQ .u8 d,int y]/\aa=H/\d<256/\(d=0↔a.take y=b.take y)) _ _ ?_ 32 _ _ ⟨0,0,by omega,by omega,rfl,rfl,by omega,by simp⟩;rintro k aF aa ⟨y,d,a8,rfl,rfl,rfl,aO,aq⟩;unfold abj
 try simp only[cu,cv]
 refine ah ez (bz (fun h=>?_) (fun h=>?_));have a8:y<32:=by omega
 have Im:=kX _ (getElem_mem (show y<a.length by omega));have MP:=auR _ (getElem_mem (show y<b.length by omega))
 repeat refine bD ?_
 refine cw hO 0 rfl (v:=.int .u8 a[y]) (by simp_all) ?_
 repeat refine bD ?_
 refine cw hO 1 rfl (v:=.int .u8 b[y]) (by simp_all) ?_;rw[F1 Im.1,F1 MP.1];have rL:a[y].toNat ^^^ b[y].toNat<256:=xor_lt_two_pow (n:=8) (by omega) (by omega);refine ah (mV (k:=.u8) rfl (show _<256 by omega) (show _<256 by omega)) (ah (Bl (k:=.u8) rfl (show _<256 by omega) (show _<256 from rL)) ?_)
 repeat refine bD ?_
 refine⟨_,?_,y+1,_,by omega,rfl,rfl,rfl,or_lt_two_pow (n:=8) aO rL,?_⟩;omega
 grind[auO,auP]
 have e:y=32:=by omega
 subst e;rw[take_of_length_le (by omega),take_of_length_le (by omega)]at aq;refine km rfl ?_
 try simp only[cu,cv]
 refine ah (WA (k:=.u8) (b:=0)) ?_;have:=ag _ hO.left;rw[decide_eq_decide.2 aq];exact this
end J
namespace J
open Go Go.Ab
variable[cr:bW]
variable{H:ar}{ae bX:List (Nat×ay)}{ab:VH}{v w x:Value}{aX b key ms:List Int}{n k:Nat}{e:Int}
theorem adF{k:List Int}{w y:Nat}(h:y<64):(nQ k w).take (y+1)=(nQ k w).take y++[ux ((kG k).getD y 0) w]:=by simp_all[take_succ_eq_append_getElem,nQ]
theorem auS(hO:aj H ae)(hv:b3 ae v key)(al:b3 ae x ms)(an:∀x∈key,0<=x/\x<=255)(hm:∀x∈ms,0<=x/\x<=255)(aE:key.length<=80000000)(sD:ms.length<=8000000)
  (ag:∀aa,aj aa ae->ab (agg (a1 (q4 key ms))) aa):az P 210 [v,x] H ab:=by
 apply ard;unfold aa5;rw[zI];refine c4 hO ?_;intro cM H hO;refine e6 (fun aF aa=>∃(aH:Value) (B:List (Nat×ay)),aF=[aH,x,ai cM 0]/\aj aa ((ae++B)++[(cM,⟨List.replicate 32 (bQ .u8 0),true⟩)])/\b3 (ae++B) aH (kG key)) ?_ ?_;refine bV hv.bP (ah kQ (bz (fun h=>?_) (fun h=>?_)));refine BO hO hv.app an aE ?_;intro H hO;refine ja hO ?_;intro fo H hO;refine kq hO 1 rfl (by simp) (by rfl) (lG _) ?_;intro H hO;refine ah (GH hO 1 rfl (by rfl) (by omega)) ?_
 replace hO:aj H (ae++([(cM,⟨List.replicate 32 (bQ .u8 0),true⟩)]++[(fo,⟨a1 (hr key),true⟩)])):=hO
 rw[<- append_assoc]at hO;refine⟨_,_,rfl,hO.nw,?_⟩;rw[show kG key=hr key from if_pos (by omega)];exact yk 0 rfl (.inr rfl) pO;refine⟨v,[],rfl,by rw[append_nil];exact hO,?_⟩;rw[show kG key=key from if_neg (by omega)];exact hv.app;rintro aF H ⟨aH,B,rfl,hO,U⟩
 try simp only[cu,cv]
 replace al:=al.app (bX:=B)
 replace ag:∀aa,aj aa (ae++B)->ab (agg (a1 (q4 key ms))) aa:=fun aa h=>ag aa h.left
 generalize ae++B=ae at*;have nR:=QV key;refine gj hO (yd _) ?_;intro bO H hO;refine gj hO (yd _) ?_;intro q2 H hO;refine arc (fun k aF aa=>∃(y:Nat) (dS dD:Value) (eP dR:List Value),y<=64/\k=64-y/\aF=[aH,x,ai cM 0,dS,dD,int y]/\aj aa (((ae++[(cM,⟨List.replicate 32 (bQ .u8 0),true⟩)])++bB dS eP)++bB dD dR)/\e8 dS ((nQ key 54).take y) eP/\e8 dD ((nQ key 92).take y) dR) _ _ ?_ 64 _ _
  ⟨0,aC bO 0 0 3,aC q2 0 0 3,[],[],by omega,by omega,rfl,hO,.inr ⟨bO,.inr ⟨rfl,rfl⟩,rfl,zero_le _,rfl⟩,.inr ⟨q2,.inr ⟨rfl,rfl⟩,rfl,zero_le _,rfl⟩⟩
 rintro k aF H ⟨y,dS,dD,eP,dR,a8,rfl,rfl,hO,bZ,dr⟩;unfold aa4
 try simp only[cu,cv]
 refine ah ez (bz (fun h=>?_) (fun h=>?_));have a8:y<64:=by omega
 have hg:=wS (GI an) y;refine e6 (fun aF aa=>aF=[aH,x,ai cM 0,dS,dD,int y,bQ .u8 ((kG key).getD y 0).toNat]/\aa=H) ?_ ?_;refine bV U.bP (ah ez (bz (fun h=>?_) (fun h=>?_)));exact DZ hO U.app.app.app (GI an) (n:=y) rfl (by omega) (⟨rfl,rfl⟩);refine⟨?_,rfl⟩
 simp_all
 rintro aF aa ⟨rfl,rfl⟩
 try simp only[cu,cv]
 have rL:=QW hg (w:=54) (by omega);have F0:=QW hg (w:=92) (by omega);refine ah (mV (k:=.u8) (b:=54) rfl hg (show _<256 by omega)) (gj hO (Gr _ _ _) ?_);intro dz H hO
 replace hO:aj H (((ae++[(cM,⟨List.replicate 32 (bQ .u8 0),true⟩)])++bB dS eP++bB dD dR)++[(dz,⟨a1 [ux ((kG key).getD y 0) 54],true⟩)]):=hO
 replace hO:aj H (((ae++[(cM,⟨List.replicate 32 (bQ .u8 0),true⟩)])++bB dD dR++bB dS eP)++[(dz,⟨a1 [ux ((kG key).getD y 0) 54],true⟩)]):=hO.e4 (by classical exact perm_iff_count.2 fun _=>by grind)
 refine wA hO bZ (by grind) rfl (.inr rfl) ?_;intro H v3 ij hO hn;rw[<- adF a8]at hn;refine ah (mV (k:=.u8) (b:=92) rfl hg (show _<256 by omega)) (gj hO (Gr _ _ _) ?_);intro eM H hO
 replace hO:aj H (((ae++[(cM,⟨List.replicate 32 (bQ .u8 0),true⟩)])++bB dD dR++bB v3 ij)++[(eM,⟨a1 [ux ((kG key).getD y 0) 92],true⟩)]):=hO
 replace hO:aj H (((ae++[(cM,⟨List.replicate 32 (bQ .u8 0),true⟩)])++bB v3 ij++bB dD dR)++[(eM,⟨a1 [ux ((kG key).getD y 0) 92],true⟩)]):=hO.e4 (by classical exact perm_iff_count.2 fun _=>by grind)
 refine wA hO dr (by grind) rfl (.inr rfl) ?_;intro H v4 nv hO fr;rw[<- adF a8]at fr
 repeat refine bD ?_
 exact⟨64-(y+1),by omega,y+1,v3,v4,ij,nv,by omega,rfl,rfl,hO,hn,fr⟩;have e:y=64:=by omega
 subst e;rw[take_of_length_le (by rw[q5];omega)]at bZ dr;refine km rfl ?_
 try simp only[cu,cv]
 replace hO:=hO.nw
 refine tf hO bZ al.app.app (by rw[q5];omega) ?_;intro H v3 ij hO hn;refine BO hO hn.hF.app' (nc (Ee (by omega) an) hm) (by grind[q5]) ?_;intro H hO
 replace hO:=hO.left
 refine c4 hO ?_;intro fo H hO;refine e7 hO (_+0) (aA rfl) (by simp) (by rfl) (lG _) ?_;intro H hO
 replace hO:=hO.cb
 refine ah (xU hO (_+0) (aA rfl) (by omega) (by simp[pO])) (wA (aX:=hr (nQ key 54++ms)) hO dr (by simp[q5,pO]) (by rfl) (.inr rfl) ?_);intro H v4 nv hO fr;refine BO hO fr.hF.app' (nc (Ee (by omega) an) Ed) (by simp[q5,pO]) ?_;intro H hO
 replace hO:=hO.left
 refine kq hO 0 rfl (by simp) (by rfl) (lG _) ?_;intro H hO;exact iQ hO 0 rfl (by rfl) (by omega) (ag H hO.left)
end J
namespace J
open Go Go.Ab
variable[cr:bW]
variable{H:ar}{ae:List (Nat×ay)}{b:List Int}{n k:Nat}{e:Int}{l m:List UInt8}
abbrev bl(l:List UInt8):Value:=.string ⟨l.toArray⟩
theorem Ef:Be (bl l) H=some (int l.length,H):=by show some (Value.int .i64 (Int.ofNat (fG l)),H)=_;rw[gE];rfl
theorem adG{k:IntKind}{i:Int}(aN:0<=i)(h1:i<l.length):EU (bl l) (.int k i)=some (bQ .u8 (l.getD i.toNat 0).toNat):=by show(match j7 0 i with|true=>(nY l i.toNat).map vS|false=>none)=_;rw[k9,decide_eq_true aN];simp only[u1];rw[getD_eq_getElem?_getD,List.getElem?_eq_getElem (by omega)];rfl
theorem QX{len n:Nat}(h:n<=len):n2 len (some (int (n:Int)))=some n:=by
 show(match j7 0 (n:Int)with|true=>(match Nat.ble (n:Int).toNat len with|true=>some (n:Int).toNat|false=>none)|false=>none)=_
 simp_all[k9,ble_eq_true_of_le]
theorem QY{n:Nat}(h:n<=l.length):yK (bl l) none (some (int n)) none=some (bl (l.take n)):=by
 show(match n2 (fG l) (some (int n))with|some h=>(match qG h none with|some i=>some (Value.string ⟨(p1 (qD l i) (h-i)).toArray⟩)|none=>none)|none=>none)=_
 simp_all[QX,gE,qG,mj,nh]
theorem auT{n:Nat}(h:n<=l.length):yK (bl l) (some (int n)) none none=some (bl (l.drop n)):=by
 show(match n2 (fG l) none with|some h=>(match qG h (some (int n))with|some i=>some (Value.string ⟨(p1 (qD l i) (h-i)).toArray⟩)|none=>none)|none=>none)=_
 simp_all[gE,n2,KW,mj,nh,take_of_length_le]
theorem QZ(t:TypeId)(c:Bool):(au P .eql t c).f (bl l) (bl m)=some (.bool (l==m)):=rfl
def fW(l:List UInt8)(i:Nat):Nat:=(l.getD i 0).toNat
theorem sG(l:List UInt8)(i:Nat):fW l i<256:=(l.getD i 0).toNat_lt
def vc(c:Nat):Prop:=128<=c/\c<=191
instance (c:Nat):Decidable (vc c):=by unfold vc;exact inferInstance
def mz(l:List UInt8)(hc:Nat):Nat->Nat
 | 0=>hc
 | y+1=>64*mz l hc y+fW l (y+1)-128
def tr(l:List UInt8):Nat->Bool
 | 0=>true
 | y+1=>tr l y&&decide (vc (fW l (y+1)))
def q6(l:List UInt8)(size hc nd:Nat):Option (Nat×Nat):=
 if l.length<size then none else if tr l (size-1)=true then
  (if mz l hc (size-1)<nd\/mz l hc (size-1)>1114111\/(55296<=mz l hc (size-1)/\mz l hc (size-1)<=57343)then none else some (mz l hc (size-1),size))
 else none
def fr(l:List UInt8):Option (Nat×Nat):=
 if fW l 0<128 then some (fW l 0,1)
 else if 194<=fW l 0/\fW l 0<224 then q6 l 2 (fW l 0-192) 128
 else if 224<=fW l 0/\fW l 0<240 then q6 l 3 (fW l 0-224) 2048
 else if 240<=fW l 0/\fW l 0<245 then q6 l 4 (fW l 0-240) 65536
 else none
def nA(l:List UInt8):List Value:=match fr l with
 | none=>[int (fW l 0),bl (l.take 1),.bool true]
 | some r=>[int r.1,bl (l.take r.2),.bool false]
theorem K3:cQ P 276=[int 0,bl [],.bool false]:=by rfl
theorem Q0(n:Int)(s:ByteArray)(b:Bool):(c9 P 276).f [(0,int n),(1,.string s),(2,.bool b)]=some (agg [int n,.string s,.bool b]):=by rfl
theorem adH{hc:Nat}(h:hc<32):∀y,y<=3->mz l hc y<64^y*64:=by
 intro y a8
 match y,a8 with
 | 0,_=>grind[mz]
 | 1,_=>grind[sG,mz]
 | 2,_=>grind[sG,mz]
 | 3,_=>grind[sG,mz]
theorem auU{hc:Nat}(y:Nat)(h:tr l (y+1)=true):128<=64*mz l hc y+fW l (y+1):=by
 have:vc (fW l (y+1)):=by have h:(tr l y&&decide (vc (fW l (y+1))))=true:=h;rw[Bool.and_eq_true]at h;exact of_decide_eq_true h.2
 have:=this.1;omega
theorem auV{bw cM size hc nd:Nat}{bL:LX}{cy:LN}{pP:List Value}(o3:pP.length=3)(je:pP.all eA=true)(AN:hc<32)(jC:2<=size)(aw:size<=4)(aE:size<=l.length)
  (hO:aj H (ae++[(bw,⟨[int 0,bl [],.bool false],true⟩),(cM,⟨pP,true⟩)]))
  (sA:tr l (size-1)=true->bL 1 [bl l,ai bw 0,ai cM 0,int size,int (mz l hc (size-1)),int nd] H)
  (gA:tr l (size-1)=false->∀aa aF,aj aa (ae++[(bw,⟨pP,true⟩),(cM,⟨pP,true⟩)])->b4 aF 1=ai bw 0->cy aF aa):
  eI P true 98 Qb 245 [bl l,ai bw 0,ai cM 0,int size,int hc,int nd,int 1] H bL cy:=by
 refine arf (fun k aF aa=>∃(y:Nat),y+1<=size/\k=size-y/\aF=[bl l,ai bw 0,ai cM 0,int size,int (mz l hc y),int nd,int ((y+1:Nat):Int)]/\H=aa/\tr l y=true) _ _ ?_ size _ _ ⟨0,by omega,by omega,rfl,rfl,rfl⟩;rintro k aF aa ⟨y,a8,rfl,rfl,rfl,aD⟩;unfold aa7
 try simp only[cu,cv]
 refine ah ez (bz (fun h=>?_) (fun h=>?_));have a8:y+1<size:=by omega
 have BQ:=sG l (y+1);have aDA:=adH (l:=l) AN y (by omega);have xB:64^y<=64^3:=Nat.pow_le_pow_right (by omega) (by omega);refine ah (adG (by omega) (by omega)) ?_;rw[Int.toNat_natCast];refine bV (Dy (k:=.u8) (by grind[fW])) ?_;rw[show(l.getD (y+1) 0).toNat=fW l (y+1)from rfl];by_cases h2:vc (fW l (y+1));have xo:tr l (y+1)=true:=by grind[tr]
 have aDB:=auU (hc:=hc) y xo;obtain⟨b7,ca⟩:=h2;refine e6 (fun aF aa=>aF=[bl l,ai bw 0,ai cM 0,int size,int (mz l hc y),int nd,int ((y+1:Nat):Int),int (fW l (y+1)),.bool false]/\H=aa) ?_ ?_
 repeat (first|refine bD ?_|refine vw ?_)
 exact⟨by grind,(by rfl)⟩;rintro aF aa ⟨rfl,rfl⟩
 try simp only[cu,cv]
 refine et rfl (ah (xN (by omega) (by omega)) ?_)
 repeat refine bD ?_
 refine⟨size-(y+1),by omega,y+1,by omega,rfl,?_,(by simp_all),xo⟩
 grind[mz]
 have auW:tr l (size-1)=false:=by
  have:∀z,y+1<=z->tr l z=false:=by
   intro z dQ;induction z with
   | zero=>omega
   | succ z a7=>
    show(tr l z&&decide (vc (fW l (z+1))))=false
    grind
  grind
 refine e6 (fun aF aa=>aF=[bl l,ai bw 0,ai cM 0,int size,int (mz l hc y),int nd,int ((y+1:Nat):Int),int (fW l (y+1)),.bool true]/\H=aa) ?_ ?_;refine ah ez (bz (fun aB=>?_) (fun aB=>?_))
 repeat refine bD ?_
 exact⟨(by rfl),(by rfl)⟩
 repeat refine bD ?_
 refine⟨?_,(by rfl)⟩
 grind[vc]
 rintro aF aa ⟨rfl,rfl⟩
 try simp only[cu,cv]
 refine fg rfl (iQ hO 1 rfl o3 (by omega) (kq hO 0 rfl rfl o3 je ?_));intro cB de;exact gA auW _ _ de rfl;have e:y=size-1:=by omega
 subst e;exact sA aD
end J
namespace J
open Go Go.Ab
variable[cr:bW]
variable{H:ar}{ae bX:List (Nat×ay)}{ab:VH}{n k:Nat}{l:List UInt8}
theorem Q1(l:List UInt8):(nA l).all eA=true/\(nA l).length=3:=by unfold nA;split<;>exact⟨rfl,rfl⟩
theorem ym{size hc nd:Nat}{r:Nat×Nat}(h:q6 l size hc nd=some r):size<=l.length/\r.2=size:=by grind[q6]
theorem Q2{r:Nat×Nat}(h:fr l=some r)(aE:l≠[]):1<=r.2/\r.2<=4/\r.2<=l.length:=by
 have aE:0<l.length:=length_pos_iff.2 aE;unfold fr at h;split at h
 grind
 split at h;obtain⟨h1,h2⟩:=ym h;omega;split at h;obtain⟨h1,h2⟩:=ym h;omega;split at h;obtain⟨h1,h2⟩:=ym h;omega;cases h
theorem auX(aE:l≠[])(hO:aj H ae)(ag:∀aa,aj aa ae->ab (agg (nA l)) aa):az P 212 [bl l] H ab:=by
 apply arh;unfold aa8;have mR:0<l.length:=length_pos_iff.2 aE;have bp:=sG l 0;rw[K3];refine ja hO.z ?_;intro bw H hO;refine ah (adG (by omega) (by omega)) ?_;rw[show(l.getD (0:Int).toNat 0).toNat=fW l 0 from rfl];refine bV (Dy (k:=.u8) (by omega)) (ah (QY (n:=1) (by omega)) (ah (Q0 _ _ _) (ja hO ?_)));intro cM H hO;refine kq hO 1 rfl rfl rfl rfl ?_;intro H hO
 replace hO:aj H (ae++[(bw,⟨[int 0,bl [],.bool false],true⟩),(cM,⟨[int (fW l 0),bl (l.take 1),.bool true],true⟩)]):=hO
 by_cases aN:fW l 0<128
 repeat (first|refine bD ?_|refine uh ?_)
 refine ah (QY (n:=1) (by omega)) (ah (Q0 _ _ _) (kq hO 0 rfl rfl rfl rfl ?_));intro H hO;refine iQ hO 0 rfl rfl (by omega) ?_;have:=ag _ hO.left;unfold nA at this;rw[show fr l=some (fW l 0,1)from if_pos aN]at this;exact this;have jW:fr l=none->∀H (bX:List (Nat×ay)),aj H (ae++bX)->ab (agg [int (fW l 0),bl (l.take 1),.bool true]) H:=fun h H bX hO=>by have:=ag _ hO.left;unfold nA at this;rw[h]at this;exact this
 refine ah ez (nr (by omega) (e6 (fun aF aa=>∃(size hc nd:Nat),aF=[bl l,ai bw 0,ai cM 0,int size,int hc,int nd]/\H=aa/\hc<32/\2<=size/\size<=4/\fr l=q6 l size hc nd) ?_ ?_));by_cases dR:194<=fW l 0/\fW l 0<224;refine zi ?_
 repeat (first|refine bD ?_|refine uh ?_)
 try simp only[cu,cv]
 refine⟨2,fW l 0-192,128,by grind,(by simp_all),by omega,by omega,by omega,?_⟩
 simp_all[fr,if_neg]
 by_cases ij:224<=fW l 0/\fW l 0<240;refine e6 (fun aF aa=>aF=[bl l,ai bw 0,int (fW l 0),ai cM 0,int 0,int 0,int 0,.bool false]/\H=aa) ?_ ?_
 repeat (first|refine bD ?_|refine uh ?_)
 exact⟨by grind,(by rfl)⟩;rintro aF aa ⟨rfl,rfl⟩
 try simp only[cu,cv]
 refine et rfl (zi ?_)
 repeat (first|refine bD ?_|refine uh ?_)
 try simp only[cu,cv]
 refine⟨3,fW l 0-224,2048,by grind,(by simp_all),by omega,by omega,by omega,?_⟩
 simp_all[fr,if_neg]
 refine e6 (fun aF aa=>aF=[bl l,ai bw 0,int (fW l 0),ai cM 0,int 0,int 0,int 0,.bool false]/\H=aa) ?_ ?_;refine ah ss (bz (fun h1=>?_) (fun h1=>?_))
 repeat refine bD ?_
 exact⟨by grind,(by rfl)⟩
 repeat refine bD ?_
 exact⟨(by rfl),(by rfl)⟩;rintro aF aa ⟨rfl,rfl⟩
 try simp only[cu,cv]
 refine et rfl (e6 (fun aF aa=>aF=[bl l,ai bw 0,int (fW l 0),ai cM 0,int 0,int 0,int 0,.bool false]/\H=aa) ?_ ?_);refine ah ss (bz (fun h1=>?_) (fun h1=>?_))
 repeat refine bD ?_
 exact⟨by grind,(by rfl)⟩
 repeat refine bD ?_
 exact⟨(by rfl),(by rfl)⟩;rintro aF aa ⟨rfl,rfl⟩
 try simp only[cu,cv]
 refine et rfl ?_;by_cases nv:240<=fW l 0/\fW l 0<245;refine zi ?_
 repeat (first|refine bD ?_|refine uh ?_)
 try simp only[cu,cv]
 refine⟨4,fW l 0-240,65536,by grind,(by simp_all),by omega,by omega,by omega,?_⟩
 simp_all[fr,if_neg]
 have aR:fr l=none:=by simp_all[fr,if_neg]
 refine e6 (fun aF aa=>aF=[bl l,ai bw 0,int (fW l 0),ai cM 0,int 0,int 0,int 0,.bool false]/\H=aa) ?_ ?_;refine ah ss (bz (fun h1=>?_) (fun h1=>?_))
 repeat refine bD ?_
 exact⟨by grind,(by rfl)⟩
 repeat refine bD ?_
 exact⟨(by rfl),(by rfl)⟩;rintro aF aa ⟨rfl,rfl⟩
 try simp only[cu,cv]
 refine et rfl (iQ hO 1 rfl rfl (by omega) (kq hO 0 rfl rfl rfl rfl ?_));intro H hO;exact iQ hO 0 rfl rfl (by omega) (jW aR _ _ hO);rintro aF aa ⟨size,hc,nd,rfl,rfl,b7,ca,g3,g4⟩
 try simp only[cu,cv]
 refine bV Ef (ah ez (bz (fun h=>?_) (fun h=>?_)));refine iQ hO 1 rfl rfl (by omega) (kq hO 0 rfl rfl rfl rfl ?_);intro H hO;refine iQ hO 0 rfl rfl (by omega) (jW ?_ _ _ hO);rw[g4];unfold q6
 simp_all
 refine auV rfl rfl b7 ca g3 (by omega) hO ?_ ?_;intro aD;refine km rfl ?_;have dy:=adH (l:=l) b7 (size-1) (by omega);have aw:fr l=if mz l hc (size-1)<nd\/mz l hc (size-1)>1114111\/(55296<=mz l hc (size-1)/\mz l hc (size-1)<=57343)then none else some (mz l hc (size-1),size):=by
  rw[g4];unfold q6
  grind
 generalize mz l hc (size-1)=N at*
 try simp only[cu,cv]
 refine e6 (fun aF aa=>aF=[bl l,ai bw 0,ai cM 0,int size,int N,.bool (decide (N<nd\/N>1114111\/(55296<=N/\N<=57343)))]/\H=aa) ?_ ?_;by_cases lA:N<nd
 repeat (first|refine bD ?_|refine uh ?_)
 exact⟨by simp_all,(by rfl)⟩;by_cases oU:N>1114111
 repeat (first|refine bD ?_|refine uh ?_|refine vw ?_)
 exact⟨by simp_all,(by rfl)⟩;by_cases z3:55296<=N
 repeat (first|refine bD ?_|refine uh ?_|refine vw ?_)
 exact⟨by grind,(by rfl)⟩
 repeat (first|refine bD ?_|refine vw ?_)
 exact⟨by grind,(by rfl)⟩;rintro aF aa ⟨rfl,rfl⟩
 try simp only[cu,cv]
 refine bz (fun z=>?_) (fun z=>?_);refine iQ hO 1 rfl rfl (by omega) (kq hO 0 rfl rfl rfl rfl ?_);intro H hO;exact iQ hO 0 rfl rfl (by omega) (jW (by simp_all) _ _ hO);refine ah (QY (by omega)) (ah (Q0 _ _ _) (kq hO 0 rfl rfl rfl rfl ?_));intro H hO;refine iQ hO 0 rfl rfl (by omega) ?_;have:=ag _ hO.left;unfold nA at this;rw[aw,if_neg z]at this;exact this;intro aD H aF hO bS;rw[bS];refine iQ hO 0 rfl rfl (by omega) (jW ?_ _ _ hO)
 simp_all[q6]
end J
namespace J
open Go Go.Ab
variable[cr:bW]
variable{H:ar}{ae:List (Nat×ay)}{ab:VH}{v:Value}{b:List Int}{q n k:Nat}{l m:List UInt8}{ds:List (List UInt8)}
def pQ(l:List UInt8):Nat:=match fr l with
 | none=>1
 | some r=>r.2
def sH:Nat->List UInt8->List (List UInt8)
 | 0,_=>[]
 | n+1,l=>if l=[]then []else l::sH n (l.drop (pQ l))
def q7(l:List UInt8):List (List UInt8):=sH l.length l
theorem K4(aE:l≠[]):1<=pQ l/\pQ l<=l.length:=by
 unfold pQ;split
 grind
 grind[Q2]
theorem Q3:∀(n:Nat) (l:List UInt8),(sH n l).length<=n
 | 0,_=>zero_le _
 | n+1,l=>by
  unfold sH;split
  simp_all
  simp_all[Q3]
theorem auY(l:List UInt8):(nA l)[1]?=some (bl (l.take (pQ l))):=by grind[nA,pQ]
theorem auZ(a b c:Value)(H:ar):(eg P 273 1).f [(0,agg [a,b,c])] H=some (aC H.next 0 1 7,H.push [a,b,c]):=by rfl
theorem au0(H:ar):(eg P 273 0).f [] H=some (aC H.next 0 0 7,H.push []):=by rfl
theorem au1{l:List Value}(h:l.length=3):∃a b c,l=[a,b,c]:=by
 match l,h with
 | [a,b,c],_=>simp_all
abbrev ow(ds:List (List UInt8)):List Value:=ds.flatMap nA
theorem adI(aE:l.length<=1000000)(hO:aj H ae)(ag:∀aa v,aj aa (ae++bB v (ow (q7 l)))->il 3 v (q7 l).length (ow (q7 l))->ab v aa):az P 155 [bl l] H ab:=by
 apply aqG;unfold aat;refine gj hO (au0 _) ?_;intro q H hO;refine aqF (fun k aF aa=>∃(r:List UInt8) (ds:List (List UInt8)) (v:Value),r.length<=k/\ds.length+k<=l.length/\q7 l=ds++sH k r/\aF=[bl r,bq,v]/\aj aa (ae++bB v (ow ds))/\il 3 v ds.length (ow ds)) _ _ ?_ l.length _ _ ⟨l,[],aC q 0 0 7,Nat.le_refl _,by simp,rfl,rfl,hO,.inr ⟨q,.inr rfl,rfl⟩⟩;rintro k aF H ⟨r,ds,v,U,aO,he,rfl,hO,hv⟩;unfold aas
 try simp only[cu,cv]
 refine ah (show _=some (.bool (!(r== [])))from rfl) ?_;by_cases aN:r=[];subst aN;refine et rfl (km rfl ?_)
 try simp only[cu,cv]
 have ic:sH k []=[]:=by cases k<;>rfl
 rw[ic,append_nil]at he;rw[he]at ag;exact ag H v hO hv;have an:(r== [])=false:=by cases r<;>first|rfl|exact absurd rfl aN
 rw[an];refine fg rfl (auX aN hO ?_);intro H hO;rw[K3];obtain⟨b7,ca⟩:=Q1 r;refine c4 hO ?_;intro cM H hO;refine e7 hO (_+0) (aA rfl) rfl ca b7 ?_;intro H hO
 replace hO:=hO.cb
 replace hO:aj H ((ae++bB v (ow ds))++[(cM,⟨nA r,true⟩)]):=hO
 refine fs hO (_+0) (aA rfl) ca (by omega) ?_;obtain⟨Q4,fW,cc,aD⟩:=au1 ca;refine gj hO (by rw[aD];exact auZ _ _ _ _) ?_;rw[<- aD];intro q2 H hO
 replace hO:aj H (((ae++[(cM,⟨nA r,true⟩)])++bB v (ow ds))++[(q2,⟨nA r,true⟩)]):=hO.e4 (by classical exact perm_iff_count.2 fun _=>by simp only[count_append,count_nil,set_cons_zero];omega)
 refine DU hO hv ca (by omega) b7 (by omega) (by omega) ?_;intro dD H hO jG;obtain⟨dH,e0⟩:=K4 aN;refine ah b0 (aP hO (ae.length+0) (aK (aA rfl)) (v:=bl (r.take (pQ r))) (auY r) (bV Ef ?_));rw[length_take,Nat.min_eq_left e0];refine ah (auT e0) ?_;cases k with
 | zero=>omega
 | succ k=>
  refine⟨k,lt_succ_self _,r.drop (pQ r),ds++[r],dD,?_,?_,?_,rfl,?_,?_⟩;rw[length_drop];omega;rw[length_append];simp;omega;rw[he];show ds++(if r=[]then []else r::sH k (r.drop (pQ r)))=_;rw[if_neg aN];simp
  replace hO:aj H (ae++bB dD (ow ds++nA r)):=aj.cd hO
  simpa using hO;simpa using jG
def uy(l:List UInt8)(first:Bool):Bool:=match fr l with
 | none=>false
 | some r=>Go.Lib.isLetterU r.1||(!first&&(Go.Lib.isDigitU r.1||(l.take r.2== [45]||(l.take r.2== [95]||l.take r.2== [46]))))
def K5(l:List UInt8):Bool:=match fr l with
 | none=>false
 | some r=>Go.Lib.isLetterU r.1
def uz:Nat->List (List UInt8)->Bool
 | _,[]=>true
 | i,r::ds=>uy r (i==0)&&uz (i+1) ds
def GK(l:List UInt8):Int:=if(q7 l).length=0\/(q7 l).length>24 then 41 else if uz 0 (q7 l)=true then 0 else 41
theorem adJ{n:Int}(aN:0<=n)(h1:n<2147483648):hd .i32 (int n) H=some (.int .i32 n,H):=by
 show some (Value.int .i32 (iJ .i32 n),H)=_;have:iJ .i32 n=n:=by
  show tF 2147483648 4294967296 n=n;unfold tF;obtain⟨m,rfl⟩:∃m:Nat,n=m:=⟨n.toNat,by omega⟩
  grind[p7]
 rw[this]
theorem au2{i:Nat}{ds:List (List UInt8)}:∀(y:Nat) (h:y<ds.length),uz (i+y) (ds.drop y)=(uy ds[y] (i+y==0)&&uz (i+(y+1)) (ds.drop (y+1))):=by intro y h;rw[drop_eq_getElem_cons h];rfl
end J
namespace J
open Go Go.Ab
variable[cr:bW]
variable{H:ar}{ae:List (Nat×ay)}{ab:VH}{v x:Value}{o n k:Nat}{e:Int}{l m:List UInt8}{ds:List (List UInt8)}
theorem au3{size hc nd:Nat}{r:Nat×Nat}(h:q6 l size hc nd=some r):r.1<=1114111:=by grind[q6]
theorem adK{r:Nat×Nat}(h:fr l=some r):r.1<=1114111:=by grind[fr,au3]
structure au4 (l:List UInt8) (n:Nat) (pc:List UInt8) (eB:Bool):Prop where
 cells:nA l=[int n,bl pc,.bool eB]
 lt:n<=1114111
 adL:K5 l=(!eB&&Go.Lib.isLetterU n)
 ok:∀f,uy l f=(!eB&&(Go.Lib.isLetterU n||(!f&&(Go.Lib.isDigitU n||(pc== [45]||(pc== [95]||pc== [46]))))))
theorem au5(l:List UInt8):∃n pc eB,au4 l n pc eB:=by
 cases h:fr l with
 | none=>exact⟨fW l 0,l.take 1,true,by grind[nA],by grind[sG],by simp_all[K5],fun f=>by simp_all[uy]⟩
 | some r=>exact⟨r.1,l.take r.2,false,by grind[nA],adK h,by simp_all[K5],fun f=>by simp_all[uy]⟩
theorem au6{bL:LX}{cy:LN}(aE:ds.length<=1000000)(hv:il 3 v ds.length (ow ds))(hO:aj H (ae++bB v (ow ds)))
  (sA:uz 0 ds=true->∀aa,aj aa ae->bL 0 [int 0] aa) (gA:uz 0 ds=false->∀aa,aj aa ae->cy [int 41] aa):
  eI P true 64 PW 4 [int 0,v,int ds.length,int 0] H bL cy:=by
 refine apK (fun k aF aa=>∃(y:Nat),y<=ds.length/\k=ds.length-y/\aF=[int 0,v,int ds.length,int y]/\aj aa (ae++bB v (ow ds))/\uz 0 ds=uz y (ds.drop y)) _ _ ?_ ds.length _ _ ⟨0,by omega,by omega,rfl,hO,rfl⟩;rintro k aF H ⟨y,a8,rfl,rfl,hO,eL⟩;unfold Zi
 try simp only[cu,cv]
 refine ah ez (bz (fun h=>?_) (fun h=>?_));have a8:y<ds.length:=by omega
 obtain⟨eK,aT,rfl,pH⟩:∃eK aT,v=aC eK 0 ds.length aT/\bB v (ow ds)=[(eK,⟨ow ds,true⟩)]:=by
  rcases hv with⟨_,aN,_⟩|⟨eK,rfl|rfl,_⟩
  omega;exact⟨eK,_,rfl,rfl⟩;exact⟨eK,_,rfl,rfl⟩
 rw[pH]at hO;have adM:=au2 (i:=0) (ds:=ds) y a8;rw[Nat.zero_add,Nat.zero_add]at adM;rw[adM]at eL;obtain⟨n,pc,eB,fe⟩:=au5 ds[y];have Q6:=zz (f:=nA) (n:=3) (l:=ds) (i:=y) (o:=0) (m:=3) (fun x _=>(Q1 x).2) a8 (by omega);rw[fe.cells]at Q6;refine ah (h4 (by omega) (by omega)) (hG hO (ae.length+0) (aA rfl) (show _=[int n,bl pc,.bool eB]from by simp_all) rfl (by omega) ?_);rw[K3];refine ja hO ?_;intro fo H hO;refine kq hO 1 rfl rfl rfl rfl ?_;intro H hO
 replace hO:aj H (ae++[(eK,⟨ow ds,true⟩),(fo,⟨[int n,bl pc,.bool eB],true⟩)]):=hO
 repeat (first|refine bD ?_|refine cw hO 1 rfl rfl ?_)
 have aR:=fe.lt;refine bV (adJ (by omega) (by omega)) (e6 (fun aF aa=>aF=[int 0,int y,ai fo 0,.int .i32 n,.bool (K5 ds[y]),aC eK 0 ds.length aT,int ds.length,int y]/\H=aa) ?_ ?_)
 repeat (first|refine bD ?_|refine cw hO 1 rfl rfl ?_)
 rw[fe.adL];cases eB with
 | true=>
  refine et rfl ?_
  repeat refine bD ?_
  exact⟨(by rfl),(by rfl)⟩
 | false=>
  refine fg rfl (aop (by omega) (by omega) ?_)
  repeat refine bD ?_
  exact⟨(by rfl),(by rfl)⟩
 rintro aF aa ⟨rfl,rfl⟩
 try simp only[cu,cv]
 refine e6 (fun aF aa=>aF=[int 0,.bool (uy ds[y] (y==0)),aC eK 0 ds.length aT,int ds.length,int y]/\H=aa) ?_ ?_;rw[fe.adL,fe.ok];refine ah kQ (bz (fun aN=>?_) (fun aN=>?_));have ic:(y==0)=false:=by grind
 rw[ic]
 repeat (first|refine bD ?_|refine cw hO 1 rfl rfl ?_)
 cases eB with
 | true=>
  refine et rfl ?_
  repeat (first|refine bD ?_|refine wB ?_)
  exact⟨(by rfl),(by rfl)⟩
 | false=>
  refine fg rfl (aoq (by omega) (by omega) (qf (fun aO=>?_) (fun aO=>?_)));rw[aO]
  repeat (first|refine bD ?_|refine lV ?_)
  exact⟨by simp,(by rfl)⟩;rw[aO]
  repeat (first|refine bD ?_|refine cw hO 1 rfl rfl ?_)
  refine ah (show _=some (.bool (pc== [45]))from rfl) (ah mr (qf (fun h1=>?_) (fun h1=>?_)));rw[h1]
  repeat (first|refine bD ?_|refine lV ?_)
  exact⟨by simp,(by rfl)⟩;rw[h1]
  repeat (first|refine bD ?_|refine cw hO 1 rfl rfl ?_)
  refine ah (show _=some (.bool (pc== [95]))from rfl) (ah mr (qf (fun h2=>?_) (fun h2=>?_)));rw[h2]
  repeat (first|refine bD ?_|refine lV ?_)
  exact⟨by simp,(by rfl)⟩;rw[h2]
  repeat (first|refine bD ?_|refine cw hO 1 rfl rfl ?_)
  refine ah (show _=some (.bool (pc== [46]))from rfl) (ah mr ?_)
  repeat refine bD ?_
  refine qf (fun aB=>?_) (fun aB=>?_);rw[aB];exact⟨by simp,(by rfl)⟩;rw[aB];exact⟨by simp,(by rfl)⟩
 have ic:(y==0)=true:=by grind
 rw[ic]
 repeat (first|refine bD ?_|refine wB ?_)
 exact⟨by simp,(by rfl)⟩;rintro aF aa ⟨rfl,rfl⟩
 try simp only[cu,cv]
 refine ah jF ?_;cases dQ:uy ds[y] (y==0)with
 | false=>rw[dQ]at eL;exact fg rfl (gA eL _ hO.left)
 | true=>
  rw[dQ]at eL;refine et rfl ?_
  repeat refine bD ?_
  refine⟨ds.length-(y+1),by omega,y+1,by omega,rfl,rfl,?_,?_⟩;rw[pH];exact yl (A:=[(eK,⟨ow ds,true⟩)]) hO
  simp_all
 have e:y=ds.length:=by omega
 subst e;rw[drop_of_length_le (Nat.le_refl _)]at eL;exact sA eL _ hO.left
theorem au7(aE:l.length<=1000000)(hO:aj H ae)(ag:∀aa,aj aa ae->ab (int (GK l)) aa):az P 87 [bl l] H ab:=by
 apply apL;unfold Zj;refine adI aE hO ?_;intro H v hO hv;have u7:(q7 l).length<=l.length:=Q3 _ _;unfold GK at ag;generalize q7 l=ds at*;refine e6 (fun aF aa=>aF=[int 0,v]/\H=aa/\¬(ds.length=0\/ds.length>24)) ?_ ?_;refine bV hv.bP (ah fl (bz (fun h=>?_) (fun h=>?_)))
 repeat (first|refine bD ?_|refine lV ?_)
 have:=ag H hO.left;rw[if_pos (.inl (by omega))]at this;exact this;refine bV hv.bP (ah kQ (ah (ho h) (bz (fun h2=>?_) (fun h2=>?_))));have:=ag H hO.left;rw[if_pos (.inr (by omega))]at this;exact this;exact⟨rfl,rfl,by omega⟩;rintro aF aa ⟨rfl,rfl,aR⟩
 try simp only[cu,cv]
 rw[if_neg aR]at ag;refine bV hv.bP (au6 (by omega) hv hO ?_ ?_);intro h H hO;rw[if_pos h]at ag;exact ag H hO;intro h H hO;rw[if_neg (by grind)]at ag;exact ag H hO
end J
namespace J
open Go Go.Ab
variable[cr:bW]
variable{l:List UInt8}
abbrev jv(l:List UInt8):ByteArray:=⟨l.toArray⟩
theorem au8(l:List UInt8)(k:Nat):((jv l).get! k).toNat=fW l k:=by
 show((l.toArray)[k]!).toNat=(l.getD k 0).toNat;rw[getD_eq_getElem?_getD];by_cases h:k<l.length
 simp_all
 rw[getElem!_neg _ _ (by omega),List.getElem?_eq_none (by omega)];rfl
theorem zK(l:List UInt8):(jv l).size=l.length:=rfl
theorem adN(aE:l≠[]):(fr l=none->Utf8.decode (jv l) 0=(65533,1))/\(∀r,fr l=some r->Utf8.decode (jv l) 0=r):=by
 have mR:0<l.length:=length_pos_iff.2 aE;have pw:=sG l 0;have eP:=sG l 1;have dR:=sG l 2;have ij:=sG l 3;have key:Utf8.decode (jv l) 0=(fr l).getD (65533,1):=by
  unfold Utf8.decode;simp only[Nat.zero_add,au8,zK,Utf8.runeError,Utf8.valid];unfold fr q6;have aq:∀c,(decide (vc c)=true)=(128<=c/\c<=191):=fun c=>by rw[decide_eq_true_eq];rfl
  simp only[tr,mz,aq,Bool.true_and,Bool.and_eq_true,decide_eq_true_eq,beq_iff_eq,Nat.add_one_sub_one,Nat.reduceSub,Nat.reduceAdd];generalize fW l 0=a at*;generalize fW l 1=b at*;generalize fW l 2=c at*;generalize fW l 3=d at*;generalize l.length=n at*;simp only[Bool.or_eq_true,Bool.and_eq_true,decide_eq_true_eq]
  repeat' split
  all_goals simp only[Option.getD_some,Option.getD_none]
  all_goals first
   | rfl
   |(exfalso;omega)
   |(refine Prod.ext ?_ rfl;show(_:Nat)=_;omega)
 simp_all
theorem adO{r:Nat×Nat}(h:fr l=some r):¬(r.1=65533/\r.2=1):=by
 have:=sG l 0;unfold fr at h;split at h
 grind
 split at h;have:=(ym h).2;omega;split at h;have:=(ym h).2;omega;split at h;have:=(ym h).2;omega;cases h
theorem Q7{size hc nd:Nat}{r:Nat×Nat}(h:q6 l size hc nd=some r):nd<=r.1:=by grind[q6]
theorem au9{r:Nat×Nat}(h:fr l=some r):(r.1<128->r.2=1/\r.1=fW l 0)/\(r.2=1->r.1=fW l 0/\r.1<128):=by
 have:=sG l 0;unfold fr at h;split at h
 grind
 split at h;have:=(ym h).2;have:=Q7 h;omega;split at h;have:=(ym h).2;have:=Q7 h;omega;split at h;have:=(ym h).2;have:=Q7 h;omega;cases h
theorem ava{r:Nat×Nat}(aE:l≠[])(h:fr l=some r)(c:UInt8)(aD:c.toNat<128):(l.take r.2== [c])=((r.1:Int)==(c.toNat:Int)):=by
 obtain⟨h1,h2⟩:=au9 h;obtain⟨dH,e0,ka⟩:=Q2 h aE
 match l,aE with
 | a::t,_=>
 have bp:fW (a::t) 0=a.toNat:=rfl;rw[Bool.eq_iff_iff,beq_iff_eq,beq_iff_eq];constructor
 ·intro e;have aM:r.2=1:=by
   have:=congrArg List.length e
   grind
  simp_all
 grind[UInt8.toNat_inj]
theorem adP(l:List UInt8)(aZ i:Nat)(bS:aZ<l.length):Seal.DK (jv l) aZ i=!uy (l.drop aZ) (i==0)/\(Utf8.decode (jv l) aZ).2=pQ (l.drop aZ):=by
 have da:l.drop aZ≠[]:=by simp_all
 have al:(jv l).extract aZ (jv l).size=jv (l.drop aZ):=by
  apply ByteArray.ext
  simp_all[zK,take_of_length_le]
 have ht:=Go.Lib.tail_decode (jv l) aZ 0;rw[al,Nat.add_zero]at ht;obtain⟨d0,d1⟩:=adN da;have dQ:(((i:Int))==0)=(i==0):=by grind
 unfold Seal.DK Seal.zt;rw[al];have wH:Go.Lib.decodeGo (jv (l.drop aZ))=Utf8.decode (jv (l.drop aZ)) 0:=by unfold Go.Lib.decodeGo;rw[if_neg (by grind[zK])]
 rw[wH,<- ht,dQ];cases bC:fr (l.drop aZ)with
 | none=>grind[uy,pQ]
 | some r=>
  rw[d1 r bC];refine⟨?_,by simp_all[pQ]⟩;have avb:=adO bC;rw[decide_eq_false (show¬((r.1:Int)=65533/\r.2=1) by omega),Bool.false_or]
  simp_all[uy,Seal.wJ,ava,Bool.or_assoc]
theorem adQ(l:List UInt8):∀(b aZ i:Nat),aZ<=l.length->Seal.o4 (jv l) b aZ i=if uz i (sH b (l.drop aZ))=true then Seal.zs ((i+(sH b (l.drop aZ)).length:Nat):Int)else 41
 | 0,aZ,i,_=>by rfl
 | b+1,aZ,i,bS=>by
  unfold Seal.o4 sH;by_cases h:aZ<l.length;obtain⟨h1,h2⟩:=adP l aZ i h;have da:l.drop aZ≠[]:=by simp_all
  have aM:=K4 da;rw[length_drop]at aM;rw[if_pos (show aZ<(jv l).size from h),if_neg da,h1,h2];cases bC:uy (l.drop aZ) (i==0)with
  | false=>simp_all[uz]
  | true=>
   rw[if_neg (show¬(!true)=true by simp)];have a7:=adQ l b (aZ+pQ (l.drop aZ)) (i+1) (by omega);rw[show((i:Int)+1)=((i+1:Nat):Int) by omega,a7,drop_drop];show _=if(uy (l.drop aZ) (i==0)&&uz (i+1) _)=true then _ else _
   grind
  have Q8:l.drop aZ=[]:=drop_of_length_le (by omega);rw[if_neg (show¬aZ<(jv l).size from h),if_pos Q8];rfl
theorem adR(l:List UInt8):GK l=Seal.o4 (jv l) (jv l).size 0 0:=by
 have:=adQ l l.length 0 0 (zero_le _);rw[drop_zero,Nat.zero_add]at this;rw[zK];refine Eq.trans ?_ this.symm;unfold GK Seal.zs;show _=if uz 0 (q7 l)=true then(if(((q7 l).length:Nat):Int)<1\/(((q7 l).length:Nat):Int)>24 then 41 else 0)else 41
 grind
end J
