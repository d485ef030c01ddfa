/- texts of the pv, gd behind the oq -/
import Derived.Lib.RuneCountTail
import Derived.Test.YtifflnhooaophaaGreatDoorUE
set_option linter.unusedVariables false
set_option linter.unusedSimpArgs false
set_option linter.unusedSectionVars false
set_option maxHeartbeats 4000000
set_option maxRecDepth 100000
namespace J
open Go Go.Ab
variable[cu:b0]
variable{H:au}{Γ:List (Nat×az)}{aa:VH}{v w x:Value}{b data:List Int}{e:Int}
abbrev u64(n:Nat):Value:=bS .u64 n
theorem uw{t:TypeId}{c:Bool}{a b:Nat}(h:a+b<18446744073709551616):(ay P .add t c).f (u64 a) (u64 b)=some (u64 (a+b)):=by rw[sq (k:=.u64) rfl,Nat.mod_eq_of_lt (show a+b<gu .u64 from h)]
theorem Le{t:TypeId}{c:Bool}{a b:Nat}(an:0<b)(br:a<9223372036854775807):(ay P .quo t c).f (int a) (int b)=some (int ((a/b:Nat):Int)):=by
 rw[qT _ _ rfl];show(match oW (b:Int) 0 with|true=>none|false=>some (Value.int .i64 (iY .i64 ((a:Int).tdiv b))))=_;rw[rm,decide_eq_false (by omega)];show some (Value.int .i64 (iY .i64 ((a/b:Nat):Int)))=_;have ad:((a/b:Nat):Int)<=(a:Int):=Int.ofNat_le.2 (Nat.div_le_self a b)
 grind[y9]
theorem wY{a n:Nat}(br:a<4294967296)(aX:0<n)(F2:n<32)(ag:aa (u64 (ni a n)) H):wCall P 91 [u64 a,u64 n] H aa:=by
 apply apy;unfold ZB;have aCd:gu .u64=18446744073709551616:=rfl;have bM:2^(32-n)<=2^31:=Nat.pow_le_pow_right (by omega) (by omega);have aV:a*2^(32-n)<18446744073709551616:=Nat.lt_of_le_of_lt (Nat.mul_le_mul (Nat.le_of_lt br) bM) (by decide);have aJ:a/2^n<4294967296:=Nat.lt_of_le_of_lt (Nat.div_le_self _ _) br;refine ai (xV (k:=.u64) rfl (show n<=64 by omega)) (ai (v:=u64 (32-n)) (by rw[show(Value.int .u64 32)=bS .u64 32 from rfl,Pc rfl (by omega) (by decide)]) (ai (DI (k:=.u64) rfl (show 32-n<=64 by omega)) ?_));rw[Nat.mod_eq_of_lt (show a*2^(32-n)<gu .u64 from aV)];refine ai (Bk (k:=.u64) rfl (show _<18446744073709551616 by omega) aV) (ai (xU (k:=.u64) (b:=4294967296) (by decide)) ?_);have e:(a/2^n|||a*2^(32-n))%4294967296=ni a n:=by unfold ni;rw[show(4294967296:Nat)=2^32 from rfl,Nat.or_mod_two_pow,Nat.mod_eq_of_lt (show a/2^n<2^32 from aJ)]
 rw[e];exact ag
def sB(w:List Nat)(n:Nat):List Value:=(w.map fun(n:Nat)=>u64 n)++u64 n::List.replicate (63-w.length) (u64 0)
def qp(w:List Nat):List Value:=(w.map fun(n:Nat)=>u64 n)++List.replicate (64-w.length) (u64 0)
theorem adl{w:List Nat}{n:Nat}(h:w.length<=63):(sB w n).length=64:=by grind[sB]
theorem adm{w:List Nat}(h:w.length<=63):sB w 0=qp w:=by
 unfold sB qp;obtain⟨m,aV⟩:∃m,64-w.length=m+1:=⟨63-w.length,by omega⟩
 grind
theorem adn{w:List Nat}{n:Nat}(h:w.length<=63):sB w n=qp (w++[n]):=by simp_all[sB,qp]
theorem atQ{w:List Nat}{n:Nat}:(sB w n)[w.length]?=some (u64 n):=by simp_all[sB]
theorem ado{w:List Nat}{n k7:Nat}:(sB w n).set w.length (u64 k7)=sB w k7:=by simp_all[sB]
theorem adp{w:List Nat}{i:Nat}(h:i<w.length):(qp w)[i]?=some (u64 (w.getD i 0)):=by simp_all[qp,List.getElem?_append_left]
theorem adq{w:List Nat}:(qp w).all fH=true:=by simp[qp,fH,ta]
def zJ(b:List Int)(t:Nat):Nat->Nat
 | 0=>0
 | y+1=>256*zJ b t y+(b.getD (4*t+y) 0).toNat
theorem atS{b:List Int}{t:Nat}:zJ b t 4=zD b t:=by
 show 256*(256*(256*(256*0+(b.getD (4*t+0) 0).toNat)+(b.getD (4*t+1) 0).toNat)+(b.getD (4*t+2) 0).toNat)+(b.getD (4*t+3) 0).toNat=_;unfold zD
 grind
theorem adr{b:List Int}(h:∀x∈b,0<=x/\x<=255)(t:Nat):∀y,zJ b t y<256^y
 | 0=>Nat.zero_lt_one
 | y+1=>by
  show 256*zJ b t y+_<256^(y+1);have ad:=adr h t y
  grind[wX]
theorem atT{bI dI j7 lX m t:Nat}{hb:List Nat}{bY:LX}{c9:LN}(hv:cl Γ v data)(an:∀x∈data,0<=x/\x<=255)(aV:64*m+64<=data.length)(aD:data.length<=1000000000)(ht:t<16)(aM:hb.length=t)
  (hO:al H (Γ++[(lX,⟨qp hb,true⟩)]))
  (ag:∀ab,al ab (Γ++[(lX,⟨qp (hb++[zD ((data.drop (64*m)).take 64) t]),true⟩)])->bY 8 [ak bI 0,v,ak dI 0,ak j7 0,int ((64*m:Nat):Int),ak lX 0,int t] ab):
  fw P true 252 Qm 3980 [ak bI 0,v,ak dI 0,ak j7 0,int ((64*m:Nat):Int),ak lX 0,int t,int 0] H bY c9:=by
 have mL:∀x∈(data.drop (64*m)).take 64,0<=x/\x<=255:=fun x ao=>an x (List.mem_of_mem_drop (List.mem_of_mem_take ao))
 rw[<- adm (by omega)]at hO;refine aoQ (fun k aG ab=>∃(y:Nat),y<=4/\k=4-y/\aG=[ak bI 0,v,ak dI 0,ak j7 0,int ((64*m:Nat):Int),ak lX 0,int t,int y]/\al ab (Γ++[(lX,⟨sB hb (zJ ((data.drop (64*m)).take 64) t y),true⟩)])) _ _ ?_ 4 _ _ ⟨0,by omega,rfl,rfl,hO⟩;clear hO;rintro k aG H ⟨y,ba,rfl,rfl,hO⟩;unfold YR
 try simp only[cR,cS]
 refine ai gj (bT (fun h=>?_) (fun h=>?_))
 ·have adi:y<4:=by omega
  have bM:=adr mL t y;have Jb:256^y<=256^3:=Nat.pow_le_pow_right (by omega) (by omega);have aCe:(256:Nat)^3=16777216:=rfl;have g:=wX an (64*m+(4*t+y));refine ai (fA (by omega) (by omega)) ?_;rw[Int.toNat_natCast];refine aZ hO (Γ.length+0) (aC rfl) (v:=u64 (zJ ((data.drop (64*m)).take 64) t y)) (by grind[atQ]) ?_;refine ai (v:=u64 (256*zJ ((data.drop (64*m)).take 64) t y)) (by rw[show(Value.int .u64 256)=bS .u64 256 from rfl,Pb (k:=.u64) rfl,Nat.mod_eq_of_lt (show _<gu .u64 from(show _<18446744073709551616 by omega))]) ?_;refine ai (v:=int ((4*t:Nat):Int)) (by grind[zc]) (ai (v:=int ((64*m+4*t:Nat):Int)) (by grind[mn]) (ai (v:=int ((64*m+(4*t+y):Nat):Int)) (by grind[mn]) (Eo hO hv.bo an rfl (by omega) (cH (vB (fh:=.u64) rfl) ?_))));rw[Nat.mod_eq_of_lt (show(data.getD (64*m+(4*t+y)) 0).toNat<gu .u64 from(show _<18446744073709551616 by omega))];refine ai (uw (by omega)) (ai (fA (by omega) (by omega)) ?_);rw[Int.toNat_natCast];refine fQ hO (Γ.length+0) (aC rfl) rfl (by grind[adl]) (show _=sB hb (zJ ((data.drop (64*m)).take 64) t (y+1))from ?_) ?_
  ·rw[show 0+t*1=hb.length by omega,ado];show _=sB hb (256*_+_)
   grind
  clear hO;intro H hO
  replace hO:=hO.cy
  repeat refine bH ?_
  exact⟨4-(y+1),by omega,y+1,by omega,rfl,rfl,hO⟩
 ·have ba:y=4:=by omega
  subst ba;rw[atS,adn (by omega)]at hO;exact ag H hO
theorem ads{x a b:Nat}:pe x [a,b]=ni x a ^^^ ni x b:=by
 show(0 ^^^ ni x a) ^^^ ni x b=_
 simp_all
theorem adt{x a b c:Nat}:pe x [a,b,c]=(ni x a ^^^ ni x b) ^^^ ni x c:=by
 show((0 ^^^ ni x a) ^^^ ni x b) ^^^ ni x c=_
 simp_all
theorem kp{a:Nat}(h:a<4294967296):a<gu .u64:=Nat.lt_trans h (by decide)
theorem atU{bI dI j7 lX m:Nat}{bY:LX}{c9:LN}(hv:cl Γ v data)(an:∀x∈data,0<=x/\x<=255)(aV:64*m+64<=data.length)(aD:data.length<=1000000000)
  (hO:al H (Γ++[(lX,⟨qp [],true⟩)]))
  (ag:∀ab,al ab (Γ++[(lX,⟨qp (h2 ((data.drop (64*m)).take 64) 64),true⟩)])->bY 6 [ak bI 0,v,ak dI 0,ak j7 0,int ((64*m:Nat):Int),ak lX 0] ab):
  fw P true 252 Ql 1932 [ak bI 0,v,ak dI 0,ak j7 0,int ((64*m:Nat):Int),ak lX 0,int 0] H bY c9:=by
 have mL:∀x∈(data.drop (64*m)).take 64,0<=x/\x<=255:=fun x ao=>an x (List.mem_of_mem_drop (List.mem_of_mem_take ao))
 refine aoN (fun k aG ab=>∃(y:Nat),y<=64/\k=64-y/\aG=[ak bI 0,v,ak dI 0,ak j7 0,int ((64*m:Nat):Int),ak lX 0,int y]/\al ab (Γ++[(lX,⟨qp (h2 ((data.drop (64*m)).take 64) y),true⟩)])) _ _ ?_ 64 _ _ ⟨0,by omega,rfl,rfl,hO⟩;clear hO;rintro k aG H ⟨y,ba,rfl,rfl,hO⟩;unfold YO
 try simp only[cR,cS]
 have vL:=GR (b:=(data.drop (64*m)).take 64) y;have aP:h2 ((data.drop (64*m)).take 64) (y+1)=h2 ((data.drop (64*m)).take 64) y++[tq ((data.drop (64*m)).take 64) (h2 ((data.drop (64*m)).take 64) y) y]:=rfl;have ea:∀i,(h2 ((data.drop (64*m)).take 64) y).getD i 0<4294967296:=BM (GS mL y);refine ai gj (bT (fun h=>?_) (fun h=>?_))
 ·refine ai gj (bT (fun pd=>?_) (fun pd=>?_))
  ·refine atT hv an aV aD (by omega) vL hO ?_;clear hO;intro H hO;refine kW rfl ?_
   try simp only[cR,cS]
   repeat refine bH ?_
   refine⟨64-(y+1),by omega,y+1,by omega,rfl,rfl,?_⟩;rw[aP,show tq ((data.drop (64*m)).take 64) (h2 ((data.drop (64*m)).take 64) y) y=zD ((data.drop (64*m)).take 64) y by unfold tq;grind];exact hO
  ·generalize Rb:h2 ((data.drop (64*m)).take 64) y=hb at*;have cI:∀ {i:Nat} {aa:VH},i<y->aa (u64 (hb.getD i 0)) H->ah (aB (ak lX (0+i*1)) H) aa:=fun {i aa} aq ag=>aZ hO (Γ.length+0) (aC rfl) (v:=u64 (hb.getD i 0)) (by simp_all[adp]) ag
   have ko:∀ {o:Nat},ei (dZ H H) (cd [ak lX o]):=ha hO (Γ.length+0) (aC rfl) hO (Γ.length+0) (aC rfl) adq;refine ai (nL (by omega) (by omega)) (ai (fA (by omega) (by omega)) ?_);rw[show((y:Int)-15).toNat=y-15 by omega];refine cI (by omega) (ai (nL (by omega) (by omega)) (ai (fA (by omega) (by omega)) ?_));rw[show((y:Int)-2).toNat=y-2 by omega];refine cI (by omega) (ai (nL (by omega) (by omega)) (ai (fA (by omega) (by omega)) ?_));rw[show((y:Int)-16).toNat=y-16 by omega];refine cI (by omega) (wY (n:=7) (ea _) (by omega) (by omega) (⟨ko,?_⟩));refine wY (n:=18) (ea _) (by omega) (by omega) (⟨ko,?_⟩);have fj:=uv (n:=7) (ea (y-15));have fl:=uv (n:=18) (ea (y-15));have iJ:=uv (n:=17) (ea (y-2));have ng:=uv (n:=19) (ea (y-2));have nj:hb.getD (y-15) 0/2^3<4294967296:=Nat.lt_of_le_of_lt (Nat.div_le_self _ _) (ea _);have qm:hb.getD (y-2) 0/2^10<4294967296:=Nat.lt_of_le_of_lt (Nat.div_le_self _ _) (ea _);refine ai (nM (k:=.u64) rfl (kp fj) (kp fl)) (ai (xV (k:=.u64) (n:=3) rfl (by decide)) ?_);have tl:=Nat.xor_lt_two_pow (n:=32) fj fl;refine ai (nM (k:=.u64) rfl (kp tl) (kp nj)) ?_;have tm:=Nat.xor_lt_two_pow (n:=32) tl nj;have db:=ea (y-16);have cp:=ea (y-7);refine ai (uw (by omega)) (ai (nL (by omega) (by omega)) (ai (fA (by omega) (by omega)) ?_));rw[show((y:Int)-7).toNat=y-7 by omega];refine cI (by omega) (⟨ko,ko,?_⟩)
   refine ai (uw (by omega)) (wY (n:=17) (ea _) (by omega) (by omega) (⟨ko,ko,?_⟩));refine wY (n:=19) (ea _) (by omega) (by omega) (⟨ko,ko,?_⟩);refine ai (nM (k:=.u64) rfl (kp iJ) (kp ng)) (ai (xV (k:=.u64) (n:=10) rfl (by decide)) ?_);have x9:=Nat.xor_lt_two_pow (n:=32) iJ ng;refine ai (nM (k:=.u64) rfl (kp x9) (kp qm)) ?_;have aCf:=Nat.xor_lt_two_pow (n:=32) x9 qm;refine ai (uw (by omega)) (ai (xU (k:=.u64) (b:=4294967296) (by decide)) (ai (fA (by omega) (by omega)) ?_));rw[Int.toNat_natCast];rw[<- adm (by omega)]at hO;refine fQ hO (Γ.length+0) (aC rfl) rfl (by grind[adl]) (show _=qp (hb++[tq ((data.drop (64*m)).take 64) hb y])from ?_) ?_
   ·rw[show 0+y*1=hb.length by omega,ado,adn (by omega)];unfold tq;rw[if_neg (by omega),ads,ads]
   clear hO;intro H hO
   replace hO:=hO.cy
   rw[<- aP]at hO
   repeat refine bH ?_
   exact⟨64-(y+1),by omega,y+1,by omega,rfl,rfl,hO⟩
 ·have ba:y=64:=by omega
  subst ba;exact ag H hO
end J
namespace J
open Go Go.Ab
variable[cu:b0]
variable{H:au}{Γ:List (Nat×az)}{v w x:Value}{b:List Int}{e:Int}
def pf(x:W8):List Value:=x.l.map fun(n:Nat)=>u64 n
theorem atV(x:W8):(pf x).all fH=true:=rfl
theorem tm(a b c d e f g h:Int):(di P 194).f [(0,.int .u64 a),(1,.int .u64 b),(2,.int .u64 c),(3,.int .u64 d),(4,.int .u64 e),(5,.int .u64 f),(6,.int .u64 g),(7,.int .u64 h)]=some (agg [.int .u64 a,.int .u64 b,.int .u64 c,.int .u64 d,.int .u64 e,.int .u64 f,.int .u64 g,.int .u64 h]):=by rfl
theorem atW{i:Nat}(h:i<64):(kc.map fun(n:Nat)=>u64 n)[i]?=some (u64 (kc.getD i 0)):=by
 have aD:kc.length=64:=rfl
 grind
theorem atX:(kc.map fun(n:Nat)=>u64 n).all fH=true:=by rfl
theorem Rc{t:TypeId}{c:Bool}{a:Nat}:(ay P .rem t c).f (u64 a) (.int .u64 4294967296)=some (u64 (a%4294967296)):=xU (k:=.u64) (b:=4294967296) (by decide)
theorem atY{bI dI j7 lX rM kv:Nat}{s:W8}{hb:List Nat}{bY:LX}{c9:LN}(aw:s.b1)(aM:∀x∈hb,x<4294967296)(vL:hb.length=64){BC adu:Nat}(dA:Γ[BC]?=some (j7,⟨kc.map fun(n:Nat)=>u64 n,true⟩))(hS:Γ[adu]?=some (lX,⟨qp hb,true⟩))
  (hO:al H (Γ++[(rM,⟨pf s,true⟩)]))
  (ag:∀ab,al ab (Γ++[(rM,⟨pf (rK hb s 64),true⟩)])->bY 10 [ak bI 0,v,ak dI 0,ak j7 0,int kv,ak rM 0] ab):
  fw P true 252 Qn 33676 [ak bI 0,v,ak dI 0,ak j7 0,int kv,ak lX 0,ak rM 0,int 0] H bY c9:=by
 refine aoO (fun k aG ab=>∃(y:Nat),y<=64/\k=64-y/\aG=[ak bI 0,v,ak dI 0,ak j7 0,int kv,ak lX 0,ak rM 0,int y]/\al ab (Γ++[(rM,⟨pf (rK hb s y),true⟩)])) _ _ ?_ 64 _ _ ⟨0,by omega,rfl,rfl,hO⟩;clear hO;rintro k aG H ⟨y,ba,rfl,rfl,hO⟩;unfold YP
 try simp only[cR,cS]
 refine ai gj (bT (fun h=>?_) (fun h=>?_))
 rotate_left
 ·have lW:y=64:=by omega
  subst lW;exact ag _ hO
 have gp:=GP (w:=hb) aw y;have atq:hb.getD y 0<4294967296:=BM aM y;have aCg:=atn y;have bu:rK hb s (y+1)=GN (rK hb s y) (kc.getD y 0) (hb.getD y 0):=rfl;generalize rK hb s y=x at*;have mv:(Γ++[(rM,(⟨pf x,true⟩:az))])[Γ.length+0]?=some (rM,⟨pf x,true⟩):=aC rfl;have ko:∀ {o:Nat},ei (dZ H H) (cd [ak rM o]):=ha hO _ mv hO _ mv (atV x);have Lf:∀ {o:Nat},ei (dZ H H) (cd [ak j7 o]):=ha hO _ (aS dA) hO _ (aS dA) atX;have Lg:∀ {o:Nat},ei (dZ H H) (cd [ak lX o]):=ha hO _ (aS hS) hO _ (aS hS) adq;have cL:∀ {i:Int} {h:0<=i} {a7:i<8},True:=trivial;refine ai (fA (by omega) (by omega)) (aZ hO _ mv (v:=u64 x.e) rfl (ai (fA (by omega) (by omega)) (aZ hO _ mv (v:=u64 x.f) rfl (ai (vA (k:=.u64) rfl (kp gp.e) (kp gp.f)) ?_))));refine ai (v:=u64 (4294967295-x.e)) (by have:=gp.e;rw[show(Value.int .u64 4294967295)=bS .u64 4294967295 from rfl,Pc rfl (by omega) (by decide)]) ?_;refine ai (fA (by omega) (by omega)) (aZ hO _ mv (v:=u64 x.g) rfl (ai (vA (k:=.u64) rfl (kp (by omega)) (kp gp.g)) (ai (nM (k:=.u64) rfl (kp (Nat.and_lt_two_pow (n:=32) _ gp.f)) (kp (Nat.and_lt_two_pow (n:=32) _ gp.g))) ?_)));have adv:zE x.e x.f x.g<4294967296:=as3 gp.e gp.f gp.g;rw[show(x.e&&&x.f) ^^^ ((4294967295-x.e)&&&x.g)=zE x.e x.f x.g from rfl];refine ai (fA (by omega) (by omega)) (aZ hO _ mv (v:=u64 x.h) rfl ?_);have qm:=uv (n:=6) gp.e;have adw:=uv (n:=11) gp.e;have atZ:=uv (n:=25) gp.e;have fl:=uv (n:=2) gp.a;have adx:=uv (n:=13) gp.a;have at0:=uv (n:=22) gp.a;refine wY (n:=6) gp.e (by omega) (by omega) (⟨ko,?_⟩);refine wY (n:=11) gp.e (by omega) (by omega) (⟨ko,?_⟩);refine ai (nM (k:=.u64) rfl (kp qm) (kp adw)) (wY (n:=25) gp.e (by omega) (by omega) (⟨ko,?_⟩));refine ai (nM (k:=.u64) rfl (kp (Nat.xor_lt_two_pow (n:=32) qm adw)) (kp atZ)) ?_;rw[<- adt];have aCh:pe x.e [6,11,25]<4294967296:=GO gp.e;have hh:=gp.h;refine ai (uw (by omega)) (ai (uw (by omega)) (ai (fA (by omega) (by omega)) ?_));rw[Int.toNat_natCast];refine aZ hO _ (aS dA) (v:=u64 (kc.getD y 0)) (by grind[atW]) (⟨Lf,Lf,Lf,?_⟩);refine ai (uw (by omega)) (ai (fA (by omega) (by omega)) ?_);rw[Int.toNat_natCast];refine aZ hO _ (aS hS) (v:=u64 (hb.getD y 0)) (by grind[adp]) (⟨Lg,Lg,Lg,?_⟩)
 refine ai (uw (by omega)) (ai (fA (by omega) (by omega)) (aZ hO _ mv (v:=u64 x.a) rfl (ai (fA (by omega) (by omega)) (aZ hO _ mv (v:=u64 x.b) rfl (ai (vA (k:=.u64) rfl (kp gp.a) (kp gp.b)) (ai (fA (by omega) (by omega)) (aZ hO _ mv (v:=u64 x.a) rfl (ai (fA (by omega) (by omega)) (aZ hO _ mv (v:=u64 x.c) rfl (ai (vA (k:=.u64) rfl (kp gp.a) (kp gp.c)) ?_))))))))));have ady:=Nat.and_lt_two_pow (n:=32) x.a gp.b;have kz:=Nat.and_lt_two_pow (n:=32) x.a gp.c;have jY:=Nat.and_lt_two_pow (n:=32) x.b gp.c;refine ai (nM (k:=.u64) rfl (kp ady) (kp kz)) (ai (fA (by omega) (by omega)) (aZ hO _ mv (v:=u64 x.b) rfl (ai (fA (by omega) (by omega)) (aZ hO _ mv (v:=u64 x.c) rfl (ai (vA (k:=.u64) rfl (kp gp.b) (kp gp.c)) (ai (nM (k:=.u64) rfl (kp (Nat.xor_lt_two_pow (n:=32) ady kz)) (kp jY)) ?_))))));rw[show((x.a&&&x.b) ^^^ (x.a&&&x.c)) ^^^ (x.b&&&x.c)=BI x.a x.b x.c from rfl];have aCi:BI x.a x.b x.c<4294967296:=as4 gp.b gp.c;refine ai (fA (by omega) (by omega)) (aZ hO _ mv (v:=u64 x.a) rfl (wY (n:=2) gp.a (by omega) (by omega) (ai (fA (by omega) (by omega)) (aZ hO _ mv (v:=u64 x.a) rfl (⟨ko,?_⟩)))));refine wY (n:=13) gp.a (by omega) (by omega) (ai (nM (k:=.u64) rfl (kp fl) (kp adx)) (ai (fA (by omega) (by omega)) (aZ hO _ mv (v:=u64 x.a) rfl (⟨ko,ko,?_⟩))))
 refine wY (n:=22) gp.a (by omega) (by omega) (ai (nM (k:=.u64) rfl (kp (Nat.xor_lt_two_pow (n:=32) fl adx)) (kp at0)) ?_);rw[<- adt];have akb:pe x.a [2,13,22]<4294967296:=GO gp.a;have aJ:=gp.d;refine ai (uw (by omega)) (ai (uw (by omega)) (ai Rc (ai (fA (by omega) (by omega)) (aZ hO _ mv (v:=u64 x.a) rfl (ai (fA (by omega) (by omega)) (aZ hO _ mv (v:=u64 x.b) rfl (ai (fA (by omega) (by omega)) (aZ hO _ mv (v:=u64 x.c) rfl (ai (fA (by omega) (by omega)) (aZ hO _ mv (v:=u64 x.d) rfl (ai (uw (by omega)) (ai Rc (ai (fA (by omega) (by omega)) (aZ hO _ mv (v:=u64 x.e) rfl (ai (fA (by omega) (by omega)) (aZ hO _ mv (v:=u64 x.f) rfl (ai (fA (by omega) (by omega)) (aZ hO _ mv (v:=u64 x.g) rfl (ai (tm _ _ _ _ _ _ _ _) (gl hO _ mv rfl rfl rfl ?_))))))))))))))))))));clear hO ko Lf Lg;intro H hO
 replace hO:=hO.cy
 have bn:(x.h+pe x.e [6,11,25]+zE x.e x.f x.g+kc.getD y 0+hb.getD y 0+(pe x.a [2,13,22]+BI x.a x.b x.c))%4294967296=(yd x (kc.getD y 0) (hb.getD y 0)+K2 x)%4294967296:=by simp_all[yd,K2]
 have bF:(x.d+(x.h+pe x.e [6,11,25]+zE x.e x.f x.g+kc.getD y 0+hb.getD y 0))%4294967296=(x.d+yd x (kc.getD y 0) (hb.getD y 0))%4294967296:=by simp_all[yd]
 rw[bn,bF]at hO
 repeat refine bH ?_
 refine⟨64-(y+1),by omega,y+1,by omega,rfl,rfl,?_⟩;rw[bu];exact hO
end J
namespace J
open Go Go.Ab
variable[cu:b0]
variable{H:au}{Γ:List (Nat×az)}{aa:VH}{v x:Value}{aj bg jx b data:List Int}{p:Nat}{e:Int}{ar:List Value}
theorem at1:(di P 196).f []=some (agg (qp [])):=by rfl
theorem Rd:dq P 196=qp []:=by rfl
theorem Re:dq P 194=List.replicate 8 (u64 0):=by rfl
theorem at5(hO:al H Γ)(ag:∀ab,al ab Γ->aa (agg (pf BK)) ab):wCall P 89 [] H aa:=by
 apply apw;unfold Zz;rw[Re];refine dT hO ?_;clear hO;intro p H hO;refine ai (v:=agg (pf BK)) (by rfl) (gl hO (Γ.length+0) (aC rfl) rfl rfl rfl ?_);clear hO;intro H hO
 replace hO:=hO.cy
 exact hi hO (Γ.length+0) (aC rfl) rfl (by omega) (ag _ hO.left)
theorem at6(hO:al H Γ)(ag:∀ab,al ab Γ->aa (agg (kc.map fun(n:Nat)=>u64 n)) ab):wCall P 90 [] H aa:=by
 apply apx;unfold ZA;rw[Rd];refine dT hO ?_;clear hO;intro p H hO;refine ai (v:=agg (kc.map fun(n:Nat)=>u64 n)) (by rfl) (gl hO (Γ.length+0) (aC rfl) rfl rfl rfl ?_);clear hO;intro H hO
 replace hO:=hO.cy
 exact hi hO (Γ.length+0) (aC rfl) rfl (by omega) (ag _ hO.left)
theorem adz{s:W8}(h:s.b1):∀x∈s.l,x<4294967296:=by
 intro x ao;simp only[W8.l,List.mem_cons,List.not_mem_nil,or_false]at ao;rcases ao with rfl|rfl|rfl|rfl|rfl|rfl|rfl|rfl
 ·exact h.a
 ·exact h.b
 ·exact h.c
 ·exact h.d
 ·exact h.e
 ·exact h.f
 ·exact h.g
 ·exact h.h
theorem at7{s R:W8}{bI dI j7 rM kv:Nat}{B:az}{T:List (Nat×az)}{bY:LX}{c9:LN}(aw:s.b1)(bc:R.b1)(mv:T[1]?=some (rM,⟨pf R,true⟩))
  (hO:al H (Γ++([(dI,⟨pf s,true⟩),(j7,B)]++T)))
  (ag:∀ab,al ab (Γ++([(dI,⟨pf (Em s R),true⟩),(j7,B)]++T))->bY 12 [ak bI 0,v,ak dI 0,ak j7 0,int kv] ab):
  fw P true 252 Qo 908 [ak bI 0,v,ak dI 0,ak j7 0,int kv,ak rM 0,int 0] H bY c9:=by
 refine aoP (fun k aG ab=>∃(y:Nat),y<=8/\k=8-y/\aG=[ak bI 0,v,ak dI 0,ak j7 0,int kv,ak rM 0,int y]/\al ab (Γ++([(dI,⟨(rL s.l R.l y).map fun(n:Nat)=>u64 n,true⟩),(j7,B)]++T))) _ _ ?_ 8 _ _ ⟨0,by omega,rfl,rfl,hO⟩;clear hO;rintro k aG H ⟨y,ba,rfl,rfl,hO⟩;unfold YQ
 try simp only[cR,cS]
 have Ks:s.l.length=8:=rfl;have ac7:R.l.length=8:=rfl;refine ai gj (bT (fun h=>?_) (fun h=>?_))
 ·have zH:y<8:=by omega
  have fj:s.l.getD y 0<4294967296:=BM (adz aw) y;have fl:R.l.getD y 0<4294967296:=BM (adz bc) y;have dm:((rL s.l R.l y).map fun(n:Nat)=>u64 n)[0+y*1]?=some (u64 (s.l.getD y 0)):=by simp_all[K9]
  have da:(pf R)[0+y*1]?=some (u64 (R.l.getD y 0)):=by simp_all[pf]
  have a3:((rL s.l R.l y).map fun(n:Nat)=>u64 n).set (0+y*1) (u64 ((s.l.getD y 0+R.l.getD y 0)%4294967296))=(rL s.l R.l (y+1)).map fun(n:Nat)=>u64 n:=by grind[ac5,List.map_set]
  refine ai (fA (by omega) (by omega)) ?_;rw[Int.toNat_natCast];refine aZ hO (Γ.length+0) (aC rfl) dm (ai (fA (by omega) (by omega)) ?_);rw[Int.toNat_natCast];refine aZ hO (Γ.length+(2+1)) (aC (aC (Γ:=[_,_]) mv)) da (ai (uw (by omega)) (ai Rc (ai (fA (by omega) (by omega)) ?_)));rw[Int.toNat_natCast];refine fQ hO (Γ.length+0) (aC rfl) rfl (ac3 dm) a3 ?_;clear hO;intro H hO
  replace hO:=hO.cy
  repeat refine bH ?_
  exact⟨_,by omega,y+1,by omega,rfl,rfl,hO⟩
 ·have lW:y=8:=by omega
  subst lW;rw[ac6]at hO;exact ag _ hO
theorem at8{s:W8}{bI dI BQ:Nat}{T:List (Nat×az)}{bY:LX}{c9:LN}(aw:s.b1){BB:Nat}(cn:Γ[BB]?=some (dI,⟨pf s,true⟩))(hO:al H (Γ++[(BQ,⟨oL [],true⟩)]))
  (ag:∀ab,al ab (Γ++[(BQ,⟨bj (nS s),true⟩)])->bY 14 [ak bI 0,ak BQ 0] ab):
  fw P true 252 Qp 8388612 [ak bI 0,ak dI 0,ak BQ 0,int 0] H bY c9:=by
 refine aoM (fun k aG ab=>∃(y:Nat),y<=32/\k=32-y/\aG=[ak bI 0,ak dI 0,ak BQ 0,int y]/\al ab (Γ++[(BQ,⟨oL ((nS s).take y),true⟩)])) _ _ ?_ 32 _ _ ⟨0,by omega,rfl,rfl,hO⟩;clear hO;rintro k aG H ⟨y,ba,rfl,rfl,hO⟩;unfold YN
 try simp only[cR,cS]
 refine ai gj (bT (fun h=>?_) (fun h=>?_))
 ·have hlen:((nS s).take y).length=y:=by simp_all[adb]
  have aV:y/4<8:=by omega
  have aq:y%4<4:=by omega
  have da:(pf s)[0+y/4*1]?=some (u64 (s.l.getD (y/4) 0)):=by
   have ac7:s.l.length=8:=rfl
   simp_all[pf]
  refine ai (Le (b:=4) (by omega) (by omega)) (ai (fA (by omega) (by omega)) ?_);rw[Int.toNat_natCast];refine aZ hO BB (aS cn) da (ai (v:=int ((y%4:Nat):Int)) (xU (k:=.i64) (b:=4) (by decide)) (ai (v:=int ((8*(y%4):Nat):Int)) (by grind[zc]) (ai (v:=int ((24-8*(y%4):Nat):Int)) (by grind[nL]) (ai (xV (k:=.u64) rfl (show 24-8*(y%4)<=64 by omega)) (ai (xU (k:=.u64) (b:=256) (by decide)) (cH (vB (fh:=.u8) rfl) (ai (fA (by omega) (by omega)) ?_)))))));rw[Int.toNat_natCast];refine fQ hO (Γ.length+0) (aC rfl) rfl (show 0+y*1<(oL ((nS s).take y)).length by grind[ac9]) (show _=oL ((nS s).take (y+1))from ?_) ?_
  ·have ad:=adf (s:=s) aV aq;rw[show 4*(y/4)+y%4=y by omega]at ad;rw[<- ad,<- ada (by omega),hlen,show 0+y*1=y by omega];rw[show gu .u8=256 from rfl,Nat.mod_mod]
  clear hO;intro H hO
  replace hO:=hO.cy
  repeat refine bH ?_
  exact⟨32-(y+1),by omega,y+1,by omega,rfl,rfl,hO⟩
 ·have ba:y=32:=by omega
  subst ba;have e:oL ((nS s).take 32)=bj (nS s):=by rfl
  rw[e]at hO;exact ag H hO
theorem at9{t0:Value}{bI:Nat}{bY:LX}{c9:LN}(hO:al H (Γ++b2 v ar))(hv:fI v (aj++[128]) ar)(aD:aj.length<=90000000)
  (ag:∀ab aQ bx,al ab (Γ++b2 aQ bx)->fI aQ (aj++[128]++List.replicate (nu aj.length) 0) bx->bY 0 [t0,ak bI 0,aQ] ab):
  fw P true 252 Qi 13 [t0,ak bI 0,v] H bY c9:=by
 refine aoJ (fun k aG ab=>∃(y:Nat) (v:Value) (ar:List Value),y<=nu aj.length/\k=nu aj.length-y/\aG=[t0,ak bI 0,v]/\al ab (Γ++b2 v ar)/\fI v (aj++[128]++List.replicate y 0) ar) _ _ ?_ (nu aj.length) _ _ ⟨0,v,ar,by omega,rfl,rfl,hO,by rw[List.replicate_zero,List.append_nil];exact hv⟩;clear hO hv;rintro k aG H ⟨y,v,ar,ba,rfl,rfl,hO,hv⟩;unfold YK
 try simp only[cR,cS]
 have hlen:(aj++[128]++List.replicate y (0:Int)).length=aj.length+1+y:=by grind
 have Et:nu aj.length<64:=Nat.mod_lt _ (by decide);refine cH hv.cG (ai (v:=int (((aj++[128]++List.replicate y (0:Int)).length%64:Nat):Int)) (xU (k:=.i64) (b:=64) (by decide)) ?_);rw[hlen];refine ai jh (bT (fun h=>?_) (fun h=>?_))
 ·have ea:y<nu aj.length:=by grind[nu]
  refine ih hO (Es 0 _) ?_;clear hO;intro q H hO;refine zi (bg:=[0]) hO hv (by grind) rfl (.inr rfl) ?_;clear hO hv;intro H v ar hO hv;rw[List.append_assoc _ (List.replicate y 0),<- List.replicate_succ']at hv
  grind
 ·have ba:y=nu aj.length:=by grind[nu]
  subst ba;exact ag H v ar hO hv
theorem aua:∀y,y<8->72057594037927936/256^y=2^(56-8*y):=by decide
theorem aub{bI n:Nat}{bY:LX}{c9:LN}(hO:al H (Γ++b2 v ar))(hv:fI v jx ar)(aD:jx.length<=95000000)(aX:n<18446744073709551616)
  (ag:∀ab aQ bx,al ab (Γ++b2 aQ bx)->fI aQ (jx++tr n) bx->bY 2 [ak bI 0,aQ] ab):
  fw P true 252 Qj 12 [ak bI 0,v,bS .u64 n,.int .u64 72057594037927936,int 0] H bY c9:=by
 refine aoK (fun k aG ab=>∃(y:Nat) (v:Value) (ar:List Value),y<=8/\k=8-y/\aG=[ak bI 0,v,bS .u64 n,bS .u64 (72057594037927936/256^y),int y]/\al ab (Γ++b2 v ar)/\fI v (jx++(tr n).take y) ar) _ _ ?_ 8 _ _ ⟨0,v,ar,by omega,rfl,rfl,hO,by rw[List.take_zero,List.append_nil];exact hv⟩;clear hO hv;rintro k aG H ⟨y,v,ar,ba,rfl,rfl,hO,hv⟩;unfold YL
 try simp only[cR,cS]
 refine ai gj (bT (fun h=>?_) (fun h=>?_))
 ·have zH:y<8:=by omega
  have hf:=aua y zH;have bM:0<2^(56-8*y):=Nat.two_pow_pos _;refine ai (Pd (k:=.u64) rfl (by omega) aX) ?_;rw[hf];refine ai (xU (k:=.u64) (b:=256) (by decide)) (cH (vB (fh:=.u8) rfl) ?_);rw[show gu .u8=256 from rfl,Nat.mod_mod];refine ih hO (Es _ _) ?_;clear hO;intro q H hO;refine zi (bg:=[((n/2^(56-8*y)%256:Nat):Int)]) hO hv (by grind) rfl (.inr rfl) ?_;clear hO hv;intro H v ar hO hv;have e:(tr n).take y++[((n/2^(56-8*y)%256:Nat):Int)]=(tr n).take (y+1):=by grind[List.take_add_one,adg]
  rw[List.append_assoc,e]at hv;have an:2^(56-8*y)<gu .u64:=Nat.lt_of_le_of_lt (Nat.pow_le_pow_right (by omega) (show 56-8*y<=56 by omega)) (by decide);refine ai (Pd (k:=.u64) (b:=256) rfl (by decide) an) ?_
  repeat refine bH ?_
  refine⟨8-(y+1),by omega,y+1,v,ar,by omega,rfl,?_,hO,hv⟩;rw[<- hf,Nat.div_div_eq_div_mul,<- Nat.pow_succ];rfl
 ·have ba:y=8:=by omega
  subst ba;rw[List.take_of_length_le (by rw[K3];omega)]at hv;exact ag H v ar hO hv
theorem auc{bI dI j7:Nat}{bY:LX}{c9:LN}(hv:cl Γ v data)(an:∀x∈data,0<=x/\x<=255)(aV:data.length%64=0)(aD:data.length<=1000000000)
  (hO:al H (Γ++[(dI,⟨pf BK,true⟩),(j7,⟨kc.map fun(n:Nat)=>u64 n,true⟩)]))
  (ag:∀ab,al ab (Γ++[(dI,⟨pf (mM data),true⟩),(j7,⟨kc.map fun(n:Nat)=>u64 n,true⟩)])->bY 4 [ak bI 0,ak dI 0] ab):
  fw P true 252 Qk 132 [ak bI 0,v,ak dI 0,ak j7 0,int 0] H bY c9:=by
 refine aoL (fun k aG ab=>∃(y:Nat),64*y<=data.length/\k=data.length/64-y/\aG=[ak bI 0,v,ak dI 0,ak j7 0,int ((64*y:Nat):Int)]/\al ab (Γ++[(dI,⟨pf (pN data y),true⟩),(j7,⟨kc.map fun(n:Nat)=>u64 n,true⟩)])) _ _ ?_ (data.length/64) _ _ ⟨0,by omega,rfl,rfl,hO⟩;clear hO;rintro k aG H ⟨y,ba,rfl,rfl,hO⟩;unfold YM
 try simp only[cR,cS]
 refine cH hv.cG (ai gj (bT (fun h=>?_) (fun h=>?_)))
 ·have aud:64*y+64<=data.length:=by omega
  have mL:∀x∈(data.drop (64*y)).take 64,0<=x/\x<=255:=fun x ao=>an x (List.mem_of_mem_drop (List.mem_of_mem_take ao))
  refine ai at1 ?_;rw[Rd];refine dT hO ?_;clear hO;intro lX H hO;refine gl hO (_+0) (aC rfl) rfl rfl rfl ?_;clear hO;intro H hO
  replace hO:=hO.cy
  refine atU hv.bo an aud aD hO ?_;clear hO;intro H hO;refine kW rfl ?_
  try simp only[cR,cS]
  refine hi hO (Γ.length+0) (aS (aC rfl)) rfl (by omega) ?_;rw[Re];refine dT hO ?_;clear hO;intro rM H hO;refine gl hO (_+0) (aC rfl) rfl rfl rfl ?_;clear hO;intro H hO
  replace hO:=hO.cy
  refine atY (s:=pN data y) (hb:=h2 ((data.drop (64*y)).take 64) 64) (GQ y) (GS mL 64) (GR 64) (BC:=Γ.length+1) (adu:=_+0) (aS (aC rfl)) (aC rfl) hO ?_;clear hO;intro H hO;refine kW rfl ?_
  try simp only[cR,cS]
  rw[List.append_assoc,List.append_assoc]at hO;refine at7 (s:=pN data y) (R:=rK (h2 ((data.drop (64*y)).take 64) 64) (pN data y) 64) (T:=[(lX,_),(rM,_)]) (GQ y) (GP (GQ y) 64) rfl hO ?_;clear hO;intro H hO;refine kW rfl ?_
  try simp only[cR,cS]
  refine ai (v:=int ((64*(y+1):Nat):Int)) (by grind[mn]) (⟨data.length/64-(y+1),by omega,y+1,by omega,rfl,rfl,?_⟩);rw[<- List.append_assoc]at hO;exact hO.left
 ·have lW:y=data.length/64:=by omega
  subst lW;exact ag _ hO
theorem GZ(hO:al H Γ)(ao:cl Γ x aj)(an:∀x∈aj,0<=x/\x<=255)(aD:aj.length<=80000000)(ag:∀ab,al ab Γ->aa (agg (bj (gB aj))) ab):wCall P 35 [x] H aa:=by
 apply aoR;unfold YS;rw[zI];refine dT hO ?_;clear hO;intro bI H hO;refine ih hO (BD _) ?_;clear hO;intro q H hO;refine te (v:=aF q 0 0 3) (ar:=[]) (aj:=[]) hO (.inr ⟨q,.inr ⟨rfl,rfl⟩,rfl,Nat.le_refl _,rfl⟩) ao.bo (by grind) ?_;clear hO;intro H v ar hO hv;refine ih hO (Es 128 _) ?_;clear hO;intro ca H hO;refine zi (bg:=[128]) hO hv (by grind) rfl (.inr rfl) ?_;clear hO hv;intro H v ar hO hv;refine at9 (aj:=aj) hO hv (by omega) ?_;clear hO hv;intro H v ar hO hv;refine kW rfl ?_
 try simp only[cR,cS]
 have Et:nu aj.length<64:=Nat.mod_lt _ (by decide);have nF:=ata (aj:=aj);have Lh:∀x∈vK aj,0<=x/\x<=255:=nw (nw (nw an (Er (by decide))) GW) adh;have Li:(vK aj).length<=1000000000:=by grind[vK,K3]
 refine cH ao.cG (cH (DL (by omega) (by omega)) ?_);rw[Int.toNat_natCast];refine ai (v:=bS .u64 (8*aj.length)) (by rw[show(Value.int .u64 8)=bS .u64 8 from rfl,Pb (k:=.u64) rfl,Nat.mod_eq_of_lt (show aj.length*8<gu .u64 from(show _<18446744073709551616 by omega)),Nat.mul_comm]) ?_;refine aub hO hv (by grind) (by omega) ?_;clear hO hv;intro H v ar hO hv
 replace hv:fI v (vK aj) ar:=hv
 refine kW rfl ?_
 try simp only[cR,cS]
 refine at5 hO ?_;clear hO;intro H hO;refine at6 hO ?_;clear hO;intro H hO;rw[Re,Rd];refine dT hO ?_;clear hO;intro dI H hO;refine dT hO ?_;clear hO;intro j7 H hO;rw[List.append_assoc _ [_] [_]]at hO;refine gl hO (_+0) (aC (L:=[_]++[_]) rfl) rfl rfl rfl ?_;clear hO;intro H hO
 replace hO:=hO.cy
 refine gl hO (_+1) (aC (L:=[_,_]) rfl) rfl rfl rfl ?_;clear hO;intro H hO
 replace hO:=hO.cy
 refine auc (data:=vK aj) hv.lR.jv Lh nF Li hO ?_;clear hO;intro H hO;refine kW rfl ?_
 try simp only[cR,cS]
 refine ai (v:=agg (oL [])) (by rfl) ?_;rw[show List.replicate 32 (bS .u8 0)=oL []from rfl]at hO⊢;refine dT hO ?_;clear hO;intro BQ H hO;refine gl hO (_+0) (aC rfl) rfl rfl rfl ?_;clear hO;intro H hO
 replace hO:=hO.cy
 refine at8 (s:=mM (vK aj)) (T:=[]) (GQ _) (BB:=_+0) (aC (L:=[_,_]) rfl) hO ?_;clear hO;intro H hO;refine kW rfl ?_
 try simp only[cR,cS]
 refine hi hO (_+0) (aC rfl) rfl (by omega) (gl hO (Γ.length+0) (aS (aS (aS (aC rfl)))) rfl rfl (lT _) ?_);clear hO;intro H hO;rw[List.set_append_left _ _ (by simp),List.set_append_left _ _ (by simp),List.set_append_left _ _ (by simp),Go.Ab.cy]at hO;exact hi hO (Γ.length+0) (aS (aS (aS (aC rfl)))) rfl (by omega) (ag H hO.left.left.left.left)
end J
namespace J
open Go Go.Ab
variable[cu:b0]
variable{H:au}{Γ:List (Nat×az)}{aa:VH}{bg:List Int}
theorem aue{n:Nat}(aX:n<=8)(ag:aa (int n) H):wCall P 211 [int n] H aa:=by
 apply aqP;unfold aa9
 repeat (first|refine bH ?_|refine vC ?_)
 exact ag
theorem G0{n size:Nat}(hO:al H Γ)(aX:n<2^64)(aw:size<=8)(ag:zA Γ aa (fq size n)):wCall P 147 [bS .u64 n,int size] H aa:=by
 apply aqa;unfold aao;refine ih hO (BD _) ?_;intro q H hO;refine ap9 (fun k aG ab=>∃(y:Nat) (aQ:Value) (bx:List Value),y<=size/\k=size-y/\aG=[bS .u64 (n/256^y),int size,bB,aQ,int y]/\al ab (Γ++b2 aQ bx)/\fI aQ (fq y n) bx) _ _ ?_ size _ _ ⟨0,aF q 0 0 3,[],by omega,by omega,by simp,hO,.inr ⟨q,.inr ⟨rfl,rfl⟩,rfl,Nat.zero_le _,rfl⟩⟩;clear hO;rintro k aG ab ⟨y,aQ,bx,ba,rfl,rfl,hO,jL⟩;unfold aan
 try simp only[cR,cS]
 refine aue aw ?_
 repeat refine bH ?_
 refine bT (fun h=>?_) (fun h=>?_)
 ·have lU:y<size:=by omega
  have an:n/256^y<2^64:=Nat.lt_of_le_of_lt (Nat.div_le_self _ _) aX;refine ai (xU (b:=256) (by decide)) (cH (vB rfl) (ih hO (QE _ _ _) ?_));intro q H hO;rw[show n/256^y%256%gu .u8=n/256^y%256 from Nat.mod_mod _ _]at*;refine zi (bg:=[((n/256^y%256:Nat):Int)]) hO jL (by grind[qn]) rfl (.inr rfl) ?_;intro H Uu WS hO auf;refine ai (Pd (b:=256) rfl (by decide) an) ?_
  repeat refine bH ?_
  refine⟨_,by omega,y+1,Uu,WS,by omega,rfl,?_,hO,?_⟩
  ·rw[Nat.div_div_eq_div_mul,<- Nat.pow_succ];rfl
  ·rw[arW];exact auf
 ·have e:y=size:=by omega
  subst e
  repeat refine Bm ?_
  exact ag _ _ _ hO jL
end J
namespace J
open Go Go.Ab
variable[cu:b0]
end J
namespace J
open Go Go.Ab
variable[cu:b0]
end J
namespace J
open Go Go.Ab
variable[cu:b0]
variable{H:au}{Γ L:List (Nat×az)}{aa:VH}{v:Value}{aj bg b:List Int}{p q o n k:Nat}{e:Int}{ar:List Value}
section rules
variable[b0]
theorem _root_.Go.Ab.al.z(h:al H Γ):al H (Γ++[]):=by rw[List.append_nil];exact h
theorem _root_.Go.Ab.al.as{A B:List (Nat×az)}(h:al H ((Γ++A)++B)):al H (Γ++(A++B)):=by rw[List.append_assoc]at h;exact h
theorem j8(h:al H (Γ++L))(ag:∀p ab,al ab (Γ++(L++[(p,⟨ar,true⟩)]))->aa (ak p 0) ab):cO ar H aa:=
 dT h fun p ab hO=>ag p ab hO.as
theorem c4{aa:VH}(h:al H (Γ++L))(k:Nat)(aq:L[k]?=some (p,⟨ar,true⟩))(ad:eP v=true)(aX:o<ar.length)(ag:∀ab,al ab (Γ++L.set k (p,⟨ar.set o v,true⟩))->aa undef ab):ah (bC 1 (ak p o) v H) aa:=
 fQ h (Γ.length+k) (aC aq) ad aX rfl fun ab hO=>ag ab hO.cy
theorem lo{aa:VH}{cN:List Value}(h:al H (Γ++L))(k:Nat)(aq:L[k]?=some (p,⟨ar,true⟩))(aX:ar.length=n)(aD:cN.length=n)(ad:cN.all eP=true)(ag:∀ab,al ab (Γ++L.set k (p,⟨cN,true⟩))->aa undef ab):ah (bC n (ak p 0) (agg cN) H) aa:=
 gl h (Γ.length+k) (aC aq) aX aD ad fun ab hO=>ag ab hO.cy
theorem jj{aa:VH}{b:Bool}(h:al H (Γ++L))(k:Nat)(aq:L[k]?=some (p,⟨ar,b⟩))(aX:ar.length=n)(bM:0<n)(ag:aa (agg ar) H):ah (ch n (ak p 0) H) aa:=
 hi h (Γ.length+k) (aC aq) aX bM ag
theorem G1(h:al H (Γ++L))(k:Nat)(aq:L[k]?=some (p,⟨ar,true⟩))(aX:ar.length=n)(bM:0<n):me n 1 (ak p 0) none none none H=some (aF p 0 n 3):=
 xW h (Γ.length+k) (aC aq) bM (by simp_all)
theorem yh{b:Bool}(k:Nat)(aq:L[k]?=some (p,⟨bj aj,b⟩)){c:Nat}(aA:c=2\/c=3)(aX:aj.length=n):cl (Γ++L) (aF p 0 n c) aj:=
 .inr ⟨p,0,c,by rw[aX],aA,.inr ⟨Γ.length+k,_,aC aq,by simp_all[List.take_of_length_le]⟩⟩
theorem Lj{q o n c:Nat}{aa:VH}(hO:al H (Γ++L))(k:Nat)(aq:L[k]?=some (q,⟨ar,true⟩))(aX:0<n)(ag:aa (aF q o n c) H):ah (wa (aF q o n c) H) aa:=by
 have hg:H.get q=some ⟨ar,true⟩:=hO.at _ (aC aq) (.inl rfl);refine cH ?_ ag;have an:Nat.beq n 0=false:=by grind[Nat.eq_of_beq_eq_true]
 unfold wa;simp only[an,hg];have:au.ou H q ⟨ar,true⟩=true:=by unfold au.ou;rw[hO.c6];rfl
 rw[this]
theorem BR{A B:List (Nat×az)}(h:al H (Γ++(A++B))):al H (Γ++A):=by rw[<- List.append_assoc]at h;exact h.left
theorem adA{A B:List (Nat×az)}(h:al H (Γ++(A++B))):al H (Γ++B):=by rw[<- List.append_assoc]at h;exact al.cf h
theorem Rf{i:Nat}{aa:VH}{c:Nat}(hO:al H Γ)(aq:Γ[i]?=some (q,⟨ar,true⟩))(hv:cl Γ v bg)(aX:bg.length<=n)(aD:o+n<=ar.length)
  (ag:∀ab,al ab (Γ.set i (q,⟨ar.take o++(bj bg++ar.drop (o+bg.length)),true⟩))->aa (int bg.length) ab):ah (qD 1 (aF q o n c) v H) aa:=by
 obtain⟨ab,aM,aw⟩:=F8 hO (o:=o) (bV:=bj bg) aq (by grind) (by simp[eP]);unfold qD;simp only[hv.mZ];have aV:Nat.min bg.length n=bg.length:=Nat.min_eq_left aX;rw[aV];cases an:Nat.beq bg.length 0 with
 | true=>
  have aR:=Nat.eq_of_beq_eq_true an;have:bg=[]:=List.length_eq_zero_iff.1 aR;subst this;have e:ar.take o++(bj []++ar.drop (o+([]:List Int).length))=ar:=by simp_all
  refine cH (show _=some (int (0:Nat),H)from rfl) (ag H ?_);rw[e,O4 aq];exact hO
 | false=>simp only[Bool.false_eq_true,if_false];rw[hv.pE hO];simp only;rw[aM];refine cH (show some (Value.int .i64 ((bg.length:Nat):Int),ab)=_ from rfl) ?_;rw[List.length_map]at aw;exact ag _ aw
end rules
end J
namespace J
open Go Go.Ab
variable[cu:b0]
variable{H:au}{Γ:List (Nat×az)}{aa:VH}{v w x:Value}{key:List Int}{j q n k:Nat}{e:Int}
def k1(k:List Int):List Int:=if 64<k.length then gB k else k
def ux(x:Int)(w:Nat):Int:=((x.toNat ^^^ w:Nat):Int)
def oe(k:List Int)(w:Nat):List Int:=(List.range 64).map fun i=>ux ((k1 k).getD i 0) w
def oM(k m:List Int):List Int:=gB (oe k 92++gB (oe k 54++m))
theorem pO{m:List Int}:(gB m).length=32:=rfl
theorem Ev{m:List Int}:∀x∈gB m,0<=x/\x<=255:=by
 intro x ao;obtain⟨a,_,ao⟩:=List.mem_flatMap.1 ao;have aV:∀n:Nat,0<=((n%256:Nat):Int)/\((n%256:Nat):Int)<=255:=fun n=>by omega
 unfold zF at ao
 grind
theorem Rh(k:List Int):(k1 k).length<=64:=by grind[k1,pO]
theorem G2(an:∀x∈key,0<=x/\x<=255):∀x∈k1 key,0<=x/\x<=255:=by
 unfold k1;split
 ·exact Ev
 omega
theorem q2{k:List Int}{w:Nat}:(oe k w).length=64:=by rfl
theorem Ri{x:Int}{w:Nat}(ao:x.toNat<256)(aM:w<256):0<=ux x w/\ux x w<=255:=by
 have:=Nat.xor_lt_two_pow (n:=8) ao aM
 grind[ux]
theorem Ew{w:Nat}(aM:w<256)(an:∀x∈key,0<=x/\x<=255):∀x∈oe key w,0<=x/\x<=255:=by intro x ao;obtain⟨i,_,rfl⟩:=List.mem_map.1 ao;exact Ri (wX (G2 an) i) aM
def BS(k:List Int):List Int:=k1 k++List.replicate (64-(k1 k).length) 0
theorem G3{k:List Int}:(BS k).length=64:=by simp_all[Rh,BS]
theorem aug{k:List Int}{i:Nat}:(BS k).getD i 0=(k1 k).getD i 0:=by grind[BS]
def rN(k:List Int)(w y:Nat):List Int:=(oe k w).take y++(BS k).drop y
theorem adB{k:List Int}{w y:Nat}(h:y<=64):(rN k w y).length=64:=by simp_all[rN,q2,G3]
theorem auh{k:List Int}{w y:Nat}(h:y<64):(bj (rN k w y))[y]?=some (.int .u8 ((k1 k).getD y 0)):=by
 unfold rN bj;rw[List.map_append,List.getElem?_append_right (by grind)];have:(BS k)[y]?=some ((k1 k).getD y 0):=by rw[List.getElem?_eq_getElem (by grind[G3]),<- aug,List.getD_eq_getElem?_getD,List.getElem?_eq_getElem (by grind[G3])];rfl
 grind[q2]
theorem aui{k:List Int}{w y:Nat}(h:y<64):(bj (rN k w y)).set y (.int .u8 (ux ((k1 k).getD y 0) w))=bj (rN k w (y+1)):=by
 apply List.ext_getElem?;intro i;have aD:=q2 (k:=k) (w:=w);have eu:=G3 (k:=k);have bM:(oe k w)[y]?=some (ux ((k1 k).getD y 0) w):=by simp_all[oe]
 rw[List.getElem?_set];by_cases aq:y=i
 ·subst aq;rw[if_pos rfl,if_pos (by grind[adB])];unfold rN bj;rw[List.map_append,List.getElem?_append_left (by grind)];simp[bM]
 ·rw[if_neg aq];unfold rN bj;rw[List.map_append,List.map_append];by_cases af:i<y
  ·grind
  ·rw[List.getElem?_append_right (by grind),List.getElem?_append_right (by grind)]
   grind
theorem auj:dq P 101=List.replicate 64 (bS .u8 0):=by rfl
theorem adC{m:Nat}(aV:m<256)(hO:al H Γ)(hv:cl Γ v key)(an:∀x∈key,0<=x/\x<=255)(aD:key.length<=80000000)
  (ag:∀ab q,al ab (Γ++[(q,⟨bj (oe key m),true⟩)])->aa (aF q 0 64 3) ab):wCall P 255 [v,.int .u8 m] H aa:=by
 apply ars;unfold abN;refine gb (fun aG ab=>∃(aQ:Value) (B:List (Nat×az)),aG=[aQ,.int .u8 m,bB]/\al ab (Γ++B)/\cl (Γ++B) aQ (k1 key)) ?_ ?_
 ·refine cH hv.cG (ai sl (bT (fun h=>?_) (fun h=>?_)))
  ·obtain⟨a,n,c,aw⟩:=hv.lC;refine ih hO (by rw[aw];exact ack _ _ _ _) ?_;rw[<- aw];clear hO;intro q H hO;refine Q9 (j:=Γ.length+0) hO (aC rfl) hv.bo an aD ?_;clear hO;intro H hO;rw[zI];refine j8 hO ?_;clear hO;intro fx H hO;refine lo hO 1 rfl (by simp) (by simp[pO]) (lT _) ?_;clear hO;intro H hO;refine ai (G1 hO 1 rfl (by simp[pO]) (by omega)) (⟨_,_,rfl,hO,?_⟩);rw[show k1 key=gB key from if_pos (by omega)];exact yh 1 rfl (.inr rfl) pO
  ·refine⟨v,[],rfl,hO.z,?_⟩;rw[show k1 key=key from if_neg (by omega)];exact hv.bo
 clear hO;rintro aG H ⟨aQ,B,rfl,hO,U⟩
 try simp only[cR,cS]
 rw[auj];refine dT hO ?_;clear hO;intro gP H hO;have kF:=Rh key;refine ai (xW hO ((Γ++B).length+0) (aC rfl) (by omega) (by simp)) (Rf hO (aC (k:=0) rfl) U.bo kF (by simp) ?_);clear hO;intro H hO
 replace hO:=hO.cy
 have hZ:((List.replicate 64 (bS .u8 0)).take 0++(bj (k1 key)++(List.replicate 64 (bS .u8 0)).drop (0+(k1 key).length)))=bj (rN key m 0):=by rw[Nat.zero_add,List.drop_replicate];simp only[rN,BS,List.take_zero,List.nil_append,List.drop_zero,bj,List.map_append,List.map_replicate];rfl
 rw[hZ]at hO
 replace hO:al H (Γ++[(gP,⟨bj (rN key m 0),true⟩)]):=al.cf hO
 refine arq (fun k aG ab=>∃(y:Nat),y<=64/\k=64-y/\aG=[.int .u8 m,bB,ak gP 0,int y]/\al ab (Γ++[(gP,⟨bj (rN key m y),true⟩)])) _ _ ?_ 64 _ _ ⟨0,by omega,by omega,rfl,hO⟩;clear hO;rintro k aG H ⟨y,ba,rfl,rfl,hO⟩;unfold abM
 try simp only[cR,cS]
 refine ai gj (bT (fun h=>?_) (fun h=>?_))
 ·have ba:y<64:=by omega
  have hg:=wX (G2 an) y
  repeat refine bH ?_
  refine cI hO 0 rfl (by rw[show 0+(y:Int).toNat*1=y by omega];exact auh ba) ?_;have ao:Value.int .u8 ((k1 key).getD y 0)=bS .u8 ((k1 key).getD y 0).toNat:=by
   refine Gf ?_;rw[List.getD_eq_getElem?_getD];by_cases aq:y<(k1 key).length
   ·rw[List.getElem?_eq_getElem aq];exact(G2 an _ (List.getElem_mem aq)).1
   ·rw[List.getElem?_eq_none (by omega)];decide
  rw[ao];refine ai (nM (k:=.u8) rfl hg aV) ?_
  repeat refine bH ?_
  refine c4 hO 0 rfl rfl (by simp[adB (show y<=64 by omega)];omega) ?_;clear hO;intro H hO
  repeat refine bH ?_
  refine⟨_,?_,y+1,by omega,rfl,rfl,?_⟩
  ·omega
  ·have bn:=aui (k:=key) (w:=m) ba;rw[show 0+(y:Int).toNat*1=y by omega]at hO;have hO:al H (Γ++[(gP,⟨(bj (rN key m y)).set y (.int .u8 (ux ((k1 key).getD y 0) m)),true⟩)]):=hO;rw[bn]at hO;exact hO
 ·have e:y=64:=by omega
  subst e;have bF:rN key m 64=oe key m:=by unfold rN;rw[List.take_of_length_le (by rw[q2];omega),List.drop_of_length_le (by rw[G3];omega),List.append_nil]
  rw[bF]at hO
  repeat refine Bm ?_
  exact ai (G1 hO 0 rfl (by simp[q2]) (by omega)) (ag _ _ hO)
end J
namespace J
open Go Go.Ab
variable[cu:b0]
variable{H:au}{Γ L:List (Nat×az)}{aa:VH}{v w x:Value}{aj bg b key ms:List Int}{j q n k:Nat}{e:Int}
theorem auk{q:Nat}{ec:Value}(hO:al H Γ)(b5:Γ[j]?=some (q,(⟨[v,ec],true⟩:az)))(hv:cl Γ v aj)(kl:cl Γ ec bg)(ao:∀x∈aj,0<=x/\x<=255)(adD:∀x∈bg,0<=x/\x<=255)(aD:aj.length<=8000000)(q0:bg.length<=8000000)
  (ag:∀ab,al ab Γ->aa (agg (bj (gB (aj++bg)))) ab):wCall P 204 [aF q 0 2 3] H aa:=by
 apply aa1;unfold Qv;rw[zI];refine dT hO ?_;clear hO;intro bI H hO;refine Lb hO ?_;clear hO;intro H bm hO;have aJ:ln bm [] (nv bm (mM []) bB ([]:List Int).length []):=⟨bB,[],rfl,.inl ⟨rfl,rfl,rfl⟩⟩;refine cH xO ?_;generalize (nv bm (mM []) bB ([]:List Int).length [])=L at*;refine aa0 (fun k aG ab=>∃(y:Nat) (L:List (Nat×az)),y<=2/\k=2-y/\aG=[ak bI 0,ak bm 0,aF q 0 2 3,int 2,int y]/\al ab ((Γ++[(bI,⟨List.replicate 32 (bS .u8 0),true⟩)])++L)/\ln bm ([aj,bg].take y).flatten L) _ _ ?_ 2 _ _ ⟨0,L,by omega,rfl,rfl,hO,aJ⟩;clear hO aJ;rintro k aG H ⟨y,L,ba,rfl,rfl,hO,aJ⟩;unfold Qu
 try simp only[cR,cS]
 refine ai gj (bT (fun h=>?_) (fun h=>?_))
 ·have vM:y=0\/y=1:=by omega
  rcases vM with rfl|rfl
  ·refine ai (ky (by omega) (by omega)) (aZ hO j (aS (aS b5)) (v:=v) rfl (yg hO aJ hv.bo (by simp_all) ao (by simp) (by omega) ?_));clear hO aJ;intro H L hO aJ
   repeat refine bH ?_
   exact⟨1,by omega,1,L,by omega,rfl,rfl,hO,by simpa using aJ⟩
  ·refine ai (ky (by omega) (by omega)) (aZ hO j (aS (aS b5)) (v:=ec) rfl (yg hO aJ kl.bo (by simp_all) adD (by grind) (by omega) ?_));clear hO aJ;intro H L hO aJ
   repeat refine bH ?_
   exact⟨0,by omega,2,L,by omega,rfl,rfl,hO,by simpa using aJ⟩
 ·have vM:y=2:=by omega
  subst vM
  replace aJ:ln bm (aj++bg) L:=by simpa using aJ
  refine kW rfl ?_
  try simp only[cR,cS]
  refine Ld hO aJ (nw ao adD) (by grind) ?_;clear hO;intro H hO;refine o9 hO (Γ.length+0) (aS (aC rfl)) rfl (show 0+32<=32 by omega) (show(bj (gB (aj++bg))).all eP=true by rfl) ?_;clear hO;intro H hO;rw[List.set_append_left _ _ (by simp),Go.Ab.cy]at hO;exact jM hO (Γ.length+0) (aS (aC rfl)) (show _=bj (gB (aj++bg))from rfl) rfl (by omega) (ag H hO.left.left)
theorem aul{q c:Nat}(hO:al H Γ)(hv:cl Γ v key)(b5:Γ[j]?=some (q,(⟨[x],true⟩:az)))(ao:cl Γ x ms)(an:∀x∈key,0<=x/\x<=255)(aV:∀x∈ms,0<=x/\x<=255)(aD:key.length<=80000000)(q0:ms.length<=8000000)
  (ag:∀ab,al ab Γ->aa (agg (bj (oM key ms))) ab):wCall P 231 [v,aF q 0 1 c] H aa:=by
 apply aq4;unfold abq;rw[zI];refine dT hO ?_;clear hO;intro cY H hO;refine Lb hO ?_;clear hO;intro H bm hO;have aJ:ln bm [] (nv bm (mM []) bB ([]:List Int).length []):=⟨bB,[],rfl,.inl ⟨rfl,rfl,rfl⟩⟩;generalize (nv bm (mM []) bB ([]:List Int).length [])=L at*;refine adC (m:=54) (by omega) hO hv.bo.bo an aD ?_;clear hO;intro H bP hO;have dd:=GX hO;refine yg dd aJ (w:=aF bP 0 64 3) (bg:=oe key 54) (yh 0 rfl (.inr rfl) q2) (by simp_all) (Ew (by omega) an) (by simp) (by rw[q2];omega) ?_;clear hO dd aJ;intro H L hO aJ
 replace aJ:ln bm (oe key 54) L:=aJ
 replace hO:=Lc hO
 refine cH xO (aq3 (fun k aG ab=>∃(y:Nat) (L:List (Nat×az)),y<=1/\k=1-y/\aG=[v,ak cY 0,ak bm 0,aF q 0 1 c,int 1,int y]/\al ab ((Γ++[(cY,⟨List.replicate 32 (bS .u8 0),true⟩)])++L)/\ln bm (oe key 54++([ms].take y).flatten) L) _ _ ?_ 1 _ _ ⟨0,L,by omega,rfl,rfl,hO,by simpa using aJ⟩);clear hO aJ;rintro k aG H ⟨y,L,ba,rfl,rfl,hO,aJ⟩;unfold abp
 try simp only[cR,cS]
 refine ai gj (bT (fun h=>?_) (fun h=>?_))
 ·have vM:y=0:=by omega
  subst vM;refine ai (ky (by omega) (by omega)) (aZ hO j (aS (aS b5)) (v:=x) rfl (yg hO aJ ao.bo (by simpa using Ew (by omega) an) aV (by simp[q2]) (by omega) ?_));clear hO aJ;intro H L hO aJ
  repeat refine bH ?_
  exact⟨0,by omega,1,L,by omega,rfl,rfl,hO,by simpa using aJ⟩
 ·have vM:y=1:=by omega
  subst vM
  replace aJ:ln bm (oe key 54++ms) L:=by simpa using aJ
  refine kW rfl ?_
  try simp only[cR,cS]
  refine Ld hO aJ (nw (Ew (by omega) an) aV) (by grind[q2]) ?_;clear hO;intro H hO
  replace hO:=hO.left
  refine j8 hO ?_;clear hO;intro j7 H hO;refine lo hO 1 rfl (by simp) (by rfl) (lT _) ?_;clear hO;intro bw dJ;refine adC (m:=92) (by omega) dJ hv.bo an aD ?_;intro H ca hO;refine ai (xW hO (Γ.length+1) (aS (aC rfl)) (by omega) (by simp[pO])) (⟨ha dJ (Γ.length+1) (aC rfl) hO (Γ.length+1) (aS (aC rfl)) (zB _),?_⟩);refine ih hO (arT _ _ _ _ _ _ _) ?_;clear hO;intro dH H hO
  replace hO:=hO.as.as
  refine auk (j:=Γ.length+3) (aj:=oe key 92) (bg:=gB (oe key 54++ms)) hO (aC rfl) (yh 2 rfl (.inr rfl) q2) (yh 1 rfl (.inr rfl) pO) (Ew (by omega) an) Ev (by rw[q2];omega) (by rw[pO];omega) ?_;clear hO;intro H hO;refine lo hO 0 rfl (by simp) (by rfl) (lT _) ?_;clear hO;intro H hO;exact jj hO 0 rfl (by rfl) (by omega) (ag H hO.left)
theorem aum{a b:Nat}:a ^^^ b=0↔a=b:=by
 constructor
 ·intro h;apply Nat.eq_of_testBit_eq;intro i;have:=congrArg (·.testBit i) h
  grind
 simp_all
theorem aun{a b:List Int}{y:Nat}(br:y<a.length)(an:y<b.length):a.take (y+1)=b.take (y+1)↔a.take y=b.take y/\a[y]=b[y]:=by grind[List.take_succ_eq_append_getElem,List.append_inj]
theorem auo{a b:List Int}(br:a.length=32)(an:b.length=32)(BT:∀x∈a,0<=x/\x<=255)(aup:∀x∈b,0<=x/\x<=255)(hO:al H Γ)
  (ag:∀ab,al ab Γ->aa (.bool (decide (a=b))) ab):wCall P 230 [agg (bj a),agg (bj b)] H aa:=by
 apply aq2;unfold abn;refine j8 hO.z ?_;clear hO;intro bI H hO;refine j8 hO ?_;clear hO;intro fm H hO
 replace hO:al H (Γ++[(bI,⟨bj a,true⟩),(fm,⟨bj b,true⟩)]):=hO
 refine aq1 (fun k aG ab=>∃(y d:Nat),y<=32/\k=32-y/\aG=[ak bI 0,ak fm 0,.bool false,bS .u8 d,int y]/\ab=H/\d<256/\(d=0↔a.take y=b.take y)) _ _ ?_ 32 _ _ ⟨0,0,by omega,by omega,rfl,rfl,by omega,by simp⟩;rintro k aG ab ⟨y,d,ba,rfl,rfl,rfl,aJ,aq⟩;unfold abm
 try simp only[cR,cS]
 refine ai gj (bT (fun h=>?_) (fun h=>?_))
 ·have ba:y<32:=by omega
  have IF:=BT _ (List.getElem_mem (show y<a.length by omega));have Nl:=aup _ (List.getElem_mem (show y<b.length by omega))
  repeat refine bH ?_
  refine cI hO 0 rfl (v:=.int .u8 a[y]) (by simp_all) ?_
  repeat refine bH ?_
  refine cI hO 1 rfl (v:=.int .u8 b[y]) (by simp_all) ?_;rw[Gf IF.1,Gf Nl.1];have zh:a[y].toNat ^^^ b[y].toNat<256:=Nat.xor_lt_two_pow (n:=8) (by omega) (by omega);refine ai (nM (k:=.u8) rfl (show _<256 by omega) (show _<256 by omega)) (ai (Bk (k:=.u8) rfl (show _<256 by omega) (show _<256 from zh)) ?_)
  repeat refine bH ?_
  refine⟨_,?_,y+1,_,by omega,rfl,rfl,rfl,Nat.or_lt_two_pow (n:=8) aJ zh,?_⟩
  ·omega
  grind[aum,aun]
 ·have e:y=32:=by omega
  subst e;rw[List.take_of_length_le (by omega),List.take_of_length_le (by omega)]at aq;refine kW rfl ?_
  try simp only[cR,cS]
  refine ai (Xe (k:=.u8) (b:=0)) ?_;have:=ag _ hO.left;rw[decide_eq_decide.2 aq];exact this
end J
namespace J
open Go Go.Ab
variable[cu:b0]
variable{H:au}{Γ b8:List (Nat×az)}{aa:VH}{v w x:Value}{bg b key ms:List Int}{n k:Nat}{e:Int}
theorem adE{k:List Int}{w y:Nat}(h:y<64):(oe k w).take (y+1)=(oe k w).take y++[ux ((k1 k).getD y 0) w]:=by simp_all[List.take_succ_eq_append_getElem,oe]
theorem auq(hO:al H Γ)(hv:cl Γ v key)(ao:cl Γ x ms)(an:∀x∈key,0<=x/\x<=255)(aV:∀x∈ms,0<=x/\x<=255)(aD:key.length<=80000000)(q0:ms.length<=8000000)
  (ag:∀ab,al ab Γ->aa (agg (bj (oM key ms))) ab):wCall P 210 [v,x] H aa:=by
 apply aqO;unfold aa8;rw[zI];refine dT hO ?_;clear hO;intro cY H hO;refine gb (fun aG ab=>∃(aQ:Value) (B:List (Nat×az)),aG=[aQ,x,ak cY 0]/\al ab ((Γ++B)++[(cY,⟨List.replicate 32 (bS .u8 0),true⟩)])/\cl (Γ++B) aQ (k1 key)) ?_ ?_
 ·refine cH hv.cG (ai sl (bT (fun h=>?_) (fun h=>?_)))
  ·refine GZ hO hv.bo an aD ?_;clear hO;intro H hO;refine j8 hO ?_;clear hO;intro fx H hO;refine lo hO 1 rfl (by simp) (by rfl) (lT _) ?_;clear hO;intro H hO;refine ai (G1 hO 1 rfl (by rfl) (by omega)) ?_
   replace hO:al H (Γ++([(cY,⟨List.replicate 32 (bS .u8 0),true⟩)]++[(fx,⟨bj (gB key),true⟩)])):=hO
   rw[<- List.append_assoc]at hO;refine⟨_,_,rfl,hO.nR,?_⟩;rw[show k1 key=gB key from if_pos (by omega)];exact yh 0 rfl (.inr rfl) pO
  ·refine⟨v,[],rfl,by rw[List.append_nil];exact hO,?_⟩;rw[show k1 key=key from if_neg (by omega)];exact hv.bo
 clear hO;rintro aG H ⟨aQ,B,rfl,hO,U⟩
 try simp only[cR,cS]
 replace ao:=ao.bo (b8:=B)
 replace ag:∀ab,al ab (Γ++B)->aa (agg (bj (oM key ms))) ab:=fun ab h=>ag ab h.left
 generalize Γ++B=Γ at*;have kF:=Rh key;refine ih hO (BD _) ?_;clear hO;intro bP H hO;refine ih hO (BD _) ?_;clear hO;intro ca H hO;refine aqN (fun k aG ab=>∃(y:Nat) (ev ec:Value) (db cp:List Value),y<=64/\k=64-y/\aG=[aQ,x,ak cY 0,ev,ec,int y]/\al ab (((Γ++[(cY,⟨List.replicate 32 (bS .u8 0),true⟩)])++b2 ev db)++b2 ec cp)/\fI ev ((oe key 54).take y) db/\fI ec ((oe key 92).take y) cp) _ _ ?_ 64 _ _
  ⟨0,aF bP 0 0 3,aF ca 0 0 3,[],[],by omega,by omega,rfl,hO,.inr ⟨bP,.inr ⟨rfl,rfl⟩,rfl,Nat.zero_le _,rfl⟩,.inr ⟨ca,.inr ⟨rfl,rfl⟩,rfl,Nat.zero_le _,rfl⟩⟩
 clear hO;rintro k aG H ⟨y,ev,ec,db,cp,ba,rfl,rfl,hO,bW,dt⟩;unfold aa7
 try simp only[cR,cS]
 refine ai gj (bT (fun h=>?_) (fun h=>?_))
 ·have ba:y<64:=by omega
  have hg:=wX (G2 an) y;refine gb (fun aG ab=>aG=[aQ,x,ak cY 0,ev,ec,int y,bS .u8 ((k1 key).getD y 0).toNat]/\ab=H) ?_ ?_
  ·refine cH U.cG (ai gj (bT (fun h=>?_) (fun h=>?_)))
   ·exact Eo hO U.bo.bo.bo (G2 an) (n:=y) rfl (by omega) (⟨rfl,rfl⟩)
   ·refine⟨?_,rfl⟩
    simp_all
  rintro aG ab ⟨rfl,rfl⟩
  try simp only[cR,cS]
  have zh:=Ri hg (w:=54) (by omega);have Ge:=Ri hg (w:=92) (by omega);refine ai (nM (k:=.u8) (b:=54) rfl hg (show _<256 by omega)) (ih hO (QE _ _ _) ?_);clear hO;intro dH H hO
  replace hO:al H (((Γ++[(cY,⟨List.replicate 32 (bS .u8 0),true⟩)])++b2 ev db++b2 ec cp)++[(dH,⟨bj [ux ((k1 key).getD y 0) 54],true⟩)]):=hO
  replace hO:al H (((Γ++[(cY,⟨List.replicate 32 (bS .u8 0),true⟩)])++b2 ec cp++b2 ev db)++[(dH,⟨bj [ux ((k1 key).getD y 0) 54],true⟩)]):=hO.fP (by classical exact List.perm_iff_count.2 fun _=>by grind)
  refine zi hO bW (by grind) rfl (.inr rfl) ?_;clear hO;intro H v3 ga hO hn;rw[<- adE ba]at hn;refine ai (nM (k:=.u8) (b:=92) rfl hg (show _<256 by omega)) (ih hO (QE _ _ _) ?_);clear hO;intro eG H hO
  replace hO:al H (((Γ++[(cY,⟨List.replicate 32 (bS .u8 0),true⟩)])++b2 ec cp++b2 v3 ga)++[(eG,⟨bj [ux ((k1 key).getD y 0) 92],true⟩)]):=hO
  replace hO:al H (((Γ++[(cY,⟨List.replicate 32 (bS .u8 0),true⟩)])++b2 v3 ga++b2 ec cp)++[(eG,⟨bj [ux ((k1 key).getD y 0) 92],true⟩)]):=hO.fP (by classical exact List.perm_iff_count.2 fun _=>by grind)
  refine zi hO dt (by grind) rfl (.inr rfl) ?_;clear hO;intro H v4 jc hO fy;rw[<- adE ba]at fy
  repeat refine bH ?_
  exact⟨64-(y+1),by omega,y+1,v3,v4,ga,jc,by omega,rfl,rfl,hO,hn,fy⟩
 ·have e:y=64:=by omega
  subst e;rw[List.take_of_length_le (by rw[q2];omega)]at bW dt;refine kW rfl ?_
  try simp only[cR,cS]
  replace hO:=hO.nR
  refine te hO bW ao.bo.bo (by rw[q2];omega) ?_;clear hO;intro H v3 ga hO hn;refine GZ hO hn.lR.jv (nw (Ew (by omega) an) aV) (by grind[q2]) ?_;clear hO;intro H hO
  replace hO:=hO.left
  refine dT hO ?_;clear hO;intro fx H hO;refine gl hO (_+0) (aC rfl) (by simp) (by rfl) (lT _) ?_;clear hO;intro H hO
  replace hO:=hO.cy
  refine ai (xW hO (_+0) (aC rfl) (by omega) (by simp[pO])) (zi (bg:=gB (oe key 54++ms)) hO dt (by simp[q2,pO]) (by rfl) (.inr rfl) ?_);clear hO;intro H v4 jc hO fy;refine GZ hO fy.lR.jv (nw (Ew (by omega) an) Ev) (by simp[q2,pO]) ?_;clear hO;intro H hO
  replace hO:=hO.left
  refine lo hO 0 rfl (by simp) (by rfl) (lT _) ?_;clear hO;intro H hO;exact jj hO 0 rfl (by rfl) (by omega) (ag H hO.left)
end J
namespace J
open Go Go.Ab
variable[cu:b0]
variable{H:au}{Γ:List (Nat×az)}{b:List Int}{n k:Nat}{e:Int}{l m:List UInt8}
abbrev bZ(l:List UInt8):Value:=.string ⟨l.toArray⟩
theorem Rj:Jz (bZ l) H=some (int l.length,H):=by show some (Value.int .i64 (Int.ofNat (fE l)),H)=_;rw[gX];rfl
theorem adF{k:IntKind}{i:Int}(aR:0<=i)(ad:i<l.length):E6 (bZ l) (.int k i)=some (bS .u8 (l.getD i.toNat 0).toNat):=by show(match kf 0 i with|true=>(ot l i.toNat).map v7|false=>none)=_;rw[ly,decide_eq_true aR];simp only[vb];rw[List.getD_eq_getElem?_getD,List.getElem?_eq_getElem (by omega)];rfl
theorem Rk{len n:Nat}(h:n<=len):ow len (some (int (n:Int)))=some n:=by
 show(match kf 0 (n:Int)with|true=>(match Nat.ble (n:Int).toNat len with|true=>some (n:Int).toNat|false=>none)|false=>none)=_
 simp_all[ly,Nat.ble_eq_true_of_le]
theorem Rl{n:Nat}(h:n<=l.length):yF (bZ l) none (some (int n)) none=some (bZ (l.take n)):=by
 show(match ow (fE l) (some (int n))with|some h=>(match qE h none with|some i=>some (Value.string ⟨(pw (p3 l i) (h-i)).toArray⟩)|none=>none)|none=>none)=_
 simp_all[Rk,gX,qE,mD,nE]
theorem aur{n:Nat}(h:n<=l.length):yF (bZ l) (some (int n)) none none=some (bZ (l.drop n)):=by
 show(match ow (fE l) none with|some h=>(match qE h (some (int n))with|some i=>some (Value.string ⟨(pw (p3 l i) (h-i)).toArray⟩)|none=>none)|none=>none)=_
 simp_all[gX,ow,La,mD,nE,List.take_of_length_le]
theorem aus(t:TypeId)(c:Bool):(ay P .eql t c).f (bZ l) (bZ m)=some (.bool (l==m)):=rfl
def fV(l:List UInt8)(i:Nat):Nat:=(l.getD i 0).toNat
theorem tu(l:List UInt8)(i:Nat):fV l i<256:=(l.getD i 0).toNat_lt
def vk(c:Nat):Prop:=128<=c/\c<=191
instance (c:Nat):Decidable (vk c):=by unfold vk;exact inferInstance
def mN(l:List UInt8)(hd:Nat):Nat->Nat
 | 0=>hd
 | y+1=>64*mN l hd y+fV l (y+1)-128
def tv(l:List UInt8):Nat->Bool
 | 0=>true
 | y+1=>tv l y&&decide (vk (fV l (y+1)))
def q3(l:List UInt8)(size hd nx:Nat):Option (Nat×Nat):=
 if l.length<size then none else if tv l (size-1)=true then
  (if mN l hd (size-1)<nx\/mN l hd (size-1)>1114111\/(55296<=mN l hd (size-1)/\mN l hd (size-1)<=57343)then none else some (mN l hd (size-1),size))
 else none
def fy(l:List UInt8):Option (Nat×Nat):=
 if fV l 0<128 then some (fV l 0,1)
 else if 194<=fV l 0/\fV l 0<224 then q3 l 2 (fV l 0-192) 128
 else if 224<=fV l 0/\fV l 0<240 then q3 l 3 (fV l 0-224) 2048
 else if 240<=fV l 0/\fV l 0<245 then q3 l 4 (fV l 0-240) 65536
 else none
def pP(l:List UInt8):List Value:=match fy l with
 | none=>[int (fV l 0),bZ (l.take 1),.bool true]
 | some r=>[int r.1,bZ (l.take r.2),.bool false]
theorem Rm:dq P 276=[int 0,bZ [],.bool false]:=by rfl
theorem Rn(n:Int)(s:ByteArray)(b:Bool):(di P 276).f [(0,int n),(1,.string s),(2,.bool b)]=some (agg [int n,.string s,.bool b]):=by rfl
theorem adG{hd:Nat}(h:hd<32):∀y,y<=3->mN l hd y<64^y*64:=by
 intro y ba
 match y,ba with
 | 0,_=>grind[mN]
 | 1,_=>grind[tu,mN]
 | 2,_=>grind[tu,mN]
 | 3,_=>grind[tu,mN]
theorem aut{hd:Nat}(y:Nat)(h:tv l (y+1)=true):128<=64*mN l hd y+fV l (y+1):=by
 have:vk (fV l (y+1)):=by have h:(tv l y&&decide (vk (fV l (y+1))))=true:=h;rw[Bool.and_eq_true]at h;exact of_decide_eq_true h.2
 have:=this.1;omega
theorem auu{bI cY size hd nx:Nat}{bY:LX}{c9:LN}{jG:List Value}(oI:jG.length=3)(jX:jG.all eP=true)(AO:hd<32)(iI:2<=size)(aw:size<=4)(aD:size<=l.length)
  (hO:al H (Γ++[(bI,⟨[int 0,bZ [],.bool false],true⟩),(cY,⟨jG,true⟩)]))
  (sw:tv l (size-1)=true->bY 1 [bZ l,ak bI 0,ak cY 0,int size,int (mN l hd (size-1)),int nx] H)
  (gO:tv l (size-1)=false->∀ab aG,al ab (Γ++[(bI,⟨jG,true⟩),(cY,⟨jG,true⟩)])->b3 aG 1=ak bI 0->c9 aG ab):
  fw P true 98 Qw 245 [bZ l,ak bI 0,ak cY 0,int size,int hd,int nx,int 1] H bY c9:=by
 refine aqQ (fun k aG ab=>∃(y:Nat),y+1<=size/\k=size-y/\aG=[bZ l,ak bI 0,ak cY 0,int size,int (mN l hd y),int nx,int ((y+1:Nat):Int)]/\H=ab/\tv l y=true) _ _ ?_ size _ _ ⟨0,by omega,by omega,rfl,rfl,rfl⟩;rintro k aG ab ⟨y,ba,rfl,rfl,rfl,aA⟩;unfold aba
 try simp only[cR,cS]
 refine ai gj (bT (fun h=>?_) (fun h=>?_))
 ·have ba:y+1<size:=by omega
  have G4:=tu l (y+1);have aCj:=adG (l:=l) AO y (by omega);have xH:64^y<=64^3:=Nat.pow_le_pow_right (by omega) (by omega);refine ai (adF (by omega) (by omega)) ?_;rw[Int.toNat_natCast];refine cH (DJ (k:=.u8) (by grind[fV])) ?_;rw[show(l.getD (y+1) 0).toNat=fV l (y+1)from rfl];by_cases af:vk (fV l (y+1))
  ·have wt:tv l (y+1)=true:=by grind[tv]
   have aCk:=aut (hd:=hd) y wt;obtain⟨bX,b7⟩:=af;refine gb (fun aG ab=>aG=[bZ l,ak bI 0,ak cY 0,int size,int (mN l hd y),int nx,int ((y+1:Nat):Int),int (fV l (y+1)),.bool false]/\H=ab) ?_ ?_
   ·repeat (first|refine bH ?_|refine vC ?_)
    exact⟨by grind,(by rfl)⟩
   rintro aG ab ⟨rfl,rfl⟩
   try simp only[cR,cS]
   refine eX rfl (ai (zc (by omega) (by omega)) ?_)
   repeat refine bH ?_
   refine⟨size-(y+1),by omega,y+1,by omega,rfl,?_,(by simp_all),wt⟩
   grind[mN]
  ·have auv:tv l (size-1)=false:=by
    have:∀z,y+1<=z->tv l z=false:=by
     intro z eu;induction z with
     | zero=>omega
     | succ z bd=>
      show(tv l z&&decide (vk (fV l (z+1))))=false
      grind
    grind
   refine gb (fun aG ab=>aG=[bZ l,ak bI 0,ak cY 0,int size,int (mN l hd y),int nx,int ((y+1:Nat):Int),int (fV l (y+1)),.bool true]/\H=ab) ?_ ?_
   ·refine ai gj (bT (fun ax=>?_) (fun ax=>?_))
    ·repeat refine bH ?_
     exact⟨(by rfl),(by rfl)⟩
    ·repeat refine bH ?_
     refine⟨?_,(by rfl)⟩
     grind[vk]
   rintro aG ab ⟨rfl,rfl⟩
   try simp only[cR,cS]
   refine fU rfl (jj hO 1 rfl oI (by omega) (lo hO 0 rfl rfl oI jX ?_));intro cD dd;exact gO auv _ _ dd rfl
 ·have e:y=size-1:=by omega
  subst e;exact sw aA
end J
namespace J
open Go Go.Ab
variable[cu:b0]
variable{H:au}{Γ b8:List (Nat×az)}{aa:VH}{n k:Nat}{l:List UInt8}
theorem adH(l:List UInt8):(pP l).all eP=true/\(pP l).length=3:=by unfold pP;split<;>exact⟨rfl,rfl⟩
theorem yi{size hd nx:Nat}{r:Nat×Nat}(h:q3 l size hd nx=some r):size<=l.length/\r.2=size:=by grind[q3]
theorem Ro{r:Nat×Nat}(h:fy l=some r)(aD:l≠[]):1<=r.2/\r.2<=4/\r.2<=l.length:=by
 have aD:0<l.length:=List.length_pos_iff.2 aD;unfold fy at h;split at h
 ·grind
 split at h
 ·obtain⟨ad,af⟩:=yi h;omega
 split at h
 ·obtain⟨ad,af⟩:=yi h;omega
 split at h
 ·obtain⟨ad,af⟩:=yi h;omega
 ·cases h
theorem auw(aD:l≠[])(hO:al H Γ)(ag:∀ab,al ab Γ->aa (agg (pP l)) ab):wCall P 212 [bZ l] H aa:=by
 apply aqR;unfold abb;have mf:0<l.length:=List.length_pos_iff.2 aD;have br:=tu l 0;rw[Rm];refine j8 hO.z ?_;clear hO;intro bI H hO;refine ai (adF (by omega) (by omega)) ?_;rw[show(l.getD (0:Int).toNat 0).toNat=fV l 0 from rfl];refine cH (DJ (k:=.u8) (by omega)) (ai (Rl (n:=1) (by omega)) (ai (Rn _ _ _) (j8 hO ?_)));clear hO;intro cY H hO;refine lo hO 1 rfl rfl rfl rfl ?_;clear hO;intro H hO
 replace hO:al H (Γ++[(bI,⟨[int 0,bZ [],.bool false],true⟩),(cY,⟨[int (fV l 0),bZ (l.take 1),.bool true],true⟩)]):=hO
 by_cases aR:fV l 0<128
 ·repeat (first|refine bH ?_|refine uo ?_)
  refine ai (Rl (n:=1) (by omega)) (ai (Rn _ _ _) (lo hO 0 rfl rfl rfl rfl ?_));clear hO;intro H hO;refine jj hO 0 rfl rfl (by omega) ?_;have:=ag _ hO.left;unfold pP at this;rw[show fy l=some (fV l 0,1)from if_pos aR]at this;exact this
 have k2:fy l=none->∀H (b8:List (Nat×az)),al H (Γ++b8)->aa (agg [int (fV l 0),bZ (l.take 1),.bool true]) H:=fun h H b8 hO=>by have:=ag _ hO.left;unfold pP at this;rw[h]at this;exact this
 refine ai gj (tb (by omega) (gb (fun aG ab=>∃(size hd nx:Nat),aG=[bZ l,ak bI 0,ak cY 0,int size,int hd,int nx]/\H=ab/\hd<32/\2<=size/\size<=4/\fy l=q3 l size hd nx) ?_ ?_))
 ·by_cases cp:194<=fV l 0/\fV l 0<224
  ·refine ze ?_
   repeat (first|refine bH ?_|refine uo ?_)
   try simp only[cR,cS]
   refine⟨2,fV l 0-192,128,by grind,(by simp_all),by omega,by omega,by omega,?_⟩
   simp_all[fy,if_neg]
  by_cases ga:224<=fV l 0/\fV l 0<240
  ·refine gb (fun aG ab=>aG=[bZ l,ak bI 0,int (fV l 0),ak cY 0,int 0,int 0,int 0,.bool false]/\H=ab) ?_ ?_
   ·repeat (first|refine bH ?_|refine uo ?_)
    exact⟨by grind,(by rfl)⟩
   rintro aG ab ⟨rfl,rfl⟩
   try simp only[cR,cS]
   refine eX rfl (ze ?_)
   repeat (first|refine bH ?_|refine uo ?_)
   try simp only[cR,cS]
   refine⟨3,fV l 0-224,2048,by grind,(by simp_all),by omega,by omega,by omega,?_⟩
   simp_all[fy,if_neg]
  refine gb (fun aG ab=>aG=[bZ l,ak bI 0,int (fV l 0),ak cY 0,int 0,int 0,int 0,.bool false]/\H=ab) ?_ ?_
  ·refine ai uk (bT (fun ad=>?_) (fun ad=>?_))
   ·repeat refine bH ?_
    exact⟨by grind,(by rfl)⟩
   ·repeat refine bH ?_
    exact⟨(by rfl),(by rfl)⟩
  rintro aG ab ⟨rfl,rfl⟩
  try simp only[cR,cS]
  refine eX rfl (gb (fun aG ab=>aG=[bZ l,ak bI 0,int (fV l 0),ak cY 0,int 0,int 0,int 0,.bool false]/\H=ab) ?_ ?_)
  ·refine ai uk (bT (fun ad=>?_) (fun ad=>?_))
   ·repeat refine bH ?_
    exact⟨by grind,(by rfl)⟩
   ·repeat refine bH ?_
    exact⟨(by rfl),(by rfl)⟩
  rintro aG ab ⟨rfl,rfl⟩
  try simp only[cR,cS]
  refine eX rfl ?_;by_cases jc:240<=fV l 0/\fV l 0<245
  ·refine ze ?_
   repeat (first|refine bH ?_|refine uo ?_)
   try simp only[cR,cS]
   refine⟨4,fV l 0-240,65536,by grind,(by simp_all),by omega,by omega,by omega,?_⟩
   simp_all[fy,if_neg]
  have aX:fy l=none:=by simp_all[fy,if_neg]
  refine gb (fun aG ab=>aG=[bZ l,ak bI 0,int (fV l 0),ak cY 0,int 0,int 0,int 0,.bool false]/\H=ab) ?_ ?_
  ·refine ai uk (bT (fun ad=>?_) (fun ad=>?_))
   ·repeat refine bH ?_
    exact⟨by grind,(by rfl)⟩
   ·repeat refine bH ?_
    exact⟨(by rfl),(by rfl)⟩
  rintro aG ab ⟨rfl,rfl⟩
  try simp only[cR,cS]
  refine eX rfl (jj hO 1 rfl rfl (by omega) (lo hO 0 rfl rfl rfl rfl ?_));clear hO;intro H hO;exact jj hO 0 rfl rfl (by omega) (k2 aX _ _ hO)
 rintro aG ab ⟨size,hd,nx,rfl,rfl,bX,b7,g3,g4⟩
 try simp only[cR,cS]
 refine cH Rj (ai gj (bT (fun h=>?_) (fun h=>?_)))
 ·refine jj hO 1 rfl rfl (by omega) (lo hO 0 rfl rfl rfl rfl ?_);clear hO;intro H hO;refine jj hO 0 rfl rfl (by omega) (k2 ?_ _ _ hO);rw[g4];unfold q3
  simp_all
 refine auu rfl rfl bX b7 g3 (by omega) hO ?_ ?_
 ·intro aA;refine kW rfl ?_;have ea:=adG (l:=l) bX (size-1) (by omega);have aw:fy l=if mN l hd (size-1)<nx\/mN l hd (size-1)>1114111\/(55296<=mN l hd (size-1)/\mN l hd (size-1)<=57343)then none else some (mN l hd (size-1),size):=by
   rw[g4];unfold q3
   grind
  generalize mN l hd (size-1)=N at*
  try simp only[cR,cS]
  refine gb (fun aG ab=>aG=[bZ l,ak bI 0,ak cY 0,int size,int N,.bool (decide (N<nx\/N>1114111\/(55296<=N/\N<=57343)))]/\H=ab) ?_ ?_
  ·by_cases nf:N<nx
   ·repeat (first|refine bH ?_|refine uo ?_)
    exact⟨by simp_all,(by rfl)⟩
   by_cases oB:N>1114111
   ·repeat (first|refine bH ?_|refine uo ?_|refine vC ?_)
    exact⟨by simp_all,(by rfl)⟩
   by_cases z3:55296<=N
   ·repeat (first|refine bH ?_|refine uo ?_|refine vC ?_)
    exact⟨by grind,(by rfl)⟩
   ·repeat (first|refine bH ?_|refine vC ?_)
    exact⟨by grind,(by rfl)⟩
  rintro aG ab ⟨rfl,rfl⟩
  try simp only[cR,cS]
  refine bT (fun z=>?_) (fun z=>?_)
  ·refine jj hO 1 rfl rfl (by omega) (lo hO 0 rfl rfl rfl rfl ?_);clear hO;intro H hO;exact jj hO 0 rfl rfl (by omega) (k2 (by simp_all) _ _ hO)
  ·refine ai (Rl (by omega)) (ai (Rn _ _ _) (lo hO 0 rfl rfl rfl rfl ?_));clear hO;intro H hO;refine jj hO 0 rfl rfl (by omega) ?_;have:=ag _ hO.left;unfold pP at this;rw[aw,if_neg z]at this;exact this
 ·intro aA H aG hO bM;rw[bM];refine jj hO 0 rfl rfl (by omega) (k2 ?_ _ _ hO)
  simp_all[q3]
end J
namespace J
open Go Go.Ab
variable[cu:b0]
variable{H:au}{Γ:List (Nat×az)}{aa:VH}{v:Value}{b:List Int}{q n k:Nat}{l m:List UInt8}{ds:List (List UInt8)}
def pQ(l:List UInt8):Nat:=match fy l with
 | none=>1
 | some r=>r.2
def sC:Nat->List UInt8->List (List UInt8)
 | 0,_=>[]
 | n+1,l=>if l=[]then []else l::sC n (l.drop (pQ l))
def sD(l:List UInt8):List (List UInt8):=sC l.length l
theorem Lk(aD:l≠[]):1<=pQ l/\pQ l<=l.length:=by
 unfold pQ;split
 ·grind
 grind[Ro]
theorem adI:∀(n:Nat) (l:List UInt8),(sC n l).length<=n
 | 0,_=>Nat.zero_le _
 | n+1,l=>by
  unfold sC;split
  ·simp_all
  simp_all[adI]
theorem auy(l:List UInt8):(pP l)[1]?=some (bZ (l.take (pQ l))):=by grind[pP,pQ]
theorem auz(a b c:Value)(H:au):(eY P 273 1).f [(0,agg [a,b,c])] H=some (aF H.next 0 1 7,H.push [a,b,c]):=by rfl
theorem auA(H:au):(eY P 273 0).f [] H=some (aF H.next 0 0 7,H.push []):=by rfl
theorem auB{l:List Value}(h:l.length=3):∃a b c,l=[a,b,c]:=by
 match l,h with
 | [a,b,c],_=>simp_all
abbrev sE(ds:List (List UInt8)):List Value:=ds.flatMap pP
theorem auC(aD:l.length<=1000000)(hO:al H Γ)(ag:∀ab v,al ab (Γ++b2 v (sE (sD l)))->jN 3 v (sD l).length (sE (sD l))->aa v ab):wCall P 155 [bZ l] H aa:=by
 apply aqk;unfold aaA;refine ih hO (auA _) ?_;clear hO;intro q H hO;refine aqj (fun k aG ab=>∃(r:List UInt8) (ds:List (List UInt8)) (v:Value),r.length<=k/\ds.length+k<=l.length/\sD l=ds++sC k r/\aG=[bZ r,bB,v]/\al ab (Γ++b2 v (sE ds))/\jN 3 v ds.length (sE ds)) _ _ ?_ l.length _ _ ⟨l,[],aF q 0 0 7,Nat.le_refl _,by simp,rfl,rfl,hO,.inr ⟨q,.inr rfl,rfl⟩⟩;clear hO;rintro k aG H ⟨r,ds,v,U,aJ,he,rfl,hO,hv⟩;unfold aaz
 try simp only[cR,cS]
 refine ai (show _=some (.bool (!(r== [])))from rfl) ?_;by_cases aR:r=[]
 ·subst aR;refine eX rfl (kW rfl ?_)
  try simp only[cR,cS]
  have hZ:sC k []=[]:=by cases k<;>rfl
  rw[hZ,List.append_nil]at he;rw[he]at ag;exact ag H v hO hv
 ·have an:(r== [])=false:=by cases r<;>first|rfl|exact absurd rfl aR
  rw[an];refine fU rfl (auw aR hO ?_);clear hO;intro H hO;rw[Rm];obtain⟨bX,b7⟩:=adH r;refine dT hO ?_;clear hO;intro cY H hO;refine gl hO (_+0) (aC rfl) rfl b7 bX ?_;clear hO;intro H hO
  replace hO:=hO.cy
  replace hO:al H ((Γ++b2 v (sE ds))++[(cY,⟨pP r,true⟩)]):=hO
  refine hi hO (_+0) (aC rfl) b7 (by omega) ?_;obtain⟨aCl,fV,cc,aA⟩:=auB b7;refine ih hO (by rw[aA];exact auz _ _ _ _) ?_;rw[<- aA];clear hO;intro ca H hO
  replace hO:al H (((Γ++[(cY,⟨pP r,true⟩)])++b2 v (sE ds))++[(ca,⟨pP r,true⟩)]):=hO.fP (by classical exact List.perm_iff_count.2 fun _=>by simp only[List.count_append,List.count_nil,List.set_cons_zero];omega)
  refine Ej hO hv b7 (by omega) bX (by omega) (by omega) ?_;clear hO;intro ec H hO kl;obtain⟨dF,e3⟩:=Lk aR;refine ai ed (aZ hO (Γ.length+0) (aS (aC rfl)) (v:=bZ (r.take (pQ r))) (auy r) (cH Rj ?_));rw[List.length_take,Nat.min_eq_left e3];refine ai (aur e3) ?_;cases k with
  | zero=>omega
  | succ k=>
   refine⟨k,Nat.lt_succ_self _,r.drop (pQ r),ds++[r],ec,?_,?_,?_,rfl,?_,?_⟩
   ·rw[List.length_drop];omega
   ·rw[List.length_append];simp;omega
   ·rw[he];show ds++(if r=[]then []else r::sC k (r.drop (pQ r)))=_;rw[if_neg aR];simp
   ·replace hO:al H (Γ++b2 ec (sE ds++pP r)):=al.cf hO
    simpa using hO
   ·simpa using kl
def uy(l:List UInt8)(first:Bool):Bool:=match fy l with
 | none=>false
 | some r=>Go.Lib.isLetterU r.1||(!first&&(Go.Lib.isDigitU r.1||(l.take r.2== [45]||(l.take r.2== [95]||l.take r.2== [46]))))
def Ll(l:List UInt8):Bool:=match fy l with
 | none=>false
 | some r=>Go.Lib.isLetterU r.1
def uz:Nat->List (List UInt8)->Bool
 | _,[]=>true
 | i,r::ds=>uy r (i==0)&&uz (i+1) ds
def G5(l:List UInt8):Int:=if(sD l).length=0\/(sD l).length>24 then 41 else if uz 0 (sD l)=true then 0 else 41
theorem auD{n:Int}(aR:0<=n)(ad:n<2147483648):j5 .i32 (int n) H=some (.int .i32 n,H):=by
 show some (Value.int .i32 (iY .i32 n),H)=_;have:iY .i32 n=n:=by
  show tL 2147483648 4294967296 n=n;unfold tL;obtain⟨m,rfl⟩:∃m:Nat,n=m:=⟨n.toNat,by omega⟩
  grind[blt_eq]
 rw[this]
theorem auE{i:Nat}{ds:List (List UInt8)}:∀(y:Nat) (h:y<ds.length),uz (i+y) (ds.drop y)=(uy ds[y] (i+y==0)&&uz (i+(y+1)) (ds.drop (y+1))):=by intro y h;rw[List.drop_eq_getElem_cons h];rfl
end J
namespace J
open Go Go.Ab
variable[cu:b0]
variable{H:au}{Γ:List (Nat×az)}{aa:VH}{v x:Value}{o n k:Nat}{e:Int}{l m:List UInt8}{ds:List (List UInt8)}
theorem auF{size hd nx:Nat}{r:Nat×Nat}(h:q3 l size hd nx=some r):r.1<=1114111:=by grind[q3]
theorem auG{r:Nat×Nat}(h:fy l=some r):r.1<=1114111:=by grind[fy,auF]
structure auH (l:List UInt8) (n:Nat) (uA:List UInt8) (fc:Bool):Prop where
 cells:pP l=[int n,bZ uA,.bool fc]
 lt:n<=1114111
 adJ:Ll l=(!fc&&Go.Lib.isLetterU n)
 ok:∀f,uy l f=(!fc&&(Go.Lib.isLetterU n||(!f&&(Go.Lib.isDigitU n||(uA== [45]||(uA== [95]||uA== [46]))))))
theorem auI(l:List UInt8):∃n uA fc,auH l n uA fc:=by
 cases h:fy l with
 | none=>exact⟨fV l 0,l.take 1,true,by grind[pP],by grind[tu],by simp_all[Ll],fun f=>by simp_all[uy]⟩
 | some r=>exact⟨r.1,l.take r.2,false,by grind[pP],auG h,by simp_all[Ll],fun f=>by simp_all[uy]⟩
theorem auJ{bY:LX}{c9:LN}(aD:ds.length<=1000000)(hv:jN 3 v ds.length (sE ds))(hO:al H (Γ++b2 v (sE ds)))
  (sw:uz 0 ds=true->∀ab,al ab Γ->bY 0 [int 0] ab) (gO:uz 0 ds=false->∀ab,al ab Γ->c9 [int 41] ab):
  fw P true 64 Qq 4 [int 0,v,int ds.length,int 0] H bY c9:=by
 refine apt (fun k aG ab=>∃(y:Nat),y<=ds.length/\k=ds.length-y/\aG=[int 0,v,int ds.length,int y]/\al ab (Γ++b2 v (sE ds))/\uz 0 ds=uz y (ds.drop y)) _ _ ?_ ds.length _ _ ⟨0,by omega,by omega,rfl,hO,rfl⟩;clear hO;rintro k aG H ⟨y,ba,rfl,rfl,hO,fC⟩;unfold Zw
 try simp only[cR,cS]
 refine ai gj (bT (fun h=>?_) (fun h=>?_))
 ·have ba:y<ds.length:=by omega
  obtain⟨fD,bb,rfl,sn⟩:∃fD bb,v=aF fD 0 ds.length bb/\b2 v (sE ds)=[(fD,⟨sE ds,true⟩)]:=by
   rcases hv with⟨_,aR,_⟩|⟨fD,rfl|rfl,_⟩
   ·omega
   ·exact⟨fD,_,rfl,rfl⟩
   ·exact⟨fD,_,rfl,rfl⟩
  rw[sn]at hO;have adK:=auE (i:=0) (ds:=ds) y ba;rw[Nat.zero_add,Nat.zero_add]at adK;rw[adK]at fC;obtain⟨n,uA,fc,ff⟩:=auI ds[y];have auK:=GL (f:=pP) (n:=3) (l:=ds) (i:=y) (o:=0) (m:=3) (fun x _=>(adH x).2) ba (by omega);rw[ff.cells]at auK;refine ai (ky (by omega) (by omega)) (jM hO (Γ.length+0) (aC rfl) (show _=[int n,bZ uA,.bool fc]from by simp_all) rfl (by omega) ?_);rw[Rm];refine j8 hO ?_;clear hO;intro fx H hO;refine lo hO 1 rfl rfl rfl rfl ?_;clear hO;intro H hO
  replace hO:al H (Γ++[(fD,⟨sE ds,true⟩),(fx,⟨[int n,bZ uA,.bool fc],true⟩)]):=hO
  repeat (first|refine bH ?_|refine cI hO 1 rfl rfl ?_)
  have aX:=ff.lt;refine cH (auD (by omega) (by omega)) (gb (fun aG ab=>aG=[int 0,int y,ak fx 0,.int .i32 n,.bool (Ll ds[y]),aF fD 0 ds.length bb,int ds.length,int y]/\H=ab) ?_ ?_)
  ·repeat (first|refine bH ?_|refine cI hO 1 rfl rfl ?_)
   rw[ff.adJ];cases fc with
   | true=>
    refine eX rfl ?_
    repeat refine bH ?_
    exact⟨(by rfl),(by rfl)⟩
   | false=>
    refine fU rfl (aon (by omega) (by omega) ?_)
    repeat refine bH ?_
    exact⟨(by rfl),(by rfl)⟩
  rintro aG ab ⟨rfl,rfl⟩
  try simp only[cR,cS]
  refine gb (fun aG ab=>aG=[int 0,.bool (uy ds[y] (y==0)),aF fD 0 ds.length bb,int ds.length,int y]/\H=ab) ?_ ?_
  ·rw[ff.adJ,ff.ok];refine ai sl (bT (fun aR=>?_) (fun aR=>?_))
   ·have hZ:(y==0)=false:=by grind
    rw[hZ]
    repeat (first|refine bH ?_|refine cI hO 1 rfl rfl ?_)
    cases fc with
    | true=>
     refine eX rfl ?_
     repeat (first|refine bH ?_|refine wL ?_)
     exact⟨(by rfl),(by rfl)⟩
    | false=>
     refine fU rfl (aoo (by omega) (by omega) (sk (fun aJ=>?_) (fun aJ=>?_)))
     ·rw[aJ]
      repeat (first|refine bH ?_|refine lg ?_)
      exact⟨by simp,(by rfl)⟩
     ·rw[aJ]
      repeat (first|refine bH ?_|refine cI hO 1 rfl rfl ?_)
      refine ai (show _=some (.bool (uA== [45]))from rfl) (ai qi (sk (fun ad=>?_) (fun ad=>?_)))
      ·rw[ad]
       repeat (first|refine bH ?_|refine lg ?_)
       exact⟨by simp,(by rfl)⟩
      ·rw[ad]
       repeat (first|refine bH ?_|refine cI hO 1 rfl rfl ?_)
       refine ai (show _=some (.bool (uA== [95]))from rfl) (ai qi (sk (fun af=>?_) (fun af=>?_)))
       ·rw[af]
        repeat (first|refine bH ?_|refine lg ?_)
        exact⟨by simp,(by rfl)⟩
       ·rw[af]
        repeat (first|refine bH ?_|refine cI hO 1 rfl rfl ?_)
        refine ai (show _=some (.bool (uA== [46]))from rfl) (ai qi ?_)
        repeat refine bH ?_
        refine sk (fun ax=>?_) (fun ax=>?_)
        ·rw[ax];exact⟨by simp,(by rfl)⟩
        ·rw[ax];exact⟨by simp,(by rfl)⟩
   ·have hZ:(y==0)=true:=by grind
    rw[hZ]
    repeat (first|refine bH ?_|refine wL ?_)
    exact⟨by simp,(by rfl)⟩
  rintro aG ab ⟨rfl,rfl⟩
  try simp only[cR,cS]
  refine ai jt ?_;cases eu:uy ds[y] (y==0)with
  | false=>rw[eu]at fC;exact fU rfl (gO fC _ hO.left)
  | true=>
   rw[eu]at fC;refine eX rfl ?_
   repeat refine bH ?_
   refine⟨ds.length-(y+1),by omega,y+1,by omega,rfl,rfl,?_,?_⟩
   ·rw[sn];exact BR (A:=[(fD,⟨sE ds,true⟩)]) hO
   simp_all
 ·have e:y=ds.length:=by omega
  subst e;rw[List.drop_of_length_le (Nat.le_refl _)]at fC;exact sw fC _ hO.left
theorem auL(aD:l.length<=1000000)(hO:al H Γ)(ag:∀ab,al ab Γ->aa (int (G5 l)) ab):wCall P 87 [bZ l] H aa:=by
 apply apu;unfold Zx;refine auC aD hO ?_;clear hO;intro H v hO hv;have xx:(sD l).length<=l.length:=adI _ _;unfold G5 at ag;generalize sD l=ds at*;refine gb (fun aG ab=>aG=[int 0,v]/\H=ab/\¬(ds.length=0\/ds.length>24)) ?_ ?_
 ·refine cH hv.cG (ai fz (bT (fun h=>?_) (fun h=>?_)))
  ·repeat (first|refine bH ?_|refine lg ?_)
   have:=ag H hO.left;rw[if_pos (.inl (by omega))]at this;exact this
  ·refine cH hv.cG (ai sl (ai (kV h) (bT (fun af=>?_) (fun af=>?_))))
   ·have:=ag H hO.left;rw[if_pos (.inr (by omega))]at this;exact this
   ·exact⟨rfl,rfl,by omega⟩
 rintro aG ab ⟨rfl,rfl,aX⟩
 try simp only[cR,cS]
 rw[if_neg aX]at ag;refine cH hv.cG (auJ (by omega) hv hO ?_ ?_)
 ·intro h H hO;rw[if_pos h]at ag;exact ag H hO
 ·intro h H hO;rw[if_neg (by grind)]at ag;exact ag H hO
end J
namespace J
open Go Go.Ab
variable[cu:b0]
variable{l:List UInt8}
abbrev jH(l:List UInt8):ByteArray:=⟨l.toArray⟩
theorem auM(l:List UInt8)(k:Nat):((jH l).get! k).toNat=fV l k:=by
 show((l.toArray)[k]!).toNat=(l.getD k 0).toNat;rw[List.getD_eq_getElem?_getD];by_cases h:k<l.length
 ·simp_all
 ·rw[getElem!_neg _ _ (by omega),List.getElem?_eq_none (by omega)];rfl
theorem zK(l:List UInt8):(jH l).size=l.length:=rfl
theorem adL(aD:l≠[]):(fy l=none->Utf8.decode (jH l) 0=(65533,1))/\(∀r,fy l=some r->Utf8.decode (jH l) 0=r):=by
 have mf:0<l.length:=List.length_pos_iff.2 aD;have o3:=tu l 0;have db:=tu l 1;have cp:=tu l 2;have ga:=tu l 3;have key:Utf8.decode (jH l) 0=(fy l).getD (65533,1):=by
  unfold Utf8.decode;simp only[Nat.zero_add,auM,zK,Utf8.runeError,Utf8.valid];unfold fy q3;have aq:∀c,(decide (vk c)=true)=(128<=c/\c<=191):=fun c=>by rw[decide_eq_true_eq];rfl
  simp only[tv,mN,aq,Bool.true_and,Bool.and_eq_true,decide_eq_true_eq,beq_iff_eq,Nat.add_one_sub_one,Nat.reduceSub,Nat.reduceAdd];generalize fV l 0=a at*;generalize fV l 1=b at*;generalize fV l 2=c at*;generalize fV l 3=d at*;generalize l.length=n at*;simp only[Bool.or_eq_true,Bool.and_eq_true,decide_eq_true_eq]
  repeat' split
  all_goals simp only[Option.getD_some,Option.getD_none]
  all_goals first
   | rfl
   |(exfalso;omega)
   |(refine Prod.ext ?_ rfl;show(_:Nat)=_;omega)
 simp_all
theorem adM{r:Nat×Nat}(h:fy l=some r):¬(r.1=65533/\r.2=1):=by
 have:=tu l 0;unfold fy at h;split at h
 ·grind
 split at h
 ·have:=(yi h).2;omega
 split at h
 ·have:=(yi h).2;omega
 split at h
 ·have:=(yi h).2;omega
 ·cases h
theorem Rp{size hd nx:Nat}{r:Nat×Nat}(h:q3 l size hd nx=some r):nx<=r.1:=by grind[q3]
theorem auN{r:Nat×Nat}(h:fy l=some r):(r.1<128->r.2=1/\r.1=fV l 0)/\(r.2=1->r.1=fV l 0/\r.1<128):=by
 have:=tu l 0;unfold fy at h;split at h
 ·grind
 split at h
 ·have:=(yi h).2;have:=Rp h;omega
 split at h
 ·have:=(yi h).2;have:=Rp h;omega
 split at h
 ·have:=(yi h).2;have:=Rp h;omega
 ·cases h
theorem auO{r:Nat×Nat}(aD:l≠[])(h:fy l=some r)(c:UInt8)(aA:c.toNat<128):(l.take r.2== [c])=((r.1:Int)==(c.toNat:Int)):=by
 obtain⟨ad,af⟩:=auN h;obtain⟨dF,e3,kR⟩:=Ro h aD
 match l,aD with
 | a::t,_=>
 have br:fV (a::t) 0=a.toNat:=rfl;rw[Bool.eq_iff_iff,beq_iff_eq,beq_iff_eq];constructor
 ·intro e;have aM:r.2=1:=by
   have:=congrArg List.length e
   grind
  simp_all
 grind[UInt8.toNat_inj]
theorem adN(l:List UInt8)(bh i:Nat)(bM:bh<l.length):Seal.DY (jH l) bh i=!uy (l.drop bh) (i==0)/\(Utf8.decode (jH l) bh).2=pQ (l.drop bh):=by
 have dj:l.drop bh≠[]:=by simp_all
 have ao:(jH l).extract bh (jH l).size=jH (l.drop bh):=by
  apply ByteArray.ext
  simp_all[zK,List.take_of_length_le]
 have ht:=Go.Lib.tail_decode (jH l) bh 0;rw[ao,Nat.add_zero]at ht;obtain⟨kB,jg⟩:=adL dj;have eu:(((i:Int))==0)=(i==0):=by grind
 unfold Seal.DY Seal.zt;rw[ao];have DU:Go.Lib.decodeGo (jH (l.drop bh))=Utf8.decode (jH (l.drop bh)) 0:=by unfold Go.Lib.decodeGo;rw[if_neg (by grind[zK])]
 rw[DU,<- ht,eu];cases bJ:fy (l.drop bh)with
 | none=>grind[uy,pQ]
 | some r=>
  rw[jg r bJ];refine⟨?_,by simp_all[pQ]⟩;have auP:=adM bJ;rw[decide_eq_false (show¬((r.1:Int)=65533/\r.2=1) by omega),Bool.false_or]
  simp_all[uy,Seal.wR,auO,Bool.or_assoc]
theorem adO(l:List UInt8):∀(b bh i:Nat),bh<=l.length->Seal.pb (jH l) b bh i=if uz i (sC b (l.drop bh))=true then Seal.zs ((i+(sC b (l.drop bh)).length:Nat):Int)else 41
 | 0,bh,i,_=>by rfl
 | b+1,bh,i,bM=>by
  unfold Seal.pb sC;by_cases h:bh<l.length
  ·obtain⟨ad,af⟩:=adN l bh i h;have dj:l.drop bh≠[]:=by simp_all
   have aM:=Lk dj;rw[List.length_drop]at aM;rw[if_pos (show bh<(jH l).size from h),if_neg dj,ad,af];cases bJ:uy (l.drop bh) (i==0)with
   | false=>simp_all[uz]
   | true=>
    rw[if_neg (show¬(!true)=true by simp)];have bd:=adO l b (bh+pQ (l.drop bh)) (i+1) (by omega);rw[show((i:Int)+1)=((i+1:Nat):Int) by omega,bd,List.drop_drop];show _=if(uy (l.drop bh) (i==0)&&uz (i+1) _)=true then _ else _
    grind
  ·have Rq:l.drop bh=[]:=List.drop_of_length_le (by omega);rw[if_neg (show¬bh<(jH l).size from h),if_pos Rq];rfl
theorem adP(l:List UInt8):G5 l=Seal.pb (jH l) (jH l).size 0 0:=by
 have:=adO l l.length 0 0 (Nat.zero_le _);rw[List.drop_zero,Nat.zero_add]at this;rw[zK];refine Eq.trans ?_ this.symm;unfold G5 Seal.zs;show _=if uz 0 (sD l)=true then(if(((sD l).length:Nat):Int)<1\/(((sD l).length:Nat):Int)>24 then 41 else 0)else 41
 grind
end J
