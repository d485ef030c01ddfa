/- texts of the nf, fh behind the mA -/
import Derived.Test.YtifflnhooaophaaGreatDoorUO
set_option linter.unusedVariables false
set_option linter.unusedSimpArgs false
set_option linter.unusedSectionVars false
set_option maxRecDepth 100000
open List Nat
namespace J
open Go Go.Ab
variable[cu:b0]
end J
namespace J
open Go Go.Ab
variable{H:au}{S F R:List (Nat×ax)}{q:fA}{p:bX}{N db:Nat}{aq:List Value}
theorem nc{q cp:fA}(h:q.et cp):(ku q)[3]?=some (ai cp.db 0):=by rw[h.db];rfl
end J
namespace J
open Go Go.Ab
namespace V
variable{p:bX}{ct a e:Int}{i:Nat}{n7 cw:Bool}
structure n0 (p:bX):Prop where
 k:(p.st=1/\p.fg=0)\/(p.st=2/\p.fg=0)\/(p.st=3/\p.fg≠0)\/(p.st=4/\p.fg=0)
 eO:p.st=1->p.w.s.sT p.w.cy
 BO:p.st≠1->p.w.s.mJ=0
 fz:p.w.s.fz<1000
theorem aDo{s:fF}{t:Nat}(h:s.sT t):(s.drop t).mJ=0:=by simp_all[fF.drop]
theorem aDp{s:fF}{t:Nat}:(s.drop t).fz=s.fz:=by grind[fF.drop]
theorem n0.lH{st fg:Int}(h:n0 p)(h1:p.st=1)(al:(st=2/\fg=0)\/(st=3/\fg≠0)\/(st=4/\fg=0)):n0 (p.lH st fg):=
 ⟨.inr al,fun aT=>(by have aT:st=1:=aT;omega),fun _=>aDo (h.eO h1),by show(p.w.s.drop p.w.cy).fz<1000;rw[aDp];exact h.fz⟩
theorem n0.hG(h:n0 p)(h1:p.st=1):n0 (p.hG i n7 e cw).2:=by
 have bY:n0 (if n7 then {p with d:=p.d.sd i}else p:bX):=by split;exact⟨h.k,h.eO,h.BO,h.fz⟩;exact h
 have qW:(if n7 then {p with d:=p.d.sd i}else p:bX).st=1:=by grind
 unfold bX.hG;simp only;split;rename_i he;exact bY.lH qW (.inr (.inl ⟨rfl,he⟩));split;exact bY.lH qW (.inl ⟨rfl,rfl⟩);exact bY
theorem n0.step(h:n0 p):n0 (p.step ct).2:=by
 unfold bX.step;split;exact h;rename_i aU;have h1:p.st=1:=by omega
 split;unfold bX.uR;split;exact h.lH h1 (.inr (.inl ⟨rfl,by decide⟩));exact h;split;rw[yv];have:n0 p.rm:=⟨h.k,h.eO,h.BO,h.fz⟩;exact this.hG h1;split;rw[zS];have:n0 p.yw:=⟨h.k,h.eO,h.BO,h.fz⟩;exact this.hG h1;split;rw[zT];obtain⟨dZ,gd,_⟩:=aip (w:={p.w with q:=p.c.eB});have dZ:p.rw.2.s=p.w.s:=dZ;have gd:p.rw.2.cy=p.w.cy:=gd;have:n0 p.xA:=⟨h.k,fun aT=>by show p.rw.2.s.sT p.rw.2.cy;rw[dZ,gd];exact h.eO aT,fun aT=>by show p.rw.2.s.mJ=0;rw[dZ];exact h.BO aT,by show p.rw.2.s.fz<1000;rw[dZ];exact h.fz⟩;exact this.hG h1;exact h
end V
end J
namespace J
open Go Go.Ab
variable{H:au}{S X:List (Nat×ax)}{v:Value}{dR:List Value}{i:Nat}
structure sk where
 k:Int
 n:Int
 bb:List lQ
def p6(a:sk)(fv:Value):List Value:=[int a.k,int a.n,fv]
def yF(S:List (Nat×ax))(a:sk)(dR:List Value):Prop:=∃fv,dR=p6 a fv/\h4 S fv a.bb/\∀f∈a.bb,f.v<256
theorem yF.app{a:sk}(h:yF S a dR):yF (S++X) a dR:=by obtain⟨fv,h1,h2,h3⟩:=h;exact⟨fv,h1,h2.app,h3⟩
def RdAcP(S:List (Nat×ax))(v:Value)(acts:List sk):Prop:=∃aP,qk 3 S v acts.length aP.flatten/\Al (yF S) acts aP
theorem RdAcP.app{acts:List sk}(h:RdAcP S v acts):RdAcP (S++X) v acts:=by obtain⟨aP,h1,h2⟩:=h;exact⟨aP,h1.app,h2.xp fun _ _=>yF.app⟩
theorem qk.aDt{n:Nat}{aq:List Value}(h:qk 3 S v n aq):Go.Ab.bO v H=some (int n,H):=by rcases h with⟨rfl,rfl,_⟩|⟨p,c,j,w,rfl,_⟩<;>rfl
theorem RdAcP.bO{acts:List sk}(h:RdAcP S v acts):Go.Ab.bO v H=some (int acts.length,H):=by obtain⟨aP,h1,_⟩:=h;exact h1.aDt
theorem RdAcP.get{acts:List sk}(h:RdAcP S v acts)(an:i<acts.length):∃(p c j:Nat) (w:Bool) (aq:List Value) (fv:Value),v=aC p 0 acts.length c/\S[j]?=some (p,(⟨aq,w⟩:ax))/\(aq.drop (0+i*3)).take 3=p6 acts[i] fv/\h4 S fv acts[i].bb/\∀f∈acts[i].bb,f.v<256:=by
 obtain⟨aP,h1,h2⟩:=h;obtain⟨dR,⟨fv,rfl,cd,g3⟩,lh⟩:=h2.aiq (size:=3) (fun a dR h=>by obtain⟨fv,rfl,_⟩:=h;rfl) i an;rcases h1 with⟨_,aJ,_⟩|⟨p,c,j,w,rfl,bm,aD⟩
 omega
 grind
theorem Gu{cN:List TypeId}{N:Nat}{c:List Value}{b:List (List Value)}(h:fS P (22::cN) N c b):
  ∃v bV b1 b2 xs,c=v::bV/\b=b1++b2/\RdB (kK N b1) v xs/\cE xs/\fS P cN (N+b1.length) bV b2:=by
 rcases Fg MZ h with⟨bV,a7,h3⟩|⟨len,cells,bV,bs,di,a7,xC,hm,aD,h3,aG⟩
 exact⟨_,bV,[],b,[],a7,rfl,.inl ⟨rfl,rfl⟩,fun x ao=>(by cases ao),h3⟩;obtain⟨ak,xs,rfl,rfl,aM⟩:=Ln (k:=.u8) Go.Proofs.Tryz.underlying5 _ _ _ _ h3;subst ak;subst xC;exact⟨_,bV,[_],di,xs,a7,rfl,.inr ⟨N,0,_,rfl,.inl rfl,.inr ⟨0,_,rfl,by grind⟩⟩,fun x ao=>Ff (aM x ao),aG⟩
theorem h4.app'{bb:List lQ}(h:h4 S v bb):h4 (X++S) v bb:=by
 rcases h with h|⟨p,o,c,h1,h2,h3|⟨j,b,h3,aG⟩⟩
 exact .inl h;exact .inr ⟨p,o,c,h1,h2,.inl h3⟩;exact .inr ⟨p,o,c,h1,h2,.inr ⟨X.length+j,b,az h3,aG⟩⟩
theorem yF.app'{a:sk}(h:yF S a dR):yF (X++S) a dR:=by obtain⟨fv,h1,h2,h3⟩:=h;exact⟨fv,h1,h2.app',h3⟩
theorem RdAcP.app'{acts:List sk}(h:RdAcP S v acts):RdAcP (X++S) v acts:=by
 obtain⟨aP,h1,h2⟩:=h;refine⟨aP,?_,h2.xp fun _ _=>yF.app'⟩;rcases h1 with h|⟨p,c,j,w,h1,h2,h3⟩
 exact .inl h;exact .inr ⟨p,c,X.length+j,w,h1,az h2,h3⟩
theorem yy.app'{o:List UInt8×List Int}(h:yy S o dR):yy (X++S) o dR:=by obtain⟨kf,h1,h2,h3⟩:=h;exact⟨kf,h1,h2.app',h3⟩
theorem sX.app'{fP:qw}(h:sX S v fP):sX (X++S) v fP:=by
 obtain⟨aP,h1,h2⟩:=h;refine⟨aP,?_,h2.xp fun _ _=>yy.app'⟩;rcases h1 with h|⟨p,c,j,w,h1,h2,h3⟩
 exact .inl h;exact .inr ⟨p,c,X.length+j,w,h1,az h2,h3⟩
end J
namespace J
open Go Go.Ab
variable[cu:b0]
variable{H:au}{S F R:List (Nat×ax)}{aa:VH}{q:fA}{p:bX}{N i cK o:Nat}{aq:List Value}{v:Value}
theorem cz.fM(h:cz H S F q p N)(an:F[i]?=some (cK,⟨aq,true⟩))(hv:aq[o]?=some v)(ah:aa v H):af (aw (ai cK o) H) aa:=by obtain⟨aX,R,U,hO⟩:=h;exact aY hO (S.length+i) (aL (az (aL an))) hv ah
theorem cz.Oa{ab:au}{h8 xu:List (Nat×ax)}{cp:fA}{cI:bX}{sV vd:Nat}(h:cz H S F q p N)(aT:cz ab h8 xu cp cI sV)(an:F[i]?=some (cK,⟨aq,true⟩))(fu:xu[vd]?=some (cK,⟨aq,true⟩))(al:aq.all fY=true):ey (en H ab) (cm [ai cK o]):=by obtain⟨aX,R,U,hO⟩:=h;obtain⟨BK,Nn,gD,ju⟩:=aT;exact ho hO (S.length+i) (aL (az (aL an))) ju (h8.length+vd) (aL (az (aL fu))) al
theorem cz.take{iK aC:Int}(h:cz H S F q p N)(h1:p.st≠1)(hg:p.w.s.fz<1000)(al:(p.w.s.gS iK aC).2.2.b4)(ah:∀ab,cz ab S F q {p with w:={p.w with s:=(p.w.s.gS iK aC).2.2}} N->aa (.tuple [bT .u64 (p.w.s.gS iK aC).1,int (p.w.s.gS iK aC).2.1].toArray) ab):ay P 32 [ai q.b8 0,int iK,int aC] H aa:=by
 obtain⟨aX,R,U,hO⟩:=h;have ez:aj H (((S++(F++R)++[(q.c,(⟨q.aF p,true⟩:ax))])++[(q.b8,⟨fs p.w.s q.L.cO,true⟩)])++([(q.w,(⟨q.W.jv p.w,true⟩:ax)),(q.bz,⟨fD q.ca q.fv p.aR.dk,true⟩),(q.cn,lO p.d.fG p.d.kY q.eb p.d.eR.length),(q.eb,lP p.d.eR),(q.db,⟨mX q p.w.cy p.st p.fg,true⟩)]++dJ q.L p.w.m)):=
  hO.fj (gL fun rl=>by simp_all[nX])
 refine aht hg ez ?_;intro ab hO;refine ah ab ⟨⟨aX.tO,aX.xx,aX.xy,aX.xz,aX.uV,al,aX.m,aX.own,aX.kV,aX.aR,aX.dk,aX.d1,aX.d2,aX.d3,fun h=>absurd h h1⟩,R,fun h=>absurd h h1,?_⟩;show aj ab ((S++(F++R))++([(q.c,(⟨q.aF p,true⟩:ax)),(q.b8,⟨fs (p.w.s.gS iK aC).2.2 q.L.cO,true⟩),(q.w,⟨q.W.jv p.w,true⟩),(q.bz,⟨fD q.ca q.fv p.aR.dk,true⟩),(q.cn,lO p.d.fG p.d.kY q.eb p.d.eR.length),(q.eb,lP p.d.eR),(q.db,⟨mX q p.w.cy p.st p.fg,true⟩)]++dJ q.L p.w.m));exact hO.fj (gL fun rl=>by simp_all)
end J
namespace J
open Go Go.Ab
variable{q:fA}
theorem Ob{q cp:fA}(h:q.et cp):(ku q)[0]?=some (ai cp.L.cO 0):=by rw[h.L.m];rfl
end J
