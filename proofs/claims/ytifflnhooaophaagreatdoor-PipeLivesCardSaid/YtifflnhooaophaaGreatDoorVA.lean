/- texts of the nf, fh behind the mA -/
import Derived.Test.YtifflnhooaophaaGreatDoorUO
set_option linter.unusedVariables false
set_option linter.unusedSimpArgs false
set_option linter.unusedSectionVars false
set_option maxRecDepth 100000
open List Nat
namespace J
open Go Go.Ab
variable[cu:b0]
end J
namespace J
open Go Go.Ab
variable{H:au}{S F R:List (Nat×ax)}{q:fA}{p:bX}{N db:Nat}{aq:List Value}
theorem Vj:(ar P .eql 39 true).f (.pointer none) (.pointer none)=some (.bool true):=by rfl
theorem Vk{q cp:fA}(h:q.et cp):(ku q)[1]?=some (ai cp.bz 0):=by rw[h.bz];rfl
theorem nc{q cp:fA}(h:q.et cp):(ku q)[3]?=some (ai cp.db 0):=by rw[h.db];rfl
end J
namespace J
open Go Go.Ab
namespace V
variable{p:bX}{ct a e:Int}{i:Nat}{n7 cw:Bool}
structure n0 (p:bX):Prop where
 k:(p.st=1/\p.fg=0)\/(p.st=2/\p.fg=0)\/(p.st=3/\p.fg≠0)\/(p.st=4/\p.fg=0)
 eO:p.st=1->p.w.s.sT p.w.cy
 BO:p.st≠1->p.w.s.mJ=0
 fz:p.w.s.fz<1000
theorem aDo{s:fF}{t:Nat}(h:s.sT t):(s.drop t).mJ=0:=by simp_all[fF.drop]
theorem aDp{s:fF}{t:Nat}:(s.drop t).fz=s.fz:=by grind[fF.drop]
theorem n0.lH{st fg:Int}(h:n0 p)(h1:p.st=1)(al:(st=2/\fg=0)\/(st=3/\fg≠0)\/(st=4/\fg=0)):n0 (p.lH st fg):=
 ⟨.inr al,fun aT=>(by have aT:st=1:=aT;omega),fun _=>aDo (h.eO h1),by show(p.w.s.drop p.w.cy).fz<1000;rw[aDp];exact h.fz⟩
theorem n0.hG(h:n0 p)(h1:p.st=1):n0 (p.hG i n7 e cw).2:=by
 have bY:n0 (if n7 then {p with d:=p.d.sd i}else p:bX):=by split;exact⟨h.k,h.eO,h.BO,h.fz⟩;exact h
 have qW:(if n7 then {p with d:=p.d.sd i}else p:bX).st=1:=by grind
 unfold bX.hG;simp only;split;rename_i he;exact bY.lH qW (.inr (.inl ⟨rfl,he⟩));split;exact bY.lH qW (.inl ⟨rfl,rfl⟩);exact bY
theorem n0.step(h:n0 p):n0 (p.step ct).2:=by
 unfold bX.step;split;exact h;rename_i aU;have h1:p.st=1:=by omega
 split;unfold bX.uR;split;exact h.lH h1 (.inr (.inl ⟨rfl,by decide⟩));exact h;split;rw[yv];have:n0 p.rm:=⟨h.k,h.eO,h.BO,h.fz⟩;exact this.hG h1;split;rw[zS];have:n0 p.yw:=⟨h.k,h.eO,h.BO,h.fz⟩;exact this.hG h1;split;rw[zT];obtain⟨dZ,gd,_⟩:=aip (w:={p.w with q:=p.c.eB});have dZ:p.rw.2.s=p.w.s:=dZ;have gd:p.rw.2.cy=p.w.cy:=gd;have:n0 p.xA:=⟨h.k,fun aT=>by show p.rw.2.s.sT p.rw.2.cy;rw[dZ,gd];exact h.eO aT,fun aT=>by show p.rw.2.s.mJ=0;rw[dZ];exact h.BO aT,by show p.rw.2.s.fz<1000;rw[dZ];exact h.fz⟩;exact this.hG h1;exact h
theorem n0.p2(h:n0 p):n0 (p.p2 a):=by unfold bX.p2;split;exact⟨h.k,h.eO,h.BO,h.fz⟩;exact h
theorem ajd(h:p.st≠1):p.step ct=(false,p):=by simp_all[bX.step]
end V
end J
namespace J
open Go Go.Ab
variable{H:au}{S X:List (Nat×ax)}{v:Value}{dR:List Value}{i:Nat}
structure sk where
 k:Int
 n:Int
 bb:List lQ
def p6(a:sk)(fv:Value):List Value:=[int a.k,int a.n,fv]
def yF(S:List (Nat×ax))(a:sk)(dR:List Value):Prop:=∃fv,dR=p6 a fv/\h4 S fv a.bb/\∀f∈a.bb,f.v<256
theorem yF.app{a:sk}(h:yF S a dR):yF (S++X) a dR:=by obtain⟨fv,h1,h2,h3⟩:=h;exact⟨fv,h1,h2.app,h3⟩
def RdAcP(S:List (Nat×ax))(v:Value)(acts:List sk):Prop:=∃aP,qk 3 S v acts.length aP.flatten/\Al (yF S) acts aP
theorem RdAcP.app{acts:List sk}(h:RdAcP S v acts):RdAcP (S++X) v acts:=by obtain⟨aP,h1,h2⟩:=h;exact⟨aP,h1.app,h2.xp fun _ _=>yF.app⟩
theorem qk.aDt{n:Nat}{aq:List Value}(h:qk 3 S v n aq):Go.Ab.bO v H=some (int n,H):=by rcases h with⟨rfl,rfl,_⟩|⟨p,c,j,w,rfl,_⟩<;>rfl
theorem RdAcP.bO{acts:List sk}(h:RdAcP S v acts):Go.Ab.bO v H=some (int acts.length,H):=by obtain⟨aP,h1,_⟩:=h;exact h1.aDt
theorem RdAcP.get{acts:List sk}(h:RdAcP S v acts)(an:i<acts.length):∃(p c j:Nat) (w:Bool) (aq:List Value) (fv:Value),v=aC p 0 acts.length c/\S[j]?=some (p,(⟨aq,w⟩:ax))/\(aq.drop (0+i*3)).take 3=p6 acts[i] fv/\h4 S fv acts[i].bb/\∀f∈acts[i].bb,f.v<256:=by
 obtain⟨aP,h1,h2⟩:=h;obtain⟨dR,⟨fv,rfl,cd,g3⟩,lh⟩:=h2.aiq (size:=3) (fun a dR h=>by obtain⟨fv,rfl,_⟩:=h;rfl) i an;rcases h1 with⟨_,aJ,_⟩|⟨p,c,j,w,rfl,bm,aD⟩
 omega
 grind
theorem Gu{cN:List TypeId}{N:Nat}{c:List Value}{b:List (List Value)}(h:fS P (22::cN) N c b):
  ∃v bV b1 b2 xs,c=v::bV/\b=b1++b2/\RdB (kK N b1) v xs/\cE xs/\fS P cN (N+b1.length) bV b2:=by
 rcases Fg MZ h with⟨bV,a7,h3⟩|⟨len,cells,bV,bs,di,a7,xC,hm,aD,h3,aG⟩
 exact⟨_,bV,[],b,[],a7,rfl,.inl ⟨rfl,rfl⟩,fun x ao=>(by cases ao),h3⟩;obtain⟨ak,xs,rfl,rfl,aM⟩:=Ln (k:=.u8) Go.Proofs.Tryz.underlying5 _ _ _ _ h3;subst ak;subst xC;exact⟨_,bV,[_],di,xs,a7,rfl,.inr ⟨N,0,_,rfl,.inl rfl,.inr ⟨0,_,rfl,by grind⟩⟩,fun x ao=>Ff (aM x ao),aG⟩
theorem aDu:P.underlying 24=some (.slice 61):=by rfl
theorem aDv:P.cellsOf 61=3:=by rfl
theorem aje:∀(n N:Nat) (c:List Value) (b:List (List Value)),fS P (List.replicate n 61) N c b->b=[]/\∃bb:List lQ,c=ir bb/\bb.length=n/\∀f∈bb,f.v<256
 | 0,N,c,b,h=>by cases h;exact⟨rfl,[],rfl,rfl,by simp⟩
 | n+1,N,c,b,h=>by
  have aJ:=Dr Go.Proofs.Tryz.underlying61 (show fS P (61::List.replicate n 61) N c b from h);have aJ:fS P (3::3::5::List.replicate n 61) N c b:=aJ;obtain⟨k,dg,rfl,dT,h1⟩:=pf (k:=.i64) Go.Proofs.Tryz.underlying3 aJ;obtain⟨a,cr,rfl,fb,h2⟩:=pf (k:=.i64) Go.Proofs.Tryz.underlying3 h1;obtain⟨x,fJ,rfl,kz,h3⟩:=pf (k:=.u8) Go.Proofs.Tryz.underlying5 h2;obtain⟨rfl,bb,rfl,rfl,hf⟩:=aje n _ _ _ h3;have ao:=Ff kz;refine⟨rfl,⟨k,a,x.toNat⟩::bb,?_,rfl,?_⟩;show _=int k::int a::bT .u8 x.toNat::ir bb
  grind
  grind
theorem ajf{cN:List TypeId}{N:Nat}{c:List Value}{b:List (List Value)}(h:fS P (24::cN) N c b):
  ∃v bV b1 b2 bb,c=v::bV/\b=b1++b2/\h4 (kK N b1) v bb/\(∀f∈bb,f.v<256)/\fS P cN (N+b1.length) bV b2:=by
 rcases Fg aDu h with⟨bV,a7,h3⟩|⟨len,cells,bV,bs,di,a7,xC,hm,aD,h3,aG⟩
 exact⟨_,bV,[],b,[],a7,rfl,.inl ⟨rfl,rfl⟩,by simp,h3⟩;obtain⟨ak,bb,rfl,rfl,aM⟩:=aje _ _ _ _ h3;subst ak;subst xC;rw[aDv]at a7 aD;refine⟨_,bV,[_],di,bb,a7,rfl,.inr ⟨N,0,6,rfl,.inl rfl,.inr ⟨0,_,rfl,?_⟩⟩,aM,aG⟩
 grind
theorem aDw:P.underlying 70=some (.slice 72):=by rfl
theorem aDx:P.cellsOf 72=3:=by rfl
theorem h4.app'{bb:List lQ}(h:h4 S v bb):h4 (X++S) v bb:=by
 rcases h with h|⟨p,o,c,h1,h2,h3|⟨j,b,h3,aG⟩⟩
 exact .inl h;exact .inr ⟨p,o,c,h1,h2,.inl h3⟩;exact .inr ⟨p,o,c,h1,h2,.inr ⟨X.length+j,b,az h3,aG⟩⟩
theorem yF.app'{a:sk}(h:yF S a dR):yF (X++S) a dR:=by obtain⟨fv,h1,h2,h3⟩:=h;exact⟨fv,h1,h2.app',h3⟩
theorem ajg:∀(n N:Nat) (c:List Value) (b:List (List Value)),fS P (List.replicate n 72) N c b->∃(acts:List sk) (aP:List (List Value)),c=aP.flatten/\acts.length=n/\Al (yF (kK N b)) acts aP
 | 0,N,c,b,h=>by cases h;exact⟨[],[],rfl,rfl,.nil⟩
 | n+1,N,c,b,h=>by have aJ:=Dr Go.Proofs.Tryz.underlying72 (show fS P (72::List.replicate n 72) N c b from h);have aJ:fS P (3::3::24::List.replicate n 72) N c b:=aJ;obtain⟨k,dg,rfl,dT,h1⟩:=pf (k:=.i64) Go.Proofs.Tryz.underlying3 aJ;obtain⟨a,cr,rfl,fb,h2⟩:=pf (k:=.i64) Go.Proofs.Tryz.underlying3 h1;obtain⟨fv,fJ,b1,b2,bb,rfl,rfl,cg,cd,h3⟩:=ajf h2;obtain⟨acts,aP,rfl,aD,lo⟩:=ajg n _ _ _ h3;rw[Lp];refine⟨⟨k,a,bb⟩::acts,p6 ⟨k,a,bb⟩ fv::aP,?_,by simp[aD],.cons ⟨fv,rfl,cg.app,cd⟩ (lo.xp fun _ _ h=>h.app')⟩;simp[p6]
theorem aGB{cN:List TypeId}{N:Nat}{av:List Value}{b:List (List Value)}(h:pe P (70::cN) N av b):
  ∃v vs b1 b2 acts,av=v::vs/\b=b1++b2/\RdAcP (kK N b1) v acts/\pe P cN (N+b1.length) vs b2:=by
 obtain⟨v,vs,b1,b2,e,CI,h1,h2⟩:=YV h (by simp_all) (by simp_all);rcases Fg aDw h1 with⟨bV,a7,h3⟩|⟨len,cells,bV,bs,di,a7,xC,hm,aD,h3,aG⟩
 cases a7;exact⟨_,vs,b1,b2,[],e,CI,⟨[],.inl ⟨rfl,rfl,rfl⟩,.nil⟩,h2⟩;cases a7;obtain⟨acts,aP,rfl,rfl,lo⟩:=ajg _ _ _ _ h3;obtain⟨-,rfl⟩:=Lo aG;subst xC;rw[append_nil]at*;refine⟨_,vs,_,b2,acts,e,CI,⟨aP,.inr ⟨N,_,0,false,rfl,rfl,?_⟩,?_⟩,h2⟩;rw[aD,aDx];exact lo.xp fun _ _ h=>h.app' (X:=[(N,⟨aP.flatten,false⟩)])
theorem RdAcP.app'{acts:List sk}(h:RdAcP S v acts):RdAcP (X++S) v acts:=by
 obtain⟨aP,h1,h2⟩:=h;refine⟨aP,?_,h2.xp fun _ _=>yF.app'⟩;rcases h1 with h|⟨p,c,j,w,h1,h2,h3⟩
 exact .inl h;exact .inr ⟨p,c,X.length+j,w,h1,az h2,h3⟩
theorem aDy:P.underlying 23=some (.slice 59):=by rfl
theorem aDz:P.cellsOf 59=2:=by rfl
theorem yy.app'{o:List UInt8×List Int}(h:yy S o dR):yy (X++S) o dR:=by obtain⟨kf,h1,h2,h3⟩:=h;exact⟨kf,h1,h2.app',h3⟩
theorem ajh:∀(n N:Nat) (c:List Value) (b:List (List Value)),fS P (List.replicate n 59) N c b->∃(fP:qw) (aP:List (List Value)),c=aP.flatten/\fP.length=n/\Al (yy (kK N b)) fP aP
 | 0,N,c,b,h=>by cases h;exact⟨[],[],rfl,rfl,.nil⟩
 | n+1,N,c,b,h=>by have aJ:=Dr Go.Proofs.Tryz.underlying59 (show fS P (59::List.replicate n 59) N c b from h);have aJ:fS P (9::22::List.replicate n 59) N c b:=aJ;obtain⟨ff,dg,rfl,h1⟩:=Ty Go.Proofs.Tryz.underlying9 aJ;obtain⟨kf,cr,b1,b2,xs,rfl,rfl,cg,cd,h2⟩:=Gu h1;obtain⟨fP,aP,rfl,aD,lo⟩:=ajh n _ _ _ h2;rw[Lp];refine⟨(ff,xs)::fP,[bS ff,kf]::aP,rfl,by simp[aD],.cons ⟨kf,rfl,cg.app,cd⟩ (lo.xp fun _ _ h=>h.app')⟩
theorem aDA{cN:List TypeId}{N:Nat}{c:List Value}{b:List (List Value)}(h:fS P (23::cN) N c b):
  ∃v bV b1 b2 fP,c=v::bV/\b=b1++b2/\sX (kK N b1) v fP/\fS P cN (N+b1.length) bV b2:=by
 rcases Fg aDy h with⟨bV,a7,h3⟩|⟨len,cells,bV,bs,di,a7,xC,hm,aD,h3,aG⟩
 exact⟨_,bV,[],b,[],a7,rfl,⟨[],.inl ⟨rfl,rfl,rfl⟩,.nil⟩,h3⟩;obtain⟨fP,aP,rfl,rfl,lo⟩:=ajh _ _ _ _ h3;subst xC;refine⟨_,bV,_::bs,di,fP,a7,rfl,⟨aP,.inr ⟨N,_,0,false,rfl,rfl,?_⟩,?_⟩,by rw[length_cons,show N+(bs.length+1)=N+1+bs.length by omega];exact aG⟩;rw[aD,aDz];exact lo.xp fun _ _ h=>h.app' (X:=[(N,⟨aP.flatten,false⟩)])
theorem sX.app'{fP:qw}(h:sX S v fP):sX (X++S) v fP:=by
 obtain⟨aP,h1,h2⟩:=h;refine⟨aP,?_,h2.xp fun _ _=>yy.app'⟩;rcases h1 with h|⟨p,c,j,w,h1,h2,h3⟩
 exact .inl h;exact .inr ⟨p,c,X.length+j,w,h1,az h2,h3⟩
theorem aGC{cN:List TypeId}{N:Nat}{av:List Value}{b:List (List Value)}(h:pe P (31::cN) N av b):
  ∃w wv ov fv kv vs b1 b2,av=agg (fI w wv ov fv kv)::vs/\b=b1++b2/\pB (kK N b1) w wv ov fv kv/\pe P cN (N+b1.length) vs b2:=by
 obtain⟨aq,vs,b1,b2,rfl,rfl,h1,h2⟩:=YW h (.inl ⟨_,Go.Proofs.Tryz.underlying31⟩);have aJ:=Dr Go.Proofs.Tryz.underlying31 h1;have aJ:fS P [3,3,22,23,24,26,29] N aq b1:=aJ;obtain⟨aji,dg,rfl,_,h3⟩:=pf (k:=.i64) Go.Proofs.Tryz.underlying3 aJ;obtain⟨wZ,cr,rfl,_,aG⟩:=pf (k:=.i64) Go.Proofs.Tryz.underlying3 h3;obtain⟨wv,fJ,d1,a7,fH,rfl,rfl,r1,bP,a6⟩:=Gu aG;obtain⟨ov,iy,d2,bt,off,rfl,rfl,r2,bq⟩:=aDA a6;obtain⟨fv,j0,d3,ei,bb,rfl,rfl,r3,cS,bU⟩:=ajf bq;have c2:=Dr Go.Proofs.Tryz.underlying26 bU;have c2:fS P [22,9,3,3,3,3,3,29] _ _ _:=c2;obtain⟨kv,kB,d4,h6,key,rfl,rfl,ti,eI,fe⟩:=Gu c2;obtain⟨cF,lI,rfl,gH⟩:=Ty Go.Proofs.Tryz.underlying9 fe;obtain⟨ajj,mm,rfl,_,i6⟩:=pf (k:=.i64) Go.Proofs.Tryz.underlying3 gH;obtain⟨ajk,tw,rfl,_,nW⟩:=pf (k:=.i64) Go.Proofs.Tryz.underlying3 i6;obtain⟨ajl,aDB,rfl,_,uX⟩:=pf (k:=.i64) Go.Proofs.Tryz.underlying3 nW;obtain⟨ajm,aGD,rfl,_,tP⟩:=pf (k:=.i64) Go.Proofs.Tryz.underlying3 uX;obtain⟨ajn,aGE,rfl,_,nq⟩:=pf (k:=.i64) Go.Proofs.Tryz.underlying3 tP;have nQ:=Dr Go.Proofs.Tryz.underlying29 nq;have nQ:fS P [3,3,9,27] _ _ _:=nQ;obtain⟨z0,aGF,rfl,_,aDC⟩:=pf (k:=.i64) Go.Proofs.Tryz.underlying3 nQ;obtain⟨mF,aGG,rfl,_,aDD⟩:=pf (k:=.i64) Go.Proofs.Tryz.underlying3 aDC;obtain⟨ff,aGH,rfl,aDE⟩:=Ty Go.Proofs.Tryz.underlying9 aDD;obtain⟨dc,LV,rfl,aDF,aDG⟩:=pf (k:=.u64) Go.Proofs.Tryz.underlying27 aDE;obtain⟨rfl,rfl⟩:=Lo aDG;have nI:0<=dc:=(an2 aDF).1
 have yG:kK N (d1++(d2++(d3++(d4++[]))))=kK N d1++(kK (N+d1.length) d2++(kK (N+d1.length+d2.length) d3++(kK (N+d1.length+d2.length+d3.length) d4++kK (N+d1.length+d2.length+d3.length+d4.length) []))):=by grind[Lp]
 refine⟨⟨aji,wZ,fH,off,bb,⟨key,cF,ajj,ajk,ajl,ajm,ajn⟩,⟨z0,mF,ff,dc.toNat⟩⟩,wv,ov,fv,kv,vs,_,b2,?_,rfl,⟨by rw[yG];exact r1.app,bP,by rw[yG];exact r2.app.app',by rw[yG];exact(r3.app.app').app',cS,by rw[yG];exact((ti.app.app').app').app',eI⟩,h2⟩;show _=agg [int aji,int wZ,wv,ov,fv,kv,bS cF,int ajj,int ajk,int ajl,int ajm,int ajn,int z0,int mF,bS ff,.int .u64 ((dc.toNat:Nat):Int)]::vs
 grind
end J
namespace J
open Go Go.Ab
variable[cu:b0]
variable{H:au}{S F R:List (Nat×ax)}{aa:VH}{q:fA}{p:bX}{N i cK o:Nat}{aq:List Value}{v:Value}
theorem cz.fM(h:cz H S F q p N)(an:F[i]?=some (cK,⟨aq,true⟩))(hv:aq[o]?=some v)(ah:aa v H):af (aw (ai cK o) H) aa:=by obtain⟨aX,R,U,hO⟩:=h;exact aY hO (S.length+i) (aL (az (aL an))) hv ah
theorem aDH:df P 72=[int 0,int 0,bu]:=by rfl
theorem cz.tmp{a:sk}{fv:Value}(h:cz H S F q p N)(hf:h4 S fv a.bb){q3:Value->VH}(ah:∀e ab u,cz ab S (F++[(e,⟨p6 a fv,true⟩)]) q p N->q3 (ai e 0) u ab):cG (df P 72) H fun e f=>af (bx 3 e (agg (p6 a fv)) f) fun g h=>q3 e g h:=by
 obtain⟨aX,R,U,hO⟩:=h;rw[aDH];refine dH hO ?_;intro e H hO;refine fT hO (_+0) (az rfl) rfl rfl (by rw[show(p6 a fv).all eL=(true&&(true&&(eL fv&&true)))from rfl,hf.fh];rfl) ?_;intro H hO
 replace hO:=hO.cD
 replace hO:aj H (((S++(F++R))++nX q p)++[(e,⟨p6 a fv,true⟩)]):=hO
 refine ah e H _ ⟨aX,R,U,hO.fj (gL fun p=>by grind)⟩
theorem cz.take{iK aC:Int}(h:cz H S F q p N)(h1:p.st≠1)(hg:p.w.s.fz<1000)(al:(p.w.s.gS iK aC).2.2.b4)(ah:∀ab,cz ab S F q {p with w:={p.w with s:=(p.w.s.gS iK aC).2.2}} N->aa (.tuple [bT .u64 (p.w.s.gS iK aC).1,int (p.w.s.gS iK aC).2.1].toArray) ab):ay P 32 [ai q.b8 0,int iK,int aC] H aa:=by
 obtain⟨aX,R,U,hO⟩:=h;have ez:aj H (((S++(F++R)++[(q.c,(⟨q.aF p,true⟩:ax))])++[(q.b8,⟨fs p.w.s q.L.cO,true⟩)])++([(q.w,(⟨q.W.jv p.w,true⟩:ax)),(q.bz,⟨fD q.ca q.fv p.aR.dk,true⟩),(q.cn,lO p.d.fG p.d.kY q.eb p.d.eR.length),(q.eb,lP p.d.eR),(q.db,⟨mX q p.w.cy p.st p.fg,true⟩)]++dJ q.L p.w.m)):=
  hO.fj (gL fun rl=>by simp_all[nX])
 refine aht hg ez ?_;intro ab hO;refine ah ab ⟨⟨aX.tO,aX.xx,aX.xy,aX.xz,aX.uV,al,aX.m,aX.own,aX.kV,aX.aR,aX.dk,aX.d1,aX.d2,aX.d3,fun h=>absurd h h1⟩,R,fun h=>absurd h h1,?_⟩;show aj ab ((S++(F++R))++([(q.c,(⟨q.aF p,true⟩:ax)),(q.b8,⟨fs (p.w.s.gS iK aC).2.2 q.L.cO,true⟩),(q.w,⟨q.W.jv p.w,true⟩),(q.bz,⟨fD q.ca q.fv p.aR.dk,true⟩),(q.cn,lO p.d.fG p.d.kY q.eb p.d.eR.length),(q.eb,lP p.d.eR),(q.db,⟨mX q p.w.cy p.st p.fg,true⟩)]++dJ q.L p.w.m));exact hO.fj (gL fun rl=>by simp_all)
end J
namespace J
open Go Go.Ab
variable{q:fA}
theorem Vl(b:Nat):(ar P .neq 34 true).f (ai b 0) (.pointer none)=some (.bool true):=by rfl
end J
