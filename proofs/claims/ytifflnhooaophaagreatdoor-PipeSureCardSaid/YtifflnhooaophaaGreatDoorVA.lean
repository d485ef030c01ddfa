/- texts of the nF, e5 behind the l0 -/
import Derived.Test.YtifflnhooaophaaGreatDoorUO
set_option linter.unusedVariables false
set_option linter.unusedSimpArgs false
set_option linter.unusedSectionVars false
set_option maxRecDepth 100000
open List Nat
namespace J
open Go Go.Ab
variable[cr:bW]
end J
namespace J
open Go Go.Ab
variable{q:hK}{ew:Nat}
theorem aAW:(au P .eql 39 true).f (.pointer none) (.pointer none)=some (.bool true):=by rfl
theorem L6{q fq:hK}(h:q.fB fq):(mI q)[3]?=some (ai fq.ew 0):=by rw[h.ew];rfl
end J
namespace J
open Go Go.Ab
namespace V
end V
end J
namespace J
open Go Go.Ab
variable{H:ar}{S X:List (Nat×ay)}{v:Value}{dg:List Value}{i:Nat}
structure tC where
 k:Int
 n:Int
 bj:List iY
def sW(a:tC)(fv:Value):List Value:=[int a.k,int a.n,fv]
def w9(S:List (Nat×ay))(a:tC)(dg:List Value):Prop:=∃fv,dg=sW a fv/\gZ S fv a.bj/\∀f∈a.bj,f.v<256
theorem w9.app{a:tC}(h:w9 S a dg):w9 (S++X) a dg:=by obtain⟨fv,h1,h2,aB⟩:=h;exact⟨fv,h1,h2.app,aB⟩
def RdAcP(S:List (Nat×ay))(v:Value)(acts:List tC):Prop:=∃aJ,o1 3 S v acts.length aJ.flatten/\Al (w9 S) acts aJ
theorem RdAcP.app{acts:List tC}(h:RdAcP S v acts):RdAcP (S++X) v acts:=by obtain⟨aJ,h1,h2⟩:=h;exact⟨aJ,h1.app,h2.ts fun _ _=>w9.app⟩
theorem o1.aAX{n:Nat}{ao:List Value}(h:o1 3 S v n ao):Go.Ab.bP v H=some (int n,H):=by rcases h with⟨rfl,rfl,_⟩|⟨p,c,j,w,rfl,_⟩<;>rfl
theorem RdAcP.bP{acts:List tC}(h:RdAcP S v acts):Go.Ab.bP v H=some (int acts.length,H):=by obtain⟨aJ,h1,_⟩:=h;exact h1.aAX
theorem RdAcP.get{acts:List tC}(h:RdAcP S v acts)(aq:i<acts.length):∃(p c j:Nat) (w:Bool) (ao:List Value) (fv:Value),v=aC p 0 acts.length c/\S[j]?=some (p,(⟨ao,w⟩:ay))/\(ao.drop (0+i*3)).take 3=sW acts[i] fv/\gZ S fv acts[i].bj/\∀f∈acts[i].bj,f.v<256:=by
 obtain⟨aJ,h1,h2⟩:=h;obtain⟨dg,⟨fv,rfl,ca,g3⟩,l2⟩:=h2.aga (size:=3) (fun a dg h=>by obtain⟨fv,rfl,_⟩:=h;rfl) i aq;rcases h1 with⟨_,aN,_⟩|⟨p,c,j,w,rfl,bh,aE⟩
 omega
 grind
theorem Tk{cR:List TypeId}{N:Nat}{c:List Value}{b:List (List Value)}(h:fZ P (22::cR) N c b):
  ∃v b5 b1 b2 ak,c=v::b5/\b=b1++b2/\b3 (nt N b1) v ak/\cl ak/\fZ P cR (N+b1.length) b5 b2:=by
 rcases JI av3 h with⟨b5,bb,aB⟩|⟨len,cells,b5,bs,c0,bb,Cg,hm,aE,aB,bk⟩
 exact⟨_,b5,[],b,[],bb,rfl,.inl ⟨rfl,rfl⟩,fun x al=>(by cases al),aB⟩;obtain⟨an,ak,rfl,rfl,aM⟩:=Wv (k:=.u8) Go.Proofs.Tryz.underlying5 _ _ _ _ aB;subst an;subst Cg;exact⟨_,b5,[_],c0,ak,bb,rfl,.inr ⟨N,0,_,rfl,.inl rfl,.inr ⟨0,_,rfl,by grind⟩⟩,fun x al=>Wu (aM x al),bk⟩
theorem aAY:P.underlying 24=some (.slice 61):=by rfl
theorem aAZ:P.cellsOf 61=3:=by rfl
theorem agG:∀(n N:Nat) (c:List Value) (b:List (List Value)),fZ P (List.replicate n 61) N c b->b=[]/\∃bj:List iY,c=oE bj/\bj.length=n/\∀f∈bj,f.v<256
 | 0,N,c,b,h=>by cases h;exact⟨rfl,[],rfl,rfl,by simp⟩
 | n+1,N,c,b,h=>by
  have aN:=Em Go.Proofs.Tryz.underlying61 (show fZ P (61::List.replicate n 61) N c b from h);have aN:fZ P (3::3::5::List.replicate n 61) N c b:=aN;obtain⟨k,eP,rfl,dH,h1⟩:=rM (k:=.i64) Go.Proofs.Tryz.underlying3 aN;obtain⟨a,dR,rfl,e0,h2⟩:=rM (k:=.i64) Go.Proofs.Tryz.underlying3 h1;obtain⟨x,ij,rfl,ka,aB⟩:=rM (k:=.u8) Go.Proofs.Tryz.underlying5 h2;obtain⟨rfl,bj,rfl,rfl,hf⟩:=agG n _ _ _ aB;have al:=Wu ka;refine⟨rfl,⟨k,a,x.toNat⟩::bj,?_,rfl,?_⟩;show _=int k::int a::bQ .u8 x.toNat::oE bj
  grind
  grind
theorem agH{cR:List TypeId}{N:Nat}{c:List Value}{b:List (List Value)}(h:fZ P (24::cR) N c b):
  ∃v b5 b1 b2 bj,c=v::b5/\b=b1++b2/\gZ (nt N b1) v bj/\(∀f∈bj,f.v<256)/\fZ P cR (N+b1.length) b5 b2:=by
 rcases JI aAY h with⟨b5,bb,aB⟩|⟨len,cells,b5,bs,c0,bb,Cg,hm,aE,aB,bk⟩
 exact⟨_,b5,[],b,[],bb,rfl,.inl ⟨rfl,rfl⟩,by simp,aB⟩;obtain⟨an,bj,rfl,rfl,aM⟩:=agG _ _ _ _ aB;subst an;subst Cg;rw[aAZ]at bb aE;refine⟨_,b5,[_],c0,bj,bb,rfl,.inr ⟨N,0,6,rfl,.inl rfl,.inr ⟨0,_,rfl,?_⟩⟩,aM,bk⟩
 grind
theorem aA0:P.underlying 70=some (.slice 72):=by rfl
theorem aA1:P.cellsOf 72=3:=by rfl
theorem gZ.app'{bj:List iY}(h:gZ S v bj):gZ (X++S) v bj:=by
 rcases h with h|⟨p,o,c,h1,h2,aB|⟨j,b,aB,bk⟩⟩
 exact .inl h;exact .inr ⟨p,o,c,h1,h2,.inl aB⟩;exact .inr ⟨p,o,c,h1,h2,.inr ⟨X.length+j,b,aA aB,bk⟩⟩
theorem w9.app'{a:tC}(h:w9 S a dg):w9 (X++S) a dg:=by obtain⟨fv,h1,h2,aB⟩:=h;exact⟨fv,h1,h2.app',aB⟩
theorem RdAcP.app'{acts:List tC}(h:RdAcP S v acts):RdAcP (X++S) v acts:=by
 obtain⟨aJ,h1,h2⟩:=h;refine⟨aJ,?_,h2.ts fun _ _=>w9.app'⟩;rcases h1 with h|⟨p,c,j,w,h1,h2,aB⟩
 exact .inl h;exact .inr ⟨p,c,X.length+j,w,h1,aA h2,aB⟩
theorem aA2:P.underlying 23=some (.slice 59):=by rfl
theorem aA3:P.cellsOf 59=2:=by rfl
theorem uM.app'{o:List UInt8×List Int}(h:uM S o dg):uM (X++S) o dg:=by obtain⟨hx,h1,h2,aB⟩:=h;exact⟨hx,h1,h2.app',aB⟩
theorem agI:∀(n N:Nat) (c:List Value) (b:List (List Value)),fZ P (List.replicate n 59) N c b->∃(cg:ir) (aJ:List (List Value)),c=aJ.flatten/\cg.length=n/\Al (uM (nt N b)) cg aJ
 | 0,N,c,b,h=>by cases h;exact⟨[],[],rfl,rfl,.nil⟩
 | n+1,N,c,b,h=>by have aN:=Em Go.Proofs.Tryz.underlying59 (show fZ P (59::List.replicate n 59) N c b from h);have aN:fZ P (9::22::List.replicate n 59) N c b:=aN;obtain⟨cz,eP,rfl,h1⟩:=RI Go.Proofs.Tryz.underlying9 aN;obtain⟨hx,dR,b1,b2,ak,rfl,rfl,b7,ca,h2⟩:=Tk h1;obtain⟨cg,aJ,rfl,aE,kD⟩:=agI n _ _ _ h2;rw[OI];refine⟨(cz,ak)::cg,[bl cz,hx]::aJ,rfl,by simp[aE],.cons ⟨hx,rfl,b7.app,ca⟩ (kD.ts fun _ _ h=>h.app')⟩
theorem aA4{cR:List TypeId}{N:Nat}{c:List Value}{b:List (List Value)}(h:fZ P (23::cR) N c b):
  ∃v b5 b1 b2 cg,c=v::b5/\b=b1++b2/\nX (nt N b1) v cg/\fZ P cR (N+b1.length) b5 b2:=by
 rcases JI aA2 h with⟨b5,bb,aB⟩|⟨len,cells,b5,bs,c0,bb,Cg,hm,aE,aB,bk⟩
 exact⟨_,b5,[],b,[],bb,rfl,⟨[],.inl ⟨rfl,rfl,rfl⟩,.nil⟩,aB⟩;obtain⟨cg,aJ,rfl,rfl,kD⟩:=agI _ _ _ _ aB;subst Cg;refine⟨_,b5,_::bs,c0,cg,bb,rfl,⟨aJ,.inr ⟨N,_,0,false,rfl,rfl,?_⟩,?_⟩,by rw[length_cons,show N+(bs.length+1)=N+1+bs.length by omega];exact bk⟩;rw[aE,aA3];exact kD.ts fun _ _ h=>h.app' (X:=[(N,⟨aJ.flatten,false⟩)])
theorem nX.app'{cg:ir}(h:nX S v cg):nX (X++S) v cg:=by
 obtain⟨aJ,h1,h2⟩:=h;refine⟨aJ,?_,h2.ts fun _ _=>uM.app'⟩;rcases h1 with h|⟨p,c,j,w,h1,h2,aB⟩
 exact .inl h;exact .inr ⟨p,c,X.length+j,w,h1,aA h2,aB⟩
theorem aD1{cR:List TypeId}{N:Nat}{av:List Value}{b:List (List Value)}(h:qV P (31::cR) N av b):
  ∃w wv ov fv kv vs b1 b2,av=agg (jb w wv ov fv kv)::vs/\b=b1++b2/\pZ (nt N b1) w wv ov fv kv/\qV P cR (N+b1.length) vs b2:=by
 obtain⟨ao,vs,b1,b2,rfl,rfl,h1,h2⟩:=alK h (.inl ⟨_,Go.Proofs.Tryz.underlying31⟩);have aN:=Em Go.Proofs.Tryz.underlying31 h1;have aN:fZ P [3,3,22,23,24,26,29] N ao b1:=aN;obtain⟨EH,eP,rfl,_,aB⟩:=rM (k:=.i64) Go.Proofs.Tryz.underlying3 aN;obtain⟨rL,dR,rfl,_,bk⟩:=rM (k:=.i64) Go.Proofs.Tryz.underlying3 aB;obtain⟨wv,ij,d1,bb,gp,rfl,rfl,r1,bO,cj⟩:=Tk bk;obtain⟨ov,nv,d2,bt,off,rfl,rfl,r2,dh⟩:=aA4 cj;obtain⟨fv,pL,kT,dZ,bj,rfl,rfl,fe,dz,fP⟩:=agH dh;have hM:=Em Go.Proofs.Tryz.underlying26 fP;have hM:fZ P [22,9,3,3,3,3,3,29] _ _ _:=hM;obtain⟨kv,vB,oo,iX,key,rfl,rfl,vm,eM,iC⟩:=Tk hM;obtain⟨cE,o5,rfl,my⟩:=RI Go.Proofs.Tryz.underlying9 iC;obtain⟨agJ,rQ,rfl,_,sO⟩:=rM (k:=.i64) Go.Proofs.Tryz.underlying3 my;obtain⟨agK,uq,rfl,_,sP⟩:=rM (k:=.i64) Go.Proofs.Tryz.underlying3 sO;obtain⟨agL,aD2,rfl,_,SH⟩:=rM (k:=.i64) Go.Proofs.Tryz.underlying3 sP;obtain⟨agM,aD3,rfl,_,SI⟩:=rM (k:=.i64) Go.Proofs.Tryz.underlying3 SH;obtain⟨agN,aD4,rfl,_,uk⟩:=rM (k:=.i64) Go.Proofs.Tryz.underlying3 SI;have mZ:=Em Go.Proofs.Tryz.underlying29 uk;have mZ:fZ P [3,3,9,27] _ _ _:=mZ;obtain⟨z0,aD5,rfl,_,aA5⟩:=rM (k:=.i64) Go.Proofs.Tryz.underlying3 mZ;obtain⟨lA,aD6,rfl,_,aA6⟩:=rM (k:=.i64) Go.Proofs.Tryz.underlying3 aA5;obtain⟨cz,aD7,rfl,aA7⟩:=RI Go.Proofs.Tryz.underlying9 aA6;obtain⟨ck,Kl,rfl,aA8,EI⟩:=rM (k:=.u64) Go.Proofs.Tryz.underlying27 aA7;obtain⟨rfl,rfl⟩:=Ww EI;have lB:0<=ck:=(alI aA8).1
 have L7:nt N (d1++(d2++(kT++(oo++[]))))=nt N d1++(nt (N+d1.length) d2++(nt (N+d1.length+d2.length) kT++(nt (N+d1.length+d2.length+kT.length) oo++nt (N+d1.length+d2.length+kT.length+oo.length) []))):=by grind[OI]
 refine⟨⟨EH,rL,gp,off,bj,⟨key,cE,agJ,agK,agL,agM,agN⟩,⟨z0,lA,cz,ck.toNat⟩⟩,wv,ov,fv,kv,vs,_,b2,?_,rfl,⟨by rw[L7];exact r1.app,bO,by rw[L7];exact r2.app.app',by rw[L7];exact(fe.app.app').app',dz,by rw[L7];exact((vm.app.app').app').app',eM⟩,h2⟩;show _=agg [int EH,int rL,wv,ov,fv,kv,bl cE,int agJ,int agK,int agL,int agM,int agN,int z0,int lA,bl cz,.int .u64 ((ck.toNat:Nat):Int)]::vs
 grind
end J
namespace J
open Go Go.Ab
variable[cr:bW]
variable{H:ar}{S F R:List (Nat×ay)}{ab:VH}{q:hK}{p:dG}{N i ft o:Nat}{ao:List Value}{v:Value}
theorem c8.qC(h:c8 H S F q p N)(aq:F[i]?=some (ft,⟨ao,true⟩))(hv:ao[o]?=some v)(ag:ab v H):af (ax (ai ft o) H) ab:=by obtain⟨aQ,R,U,hO⟩:=h;exact aP hO (S.length+i) (aK (aA (aK aq))) hv ag
theorem c8.aA9{aa:ar}{hS vP:List (Nat×ay)}{fq:hK}{jf:dG}{vN tN:Nat}(h:c8 H S F q p N)(a6:c8 aa hS vP fq jf vN)(aq:F[i]?=some (ft,⟨ao,true⟩))(fJ:vP[tN]?=some (ft,⟨ao,true⟩))(aw:ao.all fE=true):ea (dV H aa) (b9 [ai ft o]):=by obtain⟨aQ,R,U,hO⟩:=h;obtain⟨B9,R1,gg,im⟩:=a6;exact gu hO (S.length+i) (aK (aA (aK aq))) im (hS.length+tN) (aK (aA (aK fJ))) aw
theorem aBa:cQ P 72=[int 0,int 0,bq]:=by rfl
theorem c8.tmp{a:tC}{fv:Value}(h:c8 H S F q p N)(hf:gZ S fv a.bj){qk:Value->VH}(ag:∀e aa u,c8 aa S (F++[(e,⟨sW a fv,true⟩)]) q p N->qk (ai e 0) u aa):cp (cQ P 72) H fun e f=>af (bm 3 e (agg (sW a fv)) f) fun g h=>qk e g h:=by
 obtain⟨aQ,R,U,hO⟩:=h;rw[aBa];refine c4 hO ?_;intro e H hO;refine e7 hO (_+0) (aA rfl) rfl rfl (by rw[show(sW a fv).all eA=(true&&(true&&(eA fv&&true)))from rfl,hf.e5];rfl) ?_;intro H hO
 replace hO:=hO.cb
 replace hO:aj H (((S++(F++R))++k2 q p)++[(e,⟨sW a fv,true⟩)]):=hO
 refine ag e H _ ⟨aQ,R,U,hO.e4 (gI fun p=>by grind)⟩
end J
namespace J
open Go Go.Ab
variable{q:hK}
theorem aBb(b:Nat):(au P .neq 34 true).f (ai b 0) (.pointer none)=some (.bool true):=by rfl
theorem HA{q fq:hK}(h:q.fB fq):(mI q)[0]?=some (ai fq.L.cG 0):=by rw[h.L.m];rfl
end J
