/- texts of the nf, fh behind the mA -/
import Derived.Test.YtifflnhooaophaaGreatDoorUL
set_option linter.unusedVariables false
set_option linter.unusedSimpArgs false
set_option linter.unusedSectionVars false
set_option maxHeartbeats 4000000
set_option maxRecDepth 100000
open List Nat
namespace J
open Go Go.Ab
variable[cu:b0]
variable{H:au}{S F X:List (Nat×ax)}{aa:VH}{v w fv aZ kv:Value}{aq:List Value}{p n i j bz ca dk dz r1 r2:Nat}{e a hr:Int}{ff:List UInt8}{aR:gU}{l:dE}{bw:List (Int×List Int)}{cA:List ib}{m:da}
theorem gL{α:Type}{rT rU:List α}(h:∀p:α->Bool,rT.countP p=rU.countP p):rT.Perm rU:=by
 classical
 rw[perm_iff_count];intro a;exact h (· == a)
theorem aBx(m:da)(i:Int):0<=(gy m i).1/\(gy m i).1<=65536:=by
 unfold gy;split;omega;rename_i h;have hm:eG m:=Classical.not_not.1 fun aT=>h (.inl aT)
 simp_all[Nf]
structure dE.b4 (l:dE):Prop where
 ff:l.ff.length<=1000000
 left:l.left<=100
 w:-2<=l.ee/\l.ee<=1000
 eE:∀h m,l.du=some (h,m)->eG m/\0<=h/\h<=2304/\-2<=l.ee/\l.ee<m.aN.length
 ld:l.du=none->l.ee=-1\/l.ee=-2
theorem aia(h:eG m):m.aN.length<=64:=by simp_all[eG]
theorem dE.b4.bj(h:l.b4)(e:Int):({l with bj:=e}:dE).b4:=⟨h.ff,h.left,h.w,h.eE,h.ld⟩
theorem aib{xw:Nat}(h:l.b4)(ao:l.du=none)(aM:a=-1\/a=-2)(aD:xw<=100):({l with left:=xw,ee:=a}:dE).b4:=
 ⟨h.ff,aD,by grind,fun g m aT=>(by simp_all),fun _=>aM⟩
theorem aic{xw:Nat}(h:l.b4){b5:Int}(hm:eG m)(h1:0<=b5)(h2:b5<=2304)(aM:-2<=a/\a<m.aN.length)(aD:xw<=100):({l with left:=xw,ee:=a,du:=some (b5,m)}:dE).b4:=by have bq:=aia hm;exact⟨h.ff,aD,by grind,fun CE k3 aT=>(by simp_all),fun aT=>(by cases aT)⟩
theorem aid{xw:Nat}(h:l.b4){b5:Int}(ao:l.du=some (b5,m))(aM:-2<=a/\a<m.aN.length)(aD:xw<=100):({l with left:=xw,ee:=a}:dE).b4:=by obtain⟨h1,h2,h3,_⟩:=h.eE b5 m ao;have:=aic h h1 h2 h3 aM aD;rw[<- ao]at this;exact this
theorem dE.b4.try(h:l.b4):l.try.2.b4:=by unfold dE.try;split;exact h.bj 191;exact⟨h.ff,by have:=h.left;grind,h.w,h.eE,h.ld⟩
theorem Ut(l:dE):l.du=none\/∃g m,l.du=some (g,m):=by
 cases ao:l.du with
 | none=>simp_all
 | some y=>grind
theorem Uu(ao:l.du=none):l.on={l with ee:=-2}:=by simp_all[dE.on]
theorem Uv{b5:Int}(ao:l.du=some (b5,m)):l.on={l with ee:=if l.ee+1=m.aN.length then-2 else l.ee+1}:=by grind[dE.on]
theorem aie(ao:l.du=none):l.p1 a=decide (a=-1):=by simp_all[dE.p1]
theorem aif{b5:Int}(ao:l.du=some (b5,m)):l.p1 a=decide (0<=a/\a<m.aN.length):=by simp_all[dE.p1]
theorem dE.b4.on(h:l.b4):l.on.b4:=by
 rcases Ut l with ao|⟨g,m,ao⟩
 rw[Uu ao];exact aib h ao (.inr rfl) h.left;obtain⟨h1,h2,h3,aG,a6⟩:=h.eE g m ao;rw[Uv ao];refine aid (xw:=l.left) h ao ?_ h.left;omega
theorem dE.b4.follow(h:l.b4)(s:ib):(l.follow s).b4:=by
 unfold dE.follow;split;rename_i a;split;exact h.bj 192;rename_i aB;have aB:l.p1 a=true:=by simp_all
 split;exact h.bj 191;have aD:=h.left;rcases Ut l with ao|⟨g,m,ao⟩
 rw[aie ao]at aB;exact aib (xw:=l.left-1) h ao (.inl (of_decide_eq_true aB)) (by omega);rw[aif ao]at aB;have aB:=of_decide_eq_true aB;exact aid (xw:=l.left-1) (a:=a) h ao (by omega) (by omega);rename_i g m;split;exact h.bj 192;rename_i aB;rw[not_or,not_or,not_or]at aB;have hm:eG m:=Classical.not_not.1 aB.2.1;have bJ:0<m.aN.length:=by have fe:=hm.2.2.2.2.2.2.2.2.1;unfold l2 at fe;have h1:=hm.2.2.2.1;have h2:=hm.2.2.2.2.2.1;rw[if_neg (by omega)]at fe;have:=Int.ediv_nonneg (show 0<=m.cT-1 by omega) (show 0<=m.aF by omega);omega
 exact aic (a:=0) h hm (by omega) (by omega) (by omega) h.left;exact h.bj 192
theorem dE.b4.step(h:l.b4):(hj n l bw cA aR).2.1.b4:=by unfold hj;split;exact h;split;exact h.follow _;split;exact h;simp only;split;exact h.on;split;exact h.try;exact h.bj _
theorem aBy(gF:xt S kv l.du)(fq:l.b4)(aM:l.ee≠-2)(aX:p3 S ca fv aR)(aB:aR.dk<=1000000)(hO:aj H ((S++F)++[(dz,⟨gV bz r1 r2 l kv,true⟩),(bz,⟨fD ca fv aR.dk,true⟩)]))
  (ah:∀ab aQ hN X,RdB (S++X) aQ (aR.mx l.ff l.jA.1 l.jA.2).1.1->cE (aR.mx l.ff l.jA.1 l.jA.2).1.1->(aR.mx l.ff l.jA.1 l.jA.2).1.1.length<=10000->((aR.mx l.ff l.jA.1 l.jA.2).1.1≠[]->pr (S++X) aQ)->p3 (S++X) ca hN (aR.mx l.ff l.jA.1 l.jA.2).2->
   aj ab (((S++X)++F)++[(dz,⟨gV bz r1 r2 l kv,true⟩),(bz,⟨fD ca hN (aR.mx l.ff l.jA.1 l.jA.2).2.dk,true⟩)])->aa (.tuple [aQ,int (aR.mx l.ff l.jA.1 l.jA.2).1.2].toArray) ab):ay P 129 [ai dz 0] H aa:=by
 apply asg;unfold ab1;have qz:∀ {x},((S++F)++[(dz,(⟨gV bz r1 r2 l kv,true⟩:ax)),x])[(S++F).length+0]?=some (dz,⟨gV bz r1 r2 l kv,true⟩):=az rfl;have mN:∀ {H:au} {a hr:Int},l.jA=(a,hr)->aj H ((S++F)++[(dz,⟨gV bz r1 r2 l kv,true⟩),(bz,⟨fD ca fv aR.dk,true⟩)])->ay P 187 [ai bz 0,bS l.ff,int a,int hr] H fun FN TX=>ad (eD 0 FN) fun t20=>ad (eD 1 FN) fun t21=>aa (.tuple [t20,t21].toArray) TX:=by intro H a hr bn hO;rw[bn]at ah;have ez:aj H ((S++(F++[(dz,(⟨gV bz r1 r2 l kv,true⟩:ax))]))++[(bz,⟨fD ca fv aR.dk,true⟩)]):=hO.fj (gL fun p=>by simp_all);refine aBv aX fq.ff aB ez ?_;intro ab aQ hN X h1 h2 h3 aG a6 bq;exact ag kT (ag kU (ah ab aQ hN X h1 h2 h3 aG a6 (bq.fj (gL fun p=>by simp_all))))
 refine aV (aY hO _ qz (v:=int l.ee) rfl (ag e2 (bF (fun h=>?_) (fun h=>?_))));exact aV (aY hO _ qz (v:=ai bz 0) rfl (aV (aY hO _ qz (v:=bS l.ff) rfl (mN (by simp_all[dE.jA]) hO))));cases ao:l.du with
 | none=>rcases fq.ld ao with aT|aT<;>contradiction
 | some y=>obtain⟨b5,m⟩:=y;obtain⟨b1,b2,gE,_⟩:=fq.eE b5 m ao;rw[ao]at gF;obtain⟨g,j,aZ,rfl,bm,js,ok⟩:=gF;refine aV (aY hO _ qz (v:=ai g 0) rfl (aV (iH (aq:=bN m aZ) hO j (aL (aL bm)) (by show((int b5::bN m aZ).drop 1).take 37=_;rw[drop_one,tail_cons];exact take_of_length_le (by rw[eS ok.dh];omega)) (eS ok.dh) (by omega) (aV (aY hO _ qz (v:=int l.ee) rfl (TH ok (js.app.app) hO ?_))))));intro H hO;refine ag kT (ag kU (aV (aY hO _ qz (v:=ai bz 0) rfl (aV (aY hO _ qz (v:=bS l.ff) rfl (aV (aY hO _ qz (v:=ai g 0) rfl (aV (aY hO _ (aL (aL bm)) (v:=int b5) rfl ?_)))))))));have ak:=aBx m l.ee;exact ag (jg (by omega) (by omega)) (mN (by simp_all[dE.jA]) hO)
end J
namespace J
open Go Go.Ab
variable[cu:b0]
variable{H:au}{ae S F X:List (Nat×ax)}{aa:VH}{v w fv kv:Value}{aq bE dR:List Value}{p q o n i j bz ca dk dz:Nat}{e a:Int}{xs:List Int}{f:lQ}{ff:List UInt8}{aR:gU}{l aA:dE}{A B:gz}{bw:List (Int×List Int)}{cA:List ib}{m:da}
structure DF (S:List (Nat×ax)) (A B:gz) (ca:Nat) (kv fv:Value) (l:dE) (bw:List (Int×List Int)) (cA:List ib) (aR:gU):Prop where
 a:qs S A bw
 b:qt S B cA
 eE:xt S kv l.du
 aR:p3 S ca fv aR
 ok:l.b4
def se(A B:gz)(dz bz ca:Nat)(kv fv:Value)(l:dE)(dk:Nat):List (Nat×ax):=
 [(A.q,⟨A.aq,true⟩),(A.r,⟨dp A.q A.n 2 A.f A.aP.length,true⟩),(B.q,⟨B.aq,true⟩),(B.r,⟨dp B.q B.n 1 B.f B.aP.length,true⟩),(dz,⟨gV bz A.r B.r l kv,true⟩),(bz,⟨fD ca fv dk,true⟩)]
theorem aBz(a:Int)(p:Option Addr)(n c:Nat):(dq P 179).f [(0,int a),(1,.slice p n c)]=some (agg [int a,.slice p n c]):=by rfl
theorem RdB.gb(h:RdB ae v xs):fY v=true:=by rcases h with⟨rfl,_⟩|⟨p,o,c,rfl,_⟩<;>rfl
theorem RdB.aih(h:RdB ae v xs):eL v=true:=by rcases h with⟨rfl,_⟩|⟨p,o,c,rfl,_⟩<;>rfl
theorem aBA(h:DF S A B ca kv fv l bw cA aR)(aB:aR.dk<=1000000)(hO:aj H ((S++F)++se A B dz bz ca kv fv l aR.dk))
  (ah:∀ab X hT dG yu hN,gz.et A hT->gz.et B dG->DF (S++X) hT dG ca yu hN (hj A.n l bw cA aR).2.1 (hj A.n l bw cA aR).2.2.1 (hj A.n l bw cA aR).2.2.2.1 (hj A.n l bw cA aR).2.2.2.2->
   aj ab (((S++X)++F)++se hT dG dz bz ca yu hN (hj A.n l bw cA aR).2.1 (hj A.n l bw cA aR).2.2.2.2.dk)->aa (.bool (hj A.n l bw cA aR).1) ab):ay P 61 [ai dz 0] H aa:=by
 apply art;unfold abc;obtain⟨bn,ak,gF,qY,fq⟩:=h;have qz:∀ {A B:gz} {kv fv:Value} {l:dE} {dk:Nat},((S++F)++se A B dz bz ca kv fv l dk)[(S++F).length+4]?=some (dz,⟨gV bz A.r B.r l kv,true⟩):=az rfl;have oJ:aj H ((S++F)++se A B dz bz ca kv fv l aR.dk)->hj A.n l bw cA aR=(false,l,bw,cA,aR)->aa (.bool false) H:=by intro hO e;rw[e]at ah;exact ah H [] A B kv fv .fC .fC (by rw[append_nil];exact⟨bn,ak,gF,qY,fq⟩) (by rw[append_nil];exact hO)
 refine aV (aY hO _ qz (v:=int l.bj) rfl (ag ij (bF (fun he=>?_) (fun he=>?_))));exact oJ hO (by simp_all[hj]);refine aV (aY hO _ qz (v:=ai B.r 0) rfl (agO (ae:=S++F) (i:=3) (j:=2) hO rfl rfl (by decide) ak.nx ?_ ?_));intro G1;have kl:cA=[]:=by
  have:=ak.len
  grind
 subst kl;refine ag kT (ag kU (dP rfl ?_));have lo:=bn.len;have ahn:=bn.nx.vT;have ah8:=bn.BA;refine e3 (fun aA ab=>aA=[ai dz 0]/\ab=H/\l.ee≠-2/\bw.length≠A.n) ?_ ?_;refine aV (aY hO _ qz (v:=int l.ee) rfl (ag e2 (bF (fun h1=>?_) (fun h1=>?_))));exact ag (gA h1) (eT rfl (oJ hO (by simp_all[hj])));refine aV (aY hO _ qz (v:=ai A.r 0) rfl (agK (ae:=S++F) (i:=1) hO rfl bn.nx.r9 ahn (ag e2 (ag (gP h1) (bF (fun h2=>?_) (fun h2=>?_))))));exact oJ hO (by unfold hj;grind);exact⟨rfl,rfl,h1,by omega⟩;rintro aA ab ⟨rfl,rfl,aM,bJ⟩
 try simp only[cj,ck]
 have ez:aj ab ((S++(F++[(A.q,⟨A.aq,true⟩),(A.r,⟨dp A.q A.n 2 A.f A.aP.length,true⟩),(B.q,⟨B.aq,true⟩),(B.r,⟨dp B.q B.n 1 B.f B.aP.length,true⟩)]))++[(dz,⟨gV bz A.r B.r l kv,true⟩),(bz,⟨fD ca fv aR.dk,true⟩)]):=
  hO.fj (gL fun p=>by simp_all[se])
 refine aBy gF fq aM qY aB ez ?_;intro H v hN X cg cd g3 g4 g5 hO
 replace hO:aj H (((S++X)++F)++se A B dz bz ca kv hN l (aR.mx l.ff l.jA.1 l.jA.2).2.dk):=
  hO.fj (gL fun p=>by simp_all[se])
 unfold hj at ah;rw[if_neg he]at ah;simp only at ah;rw[if_neg (by omega)]at ah;generalize hf:aR.mx l.ff l.jA.1 l.jA.2=r at*;obtain⟨⟨zQ,NF⟩,fn⟩:=r;simp only at ah cg cd g3 g4 g5 hO⊢;have Uw:∀ {A B:gz} {kv fv:Value} {l:dE} {dk:Nat},(((S++X)++F)++se A B dz bz ca kv fv l dk)[((S++X)++F).length+4]?=some (dz,⟨gV bz A.r B.r l kv,true⟩):=az rfl;refine ag kT (ag kU (ag e2 (bF (fun h1=>?_) (fun h1=>?_))));rw[if_pos h1]at ah;refine aV (aY hO _ Uw (v:=ai A.r 0) rfl (aV (aY hO _ Uw (v:=int l.ee) rfl ?_)));obtain⟨av,sn,gg,vo⟩:=cg.lk;subst vo;refine ag (aBz _ _ _ _) (ayo (ae:=(S++X)++F) (i:=1) (j:=0) hO rfl rfl (by decide) bn.nx (RdB.gb cg) (RdB.aih cg) (fun h2=>absurd h2 (by omega)) ?_);intro _ cJ bE zq hO;have ez:aj cJ (((S++X)++(F++[(A.q,⟨bE,true⟩),(A.r,⟨dp A.q A.n 2 A.f (A.aP.length+1),true⟩),(B.q,⟨B.aq,true⟩),(B.r,⟨dp B.q B.n 1 B.f B.aP.length,true⟩),(bz,⟨fD ca hN fn.dk,true⟩)]))++[(dz,⟨gV bz A.r B.r l kv,true⟩)]):=
  hO.fj (gL fun p=>by simp only[se,set_cons_zero,set_cons_succ,countP_append,countP_cons,countP_nil];omega)
 refine aBg gF.app fq.w ez ?_;intro jr hO;refine ah jr X (A.more bE [int l.ee,.slice av sn gg]) B kv hN Dw .fC ?_ ?_;refine⟨bn.app.more zq ⟨_,rfl,cg,cd,g4⟩ (by grind),ak.app,?_,g5,fq.on⟩;rcases Ut l with ao|⟨g,m,ao⟩
 rw[Uu ao];exact gF.app;rw[Uv ao];exact gF.app;have dF:aj jr (((S++X)++F)++[(A.q,⟨bE,true⟩),(A.r,⟨dp A.q A.n 2 A.f (A.aP.length+1),true⟩),(B.q,⟨B.aq,true⟩),(B.r,⟨dp B.q B.n 1 B.f B.aP.length,true⟩),(dz,⟨gV bz A.r B.r l.on kv,true⟩),(bz,⟨fD ca hN fn.dk,true⟩)]):=
  hO.fj (gL fun p=>by grind)
 rw[<- TM (bE:=bE) (dR:=[int l.ee,.slice av sn gg]) A]at dF;exact dF;rw[if_neg h1]at ah;refine ag e2 (bF (fun h2=>?_) (fun h2=>?_));rw[if_pos h2]at ah;have ez:aj H (((S++X)++(F++[(A.q,⟨A.aq,true⟩),(A.r,⟨dp A.q A.n 2 A.f A.aP.length,true⟩),(B.q,⟨B.aq,true⟩),(B.r,⟨dp B.q B.n 1 B.f B.aP.length,true⟩),(bz,⟨fD ca hN fn.dk,true⟩)]))++[(dz,⟨gV bz A.r B.r l kv,true⟩)]):=
  hO.fj (gL fun p=>by simp only[se,countP_append,countP_cons,countP_nil];omega)
 refine ahZ (Nat.le_trans fq.left (by omega)) ez ?_;intro jr hO;refine ah jr X A B kv hN .fC .fC ⟨bn.app,ak.app,?_,g5,fq.try⟩ ?_;unfold dE.try;split<;>exact gF.app;exact hO.fj (gL fun p=>by simp only[se,countP_append,countP_cons,countP_nil];omega);rw[if_neg h2]at ah;refine aV (fR hO _ Uw rfl (show 7<8 by omega) (bE:=gV bz A.r B.r {l with bj:=NF} kv) rfl ?_);intro jr hO;rw[Go.Ab.cD]at hO;exact ah jr X A B kv hN .fC .fC ⟨bn.app,ak.app,gF.app,g5,fq.bj NF⟩ hO;intro a bj G1 cJ bE zq dF;cases kl:cA with
 | nil=>rw[kl]at ak;have:=ak.len;rw[G1]at this;simp at this
 | cons eb r=>
  rw[kl]at ah ak;obtain⟨cH,TP,y7,aBB,lo⟩:=ak.tail;rw[G1]at y7;injection y7 with a7 bt
  injection a7 with a7 _
  subst a7 bt;unfold hj at ah;rw[if_neg he]at ah;simp only at ah;refine ag kT (ag kU (eT rfl ?_));have ez:aj cJ ((S++(F++[(A.q,⟨A.aq,true⟩),(A.r,⟨dp A.q A.n 2 A.f A.aP.length,true⟩),(B.q,⟨bE,true⟩),(B.r,⟨dp B.q B.n 1 ((B.f+1)%B.n) bj.length,true⟩),(bz,⟨fD ca fv aR.dk,true⟩)]))++[(dz,⟨gV bz A.r B.r l kv,true⟩)]):=
   dF.fj (gL fun p=>by simp only[se,set_cons_zero,set_cons_succ,countP_append,countP_cons,countP_nil];omega)
  refine aBh gF (Nat.le_trans fq.left (by omega)) aBB ez ?_;intro jr yu X aBC hO;exact ah jr X A (B.ef bE bj) yu fv .fC No ⟨bn.app,⟨zq,lo.xp fun _ _=>xk.app⟩,aBC,qY.app,fq.follow eb⟩ (hO.fj (gL fun p=>by simp only[se,gz.ef,countP_append,countP_cons,countP_nil];omega))
end J
namespace J
open Go Go.Ab
variable[cu:b0]
variable{H:au}{ae S F N R:List (Nat×ax)}{aa:VH}{v w:Value}{aq bE:List Value}{p q r n f i k m N:Nat}{fg st:Int}
theorem aBD(x:Value)(H:au):(u5 P .clear [134]).f [x] H=z7 [int 0,bu] x H:=by rfl
theorem aBE(x:Value)(H:au):(u5 P .clear [269]).f [x] H=z7 [.nilIface] x H:=by rfl
theorem aii{z:List Value}(h:z.all eL=true):∀n,(gv n z).all eL=true
 | 0=>rfl
 | n+1=>by show(iC z (gv n z)).all eL=true;rw[jm,all_append,h,aii h n];rfl
theorem aij{z:List Value}{c:Nat}{aa:VH}(hO:aj H ae)(an:ae[i]?=some (q,⟨aq,true⟩))(aD:aq.length=n*z.length)(h1:z.all eL=true)(ah:∀ab bE,aj ab (ae.set i (q,⟨bE,true⟩))->aa (.tuple #[]) ab):af (z7 z (aC q 0 n c) H) aa:=by unfold z7;simp only;by_cases aJ:Nat.beq n 0=true;rw[if_pos aJ];exact bW rfl (ah H aq (by rw[QC an];exact hO));rw[if_neg aJ];obtain⟨ab,aM,al⟩:=HF (o:=0) (vs:=gv n z) hO an (by rw[JT];omega) (aii h1 n);rw[aM];exact bW rfl (ah ab _ al)
theorem aBF(hO:aj H (ae++[(q,⟨aq,true⟩),(r,⟨dp q n 2 f k,true⟩)]))(aD:aq.length=n*2)(ah:∀ab,aj ab ae->aa (int k) ab):ay P 153 [ai r 0] H aa:=by
 apply asJ;unfold acz;refine aV (aY hO (ae.length+1) (az rfl) (v:=int k) rfl (aV (aY hO (ae.length+1) (az rfl) (v:=aC q 0 n 5) rfl ?_)));rw[aBD];refine aij hO (i:=ae.length+0) (az rfl) aD rfl ?_;intro H oV hO;rw[Go.Ab.cD]at hO
 replace hO:aj H (ae++[(q,⟨oV,true⟩),(r,⟨dp q n 2 f k,true⟩)]):=hO
 refine aV (fR hO (ae.length+1) (az rfl) rfl (show 1<4 by omega) (bE:=[aC q 0 n 5,int 0,int k,.bool false]) rfl ?_);intro H hO;rw[Go.Ab.cD]at hO;refine aV (fR hO (ae.length+1) (az rfl) rfl (show 2<4 by omega) (bE:=[aC q 0 n 5,int 0,int 0,.bool false]) rfl ?_);intro H hO;rw[Go.Ab.cD]at hO;refine aV (fR hO (ae.length+1) (az rfl) rfl (show 3<4 by omega) (bE:=[aC q 0 n 5,int 0,int 0,.bool true]) rfl ?_);intro H hO;rw[Go.Ab.cD]at hO;exact ah H hO.left
theorem aik(hO:aj H (ae++[(q,⟨aq,true⟩),(r,⟨dp q n 1 f k,true⟩)]))(aD:aq.length=n*1)(ah:∀ab,aj ab ae->aa (int k) ab):ay P 154 [ai r 0] H aa:=by
 apply asK;unfold acA;refine aV (aY hO (ae.length+1) (az rfl) (v:=int k) rfl (aV (aY hO (ae.length+1) (az rfl) (v:=aC q 0 n 3) rfl ?_)));rw[aBE];refine aij hO (i:=ae.length+0) (az rfl) aD rfl ?_;intro H oV hO;rw[Go.Ab.cD]at hO
 replace hO:aj H (ae++[(q,⟨oV,true⟩),(r,⟨dp q n 1 f k,true⟩)]):=hO
 refine aV (fR hO (ae.length+1) (az rfl) rfl (show 1<4 by omega) (bE:=[aC q 0 n 3,int 0,int k,.bool false]) rfl ?_);intro H hO;rw[Go.Ab.cD]at hO;refine aV (fR hO (ae.length+1) (az rfl) rfl (show 2<4 by omega) (bE:=[aC q 0 n 3,int 0,int 0,.bool false]) rfl ?_);intro H hO;rw[Go.Ab.cD]at hO;refine aV (fR hO (ae.length+1) (az rfl) rfl (show 3<4 by omega) (bE:=[aC q 0 n 3,int 0,int 0,.bool true]) rfl ?_);intro H hO;rw[Go.Ab.cD]at hO;exact ah H hO.left
structure fA where
 A:gz
 B:gz
 C:gz
 c:Nat
 w:Nat
 b8:Nat
 dz:Nat
 bz:Nat
 ca:Nat
 cn:Nat
 eb:Nat
 db:Nat
 pO:Value
 kv:Value
 fv:Value
 sv:Value
 cM:Value
 Gj:Value
 Gk:Value
 T:List (Nat×ax)
 L:lK
def fA.W(q:fA):jP:={A:=q.C,sv:=q.Gj,h0:=q.Gk,l:=q.b8,c:=q.w,L:=q.L}
def fA.aF(q:fA)(p:bX):List Value:=fk q.pO p.c.t q.A.r q.B.r q.C.r p.c.aS q.sv q.cM p.c.cw p.c.bj
def mX(q:fA)(mJ:Nat)(st fg:Int):List Value:=[ai q.b8 0,bT .u64 mJ,ai q.A.r 0,ai q.B.r 0,ai q.C.r 0,ai q.dz 0,ai q.c 0,ai q.w 0,ai q.cn 0,int st,int fg]
def nX(q:fA)(p:bX):List (Nat×ax):=
 [(q.c,⟨q.aF p,true⟩),(q.b8,⟨fs p.w.s q.L.cO,true⟩),(q.w,⟨q.W.jv p.w,true⟩),(q.bz,⟨fD q.ca q.fv p.aR.dk,true⟩),(q.cn,lO p.d.fG p.d.kY q.eb p.d.eR.length),(q.eb,lP p.d.eR),(q.db,⟨mX q p.w.cy p.st p.fg,true⟩)]++dJ q.L p.w.m
def zR(q:fA)(p:bX):List (Nat×ax):=
 [(q.A.q,⟨q.A.aq,true⟩),(q.A.r,⟨dp q.A.q q.A.n 2 q.A.f q.A.aP.length,true⟩),(q.B.q,⟨q.B.aq,true⟩),(q.B.r,⟨dp q.B.q q.B.n 1 q.B.f q.B.aP.length,true⟩),(q.C.q,⟨q.C.aq,true⟩),(q.C.r,⟨dp q.C.q q.C.n 1 q.C.f q.C.aP.length,true⟩),(q.dz,⟨gV q.bz q.A.r q.B.r p.l q.kv,true⟩)]++q.T
structure ail (S:List (Nat×ax)) (q:fA) (p:bX):Prop where
 aF:vU S p.c q.A q.B q.C q.pO q.sv q.cM q.T
 cB:DF S q.A q.B q.ca q.kv q.fv p.l p.c.dB p.c.cA p.aR
 wr:ks S {p.w with q:=p.c.eB} q.W
 sn:q.A.n=p.c.bz
 cT:0<=p.w.aS.cT
structure uU (S:List (Nat×ax)) (q:fA) (p:bX) (N:Nat):Prop where
 tO:p.c.aS.b4
 xx:e8 S q.sv p.c.aS.aN
 xy:q.cM=.pointer none\/∃st,q.cM=ai st 0
 xz:Nl q.cM=p.c.al.isSome
 uV:p.w.aS.b4
 s:p.w.s.b4
 m:p0 p.w.m
 own:lq q.L p.w.m
 kV:p.w.m.gB N
 aR:p3 S q.ca q.fv p.aR
 dk:p.aR.dk<=N
 d1:p.d.eR.length=3
 d2:∀y∈p.d.eR,0<=y/\y<=p.d.fG
 d3:p.d.fG<=1099511627776
 eO:p.st=1->ail S q p
def cz(H:au)(S F:List (Nat×ax))(q:fA)(p:bX)(N:Nat):Prop:=uU S q p N/\∃R,(p.st=1->R=zR q p)/\aj H ((S++(F++R))++nX q p)
structure fA.et (q cp:fA):Prop where
 db:cp.db=q.db
 bz:cp.bz=q.bz
 ca:cp.ca=q.ca
 b8:cp.b8=q.b8
 L:q.L.Eq cp.L
theorem fA.et.fC{q:fA}:q.et q:=⟨rfl,rfl,rfl,rfl,.fC⟩
theorem fA.et.trans{q cp q2:fA}(h:q.et cp)(aT:cp.et q2):q.et q2:=⟨aT.db.trans h.db,aT.bz.trans h.bz,aT.ca.trans h.ca,aT.b8.trans h.b8,h.L.trans aT.L⟩
variable{q:fA}{p:bX}
theorem lx{k:Nat}{x:Nat×ax}(h:(nX q p)[k]?=some x):((S++(F++R))++nX q p)[(S++(F++R)).length+k]?=some x:=az h
theorem uW(h:cz H S F q p N)(ah:aa (int p.st) H):ay P 15 [ai q.db 0] H aa:=by obtain⟨_,R,_,hO⟩:=h;apply aqM;unfold aat;exact aV (aY hO _ (lx (k:=6) rfl) (v:=int p.st) rfl ah)
theorem NG(h:cz H S F q p N)(ah:aa (int p.fg) H):ay P 19 [ai q.db 0] H aa:=by obtain⟨_,R,_,hO⟩:=h;apply aqR;unfold aaz;exact aV (aY hO _ (lx (k:=6) rfl) (v:=int p.fg) rfl ah)
theorem NH(h:cz H S F q p N)(ah:aa (int p.w.wr) H):ay P 21 [ai q.db 0] H aa:=by obtain⟨aX,R,_,hO⟩:=h;apply aqU;unfold aaD;refine aV (aY hO _ (lx (k:=6) rfl) (v:=ai q.w 0) rfl ?_);apply arH;unfold abr;exact aV (aY hO _ (lx (k:=2) rfl) (v:=int p.w.wr) (T4 aX.uV.dh) ah)
theorem aBG{s:fF}{t:Nat}(h:s.b4):(s.drop t).b4:=by unfold fF.drop;split;exact⟨by simp_all,h.p⟩;exact h
theorem NI(ev:st≠1)(h:cz H S F q p N)(h1:p.st=1)(ah:∀ab,cz ab S F q (p.lH st fg) N->aa (.tuple [].toArray) ab):ay P 85 [ai q.db 0,int st,int fg] H aa:=by
 obtain⟨aX,R,U,hO⟩:=h;obtain rfl:=U h1;have hL:=aX.eO h1;apply arS;unfold abD;have eP:∃G,G=(S++F)++(((q.dz,(⟨gV q.bz q.A.r q.B.r p.l q.kv,true⟩:ax))::q.T)++([(q.c,(⟨q.aF p,true⟩:ax)),(q.w,⟨q.W.jv p.w,true⟩),(q.bz,⟨fD q.ca q.fv p.aR.dk,true⟩),(q.cn,lO p.d.fG p.d.kY q.eb p.d.eR.length),(q.eb,lP p.d.eR)]++dJ q.L p.w.m)):=⟨_,rfl⟩;obtain⟨G,eP⟩:=eP;have ez:aj H (G++[(q.db,⟨mX q p.w.cy p.st p.fg,true⟩),(q.b8,⟨fs p.w.s q.L.cO,true⟩),(q.A.q,⟨q.A.aq,true⟩),(q.A.r,⟨dp q.A.q q.A.n 2 q.A.f q.A.aP.length,true⟩),(q.B.q,⟨q.B.aq,true⟩),(q.B.r,⟨dp q.B.q q.B.n 1 q.B.f q.B.aP.length,true⟩),(q.C.q,⟨q.C.aq,true⟩),(q.C.r,⟨dp q.C.q q.C.n 1 q.C.f q.C.aP.length,true⟩)]):=by rw[eP];exact hO.fj (gL fun p=>by simp only[nX,zR,countP_append,countP_cons,countP_nil];omega)
 refine aV (fR ez (G.length+0) (az rfl) rfl (show 9<11 by omega) (bE:=mX q p.w.cy st p.fg) rfl ?_);intro H hO;rw[Go.Ab.cD]at hO;refine aV (fR hO (G.length+0) (az rfl) rfl (show 10<11 by omega) (bE:=mX q p.w.cy st fg) rfl ?_);intro H hO;rw[Go.Ab.cD]at hO;refine aV (aY hO (G.length+0) (az rfl) (v:=ai q.b8 0) rfl (aV (aY hO (G.length+0) (az rfl) (v:=bT .u64 p.w.cy) rfl ?_)));have ez:aj H (((G++[(q.db,⟨mX q p.w.cy st fg,true⟩)])++[(q.b8,⟨fs p.w.s q.L.cO,true⟩)])++[(q.A.q,⟨q.A.aq,true⟩),(q.A.r,⟨dp q.A.q q.A.n 2 q.A.f q.A.aP.length,true⟩),(q.B.q,⟨q.B.aq,true⟩),(q.B.r,⟨dp q.B.q q.B.n 1 q.B.f q.B.aP.length,true⟩),(q.C.q,⟨q.C.aq,true⟩),(q.C.r,⟨dp q.C.q q.C.n 1 q.C.f q.C.aP.length,true⟩)]):=
  hO.fj (gL fun p=>by simp_all)
 refine azr ez ?_;intro H hO;refine aV (aY hO (G.length+0) (aL (aL (az rfl))) (v:=ai q.A.r 0) rfl ?_);have ez:aj H ((((G++[(q.db,⟨mX q p.w.cy st fg,true⟩)])++[(q.b8,⟨fs (p.w.s.drop p.w.cy) q.L.cO,true⟩)])++[(q.B.q,⟨q.B.aq,true⟩),(q.B.r,⟨dp q.B.q q.B.n 1 q.B.f q.B.aP.length,true⟩),(q.C.q,⟨q.C.aq,true⟩),(q.C.r,⟨dp q.C.q q.C.n 1 q.C.f q.C.aP.length,true⟩)])++[(q.A.q,⟨q.A.aq,true⟩),(q.A.r,⟨dp q.A.q q.A.n 2 q.A.f q.A.aP.length,true⟩)]):=
  hO.fj (gL fun p=>by simp only[countP_append,countP_cons,countP_nil];omega)
 refine aBF ez hL.aF.a.nx.len ?_;intro H hO;refine aV (aY hO (G.length+0) (aL (aL (az rfl))) (v:=ai q.B.r 0) rfl ?_);have ez:aj H ((((G++[(q.db,⟨mX q p.w.cy st fg,true⟩)])++[(q.b8,⟨fs (p.w.s.drop p.w.cy) q.L.cO,true⟩)])++[(q.C.q,⟨q.C.aq,true⟩),(q.C.r,⟨dp q.C.q q.C.n 1 q.C.f q.C.aP.length,true⟩)])++[(q.B.q,⟨q.B.aq,true⟩),(q.B.r,⟨dp q.B.q q.B.n 1 q.B.f q.B.aP.length,true⟩)]):=
  hO.fj (gL fun p=>by simp only[countP_append,countP_cons,countP_nil];omega)
 refine aik ez hL.aF.b.nx.len ?_;intro H hO;refine aV (aY hO (G.length+0) (aL (aL (az rfl))) (v:=ai q.C.r 0) rfl (aik hO hL.aF.c.nx.len ?_));intro H hO;refine ah H ⟨⟨aX.tO,aX.xx,aX.xy,aX.xz,aX.uV,aBG aX.s,aX.m,aX.own,aX.kV,aX.aR,aX.dk,aX.d1,aX.d2,aX.d3,fun h=>absurd h ev⟩,(q.dz,⟨gV q.bz q.A.r q.B.r p.l q.kv,true⟩)::q.T,fun h=>absurd h ev,?_⟩;rw[eP]at hO;exact hO.fj (gL fun rl=>by show _=List.countP rl ((S++(F++_))++([(q.c,(⟨q.aF p,true⟩:ax)),(q.b8,⟨fs (p.w.s.drop p.w.cy) q.L.cO,true⟩),(q.w,⟨q.W.jv p.w,true⟩),(q.bz,⟨fD q.ca q.fv p.aR.dk,true⟩),(q.cn,lO p.d.fG p.d.kY q.eb p.d.eR.length),(q.eb,lP p.d.eR),(q.db,⟨mX q p.w.cy st fg,true⟩)]++dJ q.L p.w.m));simp only[countP_append,countP_cons,countP_nil];omega)
end J
namespace J
open Go Go.Ab
variable[cu:b0]
variable{H:au}{S F R:List (Nat×ax)}{aa:VH}{v w:Value}{r k m N:Nat}{e fg st a:Int}{q:fA}{p:bX}{ct:Nat}{hG cw:Bool}
theorem cz.mono(h:cz H S F q p N){sV:Nat}(nw:N<=sV):cz H S F q p sV:=by obtain⟨⟨h1,h2,h3,aG,a6,bq,bU,c2,fe,gH,i6,nW,uX,tP,nq⟩,aX⟩:=h;exact⟨⟨h1,h2,h3,aG,a6,bq,bU,c2,fe.mono nw,gH,Nat.le_trans i6 nw,nW,uX,tP,nq⟩,aX⟩
theorem aBH{l:List Int}{fG:Int}{k:Nat}(h:∀y∈l,0<=y/\y<=fG)(aJ:0<=fG):∀y∈l.set k fG,0<=y/\y<=fG:=by grind
theorem aim(h:uU S q p N):0<=p.d.fG:=by
 have h1:=h.d1;have h2:=h.d2;cases al:p.d.eR with
 | nil=>simp_all
 | cons a r=>grind[mem_cons_self]
theorem Ux(aM:ct<3)(h:cz H S F q p N)(h1:p.st=1)(ah:∀ab,cz ab S F q (p.hG ct hG e cw).2 N->aa (.bool hG) ab):ay P 62 [ai q.db 0,int ct,.bool hG,int e,.bool cw] H aa:=by
 apply aru;unfold abd;refine e3 (fun aA ab=>aA=[ai q.db 0,.bool hG,int e,.bool cw]/\cz ab S F q (if hG then {p with d:=p.d.sd ct}else p) N) ?_ ?_;cases hG with
 | false=>exact dP rfl (⟨rfl,h⟩)
 | true=>refine eT rfl ?_;obtain⟨aX,R,U,hO⟩:=h;refine aV (aY hO _ (lx (k:=6) rfl) (v:=ai q.cn 0) rfl (aA4 hO _ _ (lx (k:=4) rfl) (lx (k:=5) rfl) ?_));intro H hO;rw[Go.Ab.cD]at hO;have aO:=aX.d1;rw[if_pos (by omega),Int.toNat_natCast]at hO;refine⟨rfl,⟨aX.tO,aX.xx,aX.xy,aX.xz,aX.uV,aX.s,aX.m,aX.own,aX.kV,aX.aR,aX.dk,by show(p.d.eR.set ct p.d.fG).length=3;simp_all,aBH aX.d2 (aim aX),aX.d3,fun h=>⟨(aX.eO h).aF,(aX.eO h).cB,(aX.eO h).wr,(aX.eO h).sn,(aX.eO h).cT⟩⟩,R,U,?_⟩;have e:nX q {p with d:=p.d.sd ct}=[(q.c,(⟨q.aF p,true⟩:ax)),(q.b8,⟨fs p.w.s q.L.cO,true⟩),(q.w,⟨q.W.jv p.w,true⟩),(q.bz,⟨fD q.ca q.fv p.aR.dk,true⟩),(q.cn,lO p.d.fG p.d.kY q.eb (p.d.eR.set ct p.d.fG).length),(q.eb,lP (p.d.eR.set ct p.d.fG)),(q.db,⟨mX q p.w.cy p.st p.fg,true⟩)]++dJ q.L p.w.m:=rfl;rw[if_pos rfl,e,length_set];exact hO
 rintro aA H ⟨rfl,h⟩
 try simp only[cj,ck]
 have qW:(if hG then {p with d:=p.d.sd ct}else p:bX).st=1:=by grind
 unfold bX.hG at ah;simp only at ah;refine ag ij (bF (fun he=>?_) (fun he=>?_));rw[if_pos he]at ah;exact NI (by decide) h qW ah;rw[if_neg he]at ah;cases cw with
 | true=>exact eT rfl (NI (by decide) h qW ah)
 | false=>exact dP rfl (ah H h)
theorem aBI(h:cz H S F q p N)(h1:p.st=1)(ah:∀ab,cz ab S F q p.uR.2 N->aa (.bool p.uR.1) ab):ay P 60 [ai q.db 0] H aa:=by apply ars;unfold abb;have aT:=h;obtain⟨aX,R,U,hO⟩:=h;have aO:=aX.d1;refine aV (aY hO _ (lx (k:=6) rfl) (v:=ai q.cn 0) rfl (aA2 hO _ _ (lx (k:=4) rfl) (lx (k:=5) rfl) (by omega) (by omega) aX.d2 aX.d3 ?_));unfold bX.uR tM.Gc at ah;by_cases aB:p.d.kY<=p.d.fG-BH p.d.eR;rw[if_pos aB]at ah⊢;refine ag ij (oa (by decide) (NI (by decide) aT h1 ?_));intro ab hg;exact ag ij (ah ab hg);rw[if_neg aB]at ah⊢;exact ag ij (sF (by decide) (ag ij (ah H aT)))
theorem Uy(h:cz H S F q p N)(ah:∀ab,cz ab S F q (p.p2 a) N->aa (.tuple [].toArray) ab):ay P 24 [ai q.db 0,int a] H aa:=by apply aqX;unfold aaG;have aT:=h;obtain⟨aX,R,U,hO⟩:=h;refine aV (aY hO _ (lx (k:=6) rfl) (v:=int p.st) rfl (ag e2 ?_));unfold bX.p2 at ah;refine bF (fun h1=>?_) (fun h1=>?_);rw[if_pos h1]at ah;refine aV (aY hO _ (lx (k:=6) rfl) (v:=ai q.cn 0) rfl (aA3 hO _ (lx (k:=4) rfl) (aim aX) aX.d3 ?_));intro H hO;rw[Go.Ab.cD]at hO;have h3:=aX.d3;exact ah H ⟨⟨aX.tO,aX.xx,aX.xy,aX.xz,aX.uV,aX.s,aX.m,aX.own,aX.kV,aX.aR,aX.dk,aX.d1,fun y ba=>by have:=aX.d2 y ba;show 0<=y/\y<=p.d.fG+max 0 (min a (1099511627776-p.d.fG));omega,by show p.d.fG+max 0 (min a (1099511627776-p.d.fG))<=1099511627776;omega,fun h=>⟨(aX.eO h).aF,(aX.eO h).cB,(aX.eO h).wr,(aX.eO h).sn,(aX.eO h).cT⟩⟩,R,U,hO⟩;rw[if_neg h1]at ah;exact ah H aT
end J
namespace J
open Go Go.Ab
variable[cu:b0]
variable{H:au}{ae S F X R:List (Nat×ax)}{aa:VH}{v w:Value}{aq:List Value}{r n f i m N:Nat}{fg st a:Int}{q:fA}{p:bX}{hG:Bool}
theorem aBJ{dz bz r1 r2:Nat}{l:dE}{kv:Value}(hO:aj H ae)(an:ae[i]?=some (dz,⟨gV bz r1 r2 l kv,true⟩))(ah:aa (int l.bj) H):ay P 63 [ai dz 0] H aa:=by apply arv;unfold abe;exact aV (aY hO i an (v:=int l.bj) rfl ah)
theorem aBK{n:Nat}{l:dE}{bw:List (Int×List Int)}{cA:List ib}{aR:gU}:(hj n l bw cA aR).2.2.2.2.dk<=aR.dk+1:=by
 unfold hj;split
 simp_all
 split
 simp_all
 split
 simp_all
 have h:(aR.mx l.ff l.jA.1 l.jA.2).2.dk<=aR.dk+1:=by
  unfold gU.mx
  grind
 grind
def bX.rm(p:bX):bX:=
 {p with l:=(hj p.c.bz p.l p.c.dB p.c.cA p.aR).2.1,c:={p.c with dB:=(hj p.c.bz p.l p.c.dB p.c.cA p.aR).2.2.1,cA:=(hj p.c.bz p.l p.c.dB p.c.cA p.aR).2.2.2.1},aR:=(hj p.c.bz p.l p.c.dB p.c.cA p.aR).2.2.2.2}
theorem yv(p:bX):p.Gh=p.rm.hG 0 (hj p.c.bz p.l p.c.dB p.c.cA p.aR).1 p.rm.l.bj false:=by rfl
theorem aBL(nw:N<=1000000)(h:cz H S F q p N)(h1:p.st=1)(ah:∀ab cp X,q.et cp->cp.dz=q.dz->cz ab (S++X) F cp p.rm (N+1)->aa (.bool (hj p.c.bz p.l p.c.dB p.c.cA p.aR).1) ab):ay P 61 [ai q.dz 0] H aa:=by
 obtain⟨aX,R,U,hO⟩:=h;obtain rfl:=U h1;have hL:=aX.eO h1;have ez:aj H ((S++(F++([(q.C.q,(⟨q.C.aq,true⟩:ax)),(q.C.r,⟨dp q.C.q q.C.n 1 q.C.f q.C.aP.length,true⟩),(q.c,⟨q.aF p,true⟩),(q.b8,⟨fs p.w.s q.L.cO,true⟩),(q.w,⟨q.W.jv p.w,true⟩),(q.cn,lO p.d.fG p.d.kY q.eb p.d.eR.length),(q.eb,lP p.d.eR),(q.db,⟨mX q p.w.cy p.st p.fg,true⟩)]++(q.T++dJ q.L p.w.m))))++se q.A q.B q.dz q.bz q.ca q.kv q.fv p.l p.aR.dk):=
  hO.fj (gL fun p=>by simp only[nX,zR,se,countP_append,countP_cons,countP_nil];omega)
 have LZ:=aX.dk;refine aBA hL.cB (by omega) ez ?_;rw[hL.sn];intro ab X hT dG yu hN I3 I4 qz hO;have jE:=hL.aF;have yR:dG.n=p.c.bz:=I4.n.trans jE.cK;refine ah ab {q with A:=hT,B:=dG,kv:=yu,fv:=hN} X ⟨rfl,rfl,rfl,rfl,.fC⟩ rfl ⟨⟨aX.tO,aX.xx.app,aX.xy,aX.xz,aX.uV,aX.s,aX.m,aX.own,aX.kV.mono (le_succ N),qz.aR,Nat.le_trans aBK (by omega),aX.d1,aX.d2,aX.d3,fun _=>⟨⟨jE.kv.app,jE.BB,jE.r9,jE.nK,qz.a,qz.b,jE.c.app,yR,jE.ya,jE.ok,jE.sv.app,jE.bS.app⟩,qz,hL.wr.app,I3.n.trans hL.sn,hL.cT⟩⟩,_,fun _=>rfl,?_⟩;obtain⟨ly,hH,sn,Uz,pw,UA⟩:=hT;obtain⟨lz,fB,cK,UB,p4,UC⟩:=dG;obtain⟨cU,cR,a3⟩:=I3;obtain⟨b1,b2,gE⟩:=I4;simp only at cU cR a3 b1 b2 gE;subst cU cR a3 b1 b2 gE;refine hO.fj (gL fun rl=>?_);show _=List.countP rl (((S++X)++(F++([(q.A.q,(⟨pw,true⟩:ax)),(q.A.r,⟨dp q.A.q q.A.n 2 Uz UA.length,true⟩),(q.B.q,⟨p4,true⟩),(q.B.r,⟨dp q.B.q q.B.n 1 UB UC.length,true⟩),(q.C.q,⟨q.C.aq,true⟩),(q.C.r,⟨dp q.C.q q.C.n 1 q.C.f q.C.aP.length,true⟩),(q.dz,⟨gV q.bz q.A.r q.B.r p.rm.l yu,true⟩)]++q.T)))++([(q.c,(⟨q.aF p,true⟩:ax)),(q.b8,⟨fs p.w.s q.L.cO,true⟩),(q.w,⟨q.W.jv p.w,true⟩),(q.bz,⟨fD q.ca hN p.rm.aR.dk,true⟩),(q.cn,lO p.d.fG p.d.kY q.eb p.d.eR.length),(q.eb,lP p.d.eR),(q.db,⟨mX q p.w.cy p.st p.fg,true⟩)]++dJ q.L p.w.m));unfold bX.rm;simp only[se,countP_append,countP_cons,countP_nil];omega
end J
namespace J
open Go Go.Ab
variable[cu:b0]
variable{H:au}{ae S F X R:List (Nat×ax)}{aa:VH}{v w:Value}{aq:List Value}{r n f i k m N:Nat}{fg st a:Int}{q:fA}{p:bX}{ct:Int}{hG cw:Bool}
def bX.yw(p:bX):bX:={p with c:=p.c.step.2}
def bX.rw(p:bX):Bool×bA:=({p.w with q:=p.c.eB}:bA).step
def bX.xA(p:bX):bX:={p with w:=p.rw.2,c:={p.c with eB:=p.rw.2.q}}
theorem zS(p:bX):p.iu=p.yw.hG 1 p.c.step.1 p.yw.c.bj false:=rfl
theorem zT(p:bX):p.zO=p.xA.hG 2 p.rw.1 p.xA.w.bj (decide (p.xA.w.cC=4)):=rfl
theorem aBM{al:Option (List Int×Nat)}{aS:da}{cM:Value}{T:List (Nat×ax)}(h:tJ S aS al cM T):Nl cM=al.isSome:=by cases h<;>rfl
theorem aBN(h:cz H S F q p N)(h1:p.st=1)(ah:∀ab cp X,q.et cp->cp.c=q.c->cz ab (S++X) F cp p.yw N->aa (.bool p.c.step.1) ab):ay P 64 [ai q.c 0] H aa:=by
 obtain⟨aX,R,U,hO⟩:=h;obtain rfl:=U h1;have hL:=aX.eO h1;have aB:BC S (F++([(q.dz,(⟨gV q.bz q.A.r q.B.r p.l q.kv,true⟩:ax)),(q.b8,⟨fs p.w.s q.L.cO,true⟩),(q.w,⟨q.W.jv p.w,true⟩),(q.bz,⟨fD q.ca q.fv p.aR.dk,true⟩),(q.cn,lO p.d.fG p.d.kY q.eb p.d.eR.length),(q.eb,lP p.d.eR),(q.db,⟨mX q p.w.cy p.st p.fg,true⟩)]++dJ q.L p.w.m)) p.c q.A q.B q.C q.c q.pO H:=
  ⟨q.sv,q.cM,q.T,hL.aF,hO.fj (gL fun rl=>by simp only[nX,zR,hM,fA.aF,countP_append,countP_cons,countP_nil];omega)⟩
 refine azk aB ?_;intro ab X hT dG hX I3 I4 aBO aB;obtain⟨aio,TQ,dA,jE,hO⟩:=aB;have yx:=hL.wr;refine ah ab {q with A:=hT,B:=dG,C:=hX,sv:=aio,cM:=TQ,T:=dA} X ⟨rfl,rfl,rfl,rfl,.fC⟩ rfl ⟨⟨jE.ok,jE.sv,jE.bS.ay8,aBM jE.bS,aX.uV,aX.s,aX.m,aX.own,aX.kV,aX.aR.app,aX.dk,aX.d1,aX.d2,aX.d3,fun _=>⟨jE,⟨jE.a,jE.b,hL.cB.eE.app,hL.cB.aR.app,hL.cB.ok⟩,⟨jE.c,yx.aS,yx.sv.app,yx.fy.app,yx.qu,yx.s,yx.m,yx.own,yx.ep,yx.wr⟩,?_,hL.cT⟩⟩,_,fun _=>rfl,?_⟩;show hT.n=p.c.step.2.bz;rw[I3.n,hL.sn,<- hL.aF.cK,<- I4.n];exact jE.cK;obtain⟨ly,hH,sn,Uz,pw,UA⟩:=hT;obtain⟨lz,fB,cK,UB,p4,UC⟩:=dG;obtain⟨lA,dd,ya,fl,oZ,I5⟩:=hX;obtain⟨cU,cR,a3⟩:=I3;obtain⟨b1,b2,gE⟩:=I4;obtain⟨dg,cr,fJ⟩:=aBO;simp only at cU cR a3 b1 b2 gE dg cr fJ;subst cU cR a3 b1 b2 gE dg cr fJ;refine hO.fj (gL fun rl=>?_);show _=List.countP rl (((S++X)++(F++([(q.A.q,(⟨pw,true⟩:ax)),(q.A.r,⟨dp q.A.q q.A.n 2 Uz UA.length,true⟩),(q.B.q,⟨p4,true⟩),(q.B.r,⟨dp q.B.q q.B.n 1 UB UC.length,true⟩),(q.C.q,⟨oZ,true⟩),(q.C.r,⟨dp q.C.q q.C.n 1 fl I5.length,true⟩),(q.dz,⟨gV q.bz q.A.r q.B.r p.l q.kv,true⟩)]++dA)))++([(q.c,(⟨fk q.pO p.c.step.2.t q.A.r q.B.r q.C.r p.c.step.2.aS aio TQ p.c.step.2.cw p.c.step.2.bj,true⟩:ax)),(q.b8,⟨fs p.w.s q.L.cO,true⟩),(q.w,⟨q.W.jv p.w,true⟩),(q.bz,⟨fD q.ca q.fv p.aR.dk,true⟩),(q.cn,lO p.d.fG p.d.kY q.eb p.d.eR.length),(q.eb,lP p.d.eR),(q.db,⟨mX q p.w.cy p.st p.fg,true⟩)]++dJ q.L p.w.m));simp only[hM,countP_append,countP_cons,countP_nil];omega
theorem aBP{w:bA}{aR:ib}:(w.iJ aR).s=w.s/\(w.iJ aR).cy=w.cy/\(w.iJ aR).cQ=w.cQ/\(w.iJ aR).m=w.m/\(w.cC≠4->(w.iJ aR).cC≠4):=by
 unfold bA.iJ;by_cases aJ:w.cC=0;rw[if_pos aJ]
 grind[bA.xq]
 rw[if_neg aJ];cases aR with
 | mN b5 m=>simp_all
 | hF a=>simp_all
 | body a c=>grind[bA.body]
 | dy=>grind
theorem aip{w:bA}:w.step.2.s=w.s/\w.step.2.cy=w.cy/\w.step.2.cQ=w.cQ:=by
 unfold bA.step;split
 simp_all
 split;show w.kq.s=_/\w.kq.cy=_/\w.kq.cQ=_;unfold bA.kq;split<;>exact⟨rfl,rfl,rfl⟩;split;show w.kF.s=_/\w.kF.cy=_/\w.kF.cQ=_;unfold bA.kF;split;exact⟨rfl,rfl,rfl⟩;split<;>exact⟨rfl,rfl,rfl⟩;split;rename_i x xs _;show(w.fill x xs).s=_/\(w.fill x xs).cy=_/\(w.fill x xs).cQ=_;unfold bA.fill;split<;>exact⟨rfl,rfl,rfl⟩
 grind[aBP]
theorem aBQ(nw:N<=1000000)(h:cz H S F q p N)(h1:p.st=1)(ah:∀ab cp X,q.et cp->cp.w=q.w->cz ab (S++X) F cp p.xA (N+1)->aa (.bool p.rw.1) ab):ay P 66 [ai q.w 0] H aa:=by
 obtain⟨aX,R,U,hO⟩:=h;obtain rfl:=U h1;have hL:=aX.eO h1;have ez:ke H S (F++([(q.A.q,(⟨q.A.aq,true⟩:ax)),(q.A.r,⟨dp q.A.q q.A.n 2 q.A.f q.A.aP.length,true⟩),(q.B.q,⟨q.B.aq,true⟩),(q.B.r,⟨dp q.B.q q.B.n 1 q.B.f q.B.aP.length,true⟩),(q.dz,⟨gV q.bz q.A.r q.B.r p.l q.kv,true⟩),(q.c,⟨q.aF p,true⟩),(q.bz,⟨fD q.ca q.fv p.aR.dk,true⟩),(q.cn,lO p.d.fG p.d.kY q.eb p.d.eR.length),(q.eb,lP p.d.eR),(q.db,⟨mX q p.w.cy p.st p.fg,true⟩)]++q.T)) {p.w with q:=p.c.eB} q.W:=
  hO.fj (gL fun rl=>by show _=List.countP rl ((((S++_)++[(q.C.q,(⟨q.C.aq,true⟩:ax)),(q.C.r,⟨dp q.C.q q.C.n 1 q.C.f q.C.aP.length,true⟩),(q.b8,⟨fs p.w.s q.L.cO,true⟩),(q.w,⟨q.W.jv p.w,true⟩)])++dJ q.L p.w.m));simp only[nX,zR,countP_append,countP_cons,countP_nil];omega)
 refine aAX hL.wr hL.cT aX.kV nw ez ?_;intro ab dG X b6 aM fc tQ hO;obtain⟨⟨lA,dd,ya,fl,oZ,I5⟩,Gj,Gk,xd,iF,cL⟩:=dG;obtain⟨b1,b2,gE,kJ,lX,og⟩:=b6;simp only[fA.W]at b1 b2 gE kJ lX og;subst b1 b2 gE kJ lX;have jE:=hL.aF;have ux:p.rw.2.cy=p.w.cy:=aip.2.1;refine ah ab {q with C:=⟨q.C.q,q.C.r,q.C.n,fl,oZ,I5⟩,Gj:=Gj,Gk:=Gk,L:=cL} X ⟨rfl,rfl,rfl,rfl,og⟩ rfl ⟨⟨aX.tO,aX.xx.app,aX.xy,aX.xz,aM.aS,aM.s,aM.m,aM.own,tQ,aX.aR.app,by have:=aX.dk;show p.aR.dk<=N+1;omega,aX.d1,aX.d2,aX.d3,fun _=>⟨⟨jE.kv.app,jE.BB,jE.r9,jE.nK,jE.a.app,jE.b.app,aM.q,jE.cK,jE.ya,jE.ok,jE.sv.app,jE.bS.app⟩,⟨jE.a.app,jE.b.app,hL.cB.eE.app,hL.cB.aR.app,hL.cB.ok⟩,aM,hL.sn,fc⟩⟩,_,fun _=>rfl,?_⟩;refine hO.fj (gL fun rl=>?_);show List.countP rl ((((S++X)++_)++[(q.C.q,(⟨oZ,true⟩:ax)),(q.C.r,⟨dp q.C.q q.C.n 1 fl I5.length,true⟩),(q.b8,⟨fs p.rw.2.s cL.cO,true⟩),(q.w,⟨i7 q.b8 p.rw.2.cy p.rw.2.cQ q.C.r p.rw.2.aS Gj p.rw.2.ep Gk p.rw.2.wr p.rw.2.cC p.rw.2.bj,true⟩)])++dJ cL p.rw.2.m)=List.countP rl (((S++X)++(F++([(q.A.q,(⟨q.A.aq,true⟩:ax)),(q.A.r,⟨dp q.A.q q.A.n 2 q.A.f q.A.aP.length,true⟩),(q.B.q,⟨q.B.aq,true⟩),(q.B.r,⟨dp q.B.q q.B.n 1 q.B.f q.B.aP.length,true⟩),(q.C.q,⟨oZ,true⟩),(q.C.r,⟨dp q.C.q q.C.n 1 fl I5.length,true⟩),(q.dz,⟨gV q.bz q.A.r q.B.r p.l q.kv,true⟩)]++q.T)))++([(q.c,(⟨q.aF p,true⟩:ax)),(q.b8,⟨fs p.rw.2.s cL.cO,true⟩),(q.w,⟨i7 q.b8 p.rw.2.cy p.rw.2.cQ q.C.r p.rw.2.aS Gj p.rw.2.ep Gk p.rw.2.wr p.rw.2.cC p.rw.2.bj,true⟩),(q.bz,⟨fD q.ca q.fv p.aR.dk,true⟩),(q.cn,lO p.d.fG p.d.kY q.eb p.d.eR.length),(q.eb,lP p.d.eR),(q.db,⟨mX q p.rw.2.cy p.st p.fg,true⟩)]++dJ cL p.rw.2.m))
 rw[ux];simp only[countP_append,countP_cons,countP_nil];omega
theorem aBR{aF:Nat}{kv:Value}{t:pY}{r1 r2 r3:Nat}{aS:da}{sv cM:Value}{bj:Int}{aa:VH}(aO:aS.cn.length=32)(hO:aj H ae)(an:ae[i]?=some (aF,⟨fk kv t r1 r2 r3 aS sv cM cw bj,true⟩))(ah:aa (int bj) H):ay P 65 [ai aF 0] H aa:=by apply arx;unfold abg;exact aV (aY hO i an (v:=int bj) (agW aO) ah)
theorem aBS{rn l cy ep wr cC nJ:Nat}{cQ bj:Int}{aS:da}{sv h0:Value}{aa:VH}(aO:aS.cn.length=32)(hO:aj H ae)(an:ae[i]?=some (rn,⟨i7 l cy cQ nJ aS sv ep h0 wr cC bj,true⟩))(ah:aa (int bj) H):ay P 67 [ai rn 0] H aa:=by apply arz;unfold abi;exact aV (aY hO i an (v:=int bj) (Np aO) ah)
theorem aBT{rn l cy ep wr cC nJ:Nat}{cQ bj:Int}{aS:da}{sv h0:Value}{aa:VH}(aO:aS.cn.length=32)(hO:aj H ae)(an:ae[i]?=some (rn,⟨i7 l cy cQ nJ aS sv ep h0 wr cC bj,true⟩))(ah:aa (.bool (decide (cC=4))) H):ay P 68 [ai rn 0] H aa:=by apply arA;unfold abj;refine aV (aY hO i an (v:=int cC) (IX aO) (ag e2 ?_));rw[decide_eq_decide.2 (show((cC:Int)=4)↔cC=4 by omega)];exact ah
theorem aBU(q:fA)(mJ:Nat)(st fg:Int):(mX q mJ st fg).all fY=true:=rfl
theorem sW(nw:N<=1000000)(h:cz H S F q p N)(ah:∀ab cp X,q.et cp->cz ab (S++X) F cp (p.step ct).2 (N+1)->aa (.bool (p.step ct).1) ab):ay P 14 [ai q.db 0,int ct] H aa:=by
 apply aqL;unfold aas;have aT:=h;obtain⟨aX,R,U,hO⟩:=h;have hU:∀ab,cz ab S F q (p.step ct).2 (N+1)->aa (.bool (p.step ct).1) ab:=fun ab h=>ah ab q [] .fC (by rw[append_nil];exact h)
 refine aV (aY hO _ (lx (k:=6) rfl) (v:=int p.st) rfl (ag ij ?_));unfold bX.step at ah hU;refine bF (fun h1=>?_) (fun h1=>?_);rw[if_pos h1]at hU;exact hU H (aT.mono (le_succ N));rw[if_neg h1]at ah hU;have h1:p.st=1:=by omega
 refine ag e2 (bF (fun h2=>?_) (fun h2=>?_));rw[if_pos h2]at hU;exact aBI aT h1 fun ab hg=>hU ab (hg.mono (le_succ N))
 rw[if_neg h2]at ah hU;refine ag e2 (bF (fun h2=>?_) (fun h2=>?_));rw[if_pos h2,yv]at ah;subst h2;refine aV (aY hO _ (lx (k:=6) rfl) (v:=ai q.dz 0) rfl (aBL nw aT h1 ?_));intro ab cp X al aD hg;have yc:=hg;obtain⟨aX,R,U,hO⟩:=hg;obtain rfl:=U h1;rw[<- al.db];exact aV (aY hO _ (lx (k:=6) rfl) (v:=ai cp.dz 0) rfl (aBJ hO (i:=((S++X).length+(F.length+6))) (aL (az (az rfl))) (Ux (ct:=0) (by decide) yc h1 fun cJ zU=>ah cJ cp X al zU)));rw[if_neg h2]at ah hU;refine ag e2 (bF (fun h2=>?_) (fun h2=>?_));rw[if_pos h2,zS]at ah;subst h2;refine aV (aY hO _ (lx (k:=6) rfl) (v:=ai q.c 0) rfl (aBN aT h1 ?_));intro ab cp X al aD hg;have yc:=hg;obtain⟨aX,R,U,hO⟩:=hg;rw[<- al.db];exact aV (aY hO _ (lx (k:=6) rfl) (v:=ai cp.c 0) rfl (aBR aX.tO.dh hO (lx (k:=0) rfl) (Ux (ct:=1) (by decide) yc h1 fun cJ zU=>ah cJ cp X al (zU.mono (le_succ N)))));rw[if_neg h2]at ah hU;refine ag e2 (bF (fun h2=>?_) (fun h2=>?_));rw[if_pos h2,zT]at ah;subst h2;refine aV (aY hO _ (lx (k:=6) rfl) (v:=ai q.w 0) rfl (aBQ nw aT h1 ?_));intro ab cp X al aD hg;have yc:=hg;obtain⟨aX,R,U,hO⟩:=hg;rw[<- al.db];refine aV (aY hO _ (lx (k:=6) rfl) (v:=ai cp.w 0) rfl (aBS aX.uV.dh hO (lx (k:=2) rfl) (aV (aY hO _ (lx (k:=6) rfl) (v:=ai cp.w 0) rfl (⟨ho hO _ (lx (k:=6) rfl) hO _ (lx (k:=6) rfl) (aBU _ _ _ _),?_⟩)))));exact aBT aX.uV.dh hO (lx (k:=2) rfl) (Ux (ct:=2) (by decide) yc h1 fun cJ zU=>ah cJ cp X al zU)
 rw[if_neg h2]at hU;exact hU H (aT.mono (le_succ N))
end J
namespace J
open Go Go.Ab
section
variable[cu:b0]
variable{H:au}{ae S X R:List (Nat×ax)}{v w:Value}{aq dR:List Value}{aP:List (List Value)}{r n f i j m:Nat}{fP:qw}
theorem Al.aiq{α:Type}{R:α->List Value->Prop}{size:Nat}{l:List α}(h:Al R l aP)(bJ:∀a dR,R a dR->dR.length=size):∀i (an:i<l.length),∃dR,R l[i] dR/\(aP.flatten.drop (i*size)).take size=dR:=by
 induction h with
 | nil=>simp_all
 | @cons a b l m h1 h2 bg=>
  intro i an;cases i with
  | zero=>grind
  | succ i=>
   obtain⟨dR,cg,cd⟩:=bg i (by simp_all)
   grind[succ_mul,drop_drop,drop_left]
theorem qk.aBV{size:Nat}(h:qk size ae v n aq):Go.Ab.bO v H=some (int n,H):=by rcases h with⟨rfl,rfl,_⟩|⟨p,c,j,w,rfl,_⟩<;>rfl
def yy(S:List (Nat×ax))(o:List UInt8×List Int)(dR:List Value):Prop:=∃kf,dR=[bS o.1,kf]/\RdB S kf o.2/\cE o.2
theorem yy.app{o:List UInt8×List Int}(h:yy S o dR):yy (S++X) o dR:=by obtain⟨kf,h1,h2,h3⟩:=h;exact⟨kf,h1,h2.app,h3⟩
def sX(S:List (Nat×ax))(v:Value)(fP:qw):Prop:=∃aP,qk 2 S v fP.length aP.flatten/\Al (yy S) fP aP
theorem sX.app(h:sX S v fP):sX (S++X) v fP:=by obtain⟨aP,h1,h2⟩:=h;exact⟨aP,h1.app,h2.xp fun _ _=>yy.app⟩
theorem sX.bO(h:sX S v fP):Go.Ab.bO v H=some (int fP.length,H):=by obtain⟨aP,h1,_⟩:=h;exact h1.aBV
theorem sX.get(h:sX S v fP)(an:i<fP.length):∃(p c j:Nat) (w:Bool) (aq:List Value) (kf:Value),v=aC p 0 fP.length c/\S[j]?=some (p,(⟨aq,w⟩:ax))/\(aq.drop (0+i*2)).take 2=[bS fP[i].1,kf]/\RdB S kf fP[i].2/\cE fP[i].2:=by
 obtain⟨aP,h1,h2⟩:=h;obtain⟨dR,⟨kf,rfl,cd,g3⟩,lh⟩:=h2.aiq (size:=2) (fun a dR h=>by obtain⟨kf,rfl,_⟩:=h;rfl) i an;rcases h1 with⟨_,aJ,_⟩|⟨p,c,j,w,rfl,bm,aD⟩
 omega
 grind
theorem air:df P 59=[bS [],bu]:=by rfl
theorem aBW(ca:Nat)(a:Option Addr)(n c:Nat):(dq P 176).f [(0,w5 ca),(1,.slice a n c)]=some (agg [w5 ca,.slice a n c,int 0]):=by rfl
theorem UD(ca:Nat)(r:hP)(L:b0):eZ (jh ca r L).l ca=some r:=by
 show eZ ((ca,r)::L.l) ca=_
 simp_all[qN]
theorem UE{xs:List Int}(h:RdB S v xs):eL v=true:=by obtain⟨a,n,c,rfl⟩:=h.lk;rfl
end
variable{H:au}{b9 S F X:List (Nat×ax)}{aa:VH}{v fv:Value}{aq:List Value}{n f j k:Nat}{bb:List lQ}{fP:qw}
theorem aBX{e9:b0}{ca bz y:Nat}{T:List Value}{off:qw}{N:LN}{bC:LX}{ch:LN}{S2:List (Nat×ax)}(qy:h4 S2 fv bb)(ba:y<fP.length)(aU:fP.length<=1000)(aD:∀o∈fP,o.1.length<=1000/\o.2.length<=10000)(bM:@sX S v fP)(bk:@uT (S++X) T off)
  (hO:@aj (jh ca (ki T) e9) H (((S++X)++F)++[(bz,⟨fD ca fv 0,true⟩)]))
  (ah:∀ab dA BL,@uT ((S++X)++BL) dA (zN off (fP[y]'ba))->@aj (jh ca (ki dA) e9) ab ((((S++X)++BL)++F)++[(bz,⟨fD ca fv 0,true⟩)])->N [.pointer none,ai bz 0,v,int fP.length,int ((y+1:Nat):Int)] ab):
  L8 [.pointer none,ai bz 0,v,int fP.length,int y] H N bC ch:=by
 letI:b0:=jh ca (ki T) e9
 unfold L8
 try simp only[cj,ck]
 obtain⟨cg,cd⟩:=aD _ (getElem_mem ba);obtain⟨p,c,j,pq,aq,kf,rfl,bm,pb,sf,vl⟩:=bM.get ba;refine ag fr (oa (by omega) (ag (jD (by omega) (by omega)) ?_));rw[Int.toNat_natCast];refine iH (aq:=[bS fP[y].1,kf]) hO j (aL (aL (aL bm))) pb rfl (by omega) ?_;rw[air];refine dH hO ?_;intro hY H hO;refine fT hO (_+0) (az rfl) rfl rfl (by rw[all_cons,all_cons,UE sf];rfl) ?_;intro H hO
 replace hO:=hO.cD
 replace hO:aj H ((((S++X)++F)++[(bz,⟨fD ca fv 0,true⟩)])++[(hY,⟨[bS fP[y].1,kf],true⟩)]):=hO
 have bU:∀ {b9},(((((S++X)++F)++[(bz,(⟨fD ca fv 0,true⟩:ax))])++[(hY,(⟨[bS fP[y].1,kf],true⟩:ax))])++b9)[(((S++X)++F)++[(bz,(⟨fD ca fv 0,true⟩:ax))]).length+0]?=some (hY,⟨[bS fP[y].1,kf],true⟩):=aL (az rfl);have UF:((((S++X)++F)++[(bz,(⟨fD ca fv 0,true⟩:ax))])++[(hY,(⟨[bS fP[y].1,kf],true⟩:ax))])[(((S++X)++F)++[(bz,(⟨fD ca fv 0,true⟩:ax))]).length+0]?=some (hY,⟨[bS fP[y].1,kf],true⟩):=az rfl;have AA:∀ {b9},((((S++X)++F)++[(bz,(⟨fD ca fv 0,true⟩:ax))])++b9)[((S++X)++F).length+0]?=some (bz,⟨fD ca fv 0,true⟩):=aL (az rfl);refine ag b7 (aY hO _ UF (v:=bS fP[y].1) rfl (Na (by omega) (aV (aY hO _ AA (v:=w5 ca) rfl ?_))));have la:(ar P .add 3 true).f (int y) (int 1)=some (int ((y+1:Nat):Int)):=by grind[jg]
 have xj:zN off fP[y]=off->aj H ((((S++X)++F)++[(bz,⟨fD ca fv 0,true⟩)])++[(hY,⟨[bS fP[y].1,kf],true⟩)])->N [.pointer none,ai bz 0,aC p 0 fP.length c,int fP.length,int ((y+1:Nat):Int)] H:=by intro e hO;refine ah H T [] (by rw[e,append_nil];exact bk) ?_;rw[append_nil];exact hO.left
 rcases bk.Uq (kc fP[y].1)with⟨a7,bt⟩|⟨all,av,a7,bt,_⟩
 refine Lw hO (UD _ _ _) I2 NC bt (ag kT (ag kU (e3 (fun aA ab=>aA=[.pointer none,ai bz 0,ai hY 0,bS (kc fP[y].1),aC p 0 fP.length c,int fP.length,int y,.bool (decide (ra fP[y].1=0))]/\ab=H) ?_ ?_)));exact ag ix (eT rfl (ag b7 (aY hO _ UF (v:=bS fP[y].1) rfl (afS (by omega) (ag e2 (ag j9 (⟨rfl,rfl⟩)))))));rintro aA ab ⟨rfl,rfl⟩
 try simp only[cj,ck]
 refine bF (fun h=>?_) (fun h=>?_);refine aV (aY hO _ AA (v:=w5 ca) rfl (ag b7 (aY hO _ UF (v:=kf) rfl (L9 hO (sf.app.app.app.app) (by omega) ?_))));intro cJ ej oV dF kn;refine⟨ho hO _ AA dF _ (aL AA) (ah6 qy),?_⟩;have l0:=Gi dF;refine aon (L:=e9) l0 I2 bt ?_;intro jr AB;refine ag la (ah jr _ (bQ ej oV) ?_ AB);unfold zN;rw[if_pos ⟨a7,h⟩];exact(bk.app).more kn.lY.app' vl (by omega);exact ag la (xj (by simp_all[zN]) hO);refine Lw hO (UD _ _ _) I2 NC bt (ag kT (ag kU (e3 (fun aA ab=>aA=[.pointer none,ai bz 0,ai hY 0,bS (kc fP[y].1),aC p 0 fP.length c,int fP.length,int y,.bool false]/\ab=H) ?_ ?_)));exact ag ix (dP rfl (ag km (⟨rfl,rfl⟩)));rintro aA ab ⟨rfl,rfl⟩
 try simp only[cj,ck]
 exact dP rfl (ag la (xj (by simp_all[zN]) hO))
theorem aBY[cu:b0]{N:List (Nat×ax)}(h:aj H (((S++F)++X)++N)):aj H (((S++X)++F)++N):=h.fj (gL fun p=>by grind)
theorem I6{α:Type}{l:List α}{y:Nat}(h:y<l.length):l.take (y+1)=l.take y++[l[y]]:=by simp_all
theorem aBZ{e9:b0}{UG ais:Value}(aD:∀o∈fP,o.1.length<=1000/\o.2.length<=10000)(aU:fP.length<=1000)(bM:@sX S UG fP)(hf:@h4 S ais bb)(nI:bb.length<=100000)(uy:∀f∈bb,f.v<256)
  (hO:@aj e9 H (S++F)) (ah:∀(cL:b0) ab ca bz fv X,(∀x∈e9.l,x.1<ca)->(∃T,cL=jh ca (ki T) e9)->@p3 cL (S++X) ca fv ⟨BI fP,bb,0⟩->@aj cL ab (((S++X)++F)++[(bz,⟨fD ca fv 0,true⟩)])->aa (ai bz 0) ab):ay P 58 [UG,ais] H aa:=by
 apply arp;unfold aa9;refine aom (L:=e9) hO ?_;intro ca H GN hO
 letI:b0:=jh ca (ki []) e9
 refine aBo hO hf nI ?_;intro H fv X hO oO;obtain⟨a,n,c,rfl⟩:=oO.lk;refine ag (aBW _ _ _ _) (dH hO ?_);intro bz H hO;refine bW bM.bO ?_
 replace hO:@aj (jh ca (ki []) e9) H (((S++X)++F)++[(bz,⟨fD ca (.slice a n c) 0,true⟩)]):=aBY hO
 refine aro (fun k aA ab=>∃(y:Nat) (T:List Value) (vE:List (Nat×ax)),y<=fP.length/\k=fP.length-y/\aA=[.pointer none,ai bz 0,UG,int fP.length,int y]/\uT (S++vE) T ((fP.take y).foldl zN [])/\h4 (S++vE) (.slice a n c) bb/\@aj (jh ca (ki T) e9) ab (((S++vE)++F)++[(bz,⟨fD ca (.slice a n c) 0,true⟩)])) _ _ ?_ fP.length _ _ ⟨0,[],X,zero_le _,rfl,rfl,trivial,oO,hO⟩;rintro k aA H ⟨y,T,vE,ba,rfl,rfl,bk,oO,hO⟩;by_cases h:y<fP.length;refine aBX oO h aU aD bM bk hO ?_;intro ab dA BL aB0 ju;refine⟨_,by omega,y+1,dA,vE++BL,h,rfl,rfl,?_,?_,?_⟩;rw[I6 h,foldl_append,<- append_assoc];exact aB0;rw[<- append_assoc];exact oO.app;rw[<- append_assoc];exact ju;have e:y=fP.length:=by omega
 subst e;unfold L8
 try simp only[cj,ck]
 refine ag fr (sF (by omega) ?_);show cond (Nat.beq 0 0) _ _;rw[take_length]at bk;exact ah (jh ca (ki T) e9) H ca bz _ vE GN ⟨T,rfl⟩ (@p3.mk (jh ca (ki T) e9) _ _ _ _ ⟨T,UD _ _ _,bk⟩ oO uy) hO
end J
