/- texts of the nF, e5 behind the l0 -/
import Derived.Test.YtifflnhooaophaaGreatDoorUL
set_option linter.unusedVariables false
set_option linter.unusedSimpArgs false
set_option linter.unusedSectionVars false
set_option maxHeartbeats 4000000
set_option maxRecDepth 100000
open List Nat
namespace J
open Go Go.Ab
variable[cr:bW]
variable{H:ar}{S F X:List (Nat×ay)}{ab:VH}{v w fv aT kv:Value}{ao:List Value}{p i j bU cd dF c7 r1 r2:Nat}{e a ef:Int}{cz:List UInt8}{bI:jX}{l:ff}{m:dm}
theorem gI{α:Type}{lU ns:List α}(h:∀p:α->Bool,lU.countP p=ns.countP p):lU.Perm ns:=by
 classical
 rw[perm_iff_count];intro a;exact h (· == a)
theorem azo(m:dm)(i:Int):0<=(gm m i).1/\(gm m i).1<=65536:=by
 unfold gm;split;omega;rename_i h;have hm:en m:=Classical.not_not.1 fun a6=>h (.inl a6)
 simp_all[GV]
structure ff.b6 (l:ff):Prop where
 cz:l.cz.length<=1000000
 left:l.left<=100
 w:-2<=l.fb/\l.fb<=1000
 ek:∀h m,l.dM=some (h,m)->en m/\0<=h/\h<=2304/\-2<=l.fb/\l.fb<m.bo.length
 jZ:l.dM=none->l.fb=-1\/l.fb=-2
theorem SE(h:en m):m.bo.length<=64:=by simp_all[en]
theorem ff.b6.bA(h:l.b6)(e:Int):({l with bA:=e}:ff).b6:=⟨h.cz,h.left,h.w,h.ek,h.jZ⟩
theorem afS{vQ:Nat}(h:l.b6)(al:l.dM=none)(aM:a=-1\/a=-2)(aE:vQ<=100):({l with left:=vQ,fb:=a}:ff).b6:=
 ⟨h.cz,aE,by grind,fun g m a6=>(by simp_all),fun _=>aM⟩
theorem afT{vQ:Nat}(h:l.b6){h8:Int}(hm:en m)(h1:0<=h8)(h2:h8<=2304)(aM:-2<=a/\a<m.bo.length)(aE:vQ<=100):({l with left:=vQ,fb:=a,dM:=some (h8,m)}:ff).b6:=by have dh:=SE hm;exact⟨h.cz,aE,by grind,fun A9 iw a6=>(by simp_all),fun a6=>(by cases a6)⟩
theorem afU{vQ:Nat}(h:l.b6){h8:Int}(al:l.dM=some (h8,m))(aM:-2<=a/\a<m.bo.length)(aE:vQ<=100):({l with left:=vQ,fb:=a}:ff).b6:=by obtain⟨h1,h2,aB,_⟩:=h.ek h8 m al;have:=afT h h1 h2 aB aM aE;rw[<- al]at this;exact this
theorem ff.b6.try(h:l.b6):l.try.2.b6:=by unfold ff.try;split;exact h.bA 191;exact⟨h.cz,by have:=h.left;grind,h.w,h.ek,h.jZ⟩
theorem SF(l:ff):l.dM=none\/∃g m,l.dM=some (g,m):=by
 cases al:l.dM with
 | none=>simp_all
 | some y=>grind
theorem afV(al:l.dM=none):l.on={l with fb:=-2}:=by simp_all[ff.on]
theorem afW{h8:Int}(al:l.dM=some (h8,m)):l.on={l with fb:=if l.fb+1=m.bo.length then-2 else l.fb+1}:=by grind[ff.on]
theorem azp(al:l.dM=none):l.yz a=decide (a=-1):=by simp_all[ff.yz]
theorem azq{h8:Int}(al:l.dM=some (h8,m)):l.yz a=decide (0<=a/\a<m.bo.length):=by simp_all[ff.yz]
theorem ff.b6.on(h:l.b6):l.on.b6:=by
 rcases SF l with al|⟨g,m,al⟩
 rw[afV al];exact afS h al (.inr rfl) h.left;obtain⟨h1,h2,aB,bk,cj⟩:=h.ek g m al;rw[afW al];refine afU (vQ:=l.left) h al ?_ h.left;omega
theorem ff.b6.follow(h:l.b6)(s:j5):(l.follow s).b6:=by
 unfold ff.follow;split;rename_i a;split;exact h.bA 192;rename_i aD;have aD:l.yz a=true:=by simp_all
 split;exact h.bA 191;have aE:=h.left;rcases SF l with al|⟨g,m,al⟩
 rw[azp al]at aD;exact afS (vQ:=l.left-1) h al (.inl (of_decide_eq_true aD)) (by omega);rw[azq al]at aD;have aD:=of_decide_eq_true aD;exact afU (vQ:=l.left-1) (a:=a) h al (by omega) (by omega);rename_i g m;split;exact h.bA 192;rename_i aD;rw[not_or,not_or,not_or]at aD;have hm:en m:=Classical.not_not.1 aD.2.1;have bS:0<m.bo.length:=by have iC:=hm.2.2.2.2.2.2.2.2.1;unfold lY at iC;have h1:=hm.2.2.2.1;have h2:=hm.2.2.2.2.2.1;rw[if_neg (by omega)]at iC;have:=Int.ediv_nonneg (show 0<=m.cU-1 by omega) (show 0<=m.bx by omega);omega
 exact afT (a:=0) h hm (by omega) (by omega) (by omega) h.left;exact h.bA 192
theorem azr(fY:vO S kv l.dM)(eL:l.b6)(aM:l.fb≠-2)(aQ:pU S cd fv bI)(aD:bI.dF<=1000000)(hO:aj H ((S++F)++[(c7,⟨gv bU r1 r2 l kv,true⟩),(bU,⟨fQ cd fv bI.dF,true⟩)]))
  (ag:∀aa aH iU X,b3 (S++X) aH (bI.nV l.cz l.k1.1 l.k1.2).1.1->cl (bI.nV l.cz l.k1.1 l.k1.2).1.1->(bI.nV l.cz l.k1.1 l.k1.2).1.1.length<=10000->((bI.nV l.cz l.k1.1 l.k1.2).1.1≠[]->qo (S++X) aH)->pU (S++X) cd iU (bI.nV l.cz l.k1.1 l.k1.2).2->
   aj aa (((S++X)++F)++[(c7,⟨gv bU r1 r2 l kv,true⟩),(bU,⟨fQ cd iU (bI.nV l.cz l.k1.1 l.k1.2).2.dF,true⟩)])->ab (.tuple [aH,int (bI.nV l.cz l.k1.1 l.k1.2).1.2].toArray) aa):az P 129 [ai c7 0] H ab:=by
 apply aqb;unfold ZL;have pV:∀ {x},((S++F)++[(c7,(⟨gv bU r1 r2 l kv,true⟩:ay)),x])[(S++F).length+0]?=some (c7,⟨gv bU r1 r2 l kv,true⟩):=aA rfl;have nn:∀ {H:ar} {a ef:Int},l.k1=(a,ef)->aj H ((S++F)++[(c7,⟨gv bU r1 r2 l kv,true⟩),(bU,⟨fQ cd fv bI.dF,true⟩)])->az P 187 [ai bU 0,bl l.cz,int a,int ef] H fun DT Sb=>ad (ee 0 DT) fun t20=>ad (ee 1 DT) fun t21=>ab (.tuple [t20,t21].toArray) Sb:=by intro H a ef bp hO;rw[bp]at ag;have eh:aj H ((S++(F++[(c7,(⟨gv bU r1 r2 l kv,true⟩:ay))]))++[(bU,⟨fQ cd fv bI.dF,true⟩)]):=hO.e4 (gI fun p=>by simp_all);refine azl aQ eL.cz aD eh ?_;intro aa aH iU X h1 h2 aB bk cj dh;exact ah jT (ah jU (ag aa aH iU X h1 h2 aB bk cj (dh.e4 (gI fun p=>by simp_all))))
 refine aU (aP hO _ pV (v:=int l.fb) rfl (ah fl (bz (fun h=>?_) (fun h=>?_))));exact aU (aP hO _ pV (v:=ai bU 0) rfl (aU (aP hO _ pV (v:=bl l.cz) rfl (nn (by simp_all[ff.k1]) hO))));cases al:l.dM with
 | none=>rcases eL.jZ al with a6|a6<;>contradiction
 | some y=>obtain⟨h8,m⟩:=y;obtain⟨b1,b2,hB,_⟩:=eL.ek h8 m al;rw[al]at fY;obtain⟨g,j,aT,rfl,bh,kU,ok⟩:=fY;refine aU (aP hO _ pV (v:=ai g 0) rfl (aU (hG (ao:=bM m aT) hO j (aK (aK bh)) (by show((int h8::bM m aT).drop 1).take 37=_;rw[drop_one,tail_cons];exact take_of_length_le (by rw[el ok.cX];omega)) (el ok.cX) (by omega) (aU (aP hO _ pV (v:=int l.fb) rfl (RR ok (kU.app.app) hO ?_))))));intro H hO;refine ah jT (ah jU (aU (aP hO _ pV (v:=ai bU 0) rfl (aU (aP hO _ pV (v:=bl l.cz) rfl (aU (aP hO _ pV (v:=ai g 0) rfl (aU (aP hO _ (aK (aK bh)) (v:=int h8) rfl ?_)))))))));have an:=azo m l.fb;exact ah (jg (by omega) (by omega)) (nn (by simp_all[ff.k1]) hO)
end J
namespace J
open Go Go.Ab
variable[cr:bW]
variable{H:ar}{ae S F X:List (Nat×ay)}{ab:VH}{v w fv kv:Value}{ao bu dg:List Value}{p q o n i j bU cd dF c7:Nat}{e a:Int}{ak:List Int}{f:iY}{cz:List UInt8}{bI:jX}{l aF:ff}{A B:gB}{bJ:List (Int×List Int)}{eS:List j5}{m:dm}
structure Ca (S:List (Nat×ay)) (A B:gB) (cd:Nat) (kv fv:Value) (l:ff) (bJ:List (Int×List Int)) (eS:List j5) (bI:jX):Prop where
 a:pS S A bJ
 b:pT S B eS
 ek:vO S kv l.dM
 bI:pU S cd fv bI
 ok:l.b6
def rn(A B:gB)(c7 bU cd:Nat)(kv fv:Value)(l:ff)(dF:Nat):List (Nat×ay):=
 [(A.q,⟨A.ao,true⟩),(A.r,⟨cY A.q A.n 2 A.f A.aJ.length,true⟩),(B.q,⟨B.ao,true⟩),(B.r,⟨cY B.q B.n 1 B.f B.aJ.length,true⟩),(c7,⟨gv bU A.r B.r l kv,true⟩),(bU,⟨fQ cd fv dF,true⟩)]
theorem azs(a:Int)(p:Option Addr)(n c:Nat):(c9 P 179).f [(0,int a),(1,.slice p n c)]=some (agg [int a,.slice p n c]):=by rfl
theorem b3.fD(h:b3 ae v ak):fE v=true:=by rcases h with⟨rfl,_⟩|⟨p,o,c,rfl,_⟩<;>rfl
theorem b3.afX(h:b3 ae v ak):eA v=true:=by rcases h with⟨rfl,_⟩|⟨p,o,c,rfl,_⟩<;>rfl
theorem azt(h:Ca S A B cd kv fv l bJ eS bI)(aD:bI.dF<=1000000)(hO:aj H ((S++F)++rn A B c7 bU cd kv fv l bI.dF))
  (ag:∀aa X hE dj w2 iU,gB.fB A hE->gB.fB B dj->Ca (S++X) hE dj cd w2 iU (mg A.n l bJ eS bI).2.1 (mg A.n l bJ eS bI).2.2.1 (mg A.n l bJ eS bI).2.2.2.1 (mg A.n l bJ eS bI).2.2.2.2->
   aj aa (((S++X)++F)++rn hE dj c7 bU cd w2 iU (mg A.n l bJ eS bI).2.1 (mg A.n l bJ eS bI).2.2.2.2.dF)->ab (.bool (mg A.n l bJ eS bI).1) aa):az P 61 [ai c7 0] H ab:=by
 apply apj;unfold YR;obtain⟨bp,an,fY,rP,eL⟩:=h;have pV:∀ {A B:gB} {kv fv:Value} {l:ff} {dF:Nat},((S++F)++rn A B c7 bU cd kv fv l dF)[(S++F).length+4]?=some (c7,⟨gv bU A.r B.r l kv,true⟩):=aA rfl;have oP:aj H ((S++F)++rn A B c7 bU cd kv fv l bI.dF)->mg A.n l bJ eS bI=(false,l,bJ,eS,bI)->ab (.bool false) H:=by intro hO e;rw[e]at ag;exact ag H [] A B kv fv .gl .gl (by rw[append_nil];exact⟨bp,an,fY,rP,eL⟩) (by rw[append_nil];exact hO)
 refine aU (aP hO _ pV (v:=int l.bA) rfl (ah ik (bz (fun he=>?_) (fun he=>?_))));exact oP hO (by simp_all[mg]);refine aU (aP hO _ pV (v:=ai B.r 0) rfl (aeS (ae:=S++F) (i:=3) (j:=2) hO rfl rfl (by decide) an.mC ?_ ?_));intro Fk;have CW:eS=[]:=by
  have:=an.len
  grind
 subst CW;refine ah jT (ah jU (et rfl ?_));have kD:=bp.len;have LC:=bp.mC.uB;have LQ:=bp.zS;refine e6 (fun aF aa=>aF=[ai c7 0]/\aa=H/\l.fb≠-2/\bJ.length≠A.n) ?_ ?_;refine aU (aP hO _ pV (v:=int l.fb) rfl (ah fl (bz (fun h1=>?_) (fun h1=>?_))));exact ah (hT h1) (fg rfl (oP hO (by simp_all[mg])));refine aU (aP hO _ pV (v:=ai A.r 0) rfl (aeO (ae:=S++F) (i:=1) hO rfl bp.mC.rh LC (ah fl (ah (ho h1) (bz (fun h2=>?_) (fun h2=>?_))))));exact oP hO (by unfold mg;grind);exact⟨rfl,rfl,h1,by omega⟩;rintro aF aa ⟨rfl,rfl,aM,bS⟩
 try simp only[cu,cv]
 have eh:aj aa ((S++(F++[(A.q,⟨A.ao,true⟩),(A.r,⟨cY A.q A.n 2 A.f A.aJ.length,true⟩),(B.q,⟨B.ao,true⟩),(B.r,⟨cY B.q B.n 1 B.f B.aJ.length,true⟩)]))++[(c7,⟨gv bU A.r B.r l kv,true⟩),(bU,⟨fQ cd fv bI.dF,true⟩)]):=
  hO.e4 (gI fun p=>by simp_all[rn])
 refine azr fY eL aM rP aD eh ?_;intro H v iU X b7 ca g3 g4 g5 hO
 replace hO:aj H (((S++X)++F)++rn A B c7 bU cd kv iU l (bI.nV l.cz l.k1.1 l.k1.2).2.dF):=
  hO.e4 (gI fun p=>by simp_all[rn])
 unfold mg at ag;rw[if_neg he]at ag;simp only at ag;rw[if_neg (by omega)]at ag;generalize hf:bI.nV l.cz l.k1.1 l.k1.2=r at*;obtain⟨⟨B8,afY⟩,fn⟩:=r;simp only at ag b7 ca g3 g4 g5 hO⊢;have SG:∀ {A B:gB} {kv fv:Value} {l:ff} {dF:Nat},(((S++X)++F)++rn A B c7 bU cd kv fv l dF)[((S++X)++F).length+4]?=some (c7,⟨gv bU A.r B.r l kv,true⟩):=aA rfl;refine ah jT (ah jU (ah fl (bz (fun h1=>?_) (fun h1=>?_))));rw[if_pos h1]at ag;refine aU (aP hO _ SG (v:=ai A.r 0) rfl (aU (aP hO _ SG (v:=int l.fb) rfl ?_)));obtain⟨av,sc,iB,tW⟩:=b7.kz;subst tW;refine ah (azs _ _ _ _) (awk (ae:=(S++X)++F) (i:=1) (j:=0) hO rfl rfl (by decide) bp.mC (b3.fD b7) (b3.afX b7) (fun h2=>absurd h2 (by omega)) ?_);intro _ cB bu x2 hO;have eh:aj cB (((S++X)++(F++[(A.q,⟨bu,true⟩),(A.r,⟨cY A.q A.n 2 A.f (A.aJ.length+1),true⟩),(B.q,⟨B.ao,true⟩),(B.r,⟨cY B.q B.n 1 B.f B.aJ.length,true⟩),(bU,⟨fQ cd iU fn.dF,true⟩)]))++[(c7,⟨gv bU A.r B.r l kv,true⟩)]):=
  hO.e4 (gI fun p=>by simp only[rn,set_cons_zero,set_cons_succ,countP_append,countP_cons,countP_nil];omega)
 refine ay9 fY.app eL.w eh ?_;intro iN hO;refine ag iN X (A.kZ bu [int l.fb,.slice av sc iB]) B kv iU B0 .gl ?_ ?_;refine⟨bp.app.kZ x2 ⟨_,rfl,b7,ca,g4⟩ (by grind),an.app,?_,g5,eL.on⟩;rcases SF l with al|⟨g,m,al⟩
 rw[afV al];exact fY.app;rw[afW al];exact fY.app;have de:aj iN (((S++X)++F)++[(A.q,⟨bu,true⟩),(A.r,⟨cY A.q A.n 2 A.f (A.aJ.length+1),true⟩),(B.q,⟨B.ao,true⟩),(B.r,⟨cY B.q B.n 1 B.f B.aJ.length,true⟩),(c7,⟨gv bU A.r B.r l.on kv,true⟩),(bU,⟨fQ cd iU fn.dF,true⟩)]):=
  hO.e4 (gI fun p=>by grind)
 rw[<- RX (bu:=bu) (dg:=[int l.fb,.slice av sc iB]) A]at de;exact de;rw[if_neg h1]at ag;refine ah fl (bz (fun h2=>?_) (fun h2=>?_));rw[if_pos h2]at ag;have eh:aj H (((S++X)++(F++[(A.q,⟨A.ao,true⟩),(A.r,⟨cY A.q A.n 2 A.f A.aJ.length,true⟩),(B.q,⟨B.ao,true⟩),(B.r,⟨cY B.q B.n 1 B.f B.aJ.length,true⟩),(bU,⟨fQ cd iU fn.dF,true⟩)]))++[(c7,⟨gv bU A.r B.r l kv,true⟩)]):=
  hO.e4 (gI fun p=>by simp only[rn,countP_append,countP_cons,countP_nil];omega)
 refine afM (Nat.le_trans eL.left (by omega)) eh ?_;intro iN hO;refine ag iN X A B kv iU .gl .gl ⟨bp.app,an.app,?_,g5,eL.try⟩ ?_;unfold ff.try;split<;>exact fY.app;exact hO.e4 (gI fun p=>by simp only[rn,countP_append,countP_cons,countP_nil];omega);rw[if_neg h2]at ag;refine aU (fm hO _ SG rfl (show 7<8 by omega) (bu:=gv bU A.r B.r {l with bA:=afY} kv) rfl ?_);intro iN hO;rw[Go.Ab.cb]at hO;exact ag iN X A B kv iU .gl .gl ⟨bp.app,an.app,fY.app,g5,eL.bA afY⟩ hO;intro a bA Fk cB bu x2 de;cases CW:eS with
 | nil=>rw[CW]at an;have:=an.len;rw[Fk]at this;simp at this
 | cons eC r=>
  rw[CW]at ag an;obtain⟨cq,R0,xA,azu,kD⟩:=an.tail;rw[Fk]at xA;injection xA with bb bt
  injection bb with bb _
  subst bb bt;unfold mg at ag;rw[if_neg he]at ag;simp only at ag;refine ah jT (ah jU (fg rfl ?_));have eh:aj cB ((S++(F++[(A.q,⟨A.ao,true⟩),(A.r,⟨cY A.q A.n 2 A.f A.aJ.length,true⟩),(B.q,⟨bu,true⟩),(B.r,⟨cY B.q B.n 1 ((B.f+1)%B.n) bA.length,true⟩),(bU,⟨fQ cd fv bI.dF,true⟩)]))++[(c7,⟨gv bU A.r B.r l kv,true⟩)]):=
   de.e4 (gI fun p=>by simp only[rn,set_cons_zero,set_cons_succ,countP_append,countP_cons,countP_nil];omega)
  refine aza fY (Nat.le_trans eL.left (by omega)) azu eh ?_;intro iN w2 X azv hO;exact ag iN X A (B.dO bu bA) w2 fv .gl Lw ⟨bp.app,⟨x2,kD.ts fun _ _=>vI.app⟩,azv,rP.app,eL.follow eC⟩ (hO.e4 (gI fun p=>by simp only[rn,gB.dO,countP_append,countP_cons,countP_nil];omega))
end J
namespace J
open Go Go.Ab
variable[cr:bW]
variable{H:ar}{ae S F N R:List (Nat×ay)}{ab:VH}{v w:Value}{ao bu:List Value}{p q r n f i k m N:Nat}{iT st:Int}
theorem azw(x:Value)(H:ar):(tH P .clear [134]).f [x] H=yJ [int 0,bq] x H:=by rfl
theorem azx(x:Value)(H:ar):(tH P .clear [269]).f [x] H=yJ [.nilIface] x H:=by rfl
theorem afZ{z:List Value}(h:z.all eA=true):∀n,(fR n z).all eA=true
 | 0=>rfl
 | n+1=>by show(hP z (fR n z)).all eA=true;rw[iv,all_append,h,afZ h n];rfl
theorem af0{z:List Value}{c:Nat}{ab:VH}(hO:aj H ae)(aq:ae[i]?=some (q,⟨ao,true⟩))(aE:ao.length=n*z.length)(h1:z.all eA=true)(ag:∀aa bu,aj aa (ae.set i (q,⟨bu,true⟩))->ab (.tuple #[]) aa):af (yJ z (aC q 0 n c) H) ab:=by unfold yJ;simp only;by_cases aN:Nat.beq n 0=true;rw[if_pos aN];exact bV rfl (ag H ao (by rw[OG aq];exact hO));rw[if_neg aN];obtain⟨aa,aM,aw⟩:=FW (o:=0) (vs:=fR n z) hO aq (by rw[Ih];omega) (afZ h1 n);rw[aM];exact bV rfl (ag aa _ aw)
theorem azy(hO:aj H (ae++[(q,⟨ao,true⟩),(r,⟨cY q n 2 f k,true⟩)]))(aE:ao.length=n*2)(ag:∀aa,aj aa ae->ab (int k) aa):az P 153 [ai r 0] H ab:=by
 apply aqD;unfold aap;refine aU (aP hO (ae.length+1) (aA rfl) (v:=int k) rfl (aU (aP hO (ae.length+1) (aA rfl) (v:=aC q 0 n 5) rfl ?_)));rw[azw];refine af0 hO (i:=ae.length+0) (aA rfl) aE rfl ?_;intro H kY hO;rw[Go.Ab.cb]at hO
 replace hO:aj H (ae++[(q,⟨kY,true⟩),(r,⟨cY q n 2 f k,true⟩)]):=hO
 refine aU (fm hO (ae.length+1) (aA rfl) rfl (show 1<4 by omega) (bu:=[aC q 0 n 5,int 0,int k,.bool false]) rfl ?_);intro H hO;rw[Go.Ab.cb]at hO;refine aU (fm hO (ae.length+1) (aA rfl) rfl (show 2<4 by omega) (bu:=[aC q 0 n 5,int 0,int 0,.bool false]) rfl ?_);intro H hO;rw[Go.Ab.cb]at hO;refine aU (fm hO (ae.length+1) (aA rfl) rfl (show 3<4 by omega) (bu:=[aC q 0 n 5,int 0,int 0,.bool true]) rfl ?_);intro H hO;rw[Go.Ab.cb]at hO;exact ag H hO.left
theorem af1(hO:aj H (ae++[(q,⟨ao,true⟩),(r,⟨cY q n 1 f k,true⟩)]))(aE:ao.length=n*1)(ag:∀aa,aj aa ae->ab (int k) aa):az P 154 [ai r 0] H ab:=by
 apply aqE;unfold aaq;refine aU (aP hO (ae.length+1) (aA rfl) (v:=int k) rfl (aU (aP hO (ae.length+1) (aA rfl) (v:=aC q 0 n 3) rfl ?_)));rw[azx];refine af0 hO (i:=ae.length+0) (aA rfl) aE rfl ?_;intro H kY hO;rw[Go.Ab.cb]at hO
 replace hO:aj H (ae++[(q,⟨kY,true⟩),(r,⟨cY q n 1 f k,true⟩)]):=hO
 refine aU (fm hO (ae.length+1) (aA rfl) rfl (show 1<4 by omega) (bu:=[aC q 0 n 3,int 0,int k,.bool false]) rfl ?_);intro H hO;rw[Go.Ab.cb]at hO;refine aU (fm hO (ae.length+1) (aA rfl) rfl (show 2<4 by omega) (bu:=[aC q 0 n 3,int 0,int 0,.bool false]) rfl ?_);intro H hO;rw[Go.Ab.cb]at hO;refine aU (fm hO (ae.length+1) (aA rfl) rfl (show 3<4 by omega) (bu:=[aC q 0 n 3,int 0,int 0,.bool true]) rfl ?_);intro H hO;rw[Go.Ab.cb]at hO;exact ag H hO.left
structure hK where
 A:gB
 B:gB
 C:gB
 c:Nat
 w:Nat
 b8:Nat
 c7:Nat
 bU:Nat
 cd:Nat
 cD:Nat
 eC:Nat
 ew:Nat
 oX:Value
 kv:Value
 fv:Value
 bY:Value
 ct:Value
 EA:Value
 EB:Value
 T:List (Nat×ay)
 L:kV
def hK.W(q:hK):jB:={A:=q.C,bY:=q.EA,hk:=q.EB,l:=q.b8,c:=q.w,L:=q.L}
def hK.bx(q:hK)(p:dG):List Value:=eU q.oX p.c.t q.A.r q.B.r q.C.r p.c.aI q.bY q.ct p.c.dK p.c.bA
def oF(q:hK)(ng:Nat)(st iT:Int):List Value:=[ai q.b8 0,bQ .u64 ng,ai q.A.r 0,ai q.B.r 0,ai q.C.r 0,ai q.c7 0,ai q.c 0,ai q.w 0,ai q.cD 0,int st,int iT]
def k2(q:hK)(p:dG):List (Nat×ay):=
 [(q.c,⟨q.bx p,true⟩),(q.b8,⟨fp p.w.s q.L.cG,true⟩),(q.w,⟨q.W.jw p.w,true⟩),(q.bU,⟨fQ q.cd q.fv p.bI.dF,true⟩),(q.cD,mD p.d.fF p.d.lZ q.eC p.d.fa.length),(q.eC,mE p.d.fa),(q.ew,⟨oF q p.w.cK p.st p.iT,true⟩)]++du q.L p.w.m
def yB(q:hK)(p:dG):List (Nat×ay):=
 [(q.A.q,⟨q.A.ao,true⟩),(q.A.r,⟨cY q.A.q q.A.n 2 q.A.f q.A.aJ.length,true⟩),(q.B.q,⟨q.B.ao,true⟩),(q.B.r,⟨cY q.B.q q.B.n 1 q.B.f q.B.aJ.length,true⟩),(q.C.q,⟨q.C.ao,true⟩),(q.C.r,⟨cY q.C.q q.C.n 1 q.C.f q.C.aJ.length,true⟩),(q.c7,⟨gv q.bU q.A.r q.B.r p.l q.kv,true⟩)]++q.T
structure af2 (S:List (Nat×ay)) (q:hK) (p:dG):Prop where
 bx:uC S p.c q.A q.B q.C q.oX q.bY q.ct q.T
 cw:Ca S q.A q.B q.cd q.kv q.fv p.l p.c.jA p.c.eS p.bI
 wr:jQ S {p.w with q:=p.c.iS} q.W
 sc:q.A.n=p.c.bU
 cU:0<=p.w.aI.cU
structure tx (S:List (Nat×ay)) (q:hK) (p:dG) (N:Nat):Prop where
 tz:p.c.aI.b6
 w3:eY S q.bY p.c.aI.bo
 w4:q.ct=.pointer none\/∃st,q.ct=ai st 0
 w5:Lv q.ct=p.c.aw.isSome
 uK:p.w.aI.b6
 s:p.w.s.b6
 m:nU p.w.m
 own:kp q.L p.w.m
 ke:p.w.m.hN N
 bI:pU S q.cd q.fv p.bI
 dF:p.bI.dF<=N
 d1:p.d.fa.length=3
 d2:∀y∈p.d.fa,0<=y/\y<=p.d.fF
 kT:p.d.fF<=1099511627776
 eV:p.st=1->af2 S q p
def c8(H:ar)(S F:List (Nat×ay))(q:hK)(p:dG)(N:Nat):Prop:=tx S q p N/\∃R,(p.st=1->R=yB q p)/\aj H ((S++(F++R))++k2 q p)
structure hK.fB (q fq:hK):Prop where
 ew:fq.ew=q.ew
 bU:fq.bU=q.bU
 cd:fq.cd=q.cd
 b8:fq.b8=q.b8
 L:q.L.Eq fq.L
theorem hK.fB.gl{q:hK}:q.fB q:=⟨rfl,rfl,rfl,rfl,.gl⟩
theorem hK.fB.trans{q fq q2:hK}(h:q.fB fq)(a6:fq.fB q2):q.fB q2:=⟨a6.ew.trans h.ew,a6.bU.trans h.bU,a6.cd.trans h.cd,a6.b8.trans h.b8,h.L.trans a6.L⟩
variable{q:hK}{p:dG}
theorem k3{k:Nat}{x:Nat×ay}(h:(k2 q p)[k]?=some x):((S++(F++R))++k2 q p)[(S++(F++R)).length+k]?=some x:=aA h
theorem Hl(h:c8 H S F q p N)(ag:ab (int p.st) H):az P 15 [ai q.ew 0] H ab:=by obtain⟨_,R,_,hO⟩:=h;apply aoC;unfold X6;exact aU (aP hO _ (k3 (k:=6) rfl) (v:=int p.st) rfl ag)
theorem azz(h:c8 H S F q p N)(ag:ab (int p.iT) H):az P 19 [ai q.ew 0] H ab:=by obtain⟨_,R,_,hO⟩:=h;apply aoH;unfold Yc;exact aU (aP hO _ (k3 (k:=6) rfl) (v:=int p.iT) rfl ag)
theorem azA(h:c8 H S F q p N)(ag:ab (int p.w.wr) H):az P 21 [ai q.ew 0] H ab:=by obtain⟨aQ,R,_,hO⟩:=h;apply aoI;unfold Yd;refine aU (aP hO _ (k3 (k:=6) rfl) (v:=ai q.w 0) rfl ?_);apply apy;unfold Y6;exact aU (aP hO _ (k3 (k:=2) rfl) (v:=int p.w.wr) (Si aQ.uK.cX) ag)
theorem azB{s:fM}{t:Nat}(h:s.b6):(s.drop t).b6:=by unfold fM.drop;split;exact⟨by simp_all,h.p⟩;exact h
theorem LS(hb:st≠1)(h:c8 H S F q p N)(h1:p.st=1)(ag:∀aa,c8 aa S F q (p.pF st iT) N->ab (.tuple [].toArray) aa):az P 85 [ai q.ew 0,int st,int iT] H ab:=by
 obtain⟨aQ,R,U,hO⟩:=h;obtain rfl:=U h1;have hL:=aQ.eV h1;apply apI;unfold Zg;have er:∃G,G=(S++F)++(((q.c7,(⟨gv q.bU q.A.r q.B.r p.l q.kv,true⟩:ay))::q.T)++([(q.c,(⟨q.bx p,true⟩:ay)),(q.w,⟨q.W.jw p.w,true⟩),(q.bU,⟨fQ q.cd q.fv p.bI.dF,true⟩),(q.cD,mD p.d.fF p.d.lZ q.eC p.d.fa.length),(q.eC,mE p.d.fa)]++du q.L p.w.m)):=⟨_,rfl⟩;obtain⟨G,er⟩:=er;have eh:aj H (G++[(q.ew,⟨oF q p.w.cK p.st p.iT,true⟩),(q.b8,⟨fp p.w.s q.L.cG,true⟩),(q.A.q,⟨q.A.ao,true⟩),(q.A.r,⟨cY q.A.q q.A.n 2 q.A.f q.A.aJ.length,true⟩),(q.B.q,⟨q.B.ao,true⟩),(q.B.r,⟨cY q.B.q q.B.n 1 q.B.f q.B.aJ.length,true⟩),(q.C.q,⟨q.C.ao,true⟩),(q.C.r,⟨cY q.C.q q.C.n 1 q.C.f q.C.aJ.length,true⟩)]):=by rw[er];exact hO.e4 (gI fun p=>by simp only[k2,yB,countP_append,countP_cons,countP_nil];omega)
 refine aU (fm eh (G.length+0) (aA rfl) rfl (show 9<11 by omega) (bu:=oF q p.w.cK st p.iT) rfl ?_);intro H hO;rw[Go.Ab.cb]at hO;refine aU (fm hO (G.length+0) (aA rfl) rfl (show 10<11 by omega) (bu:=oF q p.w.cK st iT) rfl ?_);intro H hO;rw[Go.Ab.cb]at hO;refine aU (aP hO (G.length+0) (aA rfl) (v:=ai q.b8 0) rfl (aU (aP hO (G.length+0) (aA rfl) (v:=bQ .u64 p.w.cK) rfl ?_)));have eh:aj H (((G++[(q.ew,⟨oF q p.w.cK st iT,true⟩)])++[(q.b8,⟨fp p.w.s q.L.cG,true⟩)])++[(q.A.q,⟨q.A.ao,true⟩),(q.A.r,⟨cY q.A.q q.A.n 2 q.A.f q.A.aJ.length,true⟩),(q.B.q,⟨q.B.ao,true⟩),(q.B.r,⟨cY q.B.q q.B.n 1 q.B.f q.B.aJ.length,true⟩),(q.C.q,⟨q.C.ao,true⟩),(q.C.r,⟨cY q.C.q q.C.n 1 q.C.f q.C.aJ.length,true⟩)]):=
  hO.e4 (gI fun p=>by simp_all)
 refine axo eh ?_;intro H hO;refine aU (aP hO (G.length+0) (aK (aK (aA rfl))) (v:=ai q.A.r 0) rfl ?_);have eh:aj H ((((G++[(q.ew,⟨oF q p.w.cK st iT,true⟩)])++[(q.b8,⟨fp (p.w.s.drop p.w.cK) q.L.cG,true⟩)])++[(q.B.q,⟨q.B.ao,true⟩),(q.B.r,⟨cY q.B.q q.B.n 1 q.B.f q.B.aJ.length,true⟩),(q.C.q,⟨q.C.ao,true⟩),(q.C.r,⟨cY q.C.q q.C.n 1 q.C.f q.C.aJ.length,true⟩)])++[(q.A.q,⟨q.A.ao,true⟩),(q.A.r,⟨cY q.A.q q.A.n 2 q.A.f q.A.aJ.length,true⟩)]):=
  hO.e4 (gI fun p=>by simp only[countP_append,countP_cons,countP_nil];omega)
 refine azy eh hL.bx.a.mC.len ?_;intro H hO;refine aU (aP hO (G.length+0) (aK (aK (aA rfl))) (v:=ai q.B.r 0) rfl ?_);have eh:aj H ((((G++[(q.ew,⟨oF q p.w.cK st iT,true⟩)])++[(q.b8,⟨fp (p.w.s.drop p.w.cK) q.L.cG,true⟩)])++[(q.C.q,⟨q.C.ao,true⟩),(q.C.r,⟨cY q.C.q q.C.n 1 q.C.f q.C.aJ.length,true⟩)])++[(q.B.q,⟨q.B.ao,true⟩),(q.B.r,⟨cY q.B.q q.B.n 1 q.B.f q.B.aJ.length,true⟩)]):=
  hO.e4 (gI fun p=>by simp only[countP_append,countP_cons,countP_nil];omega)
 refine af1 eh hL.bx.b.mC.len ?_;intro H hO;refine aU (aP hO (G.length+0) (aK (aK (aA rfl))) (v:=ai q.C.r 0) rfl (af1 hO hL.bx.c.mC.len ?_));intro H hO;refine ag H ⟨⟨aQ.tz,aQ.w3,aQ.w4,aQ.w5,aQ.uK,azB aQ.s,aQ.m,aQ.own,aQ.ke,aQ.bI,aQ.dF,aQ.d1,aQ.d2,aQ.kT,fun h=>absurd h hb⟩,(q.c7,⟨gv q.bU q.A.r q.B.r p.l q.kv,true⟩)::q.T,fun h=>absurd h hb,?_⟩;rw[er]at hO;exact hO.e4 (gI fun sQ=>by show _=List.countP sQ ((S++(F++_))++([(q.c,(⟨q.bx p,true⟩:ay)),(q.b8,⟨fp (p.w.s.drop p.w.cK) q.L.cG,true⟩),(q.w,⟨q.W.jw p.w,true⟩),(q.bU,⟨fQ q.cd q.fv p.bI.dF,true⟩),(q.cD,mD p.d.fF p.d.lZ q.eC p.d.fa.length),(q.eC,mE p.d.fa),(q.ew,⟨oF q p.w.cK st iT,true⟩)]++du q.L p.w.m));simp only[countP_append,countP_cons,countP_nil];omega)
end J
namespace J
open Go Go.Ab
variable[cr:bW]
variable{H:ar}{S F R:List (Nat×ay)}{ab:VH}{v w:Value}{r k m N:Nat}{e iT st a:Int}{q:hK}{p:dG}{eo:Nat}{lN dK:Bool}
theorem c8.mono(h:c8 H S F q p N){vN:Nat}(nT:N<=vN):c8 H S F q p vN:=by obtain⟨⟨h1,h2,aB,bk,cj,dh,fP,hM,iC,my,sO,sP,SH,SI,uk⟩,aQ⟩:=h;exact⟨⟨h1,h2,aB,bk,cj,dh,fP,hM,iC.mono nT,my,Nat.le_trans sO nT,sP,SH,SI,uk⟩,aQ⟩
theorem azC{l:List Int}{fF:Int}{k:Nat}(h:∀y∈l,0<=y/\y<=fF)(aN:0<=fF):∀y∈l.set k fF,0<=y/\y<=fF:=by grind
theorem af3(h:tx S q p N):0<=p.d.fF:=by
 have h1:=h.d1;have h2:=h.d2;cases aw:p.d.fa with
 | nil=>simp_all
 | cons a r=>grind[mem_cons_self]
theorem SJ(aM:eo<3)(h:c8 H S F q p N)(h1:p.st=1)(ag:∀aa,c8 aa S F q (p.lN eo lN e dK).2 N->ab (.bool lN) aa):az P 62 [ai q.ew 0,int eo,.bool lN,int e,.bool dK] H ab:=by
 apply apk;unfold YS;refine e6 (fun aF aa=>aF=[ai q.ew 0,.bool lN,int e,.bool dK]/\c8 aa S F q (if lN then {p with d:=p.d.LH eo}else p) N) ?_ ?_;cases lN with
 | false=>exact et rfl (⟨rfl,h⟩)
 | true=>refine fg rfl ?_;obtain⟨aQ,R,U,hO⟩:=h;refine aU (aP hO _ (k3 (k:=6) rfl) (v:=ai q.cD 0) rfl (ayX hO _ _ (k3 (k:=4) rfl) (k3 (k:=5) rfl) ?_));intro H hO;rw[Go.Ab.cb]at hO;have aO:=aQ.d1;rw[if_pos (by omega),Int.toNat_natCast]at hO;refine⟨rfl,⟨aQ.tz,aQ.w3,aQ.w4,aQ.w5,aQ.uK,aQ.s,aQ.m,aQ.own,aQ.ke,aQ.bI,aQ.dF,by show(p.d.fa.set eo p.d.fF).length=3;simp_all,azC aQ.d2 (af3 aQ),aQ.kT,fun h=>⟨(aQ.eV h).bx,(aQ.eV h).cw,(aQ.eV h).wr,(aQ.eV h).sc,(aQ.eV h).cU⟩⟩,R,U,?_⟩;have e:k2 q {p with d:=p.d.LH eo}=[(q.c,(⟨q.bx p,true⟩:ay)),(q.b8,⟨fp p.w.s q.L.cG,true⟩),(q.w,⟨q.W.jw p.w,true⟩),(q.bU,⟨fQ q.cd q.fv p.bI.dF,true⟩),(q.cD,mD p.d.fF p.d.lZ q.eC (p.d.fa.set eo p.d.fF).length),(q.eC,mE (p.d.fa.set eo p.d.fF)),(q.ew,⟨oF q p.w.cK p.st p.iT,true⟩)]++du q.L p.w.m:=rfl;rw[if_pos rfl,e,length_set];exact hO
 rintro aF H ⟨rfl,h⟩
 try simp only[cu,cv]
 have zq:(if lN then {p with d:=p.d.LH eo}else p:dG).st=1:=by grind
 unfold dG.lN at ag;simp only at ag;refine ah ik (bz (fun he=>?_) (fun he=>?_));rw[if_pos he]at ag;exact LS (by decide) h zq ag;rw[if_neg he]at ag;cases dK with
 | true=>exact fg rfl (LS (by decide) h zq ag)
 | false=>exact et rfl (ag H h)
theorem azD(h:c8 H S F q p N)(h1:p.st=1)(ag:∀aa,c8 aa S F q p.Hh.2 N->ab (.bool p.Hh.1) aa):az P 60 [ai q.ew 0] H ab:=by apply api;unfold YQ;have a6:=h;obtain⟨aQ,R,U,hO⟩:=h;have aO:=aQ.d1;refine aU (aP hO _ (k3 (k:=6) rfl) (v:=ai q.cD 0) rfl (ayV hO _ _ (k3 (k:=4) rfl) (k3 (k:=5) rfl) (by omega) (by omega) aQ.d2 aQ.kT ?_));unfold dG.Hh w1.R3 at ag;by_cases aD:p.d.lZ<=p.d.fF-B6 p.d.fa;rw[if_pos aD]at ag⊢;refine ah ik (rK (by decide) (LS (by decide) a6 h1 ?_));intro aa hg;exact ah ik (ag aa hg);rw[if_neg aD]at ag⊢;exact ah ik (nr (by decide) (ah ik (ag H a6)))
theorem azE(h:c8 H S F q p N)(ag:∀aa,c8 aa S F q (p.z1 a) N->ab (.tuple [].toArray) aa):az P 24 [ai q.ew 0,int a] H ab:=by apply aoL;unfold Yg;have a6:=h;obtain⟨aQ,R,U,hO⟩:=h;refine aU (aP hO _ (k3 (k:=6) rfl) (v:=int p.st) rfl (ah fl ?_));unfold dG.z1 at ag;refine bz (fun h1=>?_) (fun h1=>?_);rw[if_pos h1]at ag;refine aU (aP hO _ (k3 (k:=6) rfl) (v:=ai q.cD 0) rfl (ayW hO _ (k3 (k:=4) rfl) (af3 aQ) aQ.kT ?_));intro H hO;rw[Go.Ab.cb]at hO;have aB:=aQ.kT;exact ag H ⟨⟨aQ.tz,aQ.w3,aQ.w4,aQ.w5,aQ.uK,aQ.s,aQ.m,aQ.own,aQ.ke,aQ.bI,aQ.dF,aQ.d1,fun y a8=>by have:=aQ.d2 y a8;show 0<=y/\y<=p.d.fF+max 0 (min a (1099511627776-p.d.fF));omega,by show p.d.fF+max 0 (min a (1099511627776-p.d.fF))<=1099511627776;omega,fun h=>⟨(aQ.eV h).bx,(aQ.eV h).cw,(aQ.eV h).wr,(aQ.eV h).sc,(aQ.eV h).cU⟩⟩,R,U,hO⟩;rw[if_neg h1]at ag;exact ag H a6
theorem azF(h:c8 H S F q p N)(ag:∀aa,c8 aa S F q p.B7.2 N->ab (.bool p.B7.1) aa):az P 29 [ai q.ew 0] H ab:=by apply aoO;unfold Yj;have a6:=h;obtain⟨aQ,R,U,hO⟩:=h;refine aU (aP hO _ (k3 (k:=6) rfl) (v:=int p.st) rfl (ah ik ?_));unfold dG.B7 at ag;refine bz (fun h1=>?_) (fun h1=>?_);rw[if_pos h1]at ag;exact ag H a6;rw[if_neg h1]at ag;exact LS (by decide) a6 (by omega) ag
end J
namespace J
open Go Go.Ab
variable[cr:bW]
variable{H:ar}{ae S F X R:List (Nat×ay)}{ab:VH}{v w:Value}{ao:List Value}{r n f i m N:Nat}{iT st a:Int}{q:hK}{p:dG}{lN:Bool}
theorem azG{c7 bU r1 r2:Nat}{l:ff}{kv:Value}(hO:aj H ae)(aq:ae[i]?=some (c7,⟨gv bU r1 r2 l kv,true⟩))(ag:ab (int l.bA) H):az P 63 [ai c7 0] H ab:=by apply apl;unfold YT;exact aU (aP hO i aq (v:=int l.bA) rfl ag)
theorem azH{n:Nat}{l:ff}{bJ:List (Int×List Int)}{eS:List j5}{bI:jX}:(mg n l bJ eS bI).2.2.2.2.dF<=bI.dF+1:=by
 unfold mg;split
 simp_all
 split
 simp_all
 split
 simp_all
 have h:(bI.nV l.cz l.k1.1 l.k1.2).2.dF<=bI.dF+1:=by
  unfold jX.nV
  grind
 grind
def dG.z7(p:dG):dG:=
 {p with l:=(mg p.c.bU p.l p.c.jA p.c.eS p.bI).2.1,c:={p.c with jA:=(mg p.c.bU p.l p.c.jA p.c.eS p.bI).2.2.1,eS:=(mg p.c.bU p.l p.c.jA p.c.eS p.bI).2.2.2.1},bI:=(mg p.c.bU p.l p.c.jA p.c.eS p.bI).2.2.2.2}
theorem af4(p:dG):p.afH=p.z7.lN 0 (mg p.c.bU p.l p.c.jA p.c.eS p.bI).1 p.z7.l.bA false:=by rfl
theorem azI(nT:N<=1000000)(h:c8 H S F q p N)(h1:p.st=1)(ag:∀aa fq X,q.fB fq->fq.c7=q.c7->c8 aa (S++X) F fq p.z7 (N+1)->ab (.bool (mg p.c.bU p.l p.c.jA p.c.eS p.bI).1) aa):az P 61 [ai q.c7 0] H ab:=by
 obtain⟨aQ,R,U,hO⟩:=h;obtain rfl:=U h1;have hL:=aQ.eV h1;have eh:aj H ((S++(F++([(q.C.q,(⟨q.C.ao,true⟩:ay)),(q.C.r,⟨cY q.C.q q.C.n 1 q.C.f q.C.aJ.length,true⟩),(q.c,⟨q.bx p,true⟩),(q.b8,⟨fp p.w.s q.L.cG,true⟩),(q.w,⟨q.W.jw p.w,true⟩),(q.cD,mD p.d.fF p.d.lZ q.eC p.d.fa.length),(q.eC,mE p.d.fa),(q.ew,⟨oF q p.w.cK p.st p.iT,true⟩)]++(q.T++du q.L p.w.m))))++rn q.A q.B q.c7 q.bU q.cd q.kv q.fv p.l p.bI.dF):=
  hO.e4 (gI fun p=>by simp only[k2,yB,rn,countP_append,countP_cons,countP_nil];omega)
 have Ko:=aQ.dF;refine azt hL.cw (by omega) eh ?_;rw[hL.sc];intro aa X hE dj w2 iU Hm Hn pV hO;have iD:=hL.bx;have xj:dj.n=p.c.bU:=Hn.n.trans iD.ft;refine ag aa {q with A:=hE,B:=dj,kv:=w2,fv:=iU} X ⟨rfl,rfl,rfl,rfl,.gl⟩ rfl ⟨⟨aQ.tz,aQ.w3.app,aQ.w4,aQ.w5,aQ.uK,aQ.s,aQ.m,aQ.own,aQ.ke.mono (le_succ N),pV.bI,Nat.le_trans azH (by omega),aQ.d1,aQ.d2,aQ.kT,fun _=>⟨⟨iD.kv.app,iD.zT,iD.rh,iD.ui,pV.a,pV.b,iD.c.app,xj,iD.G5,iD.ok,iD.bY.app,iD.bl.app⟩,pV,hL.wr.app,Hm.n.trans hL.sc,hL.cU⟩⟩,_,fun _=>rfl,?_⟩;obtain⟨kL,gR,sc,SK,oG,SL⟩:=hE;obtain⟨kM,eB,ft,SM,ph,SN⟩:=dj;obtain⟨c1,c2,a3⟩:=Hm;obtain⟨b1,b2,hB⟩:=Hn;simp only at c1 c2 a3 b1 b2 hB;subst c1 c2 a3 b1 b2 hB;refine hO.e4 (gI fun sQ=>?_);show _=List.countP sQ (((S++X)++(F++([(q.A.q,(⟨oG,true⟩:ay)),(q.A.r,⟨cY q.A.q q.A.n 2 SK SL.length,true⟩),(q.B.q,⟨ph,true⟩),(q.B.r,⟨cY q.B.q q.B.n 1 SM SN.length,true⟩),(q.C.q,⟨q.C.ao,true⟩),(q.C.r,⟨cY q.C.q q.C.n 1 q.C.f q.C.aJ.length,true⟩),(q.c7,⟨gv q.bU q.A.r q.B.r p.z7.l w2,true⟩)]++q.T)))++([(q.c,(⟨q.bx p,true⟩:ay)),(q.b8,⟨fp p.w.s q.L.cG,true⟩),(q.w,⟨q.W.jw p.w,true⟩),(q.bU,⟨fQ q.cd iU p.z7.bI.dF,true⟩),(q.cD,mD p.d.fF p.d.lZ q.eC p.d.fa.length),(q.eC,mE p.d.fa),(q.ew,⟨oF q p.w.cK p.st p.iT,true⟩)]++du q.L p.w.m));unfold dG.z7;simp only[rn,countP_append,countP_cons,countP_nil];omega
end J
namespace J
open Go Go.Ab
variable[cr:bW]
variable{H:ar}{ae S F X R:List (Nat×ay)}{ab:VH}{v w:Value}{ao:List Value}{r n f i k m N:Nat}{iT st a:Int}{q:hK}{p:dG}{eo:Int}{lN dK:Bool}
def dG.LU(p:dG):dG:={p with c:=p.c.step.2}
def dG.rw(p:dG):Bool×bN:=({p.w with q:=p.c.iS}:bN).step
def dG.yC(p:dG):dG:={p with w:=p.rw.2,c:={p.c with iS:=p.rw.2.q}}
theorem af5(p:dG):p.iK=p.LU.lN 1 p.c.step.1 p.LU.c.bA false:=rfl
theorem af6(p:dG):p.afI=p.yC.lN 2 p.rw.1 p.yC.w.bA (decide (p.yC.w.dL=4)):=rfl
theorem azJ{aw:Option (List Int×Nat)}{aI:dm}{ct:Value}{T:List (Nat×ay)}(h:sN S aI aw ct T):Lv ct=aw.isSome:=by cases h<;>rfl
theorem azK(h:c8 H S F q p N)(h1:p.st=1)(ag:∀aa fq X,q.fB fq->fq.c=q.c->c8 aa (S++X) F fq p.LU N->ab (.bool p.c.step.1) aa):az P 64 [ai q.c 0] H ab:=by
 obtain⟨aQ,R,U,hO⟩:=h;obtain rfl:=U h1;have hL:=aQ.eV h1;have aD:zU S (F++([(q.c7,(⟨gv q.bU q.A.r q.B.r p.l q.kv,true⟩:ay)),(q.b8,⟨fp p.w.s q.L.cG,true⟩),(q.w,⟨q.W.jw p.w,true⟩),(q.bU,⟨fQ q.cd q.fv p.bI.dF,true⟩),(q.cD,mD p.d.fF p.d.lZ q.eC p.d.fa.length),(q.eC,mE p.d.fa),(q.ew,⟨oF q p.w.cK p.st p.iT,true⟩)]++du q.L p.w.m)) p.c q.A q.B q.C q.c q.oX H:=
  ⟨q.bY,q.ct,q.T,hL.bx,hO.e4 (gI fun sQ=>by simp only[k2,yB,gY,hK.bx,countP_append,countP_cons,countP_nil];omega)⟩
 refine axh aD ?_;intro aa X hE dj hi Hm Hn azL aD;obtain⟨af7,R2,dW,iD,hO⟩:=aD;have yD:=hL.wr;refine ag aa {q with A:=hE,B:=dj,C:=hi,bY:=af7,ct:=R2,T:=dW} X ⟨rfl,rfl,rfl,rfl,.gl⟩ rfl ⟨⟨iD.ok,iD.bY,iD.bl.aw5,azJ iD.bl,aQ.uK,aQ.s,aQ.m,aQ.own,aQ.ke,aQ.bI.app,aQ.dF,aQ.d1,aQ.d2,aQ.kT,fun _=>⟨iD,⟨iD.a,iD.b,hL.cw.ek.app,hL.cw.bI.app,hL.cw.ok⟩,⟨iD.c,yD.aI,yD.bY.app,yD.gi.app,yD.rl,yD.s,yD.m,yD.own,yD.dv,yD.wr⟩,?_,hL.cU⟩⟩,_,fun _=>rfl,?_⟩;show hE.n=p.c.step.2.bU;rw[Hm.n,hL.sc,<- hL.bx.ft,<- Hn.n];exact iD.ft;obtain⟨kL,gR,sc,SK,oG,SL⟩:=hE;obtain⟨kM,eB,ft,SM,ph,SN⟩:=dj;obtain⟨kN,cV,G5,kg,nW,Ho⟩:=hi;obtain⟨c1,c2,a3⟩:=Hm;obtain⟨b1,b2,hB⟩:=Hn;obtain⟨eP,dR,ij⟩:=azL;simp only at c1 c2 a3 b1 b2 hB eP dR ij;subst c1 c2 a3 b1 b2 hB eP dR ij;refine hO.e4 (gI fun sQ=>?_);show _=List.countP sQ (((S++X)++(F++([(q.A.q,(⟨oG,true⟩:ay)),(q.A.r,⟨cY q.A.q q.A.n 2 SK SL.length,true⟩),(q.B.q,⟨ph,true⟩),(q.B.r,⟨cY q.B.q q.B.n 1 SM SN.length,true⟩),(q.C.q,⟨nW,true⟩),(q.C.r,⟨cY q.C.q q.C.n 1 kg Ho.length,true⟩),(q.c7,⟨gv q.bU q.A.r q.B.r p.l q.kv,true⟩)]++dW)))++([(q.c,(⟨eU q.oX p.c.step.2.t q.A.r q.B.r q.C.r p.c.step.2.aI af7 R2 p.c.step.2.dK p.c.step.2.bA,true⟩:ay)),(q.b8,⟨fp p.w.s q.L.cG,true⟩),(q.w,⟨q.W.jw p.w,true⟩),(q.bU,⟨fQ q.cd q.fv p.bI.dF,true⟩),(q.cD,mD p.d.fF p.d.lZ q.eC p.d.fa.length),(q.eC,mE p.d.fa),(q.ew,⟨oF q p.w.cK p.st p.iT,true⟩)]++du q.L p.w.m));simp only[gY,countP_append,countP_cons,countP_nil];omega
theorem af8{w:bN}{bI:j5}:(w.jJ bI).s=w.s/\(w.jJ bI).cK=w.cK/\(w.jJ bI).dc=w.dc/\(w.jJ bI).m=w.m/\(w.dL≠4->(w.jJ bI).dL≠4):=by
 unfold bN.jJ;by_cases aN:w.dL=0;rw[if_pos aN]
 grind[bN.yw]
 rw[if_neg aN];cases bI with
 | nn h8 m=>simp_all
 | rk a=>simp_all
 | body a c=>grind[bN.body]
 | ed=>grind
theorem af9{w:bN}:w.step.2.s=w.s/\w.step.2.cK=w.cK/\w.step.2.dc=w.dc:=by
 unfold bN.step;split
 simp_all
 split;show w.pe.s=_/\w.pe.cK=_/\w.pe.dc=_;unfold bN.pe;split<;>exact⟨rfl,rfl,rfl⟩;split;show w.oA.s=_/\w.oA.cK=_/\w.oA.dc=_;unfold bN.oA;split;exact⟨rfl,rfl,rfl⟩;split<;>exact⟨rfl,rfl,rfl⟩;split;rename_i x ak _;show(w.fill x ak).s=_/\(w.fill x ak).cK=_/\(w.fill x ak).dc=_;unfold bN.fill;split<;>exact⟨rfl,rfl,rfl⟩
 grind[af8]
theorem azM(nT:N<=1000000)(h:c8 H S F q p N)(h1:p.st=1)(ag:∀aa fq X,q.fB fq->fq.w=q.w->c8 aa (S++X) F fq p.yC (N+1)->ab (.bool p.rw.1) aa):az P 66 [ai q.w 0] H ab:=by
 obtain⟨aQ,R,U,hO⟩:=h;obtain rfl:=U h1;have hL:=aQ.eV h1;have eh:jL H S (F++([(q.A.q,(⟨q.A.ao,true⟩:ay)),(q.A.r,⟨cY q.A.q q.A.n 2 q.A.f q.A.aJ.length,true⟩),(q.B.q,⟨q.B.ao,true⟩),(q.B.r,⟨cY q.B.q q.B.n 1 q.B.f q.B.aJ.length,true⟩),(q.c7,⟨gv q.bU q.A.r q.B.r p.l q.kv,true⟩),(q.c,⟨q.bx p,true⟩),(q.bU,⟨fQ q.cd q.fv p.bI.dF,true⟩),(q.cD,mD p.d.fF p.d.lZ q.eC p.d.fa.length),(q.eC,mE p.d.fa),(q.ew,⟨oF q p.w.cK p.st p.iT,true⟩)]++q.T)) {p.w with q:=p.c.iS} q.W:=
  hO.e4 (gI fun sQ=>by show _=List.countP sQ ((((S++_)++[(q.C.q,(⟨q.C.ao,true⟩:ay)),(q.C.r,⟨cY q.C.q q.C.n 1 q.C.f q.C.aJ.length,true⟩),(q.b8,⟨fp p.w.s q.L.cG,true⟩),(q.w,⟨q.W.jw p.w,true⟩)])++du q.L p.w.m));simp only[k2,yB,countP_append,countP_cons,countP_nil];omega)
 refine ayQ hL.wr hL.cU aQ.ke nT eh ?_;intro aa dj X dP aM fj sR hO;obtain⟨⟨kN,cV,G5,kg,nW,Ho⟩,EA,EB,nz,fX,cA⟩:=dj;obtain⟨b1,b2,hB,ml,lS,nO⟩:=dP;simp only[hK.W]at b1 b2 hB ml lS nO;subst b1 b2 hB ml lS;have iD:=hL.bx;have x3:p.rw.2.cK=p.w.cK:=af9.2.1;refine ag aa {q with C:=⟨q.C.q,q.C.r,q.C.n,kg,nW,Ho⟩,EA:=EA,EB:=EB,L:=cA} X ⟨rfl,rfl,rfl,rfl,nO⟩ rfl ⟨⟨aQ.tz,aQ.w3.app,aQ.w4,aQ.w5,aM.aI,aM.s,aM.m,aM.own,sR,aQ.bI.app,by have:=aQ.dF;show p.bI.dF<=N+1;omega,aQ.d1,aQ.d2,aQ.kT,fun _=>⟨⟨iD.kv.app,iD.zT,iD.rh,iD.ui,iD.a.app,iD.b.app,aM.q,iD.ft,iD.G5,iD.ok,iD.bY.app,iD.bl.app⟩,⟨iD.a.app,iD.b.app,hL.cw.ek.app,hL.cw.bI.app,hL.cw.ok⟩,aM,hL.sc,fj⟩⟩,_,fun _=>rfl,?_⟩;refine hO.e4 (gI fun sQ=>?_);show List.countP sQ ((((S++X)++_)++[(q.C.q,(⟨nW,true⟩:ay)),(q.C.r,⟨cY q.C.q q.C.n 1 kg Ho.length,true⟩),(q.b8,⟨fp p.rw.2.s cA.cG,true⟩),(q.w,⟨iq q.b8 p.rw.2.cK p.rw.2.dc q.C.r p.rw.2.aI EA p.rw.2.dv EB p.rw.2.wr p.rw.2.dL p.rw.2.bA,true⟩)])++du cA p.rw.2.m)=List.countP sQ (((S++X)++(F++([(q.A.q,(⟨q.A.ao,true⟩:ay)),(q.A.r,⟨cY q.A.q q.A.n 2 q.A.f q.A.aJ.length,true⟩),(q.B.q,⟨q.B.ao,true⟩),(q.B.r,⟨cY q.B.q q.B.n 1 q.B.f q.B.aJ.length,true⟩),(q.C.q,⟨nW,true⟩),(q.C.r,⟨cY q.C.q q.C.n 1 kg Ho.length,true⟩),(q.c7,⟨gv q.bU q.A.r q.B.r p.l q.kv,true⟩)]++q.T)))++([(q.c,(⟨q.bx p,true⟩:ay)),(q.b8,⟨fp p.rw.2.s cA.cG,true⟩),(q.w,⟨iq q.b8 p.rw.2.cK p.rw.2.dc q.C.r p.rw.2.aI EA p.rw.2.dv EB p.rw.2.wr p.rw.2.dL p.rw.2.bA,true⟩),(q.bU,⟨fQ q.cd q.fv p.bI.dF,true⟩),(q.cD,mD p.d.fF p.d.lZ q.eC p.d.fa.length),(q.eC,mE p.d.fa),(q.ew,⟨oF q p.rw.2.cK p.st p.iT,true⟩)]++du cA p.rw.2.m))
 rw[x3];simp only[countP_append,countP_cons,countP_nil];omega
theorem azN{bx:Nat}{kv:Value}{t:kJ}{r1 r2 fe:Nat}{aI:dm}{bY ct:Value}{bA:Int}{ab:VH}(aO:aI.cD.length=32)(hO:aj H ae)(aq:ae[i]?=some (bx,⟨eU kv t r1 r2 fe aI bY ct dK bA,true⟩))(ag:ab (int bA) H):az P 65 [ai bx 0] H ab:=by apply apn;unfold YV;exact aU (aP hO i aq (v:=int bA) (ae1 aO) ag)
theorem azO{qx l cK dv wr dL mT:Nat}{dc bA:Int}{aI:dm}{bY hk:Value}{ab:VH}(aO:aI.cD.length=32)(hO:aj H ae)(aq:ae[i]?=some (qx,⟨iq l cK dc mT aI bY dv hk wr dL bA,true⟩))(ag:ab (int bA) H):az P 67 [ai qx 0] H ab:=by apply apq;unfold YX;exact aU (aP hO i aq (v:=int bA) (Lx aO) ag)
theorem azP{qx l cK dv wr dL mT:Nat}{dc bA:Int}{aI:dm}{bY hk:Value}{ab:VH}(aO:aI.cD.length=32)(hO:aj H ae)(aq:ae[i]?=some (qx,⟨iq l cK dc mT aI bY dv hk wr dL bA,true⟩))(ag:ab (.bool (decide (dL=4))) H):az P 68 [ai qx 0] H ab:=by apply apr;unfold YY;refine aU (aP hO i aq (v:=int dL) (G9 aO) (ah fl ?_));rw[decide_eq_decide.2 (show((dL:Int)=4)↔dL=4 by omega)];exact ag
theorem azQ(q:hK)(ng:Nat)(st iT:Int):(oF q ng st iT).all fE=true:=rfl
theorem SO(nT:N<=1000000)(h:c8 H S F q p N)(ag:∀aa fq X,q.fB fq->c8 aa (S++X) F fq (p.step eo).2 (N+1)->ab (.bool (p.step eo).1) aa):az P 14 [ai q.ew 0,int eo] H ab:=by
 apply aoB;unfold X5;have a6:=h;obtain⟨aQ,R,U,hO⟩:=h;have gA:∀aa,c8 aa S F q (p.step eo).2 (N+1)->ab (.bool (p.step eo).1) aa:=fun aa h=>ag aa q [] .gl (by rw[append_nil];exact h)
 refine aU (aP hO _ (k3 (k:=6) rfl) (v:=int p.st) rfl (ah ik ?_));unfold dG.step at ag gA;refine bz (fun h1=>?_) (fun h1=>?_);rw[if_pos h1]at gA;exact gA H (a6.mono (le_succ N));rw[if_neg h1]at ag gA;have h1:p.st=1:=by omega
 refine ah fl (bz (fun h2=>?_) (fun h2=>?_));rw[if_pos h2]at gA;exact azD a6 h1 fun aa hg=>gA aa (hg.mono (le_succ N))
 rw[if_neg h2]at ag gA;refine ah fl (bz (fun h2=>?_) (fun h2=>?_));rw[if_pos h2,af4]at ag;subst h2;refine aU (aP hO _ (k3 (k:=6) rfl) (v:=ai q.c7 0) rfl (azI nT a6 h1 ?_));intro aa fq X aw aE hg;have wC:=hg;obtain⟨aQ,R,U,hO⟩:=hg;obtain rfl:=U h1;rw[<- aw.ew];exact aU (aP hO _ (k3 (k:=6) rfl) (v:=ai fq.c7 0) rfl (azG hO (i:=((S++X).length+(F.length+6))) (aK (aA (aA rfl))) (SJ (eo:=0) (by decide) wC h1 fun cB uL=>ag cB fq X aw uL)));rw[if_neg h2]at ag gA;refine ah fl (bz (fun h2=>?_) (fun h2=>?_));rw[if_pos h2,af5]at ag;subst h2;refine aU (aP hO _ (k3 (k:=6) rfl) (v:=ai q.c 0) rfl (azK a6 h1 ?_));intro aa fq X aw aE hg;have wC:=hg;obtain⟨aQ,R,U,hO⟩:=hg;rw[<- aw.ew];exact aU (aP hO _ (k3 (k:=6) rfl) (v:=ai fq.c 0) rfl (azN aQ.tz.cX hO (k3 (k:=0) rfl) (SJ (eo:=1) (by decide) wC h1 fun cB uL=>ag cB fq X aw (uL.mono (le_succ N)))));rw[if_neg h2]at ag gA;refine ah fl (bz (fun h2=>?_) (fun h2=>?_));rw[if_pos h2,af6]at ag;subst h2;refine aU (aP hO _ (k3 (k:=6) rfl) (v:=ai q.w 0) rfl (azM nT a6 h1 ?_));intro aa fq X aw aE hg;have wC:=hg;obtain⟨aQ,R,U,hO⟩:=hg;rw[<- aw.ew];refine aU (aP hO _ (k3 (k:=6) rfl) (v:=ai fq.w 0) rfl (azO aQ.uK.cX hO (k3 (k:=2) rfl) (aU (aP hO _ (k3 (k:=6) rfl) (v:=ai fq.w 0) rfl (⟨gu hO _ (k3 (k:=6) rfl) hO _ (k3 (k:=6) rfl) (azQ _ _ _ _),?_⟩)))));exact azP aQ.uK.cX hO (k3 (k:=2) rfl) (SJ (eo:=2) (by decide) wC h1 fun cB uL=>ag cB fq X aw uL)
 rw[if_neg h2]at gA;exact gA H (a6.mono (le_succ N))
end J
namespace J
open Go Go.Ab
section
variable[cr:bW]
variable{H:ar}{ae S X R:List (Nat×ay)}{v w:Value}{ao dg:List Value}{aJ:List (List Value)}{r n f i j m:Nat}{cg:ir}
theorem Al.aga{α:Type}{R:α->List Value->Prop}{size:Nat}{l:List α}(h:Al R l aJ)(bS:∀a dg,R a dg->dg.length=size):∀i (aq:i<l.length),∃dg,R l[i] dg/\(aJ.flatten.drop (i*size)).take size=dg:=by
 induction h with
 | nil=>simp_all
 | @cons a b l m h1 h2 a7=>
  intro i aq;cases i with
  | zero=>grind
  | succ i=>
   obtain⟨dg,b7,ca⟩:=a7 i (by simp_all)
   grind[succ_mul,drop_drop,drop_left]
theorem o1.azR{size:Nat}(h:o1 size ae v n ao):Go.Ab.bP v H=some (int n,H):=by rcases h with⟨rfl,rfl,_⟩|⟨p,c,j,w,rfl,_⟩<;>rfl
def uM(S:List (Nat×ay))(o:List UInt8×List Int)(dg:List Value):Prop:=∃hx,dg=[bl o.1,hx]/\b3 S hx o.2/\cl o.2
theorem uM.app{o:List UInt8×List Int}(h:uM S o dg):uM (S++X) o dg:=by obtain⟨hx,h1,h2,aB⟩:=h;exact⟨hx,h1,h2.app,aB⟩
def nX(S:List (Nat×ay))(v:Value)(cg:ir):Prop:=∃aJ,o1 2 S v cg.length aJ.flatten/\Al (uM S) cg aJ
theorem nX.app(h:nX S v cg):nX (S++X) v cg:=by obtain⟨aJ,h1,h2⟩:=h;exact⟨aJ,h1.app,h2.ts fun _ _=>uM.app⟩
theorem nX.bP(h:nX S v cg):Go.Ab.bP v H=some (int cg.length,H):=by obtain⟨aJ,h1,_⟩:=h;exact h1.azR
theorem nX.get(h:nX S v cg)(aq:i<cg.length):∃(p c j:Nat) (w:Bool) (ao:List Value) (hx:Value),v=aC p 0 cg.length c/\S[j]?=some (p,(⟨ao,w⟩:ay))/\(ao.drop (0+i*2)).take 2=[bl cg[i].1,hx]/\b3 S hx cg[i].2/\cl cg[i].2:=by
 obtain⟨aJ,h1,h2⟩:=h;obtain⟨dg,⟨hx,rfl,ca,g3⟩,l2⟩:=h2.aga (size:=2) (fun a dg h=>by obtain⟨hx,rfl,_⟩:=h;rfl) i aq;rcases h1 with⟨_,aN,_⟩|⟨p,c,j,w,rfl,bh,aE⟩
 omega
 grind
theorem LV:cQ P 59=[bl [],bq]:=by rfl
theorem azS(cd:Nat)(a:Option Addr)(n c:Nat):(c9 P 176).f [(0,vx cd),(1,.slice a n c)]=some (agg [vx cd,.slice a n c,int 0]):=by rfl
theorem SP(cd:Nat)(r:ha)(L:bW):eD (iA cd r L).l cd=some r:=by
 show eD ((cd,r)::L.l) cd=_
 simp_all[qa]
theorem LW{ak:List Int}(h:b3 S v ak):eA v=true:=by obtain⟨a,n,c,rfl⟩:=h.kz;rfl
end
variable{H:ar}{bX S F X:List (Nat×ay)}{ab:VH}{v fv:Value}{ao:List Value}{n f j k:Nat}{bj:List iY}{cg:ir}
theorem azT{eN:bW}{cd bU y:Nat}{T:List Value}{off:ir}{N:LN}{bL:LX}{cy:LN}{S2:List (Nat×ay)}(Ey:gZ S2 fv bj)(a8:y<cg.length)(aR:cg.length<=1000)(aE:∀o∈cg,o.1.length<=1000/\o.2.length<=10000)(bC:@nX S v cg)(bd:@tw (S++X) T off)
  (hO:@aj (iA cd (jN T) eN) H (((S++X)++F)++[(bU,⟨fQ cd fv 0,true⟩)]))
  (ag:∀aa dW LY,@tw ((S++X)++LY) dW (qw off (cg[y]'a8))->@aj (iA cd (jN dW) eN) aa ((((S++X)++LY)++F)++[(bU,⟨fQ cd fv 0,true⟩)])->N [.pointer none,ai bU 0,v,int cg.length,int ((y+1:Nat):Int)] aa):
  Kw [.pointer none,ai bU 0,v,int cg.length,int y] H N bL cy:=by
 letI:bW:=iA cd (jN T) eN
 unfold Kw
 try simp only[cu,cv]
 obtain⟨b7,ca⟩:=aE _ (getElem_mem a8);obtain⟨p,c,j,zW,ao,hx,rfl,bh,oV,oH,nj⟩:=bC.get a8;refine ah ez (rK (by omega) (ah (h4 (by omega) (by omega)) ?_));rw[Int.toNat_natCast];refine hG (ao:=[bl cg[y].1,hx]) hO j (aK (aK (aK bh))) oV rfl (by omega) ?_;rw[LV];refine c4 hO ?_;intro e9 H hO;refine e7 hO (_+0) (aA rfl) rfl rfl (by rw[all_cons,all_cons,LW oH];rfl) ?_;intro H hO
 replace hO:=hO.cb
 replace hO:aj H ((((S++X)++F)++[(bU,⟨fQ cd fv 0,true⟩)])++[(e9,⟨[bl cg[y].1,hx],true⟩)]):=hO
 have fP:∀ {bX},(((((S++X)++F)++[(bU,(⟨fQ cd fv 0,true⟩:ay))])++[(e9,(⟨[bl cg[y].1,hx],true⟩:ay))])++bX)[(((S++X)++F)++[(bU,(⟨fQ cd fv 0,true⟩:ay))]).length+0]?=some (e9,⟨[bl cg[y].1,hx],true⟩):=aK (aA rfl);have SQ:((((S++X)++F)++[(bU,(⟨fQ cd fv 0,true⟩:ay))])++[(e9,(⟨[bl cg[y].1,hx],true⟩:ay))])[(((S++X)++F)++[(bU,(⟨fQ cd fv 0,true⟩:ay))]).length+0]?=some (e9,⟨[bl cg[y].1,hx],true⟩):=aA rfl;have Db:∀ {bX},((((S++X)++F)++[(bU,(⟨fQ cd fv 0,true⟩:ay))])++bX)[((S++X)++F).length+0]?=some (bU,⟨fQ cd fv 0,true⟩):=aK (aA rfl);refine ah b0 (aP hO _ SQ (v:=bl cg[y].1) rfl (Lp (by omega) (aU (aP hO _ Db (v:=vx cd) rfl ?_))));have sS:(au P .add 3 true).f (int y) (int 1)=some (int ((y+1:Nat):Int)):=by grind[jg]
 have wX:qw off cg[y]=off->aj H ((((S++X)++F)++[(bU,⟨fQ cd fv 0,true⟩)])++[(e9,⟨[bl cg[y].1,hx],true⟩)])->N [.pointer none,ai bU 0,aC p 0 cg.length c,int cg.length,int ((y+1:Nat):Int)] H:=by intro e hO;refine ag H T [] (by rw[e,append_nil];exact bd) ?_;rw[append_nil];exact hO.left
 rcases bd.SC (hs cg[y].1)with⟨bb,bt⟩|⟨all,av,bb,bt,_⟩
 refine JP hO (SP _ _ _) Hj LM bt (ah jT (ah jU (e6 (fun aF aa=>aF=[.pointer none,ai bU 0,ai e9 0,bl (hs cg[y].1),aC p 0 cg.length c,int cg.length,int y,.bool (decide (ra cg[y].1=0))]/\aa=H) ?_ ?_)));exact ah jF (fg rfl (ah b0 (aP hO _ SQ (v:=bl cg[y].1) rfl (adV (by omega) (ah fl (ah ll (⟨rfl,rfl⟩)))))));rintro aF aa ⟨rfl,rfl⟩
 try simp only[cu,cv]
 refine bz (fun h=>?_) (fun h=>?_);refine aU (aP hO _ Db (v:=vx cd) rfl (ah b0 (aP hO _ SQ (v:=hx) rfl (Kx hO (oH.app.app.app.app) (by omega) ?_))));intro cB dS kY de jh;refine⟨gu hO _ Db de _ (aK Db) (afQ Ey),?_⟩;have lo:=Ex de;refine al6 (L:=eN) lo Hj bt ?_;intro iN y9;refine ah sS (ag iN _ (bB dS kY) ?_ y9);unfold qw;rw[if_pos ⟨bb,h⟩];exact(bd.app).kZ jh.hF.app' nj (by omega);exact ah sS (wX (by simp_all[qw]) hO);refine JP hO (SP _ _ _) Hj LM bt (ah jT (ah jU (e6 (fun aF aa=>aF=[.pointer none,ai bU 0,ai e9 0,bl (hs cg[y].1),aC p 0 cg.length c,int cg.length,int y,.bool false]/\aa=H) ?_ ?_)));exact ah jF (et rfl (ah mr (⟨rfl,rfl⟩)));rintro aF aa ⟨rfl,rfl⟩
 try simp only[cu,cv]
 exact et rfl (ah sS (wX (by simp_all[qw]) hO))
theorem azU[cr:bW]{N:List (Nat×ay)}(h:aj H (((S++F)++X)++N)):aj H (((S++X)++F)++N):=h.e4 (gI fun p=>by grind)
theorem Hp{α:Type}{l:List α}{y:Nat}(h:y<l.length):l.take (y+1)=l.take y++[l[y]]:=by simp_all
theorem azV{eN:bW}{SR agb:Value}(aE:∀o∈cg,o.1.length<=1000/\o.2.length<=10000)(aR:cg.length<=1000)(bC:@nX S SR cg)(hf:@gZ S agb bj)(lB:bj.length<=100000)(wG:∀f∈bj,f.v<256)
  (hO:@aj eN H (S++F)) (ag:∀(cA:bW) aa cd bU fv X,(∀x∈eN.l,x.1<cd)->(∃T,cA=iA cd (jN T) eN)->@pU cA (S++X) cd fv ⟨w0 cg,bj,0⟩->@aj cA aa (((S++X)++F)++[(bU,⟨fQ cd fv 0,true⟩)])->ab (ai bU 0) aa):az P 58 [SR,agb] H ab:=by
 apply apg;unfold YO;refine al5 (L:=eN) hO ?_;intro cd H E9 hO
 letI:bW:=iA cd (jN []) eN
 refine azg hO hf lB ?_;intro H fv X hO mo;obtain⟨a,n,c,rfl⟩:=mo.kz;refine ah (azS _ _ _ _) (c4 hO ?_);intro bU H hO;refine bV bC.bP ?_
 replace hO:@aj (iA cd (jN []) eN) H (((S++X)++F)++[(bU,⟨fQ cd (.slice a n c) 0,true⟩)]):=azU hO
 refine apf (fun k aF aa=>∃(y:Nat) (T:List Value) (uj:List (Nat×ay)),y<=cg.length/\k=cg.length-y/\aF=[.pointer none,ai bU 0,SR,int cg.length,int y]/\tw (S++uj) T ((cg.take y).foldl qw [])/\gZ (S++uj) (.slice a n c) bj/\@aj (iA cd (jN T) eN) aa (((S++uj)++F)++[(bU,⟨fQ cd (.slice a n c) 0,true⟩)])) _ _ ?_ cg.length _ _ ⟨0,[],X,zero_le _,rfl,rfl,trivial,mo,hO⟩;rintro k aF H ⟨y,T,uj,a8,rfl,rfl,bd,mo,hO⟩;by_cases h:y<cg.length;refine azT mo h aR aE bC bd hO ?_;intro aa dW LY azW im;refine⟨_,by omega,y+1,dW,uj++LY,h,rfl,rfl,?_,?_,?_⟩;rw[Hp h,foldl_append,<- append_assoc];exact azW;rw[<- append_assoc];exact mo.app;rw[<- append_assoc];exact im;have e:y=cg.length:=by omega
 subst e;unfold Kw
 try simp only[cu,cv]
 refine ah ez (nr (by omega) ?_);show cond (Nat.beq 0 0) _ _;rw[take_length]at bd;exact ag (iA cd (jN T) eN) H cd bU _ uj E9 ⟨T,rfl⟩ (@pU.mk (iA cd (jN T) eN) _ _ _ _ ⟨T,SP _ _ _,bd⟩ mo wG) hO
end J
