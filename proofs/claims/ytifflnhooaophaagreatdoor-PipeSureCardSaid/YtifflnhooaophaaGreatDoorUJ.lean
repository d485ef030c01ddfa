/- texts of the nF, e5 behind the l0 -/
import Derived.Test.YtifflnhooaophaaGreatDoorUI
set_option linter.unusedVariables false
set_option linter.unusedSimpArgs false
set_option linter.unusedSectionVars false
set_option maxHeartbeats 4000000
set_option maxRecDepth 100000
open List Nat
namespace J
open Go Go.Ab
variable[cr:bW]
end J
namespace J
open Go Go.Ab
variable[cr:bW]
end J
namespace J
open Go Go.Ab
variable[cr:bW]
variable{ae bX:List (Nat×ay)}{v w:Value}{c n size:Nat}{ao:List Value}
def o1(size:Nat)(ae:List (Nat×ay))(v:Value)(n:Nat)(ao:List Value):Prop:=
 (v=bq/\n=0/\ao=[])\/∃(p c j:Nat) (w:Bool),v=aC p 0 n c/\ae[j]?=some (p,(⟨ao,w⟩:ay))/\ao.length=n*size
theorem o1.app(h:o1 size ae v n ao):o1 size (ae++bX) v n ao:=by
 rcases h with h|⟨p,c,j,w,h1,h2,aB⟩
 exact .inl h;exact .inr ⟨p,c,j,w,h1,aK h2,aB⟩
theorem aw2{a p:Nat}(h1:a≠p):nJ [a] [p]=true:=by grind[eq_of_beq_eq_true,nJ,j0,sb]
end J
namespace J
open Go Go.Ab
variable[cr:bW]
end J
namespace J
open Go Go.Ab
variable[cr:bW]
end J
namespace J
open Go Go.Ab
variable[cr:bW]
variable{v aT:Value}{p q o f:Nat}{l:List UInt8}{m:dm}
theorem ae5(aO:m.cD.length=32):(bM m aT).set (0+36) v=bM m v:=by simp_all[bM]
def Lv:Value->Bool
 | .pointer none=>false
 | _=>true
theorem aw3:(au P .neq 251 true).f (.pointer none) (.pointer none)=some (.bool false):=by rfl
theorem aw4{p q o dd:Nat}{l:List Value}(h:p≠q):pG (b9 [ai p o]) (b9 [ai q dd,agg l]):=aw2 h
end J
namespace J
open Go Go.Ab
variable[cr:bW]
variable{H:ar}{S T eN X:List (Nat×ay)}{ab:VH}{v w x aT kv bY ct:Value}{ak aX bs b key:List Int}{p q r n f ba st cN c:Nat}{e bA:Int}{ao bu:List Value}{l:List UInt8}{m aI:dm}{t:kJ}{aJ:List (List Value)}{dg:List Value}{bo:List (List Int)}{dK:Bool}{A B C:gB}{F:List (Nat×ay)}
inductive Al {α β:Type} (R:α->β->Prop):List α->List β->Prop
 | nil:Al R [] []
 | cons {a b l m}:R a b->Al R l m->Al R (a::l) (b::m)
namespace Al
variable{α β:Type}{R R1:α->β->Prop}{l aF:List α}{m iw:List β}
theorem len(h:Al R l m):l.length=m.length:=by
 induction h with
 | nil=>rfl
 | cons _ _ a7=>simp[a7]
theorem ts(aq:∀a b,R a b->R1 a b)(h:Al R l m):Al R1 l m:=by
 induction h with
 | nil=>exact .nil
 | cons h _ a7=>exact .cons (aq _ _ h) a7
theorem app(h:Al R l m)(a6:Al R aF iw):Al R (l++aF) (m++iw):=by
 induction h with
 | nil=>exact a6
 | cons h _ a7=>exact .cons h a7
theorem e5{a:α}{b:β}(h:R a b):Al R [a] [b]:=.cons h .nil
theorem all{p:β->Prop}(bS:∀a b,R a b->p b)(h:Al R l m):∀x∈m,p x:=by
 induction h with
 | nil=>intro x al;cases al
 | cons h _ a7=>intro x al;rcases mem_cons.1 al with rfl|al;exact bS _ _ h;exact a7 x al
end Al
theorem BY.app{p:Int×List Int}(h:BY S p dg):BY (S++X) p dg:=by obtain⟨v,h1,h2,aB,bk⟩:=h;exact⟨v,h1,h2.app,aB,fun h=>(bk h).app⟩
theorem vI.app{s:j5}(h:vI S s dg):vI (S++X) s dg:=by
 cases s with
 | rk a=>exact h
 | nn n m=>obtain⟨aT,h1,h2,aB⟩:=h;exact⟨aT,h1,h2.app,aB⟩
 | body a bs=>obtain⟨v,h1,h2,aB⟩:=h;exact⟨v,h1,h2.app,aB⟩
 | ed=>exact h
structure pS (S:List (Nat×ay)) (R:gB) (l:List (Int×List Int)):Prop where
 mC:iF 2 R.n R.f R.aJ R.ao
 ks:Al (BY S) l R.aJ
 eu:∀p∈l,p.2.length<=1000000
structure pT (S:List (Nat×ay)) (R:gB) (l:List j5):Prop where
 mC:iF 1 R.n R.f R.aJ R.ao
 ks:Al (vI S) l R.aJ
theorem pS.app{l}(h:pS S A l):pS (S++X) A l:=⟨h.mC,h.ks.ts fun _ _=>BY.app,h.eu⟩
theorem pT.app{l}(h:pT S A l):pT (S++X) A l:=⟨h.mC,h.ks.ts fun _ _=>vI.app⟩
theorem pS.len{l}(h:pS S A l):A.aJ.length=l.length:=h.ks.len.symm
theorem pT.len{l}(h:pT S A l):A.aJ.length=l.length:=h.ks.len.symm
theorem pS.zS{l}(h:pS S A l):l.length<=A.n:=by rw[<- h.len];exact h.mC.rh
theorem pT.zS{l}(h:pT S A l):l.length<=A.n:=by rw[<- h.len];exact h.mC.rh
theorem pT.kZ{l}{s:j5}(h:pT S A l)(hg:iF 1 A.n A.f (A.aJ++[dg]) bu)(aw:vI S s dg):pT S (A.kZ bu dg) (l++[s]):=⟨hg,h.ks.app (.e5 aw)⟩
theorem pS.kZ{l}{p:Int×List Int}(h:pS S A l)(hg:iF 2 A.n A.f (A.aJ++[dg]) bu)(aw:BY S p dg)(bS:p.2.length<=1000000):pS S (A.kZ bu dg) (l++[p]):=⟨hg,h.ks.app (.e5 aw),fun q cf=>by
 rcases mem_append.1 cf with h1|h1
 exact h.eu q h1
 simp_all⟩
theorem pS.e5{l}(h:pS S A l):∀e∈A.aJ,e.all eA=true:=h.ks.all fun p dg bS=>by obtain⟨v,rfl,h2,aB,_⟩:=bS;obtain⟨a,n,c,rfl⟩:=h2.kz;rfl
structure iG where
 key:List Int
 t:kJ
 jA:List (Int×List Int)
 eS:List j5
 iS:List j5
 bU:Nat
 jO:Nat
 aI:dm
 aw:Option (List Int×Nat)
 dK:Bool
 bA:Int
def iG.fb(s:iG):Int:=match s.aw with
 | none=>-1
 | some (_,w)=>if w=s.aI.bo.length then-2 else(w:Int)
def iG.G4(s:iG)(b:List Int):iG:=
 if(fh s.key b).2.2≠0 then {s with eS:=s.eS++[.rk (-1)]}
 else if qs (fh s.key b).1 s.t≠0 then {s with bA:=qs (fh s.key b).1 s.t}
 else {s with aI:=(fh s.key b).1,aw:=some ([],0),eS:=s.eS++[.nn (fh s.key b).2.1 (fh s.key b).1],iS:=s.iS++[.nn (fh s.key b).2.1 (fh s.key b).1]}
def iG.jI(s:iG)(ak:List Int)(w:Nat)(aX:List Int):iG:=
 if(aX.length:Int)=(gm s.aI w).2/\hr aX=s.aI.bo.getD w []then {s with aw:=some (ak++aX,w+1),iS:=s.iS++[.body w aX]}
 else {s with eS:=s.eS++[.rk w]}
def iG.pF(s:iG)(ak:List Int):Bool×iG:=
 if s.iS.length=s.jO then(false,s)
 else if hr ak=s.aI.cD then(true,{s with iS:=s.iS++[.ed],dK:=true})else(true,{s with bA:=153})
def iG.yu(s:iG)(r:List (Int×List Int)):iG:={s with jA:=r}
def iG.step(s:iG):Bool×iG:=
 if s.bA≠0\/s.dK=true then(false,s)
 else match s.aw with
  | some (ak,w)=>if w=s.aI.bo.length then s.pF ak else match s.jA with
   | []=>(false,s)
   | p::r=>if s.eS.length=s.bU\/s.iS.length=s.jO then(false,s)else
    (true,if p.1=w then(s.yu r).jI ak w p.2 else s.yu r)
  | none=>match s.jA with
   | []=>(false,s)
   | p::r=>if s.eS.length=s.bU\/s.iS.length=s.jO then(false,s)else
    (true,if p.1=-1 then(s.yu r).G4 p.2 else s.yu r)
inductive sN (S:List (Nat×ay)) (aI:dm):Option (List Int×Nat)->Value->List (Nat×ay)->Prop
 | yv:sN S aI none (.pointer none) []
 | bl (ak:List Int) (cN st:Nat) (aT:Value) (ba:Nat) (eN:List (Nat×ay)):en aI->eY S aT aI.bo->ju ba ak eN->cl ak->cN<=aI.bo.length->ak.length<=cN*2000->sN S aI (some (ak,cN)) (ai st 0) (vJ st aI aT ba cN eN)
theorem sN.app{aw}(h:sN S aI aw ct T):sN (S++X) aI aw ct T:=by
 cases h with
 | yv=>exact .yv
 | bl ak cN st aT ba eN h1 h2 aB bk cj dh=>exact .bl _ _ _ _ _ _ h1 h2.app aB bk cj dh
theorem sN.aw5{aw}(h:sN S aI aw ct T):ct=.pointer none\/∃st,ct=ai st 0:=by
 cases h with
 | yv=>simp_all
 | bl ak cN st=>simp_all
structure uC (S:List (Nat×ay)) (s:iG) (A B C:gB) (kv bY ct:Value) (T:List (Nat×ay)):Prop where
 kv:b3 S kv s.key
 zT:cl s.key
 rh:s.key.length<=1000000
 ui:s.t.cE.length<=1000000
 a:pS S A s.jA
 b:pT S B s.eS
 c:pT S C s.iS
 ft:B.n=s.bU
 G5:C.n=s.jO
 ok:s.aI.b6
 bY:eY S bY s.aI.bo
 bl:sN S s.aI s.aw ct T
theorem aw6{s:iG}(h:uC S s A B C kv bY ct T)(hO:aj H ((S++F)++gY A B C c (eU kv s.t A.r B.r C.r s.aI bY ct s.dK s.bA) T))(ag:ab (int s.fb) H):az P 134 [ai c 0] H ab:=by
 have aw:=h.bl;unfold iG.fb at ag;generalize s.aw=alr at*;cases aw with
 | yv=>exact awM h.ok.cX hO ag
 | bl ak cN st aT ba eN h1 h2 aB bk cj dh=>exact awN h.ok.cX h.ok.cX h2.app hO ag
end J
namespace J
open Go Go.Ab
variable[cr:bW]
variable{H:ar}{S T eN X:List (Nat×ay)}{ab:VH}{w x aT kv bY ct:Value}{ak aX b key:List Int}{p q r n f ba st cN c:Nat}{bA:Int}{bu:List Value}{l:List UInt8}{m aI:dm}{t:kJ}{aJ:List (List Value)}{dg:List Value}{bo:List (List Int)}{dK:Bool}{A B C hE dj hi:gB}{s:iG}{F:List (Nat×ay)}
structure gB.fB (A hE:gB):Prop where
 r:hE.r=A.r
 q:hE.q=A.q
 n:hE.n=A.n
theorem gB.fB.gl:gB.fB A A:=⟨rfl,rfl,rfl⟩
theorem B0:gB.fB A (A.kZ bu dg):=⟨rfl,rfl,rfl⟩
theorem Lw:gB.fB A (A.dO bu aJ):=⟨rfl,rfl,rfl⟩
theorem aw7{ev:List (Nat×ay)}(h:aj H (((S++F)++X)++ev)):aj H (((S++X)++F)++ev):=h.e4 (by rw[append_assoc S F X,append_assoc S X F];exact List.Perm.append_right ev (List.Perm.append_left S perm_append_comm))
def zU(S F:List (Nat×ay))(s:iG)(A B C:gB)(c:Nat)(kv:Value)(H:ar):Prop:=
 ∃bY ct T,uC S s A B C kv bY ct T/\aj H ((S++F)++gY A B C c (eU kv s.t A.r B.r C.r s.aI bY ct s.dK s.bA) T)
theorem aw8{m:dm}{w:Nat}(h:en m):(gm m w).2<=1024:=by grind[gm,en]
theorem pS.dO{l:List (Int×List Int)}{p:Int×List Int}(h:pS S A (p::l))(he:A.aJ=dg::aJ)(hg:iF 2 A.n ((A.f+1)%A.n) aJ bu):BY S p dg/\pS S (A.dO bu aJ) l:=by
 have h1:=h.ks;rw[he]at h1;cases h1 with
 | cons h1 h2=>exact⟨h1,hg,h2,fun q cf=>h.eu q (mem_cons_of_mem _ cf)⟩
theorem ae6(h:uC S s A B C kv bY ct T):s.fb=-2↔∃ak,s.aw=some (ak,s.aI.bo.length):=by
 unfold iG.fb
 grind
theorem aw9(h:uC S s A B C kv bY ct T)(hO:aj H ((S++F)++gY A B C c (eU kv s.t A.r B.r C.r s.aI bY ct s.dK s.bA) T))(al:s.aw=some (ak,s.aI.bo.length))
  (ag:∀aa X hi,gB.fB C hi->zU (S++X) F (s.pF ak).2 A B hi c kv aa->ab (.bool (s.pF ak).1) aa):az P 135 [ai c 0] H ab:=by
 have aw:=h.bl;have⟨h1,h2,aB,bk,cj,dh,fP,hM,iC,my,sO,_⟩:=h;have bb:=fP.len;have bt:=fP.zS;rw[al]at aw;cases aw with
 | bl ak cN st nS ba eN b7 ca g3 g4 g5 l2=>
  have axa:s.aI.bo.length<=64:=by simp_all[en]
  unfold iG.pF at ag;refine awQ my.cX my ca.app hO fP.mC g3 g4 (by omega) ?_ ?_ ?_;intro hf;rw[if_pos (by omega)]at ag;exact ag H [] C .gl ⟨bY,_,_,by rw[append_nil];exact h,by rw[append_nil];exact hO⟩;clear hO;intro hf an H hO;rw[if_neg (by omega),if_neg (by simp_all)]at ag;refine ag H [] C .gl ⟨bY,_,_,?_,by rw[append_nil];exact hO⟩;rw[append_nil];refine⟨h1,h2,aB,bk,cj,dh,fP,hM,iC,my,sO,?_⟩;show sN S s.aI s.aw _ _;rw[al];exact .bl _ _ _ _ _ _ b7 ca g3 g4 g5 l2;clear hO;intro hf an H bu j1 hO;rw[if_neg (by omega),if_pos an.2]at ag;refine ag H [] _ B0 ⟨bY,_,_,?_,by rw[append_nil];exact hO⟩;rw[append_nil];refine⟨h1,h2,aB,bk,cj,dh,fP.kZ j1 rfl,hM,iC,my,sO,?_⟩;show sN S s.aI s.aw _ _;rw[al];exact .bl _ _ _ _ _ _ b7 ca g3 g4 g5 l2
theorem axb(h:uC S s A B C kv bY ct T)(hO:aj H ((S++F)++gY A B C c (eU kv s.t A.r B.r C.r s.aI bY ct s.dK s.bA) T))(al:s.aw=none)(je:s.eS.length<s.bU)(qM:s.iS.length<s.jO)(aM:b3 S w b)(mw:cl b)(o3:b.length<=1000000)
  (ag:∀aa X dj hi,gB.fB B dj->gB.fB C hi->zU (S++X) F (s.G4 b) A dj hi c kv aa->ab (.tuple [].toArray) aa):az P 139 [ai c 0,w] H ab:=by
 have aw:=h.bl;have⟨h1,h2,aB,bk,cj,dh,fP,hM,iC,my,sO,_⟩:=h;have bb:=fP.len;have bt:=dh.len;rw[al]at aw;generalize pI:ct=R2 at aw;generalize bd:T=dW at aw;cases aw with
 | yv=>subst pI bd;unfold iG.G4 at ag;refine awX my.cX hO dh.mC fP.mC h1.app h2 aB aM.app mw o3 bk (by omega) (by omega) ?_ ?_ ?_;clear hO;intro he H bu dP hO;rw[if_pos he]at ag;refine ag H [] _ C B0 .gl ⟨bY,_,_,?_,by rw[append_nil];exact hO⟩;rw[append_nil];refine⟨h1,h2,aB,bk,cj,dh.kZ dP rfl,fP,hM,iC,my,sO,?_⟩;show sN S s.aI s.aw _ _;rw[al];exact .yv;clear hO;intro he bp H hO;rw[if_neg (by omega),if_pos bp]at ag;refine ag H [] B C .gl .gl ⟨bY,_,_,?_,by rw[append_nil];exact hO⟩;rw[append_nil];refine⟨h1,h2,aB,bk,cj,dh,fP,hM,iC,my,sO,?_⟩;show sN S s.aI s.aw _ _;rw[al];exact .yv;clear hO;have ok:=aew (key:=s.key) mw o3;intro he bp U H X aT nS st ba eN kR Ec rj b7 ca dP j1 hO;rw[if_neg (by omega),if_neg (by omega)]at ag;refine ag H X _ _ B0 B0 ⟨aT,_,_,?_,aw7 hO⟩;refine⟨h1.app,h2,aB,bk,cj.app,dh.app.kZ dP ⟨aT,rfl,b7.app',ok⟩,fP.app.kZ j1 ⟨aT,rfl,b7.app',ok⟩,hM,iC,ok,b7.app',?_⟩;exact .bl _ _ _ _ _ _ U ca.app' rj (fun x al=>by cases al) (zero_le _) (zero_le _)
theorem axc(h:uC S s A B C kv bY ct T)(hO:aj H ((S++F)++gY A B C c (eU kv s.t A.r B.r C.r s.aI bY ct s.dK s.bA) T))(al:s.aw=some (ak,cN))(Er:cN≠s.aI.bo.length)(je:s.eS.length<s.bU)(qM:s.iS.length<s.jO)(aM:b3 S w aX)(mw:cl aX)(o3:aX.length<=1000000)
  (ag:∀aa X dj hi,gB.fB B dj->gB.fB C hi->zU (S++X) F (s.jI ak cN aX) A dj hi c kv aa->ab (.tuple [].toArray) aa):az P 140 [ai c 0,agg [int cN,w]] H ab:=by
 have aw:=h.bl;have⟨h1,h2,aB,bk,cj,dh,fP,hM,iC,my,sO,_⟩:=h;have bb:=fP.len;have bt:=dh.len;rw[al]at aw;cases aw with
 | bl ak cN st nS ba eN b7 ca g3 g4 g5 l2=>
  have dy:cN<s.aI.bo.length:=by omega
  have axa:s.aI.bo.length<=64:=by simp_all[en]
  have axd:s.aI.bo.getD cN []=s.aI.bo[cN]:=by simp[dy]
  have pI:=aw8 (w:=cN) b7;unfold iG.jI at ag;rw[axd]at ag;refine awS my.cX my b7 ca.app hO dh.mC fP.mC g3 g4 (by omega) aM.app mw o3 dy (by omega) (by omega) ?_ ?_;clear hO;intro hg H bu dP hO;rw[if_neg hg]at ag;refine ag H [] _ C B0 .gl ⟨bY,_,_,?_,by rw[append_nil];exact hO⟩;rw[append_nil];refine⟨h1,h2,aB,bk,cj,dh.kZ dP rfl,fP,hM,iC,my,sO,?_⟩;show sN S s.aI s.aw _ _;rw[al];exact .bl _ _ _ _ _ _ b7 ca g3 g4 g5 l2;clear hO;intro hg H bu cA rj j1 hO;rw[if_pos hg]at ag;refine ag H [] B _ .gl B0 ⟨bY,_,_,?_,by rw[append_nil];exact hO⟩;rw[append_nil];refine⟨h1,h2,aB,bk,cj,dh,fP.kZ j1 ⟨w,rfl,aM,mw⟩,hM,iC,my,sO,?_⟩;exact .bl _ _ _ _ _ _ b7 ca rj (by intro x al;grind) (by grind) (by grind)
end J
namespace J
open Go Go.Ab
variable[cr:bW]
variable{H:ar}{ae S T eN X:List (Nat×ay)}{ab:VH}{v w kv bY ct:Value}{ak aX:List Int}{i j p r n ba st cN c:Nat}{e bA:Int}{bu:List Value}{aI:dm}{t:kJ}{aJ:List (List Value)}{dg:List Value}{bo:List (List Int)}{dK:Bool}{A B C hE dj hi:gB}{r1 r2 fe:Nat}{s:iG}{F:List (Nat×ay)}
theorem ae7:(eU kv t r1 r2 fe aI bY ct dK bA)[0+4]?=some (ai r1 0):=rfl
theorem axe:(eU kv t r1 r2 fe aI bY ct dK bA)[0+5]?=some (ai r2 0):=rfl
theorem axf:(eU kv t r1 r2 fe aI bY ct dK bA)[0+6]?=some (ai fe 0):=rfl
theorem axg(h:uC S s A B C kv bY ct T):-2<=s.fb/\s.fb<=1000:=by
 have h1:=h.bl;unfold iG.fb;generalize s.aw=aw at*;cases h1 with
 | yv=>simp
 | bl ak cN st nS ba eN b7 ca g3 g4 g5 l2=>grind[en]
theorem axh(h:zU S F s A B C c kv H)(ag:∀aa X hE dj hi,gB.fB A hE->gB.fB B dj->gB.fB C hi->zU (S++X) F s.step.2 hE dj hi c kv aa->ab (.bool s.step.1) aa):az P 64 [ai c 0] H ab:=by
 obtain⟨bY,ct,T,h,hO⟩:=h;have⟨h1,h2,aB,bk,cj,dh,fP,hM,iC,my,sO,sP⟩:=h;have aO:=my.cX;have h0:=cj.len;have jm:=dh.len;have ue:=fP.len;have aDM:=cj.zS;have aDN:=dh.zS;have aDO:=fP.zS;have wX:ab (.bool false) H\/True:=.inr trivial;apply apm;unfold YU;refine aw6 h hO (e6 (fun aF aa=>aF=[ai c 0,int s.fb,.bool (decide (s.bA≠0\/s.dK=true))]/\H=aa) ?_ ?_);refine aU (cw hO 6 rfl (ae1 aO) (ah ik (bz (fun he=>?_) (fun he=>?_))))
 repeat refine bD ?_
 exact⟨by simp_all,rfl⟩;refine aU (cw hO 6 rfl (awG aO) ?_)
 repeat refine bD ?_
 refine⟨?_,rfl⟩
 simp_all
 rintro aF aa ⟨rfl,rfl⟩
 try simp only[cu,cv]
 unfold iG.step at ag;have R3:ab (.bool false) H->ab (.bool false) H:=fun h=>h
 refine bz (fun he=>?_) (fun he=>?_);rw[if_pos he]at ag;exact ag H [] A B C .gl .gl .gl ⟨bY,ct,T,by rw[append_nil];exact h,by rw[append_nil];exact hO⟩;rw[if_neg he]at ag;refine ah fl (bz (fun aM=>?_) (fun aM=>?_));obtain⟨ak,al⟩:=(ae6 h).1 aM;rw[al]at ag;simp only[if_true]at ag;refine aw9 h hO al ?_;intro aa X hi j1 bE;exact ag aa X A B hi .gl .gl j1 bE;have U:=axg h;refine e6 (fun aF aa=>aF=[ai c 0,int s.fb,.bool (decide (s.jA=[]\/s.eS.length=s.bU\/s.iS.length=s.jO))]/\H=aa) ?_ ?_;refine aU (cw hO 6 rfl ae7 (awj (i:=1) hO rfl (ah fl (bz (fun aN=>?_) (fun aN=>?_)))))
 repeat refine bD ?_
 have:s.jA=[]:=by simp_all
 exact⟨by simp_all,rfl⟩;have Ut:¬s.jA=[]:=by simp_all
 refine aU (cw hO 6 rfl axe (Ls (i:=3) hO rfl dh.mC.rh dh.mC.uB (ah fl (ah (ho aN) (bz (fun aB=>?_) (fun aB=>?_))))))
 repeat refine bD ?_
 exact⟨by rw[decide_eq_true (.inr (.inl (by omega)):s.jA=[]\/s.eS.length=s.bU\/s.iS.length=s.jO)],rfl⟩;refine aU (cw hO 6 rfl axf (Ls (i:=5) hO rfl fP.mC.rh fP.mC.uB (ah fl (ah (ho aB) (⟨?_,rfl⟩)))));have:(((C.n-C.aJ.length:Nat):Int)=0)↔(s.jA=[]\/s.eS.length=s.bU\/s.iS.length=s.jO):=by grind
 simp_all
 rintro aF aa ⟨rfl,rfl⟩
 try simp only[cu,cv]
 refine bz (fun aq=>?_) (fun aq=>?_);have kE:=ag H [] A B C .gl .gl .gl;have bE:zU (S++[]) F s A B C c kv H:=⟨bY,ct,T,by rw[append_nil];exact h,by rw[append_nil];exact hO⟩;cases al:s.aw with
 | none=>
  rw[al]at kE;cases bp:s.jA with
  | nil=>rw[bp]at kE;exact kE bE
  | cons y aX=>rw[bp]at kE aq;simp only at kE;rw[if_pos (by simp_all)]at kE;exact kE bE
 | some y=>
  obtain⟨ak,cN⟩:=y;rw[al]at kE;have:¬cN=s.aI.bo.length:=by grind[ae6]
  simp only at kE;rw[if_neg this]at kE;cases bp:s.jA with
  | nil=>rw[bp]at kE;exact kE bE
  | cons y aX=>rw[bp]at kE aq;simp only at kE;rw[if_pos (by simp_all)]at kE;exact kE bE
 have xp:s.jA≠[]:=fun e=>aq (.inl e)
 have je:s.eS.length<s.bU:=by omega
 have qM:s.iS.length<s.jO:=by omega
 obtain⟨cF,jA,bp⟩:∃p r,s.jA=p::r:=by
  cases h:s.jA with
  | nil=>simp_all
  | cons p r=>grind
 refine aU (cw hO 6 rfl ae7 (awm (i:=1) (j:=0) hO rfl rfl (by omega) cj.mC cj.e5 (fun e=>absurd e (by grind)) ?_));intro dg bA qc H bu hA hO
 replace hO:=awZ hO
 rw[bp]at cj;obtain⟨bS,F9⟩:=cj.dO qc hA;obtain⟨w,rfl,ve,xw,_⟩:=bS;have pv:=cj.eu cF (.head _);obtain⟨cP,ni⟩:∃cP,s.yu jA=cP:=⟨_,rfl⟩;have aQ:uC S cP (A.dO bu bA) B C kv bY ct T:=by subst ni;exact⟨h1,h2,aB,bk,F9,dh,fP,hM,iC,my,sO,sP⟩
 replace hO:aj H ((S++F)++gY (A.dO bu bA) B C c (eU kv cP.t (A.dO bu bA).r B.r C.r cP.aI bY ct cP.dK cP.bA) T):=by subst ni;exact hO
 have C6:s.fb=cP.fb:=by subst ni;rfl
 have nk:s.aw=cP.aw:=by subst ni;rfl
 have je:cP.eS.length<cP.bU:=by subst ni;exact je
 have qM:cP.iS.length<cP.jO:=by subst ni;exact qM
 have p8:s.aI=cP.aI:=by subst ni;rfl
 refine ah jT (ah jU ?_);rw[RO];generalize pH:(S++F)++gY (A.dO bu bA) B C c (eU kv cP.t (A.dO bu bA).r B.r C.r cP.aI bY ct cP.dK cP.bA) T=ae at hO;refine ja hO.z ?_;intro cM H hO
 replace hO:aj H (ae++[(cM,⟨[int 0,bq],true⟩)]):=hO
 obtain⟨vK,vL,vM,rfl⟩:=ve.kz;refine kq hO 0 rfl rfl rfl rfl ?_;intro H hO
 replace hO:aj H (ae++[(cM,⟨[int cF.1,.slice vK vL vM],true⟩)]):=hO
 refine ah b0 (cw hO 0 rfl (v:=int cF.1) rfl (ah ik ?_));have R4:∀(z:iG),z=(if cF.1=cP.fb then(match cP.aw with|none=>cP.G4 cF.2|some (ak,w)=>cP.jI ak w cF.2)else cP)->∀aa X hE dj hi,gB.fB A hE->gB.fB B dj->gB.fB C hi->zU (S++X) F z hE dj hi c kv aa->ab (.bool true) aa:=by
  intro z dQ aa X hE dj hi bO q2 dz bE;subst dQ;have kE:=ag aa X hE dj hi bO q2 dz;rw[C6]at aM;have uD:cP.fb=match cP.aw with|none=>-1|some (_,w)=>if w=cP.aI.bo.length then-2 else(w:Int):=rfl
  rw[p8,bp]at kE;cases al:cP.aw with
  | none=>rw[al]at uD bE;rw[nk,al]at kE;simp only at kE uD bE;rw[if_neg (by omega)]at kE;rw[uD]at bE;rw[ni]at kE;exact kE bE
  | some y=>obtain⟨ak,cN⟩:=y;rw[al]at uD bE;rw[nk,al]at kE;simp only at kE uD bE;by_cases e:cN=cP.aI.bo.length;rw[if_pos e]at uD;exact absurd uD aM;rw[if_neg e]at uD kE;rw[if_neg (by omega)]at kE;rw[uD]at bE;rw[ni]at kE;exact kE bE
 rw[C6];refine bz (fun mm=>?_) (fun mm=>?_);refine R4 cP (by simp_all) H [] (A.dO bu bA) B C Lw .gl .gl ⟨bY,ct,T,by rw[append_nil];exact aQ,?_⟩;rw[append_nil,pH];exact hO.left;have mm:cF.1=cP.fb:=Classical.not_not.1 mm;refine ah fl (bz (fun hm=>?_) (fun hm=>?_));have al:cP.aw=none:=by grind[iG.fb]
 refine ah b0 (cw hO 0 rfl (v:=.slice vK vL vM) rfl ?_);have hO:=hO.left;rw[<- pH]at hO;refine axb aQ hO al je qM ve xw pv ?_;intro aa X dj hi q2 dz bE;refine R4 _ ?_ aa X _ dj hi Lw q2 dz bE
 simp_all
 cases al:cP.aw with
 | none=>exfalso;simp_all[iG.fb]
 | some y=>
  obtain⟨ak,cN⟩:=y;have uD:cP.fb=if cN=cP.aI.bo.length then-2 else(cN:Int):=by simp_all[iG.fb]
  have ae8:cN≠cP.aI.bo.length:=by omega
  rw[if_neg ae8]at uD;rw[uD]at mm;refine iQ hO 0 rfl (n:=2) rfl (by omega) ?_;have hO:=hO.left;rw[<- pH]at hO;rw[mm];refine axc aQ hO al ae8 je qM ve xw pv ?_;intro aa X dj hi q2 dz bE;refine R4 _ ?_ aa X _ dj hi Lw q2 dz bE
  simp_all
end J
namespace J
open Go Go.Ab
variable[cr:bW]
variable{H:ar}{ae:List (Nat×ay)}{ab:VH}{v fv:Value}{i l p n cK:Nat}{aZ a:Int}{L:kV}{m:bn}{rZ:List Int}
structure fM where
 dw:Int
 dc:Int
 ng:Nat
 gz:Nat
 fS:Int
 cC:Int
def fp(s:fM)(cG:Nat):List Value:=[int s.dw,int s.dc,bQ .u64 s.ng,ai cG 0,int s.fS,int s.cC,bQ .u64 s.gz]
def fM.uE(s:fM)(cK:Nat):Prop:=s.ng≠0/\s.ng=cK
instance {s:fM}:Decidable (s.uE cK):=by unfold fM.uE;infer_instance
def fM.part(s:fM)(i:Int):Int:=if i<0\/2<=i then-1 else if i=0 then s.fS else s.cC
structure fM.b6 (s:fM):Prop where
 tZ:0<=s.dc/\s.dc<2
 p:0<=s.fS/\0<=s.cC
variable{s:fM}
theorem ae9(hO:aj H (ae++du L m))(ag:∀aa,aj aa (ae++du L {m with eo:=a})->ab (int m.eo) aa):az P 261 [ai L.cG 0,int a] H ab:=by apply arZ;unfold abS;refine aU (aP hO (ae.length+0) (aA rfl) (v:=int m.eo) rfl (aU (fm hO (ae.length+0) (aA rfl) rfl (show 0+2<4 by omega) rfl ?_)));intro H hO;exact ag H hO.cb
theorem afa{a b:Int}(hO:aj H ae)(ag:∀aa,aj aa ae->ab (.bool (decide (n≠0))) aa):az P 86 [agg [int a,int b,bQ .u64 n]] H ab:=by apply apJ;unfold Zh;rw[ri];refine c4 hO ?_;intro cC H hO;refine ah b0 (aP hO (ae.length+0) (aA rfl) (v:=bQ .u64 n) rfl (ah ik ?_));rw[decide_eq_decide.2 (show((n:Int)≠0)↔n≠0 by omega)];exact ag H hO.left
theorem afb(hO:aj H ae)(aq:ae[i]?=some (l,⟨fp s p,true⟩))(ag:∀aa,aj aa ae->ab (.bool (decide (s.uE cK))) aa):az P 107 [ai l 0,bQ .u64 cK] H ab:=by apply apV;unfold Zv;refine aU (hG hO i aq (ao:=[int s.dw,int s.dc,bQ .u64 s.ng]) rfl rfl (by omega) (afa hO ?_));intro H hO;unfold fM.uE at ag;refine bz (fun h=>?_) (fun h=>?_);refine aU (ah b0 (aP hO i aq (v:=bQ .u64 s.ng) rfl (ah WA (ah (hT h) ?_))));rw[decide_eq_decide.2 (show(s.ng=cK)↔(s.ng≠0/\s.ng=cK)from⟨fun h1=>⟨h,h1⟩,fun h1=>h1.2⟩)];exact ag H hO;refine ah (ho h) ?_;have:=ag H hO;rw[decide_eq_false (show¬(s.ng≠0/\s.ng=cK)from fun h1=>h h1.1)]at this;exact this
theorem R5{a:Int}(hO:aj H ae)(aq:ae[i]?=some (l,⟨fp s p,true⟩))(ag:∀aa,aj aa ae->ab (int (s.part a)) aa):az P 151 [ai l 0,int a] H ab:=by
 apply aqA;unfold aal;unfold fM.part at ag;refine e6 (fun aF aa=>aF=[ai l 0,int a]/\¬(a<0\/2<=a)/\aj aa ae) ?_ ?_;refine ah ez (bz (fun h=>?_) (fun h=>?_));refine ah (hT h) (fg rfl ?_);rw[if_pos (.inl h)]at ag;exact ag H hO;refine ah ss (ah (ho h) (bz (fun h1=>?_) (fun h1=>?_)));rw[if_pos (.inr (by omega))]at ag;exact ag H hO;exact⟨rfl,by omega,hO⟩;rintro aF H ⟨rfl,h,hO⟩
 try simp only[cu,cv]
 rw[if_neg h]at ag;refine aU (ah (fy (by omega) (by omega)) ?_);by_cases aN:a=0;subst aN;rw[if_pos rfl]at ag;exact aP hO i aq (v:=int s.fS) rfl (ag H hO);have:a=1:=by omega
 subst this;rw[if_neg (by omega)]at ag;exact aP hO i aq (v:=int s.cC) rfl (ag H hO)
theorem afc:(fp s p).all fE=true:=rfl
theorem R6{a:Int}(hO:aj H (ae++du L m))(aq:ae[i]?=some (l,⟨fp s L.cG,true⟩))(ag:∀aa,aj aa (ae++du L m)->ab (int (m.size (s.part a))) aa):az P 79 [ai l 0,int a] H ab:=by apply apC;unfold Za;refine aU (aP hO i (aK aq) (v:=ai L.cG 0) rfl (R5 hO (aK aq) ?_));intro cB de;refine⟨gu hO i (aK aq) de i (aK aq) afc,?_⟩;exact acE de (ag cB de)
theorem axi{a:Int}(ok:m.b6)(hO:aj H (ae++du L m))(aq:ae[i]?=some (l,⟨fp s L.cG,true⟩))(ag:∀aa v ao,aj aa ((ae++du L m)++bB v ao)->e8 v (m.all (s.part a)) ao->ab v aa):az P 203 [ai l 0,int a] H ab:=by apply aq7;unfold aaV;refine aU (aP hO i (aK aq) (v:=ai L.cG 0) rfl (R5 hO (aK aq) ?_));intro cB de;refine⟨gu hO i (aK aq) de i (aK aq) afc,?_⟩;exact adl ok de ag
def fM.eT(s:fM)(m:bn)(a aZ:Int):List Int×Int:=if s.part a<0 then(sB,101)else m.eT (s.part a) aZ
theorem axj{a:Int}(ok:m.b6)(hO:aj H (ae++du L m))(aq:ae[i]?=some (l,⟨fp s L.cG,true⟩))(ag:∀aa,aj aa (ae++du L m)->ab (.tuple [ot (s.eT m a aZ).1,int (s.eT m a aZ).2].toArray) aa):az P 200 [ai l 0,int a,int aZ] H ab:=by
 apply aq4;unfold aaS;unfold fM.eT at ag;rw[BC];refine c4 hO ?_;intro gH H hO
 replace hO:=hO.nw
 refine R5 hO (aK (aK aq)) ?_;intro H hO;refine ah ez (bz (fun h=>?_) (fun h=>?_));rw[if_pos h]at ag;refine ah Qm (e7 hO (ae.length+0) (aK (aA rfl)) (by rfl) (by rfl) (lG _) ?_);intro H hO;rw[set_append_left _ _ (by simp),Go.Ab.cb]at hO;exact fs hO (ae.length+0) (aK (aA rfl)) (by rfl) (by omega) (ag H hO.nw.left);rw[if_neg h]at ag;refine aU (aP hO i (aK (aK aq)) (v:=ai L.cG 0) rfl (acF ok hO ?_));intro H hO;have D9:=bn.ye ok (part:=s.part a) (aZ:=aZ);refine ah jT (ah jU (e7 hO (ae.length+0) (aK (aA rfl)) (by rfl) (by simp_all) (lG _) ?_));intro H hO;rw[set_append_left _ _ (by simp),Go.Ab.cb]at hO;exact fs hO (ae.length+0) (aK (aA rfl)) (by simp_all) (by omega) (ag H hO.nw.left)
def fM.as(s:fM)(m:bn)(cK:Nat)(f:bn->bn×Int):bn×Int:=if s.uE cK then({(f {m with eo:=s.dw}).1 with eo:=m.eo},(f {m with eo:=s.dw}).2)else(m,161)
theorem R7{f:bn->bn×Int}(aw:s.b6)(hO:aj H (ae++du L m))(hv:kp L m)(aq:ae[i]?=some (l,⟨fp s L.cG,true⟩))
  (Ng:∀aa qk,aj aa (ae++du L {m with eo:=s.dw})->(∀cB cA,L.Eq cA->aj cB (ae++du cA (f {m with eo:=s.dw}).1)->kp cA (f {m with eo:=s.dw}).1->qk (int (f {m with eo:=s.dw}).2) cB)->xG P (tL fv [int (s.part s.dc)]) aa qk)
  (ag:∀aa cA,L.Eq cA->aj aa (ae++du cA (s.as m cK f).1)->kp cA (s.as m cK f).1->ab (int (s.as m cK f).2) aa):az P 236 [ai l 0,bQ .u64 cK,fv] H ab:=by
 apply arE;unfold Qg;unfold fM.as at ag;refine afb hO (aK aq) ?_;intro H hO;refine ah jF ?_;by_cases hh:s.uE cK;rw[if_pos hh]at ag;refine et (by simp[hh]) (aU (aP hO i (aK aq) (v:=ai L.cG 0) rfl (aU (ah b0 (aP hO i (aK aq) (v:=int s.dw) rfl (ae9 hO ?_))))));intro H hO;refine aU (aP hO i (aK aq) (v:=ai L.cG 0) rfl (aU (ah b0 (aP hO i (aK aq) (v:=int s.dc) rfl (aU ?_)))));obtain⟨aN,h1⟩:=aw.tZ;refine ah (fy aN h1) ?_;have bS:(fp s L.cG)[0+4+s.dc.toNat*1]?=some (int (s.part s.dc)):=by
  unfold fM.part;rw[if_neg (by omega)];by_cases h2:s.dc=0;rw[h2];rfl;have:s.dc=1:=by omega
  rw[this];rfl
 refine aP hO i (aK aq) bS (Ng H _ hO ?_);intro cB cA he hO hJ;rw[<- he.m];refine ae9 hO ?_;intro H hO;exact ag H cA he hO ⟨hJ.d,hJ.o⟩;rw[if_neg hh]at ag;exact fg (by simp[hh]) (ag H L kV.Eq.gl hO hv)
theorem G6(ok:m.b6):({m with eo:=a}:bn).b6:=⟨ok.d,ok.s,ok.n⟩
theorem R8{N:Nat}(h:m.hN N):({m with eo:=a}:bn).hN N:=h
theorem R9(h:kp L m):kp L {m with eo:=a}:=⟨h.d,h.o⟩
theorem axk(aw:s.b6)(ok:m.b6)(hm:m.hN 1000000)(hO:aj H (ae++du L m))(hv:kp L m)(aq:ae[i]?=some (l,⟨fp s L.cG,true⟩))
  (ag:∀aa cA,L.Eq cA->aj aa (ae++du cA (s.as m cK (·.gG (s.part s.dc) aZ)).1)->kp cA (s.as m cK (·.gG (s.part s.dc) aZ)).1->ab (int (s.as m cK (·.gG (s.part s.dc) aZ)).2) aa):az P 201 [ai l 0,bQ .u64 cK,int aZ] H ab:=by
 apply aq5;unfold aaT;refine c4 hO ?_;intro eX H hO;refine c4 hO ?_;intro fo H hO
 replace hO:=(hO.as).nw
 replace hO:aj H ((ae++[(eX,⟨[ai l 0],true⟩),(fo,⟨[int aZ],true⟩)])++du L m):=hO
 have fJ:(ae++[(eX,(⟨[ai l 0],true⟩:ay)),(fo,⟨[int aZ],true⟩)])[i]?=some (l,⟨fp s L.cG,true⟩):=aK aq;refine aP hO (ae.length+0) (aK (aA rfl)) (v:=ai l 0) rfl (R7 (f:=(·.gG (s.part s.dc) aZ)) aw hO hv fJ ?_ ?_);clear hO;intro H qk hO G7;show az P 237 [int (s.part s.dc),ai eX 0,ai fo 0] H qk;apply arF;unfold abx;exact aP hO (ae.length+0) (aK (aA rfl)) (v:=ai l 0) rfl (aU (aP hO i (aK fJ) (v:=ai L.cG 0) rfl (aP hO (ae.length+1) (aK (aA rfl)) (v:=int aZ) rfl (ato (G6 ok) (R8 hm) hO (R9 hv) G7))));clear hO;intro H cA he hO hJ;exact ag H cA he (aj.cd hO) hJ
theorem axl(aw:s.b6)(ok:m.b6)(hm:m.hN 1000000)(aE:rZ.length=64)(hO:aj H (ae++du L m))(hv:kp L m)(aq:ae[i]?=some (l,⟨fp s L.cG,true⟩))
  (ag:∀aa cA,L.Eq cA->aj aa (ae++du cA (s.as m cK (·.fz (s.part s.dc) aZ rZ)).1)->kp cA (s.as m cK (·.fz (s.part s.dc) aZ rZ)).1->ab (int (s.as m cK (·.fz (s.part s.dc) aZ rZ)).2) aa):az P 205 [ai l 0,bQ .u64 cK,int aZ,ot rZ] H ab:=by
 apply aq8;unfold aaZ;refine c4 hO ?_;intro cM H hO;refine c4 hO ?_;intro gH H hO
 replace hO:=hO.as
 refine c4 hO ?_;intro dC H hO
 replace hO:=(hO.as).nw
 replace hO:aj H ((ae++[(cM,⟨[ai l 0],true⟩),(gH,⟨[int aZ],true⟩),(dC,⟨a1 rZ,true⟩)])++du L m):=hO
 have fJ:(ae++[(cM,(⟨[ai l 0],true⟩:ay)),(gH,⟨[int aZ],true⟩),(dC,⟨a1 rZ,true⟩)])[i]?=some (l,⟨fp s L.cG,true⟩):=aK aq;refine aP hO (ae.length+0) (aK (aA rfl)) (v:=ai l 0) rfl (R7 (f:=(·.fz (s.part s.dc) aZ rZ)) aw hO hv fJ ?_ ?_);clear hO;intro H qk hO G7;show az P 240 [int (s.part s.dc),ai cM 0,ai gH 0,ai dC 0] H qk;apply arI;unfold abA;exact aP hO (ae.length+0) (aK (aA rfl)) (v:=ai l 0) rfl (aU (aP hO i (aK fJ) (v:=ai L.cG 0) rfl (aP hO (ae.length+1) (aK (aA rfl)) (v:=int aZ) rfl (fs hO (ae.length+2) (aK (aA rfl)) (by simp_all) (by omega) (acN (G6 ok) aE (R8 hm) hO (R9 hv) G7)))));clear hO;intro H cA he hO hJ;exact ag H cA he (aj.cd hO) hJ
theorem axm(aw:s.b6)(ok:m.b6)(hm:m.hN 1000000)(hO:aj H (ae++du L m))(hv:kp L m)(aq:ae[i]?=some (l,⟨fp s L.cG,true⟩))
  (ag:∀aa cA,L.Eq cA->aj aa (ae++du cA (s.as m cK (·.hj)).1)->kp cA (s.as m cK (·.hj)).1->ab (int (s.as m cK (·.hj)).2) aa):az P 202 [ai l 0,bQ .u64 cK] H ab:=by
 apply aq6;unfold aaU;refine c4 hO ?_;intro bw H hO
 replace hO:=hO.nw
 replace hO:aj H ((ae++[(bw,⟨[ai l 0],true⟩)])++du L m):=hO
 have fJ:(ae++[(bw,(⟨[ai l 0],true⟩:ay))])[i]?=some (l,⟨fp s L.cG,true⟩):=aK aq;refine aP hO (ae.length+0) (aK (aA rfl)) (v:=ai l 0) rfl (R7 (f:=(·.hj)) aw hO hv fJ ?_ ?_);clear hO;intro H qk hO G7;show az P 239 [int (s.part s.dc),ai bw 0] H qk;apply arH;unfold abz;exact aP hO (ae.length+0) (aK (aA rfl)) (v:=ai l 0) rfl (aU (aP hO i (aK fJ) (v:=ai L.cG 0) rfl (acO (G6 ok) (R8 hm) hO (R9 hv) G7)));clear hO;intro H cA he hO hJ;exact ag H cA he (aj.cd hO) hJ
def fM.drop(s:fM)(cK:Nat):fM:=if s.uE cK then {s with dw:=0,dc:=0,ng:=0}else s
theorem axn:(c9 P 189).f []=some (agg [int 0,int 0,bQ .u64 0]):=by rfl
theorem axo{afd:List (Nat×ay)}(hO:aj H ((ae++[(l,⟨fp s p,true⟩)])++afd))(ag:∀aa,aj aa ((ae++[(l,⟨fp (s.drop cK) p,true⟩)])++afd)->ab (.bool (decide (s.uE cK))) aa):az P 49 [ai l 0,bQ .u64 cK] H ab:=by apply ao8;unfold YE;unfold fM.drop at ag;refine afb hO (i:=ae.length+0) (aK (aA rfl)) ?_;intro H hO;refine ah jF ?_;by_cases hh:s.uE cK;rw[if_pos hh,decide_eq_true hh]at ag;refine et (by simp[hh]) (ah axn (aU (o0 hO (ae.length+0) (aK (aA rfl)) rfl (show 0+0+3<=7 by omega) rfl ?_)));intro H hO;rw[set_append_left _ _ (by simp),Go.Ab.cb]at hO;exact ag H hO;rw[if_neg hh,decide_eq_false hh]at ag;exact fg (by simp[hh]) (ag H hO)
end J
namespace J
open Go Go.Ab
variable[cr:bW]
variable{H:ar}{ae qZ:List (Nat×ay)}{ab:VH}{v:Value}{ak bs:List Int}{j p:Nat}{e:Int}
theorem axp(h:b3 ae v ak){i n:Nat}(aR:i+n<=ak.length){gK:Option Value}(hm:gK=none\/gK=some (int ((i+n:Nat):Int))):∃aH,gL 1 v (some (int i)) (some (int ((i+n:Nat):Int))) gK=some aH/\qj v ak aH ((ak.drop i).take n):=by
 have an:∀len:Nat,i+n<=len->n2 len (some (int ((i+n:Nat):Int)))=some (i+n):=fun len aE=>by
  show(match j7 0 ((i+n:Nat):Int)with|true=>(match Nat.ble ((i+n:Nat):Int).toNat len with|true=>some ((i+n:Nat):Int).toNat|false=>none)|false=>none)=_
  grind[k9,ble_eq_true_of_le]
 have sf:qG (i+n) (some (int (i:Int)))=some i:=by
  show(match j7 0 (i:Int)with|true=>(match Nat.ble (i:Int).toNat (i+n)with|true=>some (i:Int).toNat|false=>none)|false=>none)=_
  simp_all[k9,ble_eq_true_of_le]
 have AS:∃f,r9 (i+n) (some (int ((i+n:Nat):Int))) gK=some f:=by
  rcases hm with rfl|rfl
  exact⟨false,rfl⟩;refine⟨true,?_⟩;show(match j7 0 ((i+n:Nat):Int)with|true=>(match Nat.beq ((i+n:Nat):Int).toNat (i+n)with|true=>some true|false=>none)|false=>none)=_
  grind[k9,Int.toNat_natCast,beq_refl]
 obtain⟨f,hf⟩:=AS;rcases h with⟨rfl,rfl⟩|⟨p,o,c,rfl,aD,_⟩
 have aN:i=0/\n=0:=by simp_all
 obtain⟨rfl,rfl⟩:=aN;rcases hm with rfl|rfl<;>exact⟨bq,rfl,.none⟩
 have he:∃b5,(b5=2\/b5=3)/\gL 1 (aC p o ak.length c) (some (int i)) (some (int ((i+n:Nat):Int))) gK=some (aC p (o+i) n b5):=by
  generalize int ((i+n:Nat):Int)=hh at an hf⊢;generalize int (i:Int)=ii at sf⊢;rcases aD with rfl|rfl
  refine⟨cond f 3 2,by grind,?_⟩
  simp_all[gL,ru]
  refine⟨cond (f||Nat.beq (i+n) ak.length) 3 2,by grind,?_⟩
  simp_all[gL,ru]
 obtain⟨b5,gx,he⟩:=he;refine⟨_,he,fun hp h=>?_⟩;rcases h with⟨h,_⟩|⟨jf,dd,Qj,jn,_,h⟩
 cases h;cases jn;have aE:((ak.drop i).take n).length=n:=by grind
 refine .inr ⟨p,o+i,b5,by rw[aE],gx,?_⟩;rcases h with rfl|⟨j,b,h1,h2⟩
 simp_all
 refine .inr ⟨j,b,h1,?_⟩;have:=congrArg (fun l=>(List.drop i l).take n) h2;rw[drop_take,drop_drop,take_take,Nat.min_eq_left (by omega)]at this
 simp_all
theorem axq{l q2 dz:Nat}{I:Nat->ar->Prop}(xK:∀k H,I k H->∃(hp:List (Nat×ay)) (BB Sa:Nat),aj H hp/\hp[BB]?=some (q2,⟨[v],true⟩)/\hp[Sa]?=some (dz,⟨[int 64],true⟩)/\b3 hp v bs)(al:bs.length<=1000000)
  (U:∀k,64*k<bs.length->∀H tS,qj v bs tS ((bs.drop (64*k)).take 64)->I k H->xF P (.round l [tS] H) fun b aa=>b=.bool true/\I (k+1) aa)
  (hO:I 0 H) (ag:∀aa,I ((bs.length+63)/64) aa->ab (.tuple [].toArray) aa):az P 279 [uX l,ai q2 0,ai dz 0] H ab:=by
 apply ase;unfold aca;refine asd (fun k aF aa=>∃y:Nat,y<=(bs.length+63)/64/\k=(bs.length+63)/64-y/\aF=[uX l,ai q2 0,ai dz 0,int ((64*y:Nat):Int)]/\I y aa) _ _ ?_ ((bs.length+63)/64) _ _ ⟨0,by omega,rfl,rfl,hO⟩;rintro k aF H ⟨y,a8,rfl,rfl,hO⟩;unfold ab9
 try simp only[cu,cv]
 obtain⟨hp,BB,Sa,bE,h2,aB,hv⟩:=xK y H hO;refine aP bE BB h2 rfl (bV hv.bP (ah ez (bz (fun h=>?_) (fun h=>?_))));have fU:64*y<bs.length:=by omega
 refine aP bE Sa aB rfl (aP bE BB h2 rfl ?_);obtain⟨dS,bb,r1⟩:=KB hv (show 64*y<=bs.length by omega);refine ah bb (bV (r1 _ hv).bP (bV vr (aP bE BB h2 rfl ?_)));have hm:min (64:Int) ((bs.drop (64*y)).length:Int)=((min 64 (bs.length-64*y):Nat):Int):=by grind
 rw[hm];have aR:64*y+min 64 (bs.length-64*y)<=bs.length:=by omega
 refine ah (v:=int ((64*y+min 64 (bs.length-64*y):Nat):Int)) (by grind[jg]) (ah (v:=int ((64*y+min 64 (bs.length-64*y):Nat):Int)) (by grind[jg]) ?_);obtain⟨tS,bt,r2⟩:=axp hv aR (gK:=some (int ((64*y+min 64 (bs.length-64*y):Nat):Int))) (.inr rfl);refine ah bt ?_;have dZ:(bs.drop (64*y)).take (min 64 (bs.length-64*y))=(bs.drop (64*y)).take 64:=by simp_all
 rw[dZ]at r2;refine WK (acm (U y fU H tS r2 hO) ?_);rintro b2 cB ⟨rfl,de⟩;obtain⟨aDP,hl,oe,axr,aDQ,axs,_⟩:=xK (y+1) cB de;exact ah jF (et rfl (aP axr oe axs rfl (ah (v:=int ((64*(y+1):Nat):Int)) (by grind[jg]) (⟨_,by omega,y+1,by omega,rfl,rfl,de⟩))));have lI:y=(bs.length+63)/64:=by omega
 subst lI;exact km rfl (ag _ hO)
def uF(c:List Int):List Int:=c++List.replicate (64-c.length) 255
def oy(n:Nat):Nat:=(n+63)/64
def lM(b:List Int):List (List Int):=(List.range (oy b.length)).map fun k=>uF ((b.drop (64*k)).take 64)
def r0(l:List (List Int)):List Value:=l.flatMap a1
theorem afe{c:List Int}(h:c.length<=64):(uF c).length=64:=by grind[uF]
theorem aff(b:List Int):(lM b).length=oy b.length:=by simp[lM]
theorem axt{b:List Int}:∀s∈lM b,s.length=64:=by
 intro s aw;obtain⟨k,_,rfl⟩:=mem_map.1 aw
 grind[afe]
theorem axu{b:List Int}{k:Nat}(h:k<oy b.length):(lM b).take (k+1)=(lM b).take k++[uF ((b.drop (64*k)).take 64)]:=by simp_all[take_succ_eq_append_getElem,lM]
theorem axv{c:List Int}(h:c.length<=64):(a1 o6).take 0++(a1 c++(a1 o6).drop (0+c.length))=a1 (uF c):=by
 have e:(a1 o6).drop (0+c.length)=a1 (List.replicate (64-c.length) 255):=by simp only[a1,o6,map_replicate,drop_replicate,Nat.zero_add]
 simp_all[uF]
theorem axw(g:Nat->Int)(H:ar):(eg P 131 1).f [(0,ot ((List.range 64).map g))] H=some (aC H.next 0 1 129,H.push (a1 ((List.range 64).map g))):=by rfl
theorem axx{s:List Int}(h:s.length=64)(H:ar):(eg P 131 1).f [(0,ot s)] H=some (aC H.next 0 1 129,H.push (a1 s)):=by grind[KJ,axw]
theorem axy:cQ P 131=[bq]:=by rfl
theorem axz{qt n:Nat}{fV tS:Value}{ao:List Value}{c:List Int}{X:ar->Prop}(hO:aj H ((qZ++[(qt,⟨[fV],true⟩)])++bB fV ao))(hv:il 64 fV n ao)(aD:b3 qZ tS c)(aE:c.length<=64)(aR:n<=1000000)
  (ag:∀aa sC,aj aa ((qZ++[(qt,⟨[sC],true⟩)])++bB sC (ao++a1 (uF c)))->il 64 sC (n+1) (ao++a1 (uF c))->X aa):
  az P 116 [] H fun DT cB=>
  cp (cQ P 102) cB fun t9 uf=>
  af (bm 64 t9 DT uf) fun u xX=>
  ad (l1 64 1 t9 none none none xX) fun t20=>
  af (qF 1 t20 tS xX) fun aDR q0=>
  af (ax (ai qt 0) q0) fun axA Sb=>
  af (bT 64 t9 Sb) fun axB axC=>
  af ((eg P 131 1).f [(0,axB)] axC) fun axD axE=>
  af (fu 64 64 axA axD axE) fun Sc axF=>
  af (bm 1 (ai qt 0) Sc axF) fun afg axG=>X axG:=by
 refine DV hO ?_;intro H hO;rw[BC];refine c4 hO ?_;intro afh H hO;refine e7 hO (((qZ++[(qt,(⟨[fV],true⟩:ay))])++bB fV ao).length+0) (aA rfl) (by rfl) (by rfl) (lG _) ?_;intro H hO
 replace hO:aj H (((qZ++[(qt,⟨[fV],true⟩)])++bB fV ao)++[(afh,⟨a1 o6,true⟩)]):=hO.cb
 refine ah (xU (n:=64) hO (((qZ++[(qt,(⟨[fV],true⟩:ay))])++bB fV ao).length+0) (aA rfl) (by omega) (by simp_all[o6])) (as8 hO (i:=((qZ++[(qt,(⟨[fV],true⟩:ay))])++bB fV ao).length+0) (aA rfl) aD.app.app.app (by omega) (by rw[nx];decide) ?_);intro H hO
 replace hO:aj H (((qZ++[(qt,⟨[fV],true⟩)])++bB fV ao)++[(afh,⟨(a1 o6).take 0++(a1 c++(a1 o6).drop (0+c.length)),true⟩)]):=hO.cb
 rw[show(a1 o6).take 0++(a1 c++(a1 o6).drop (0+c.length))=a1 (uF c)from axv aE]at hO;have pv:=afe aE;refine aP hO (qZ.length+0) (aK (aK (aA rfl))) rfl (fs hO (((qZ++[(qt,(⟨[fV],true⟩:ay))])++bB fV ao).length+0) (aA rfl) (by simp_all) (by omega) ?_)
 replace hO:=hO.left
 refine gj hO (axx pv _) ?_;intro q H hO;refine DU hO hv (by simp_all) (by omega) (lG _) (by omega) (by omega) ?_;intro sC H hO hJ;obtain⟨c1,eZ,eP,bb⟩:∃c1 eZ eP,sC=.slice c1 eZ eP:=by rcases hJ with⟨_,h,_⟩|⟨p,rfl|rfl,_⟩;omega;exact⟨_,_,_,rfl⟩;simp_all
 refine fm hO (qZ.length+0) (aK (aA rfl)) (by rw[bb];rfl) (show 0<1 by omega) rfl ?_;intro H hO;rw[set_append_left _ _ (by simp),Go.Ab.cb]at hO;exact ag H sC hO hJ
theorem axH(hO:aj H ae)(hv:b3 ae v bs)(aE:bs.length<=1000000)(ag:∀(aa:ar) (aH:Value),aj aa (ae++bB aH (r0 (lM bs)))->il 64 aH (lM bs).length (r0 (lM bs))->ab aH aa):az P 241 [v] H ab:=by
 apply arK;unfold abC;rw[axy];refine c4 hO ?_;intro qt H hO;apply ar1;unfold abU;refine c4 hO ?_;intro q2 H hO;refine c4 hO ?_;intro dz q0 hO;obtain⟨c1,eZ,eP,bb⟩:=b3.kz hv;have qM:cZ v=[v]:=by rw[bb];rfl
 rw[qM]at hO;refine aP hO (((ae++[(qt,(⟨[bq],true⟩:ay))])++[(q2,(⟨[v],true⟩:ay))]).length+0) (aA rfl) rfl (ah ez (et rfl ?_));have de:aj q0 (((ae++[(q2,⟨[v],true⟩),(dz,⟨[int 64],true⟩)])++[(qt,⟨[bq],true⟩)])++bB bq (r0 ((lM bs).take 0))):=by
  show aj q0 (((ae++[(q2,⟨[v],true⟩),(dz,⟨[int 64],true⟩)])++[(qt,⟨[bq],true⟩)])++[]);rw[append_nil];have cj:aj q0 ((ae++[(qt,⟨[bq],true⟩)])++[(q2,⟨[v],true⟩),(dz,⟨[int 64],true⟩)]):=by rw[append_assoc (_++[(qt,_)])]at hO;exact hO
  exact cj.nw
 have r2:∀ bX,b3 ((ae++[(q2,(⟨[v],true⟩:ay)),(dz,⟨[int 64],true⟩)])++bX) v bs:=fun bX=>hv.app.app
 refine WJ (L:=cr) de (f:=279) (args:=[uX (Nat.succ q0.next),ai q2 0,ai dz 0]) rfl ?_;intro T bd jq fO nP;generalize hL:iA (Nat.succ q0.next) _ cr=L at nP;refine axq (cr:=L) (l:=Nat.succ q0.next) (v:=v) (bs:=bs) (I:=fun k aa=>∃fV,@aj L aa (((ae++[(q2,⟨[v],true⟩),(dz,⟨[int 64],true⟩)])++[(qt,⟨[fV],true⟩)])++bB fV (r0 ((lM bs).take k)))/\il 64 fV (min k (oy bs.length)) (r0 ((lM bs).take k))) ?_ (by omega) ?_ ⟨bq,nP,.inl ⟨rfl,by omega,rfl⟩⟩ ?_;rintro k aa ⟨fV,h1,h2⟩;exact⟨_,_,_,h1,aK (aK (aA (k:=0) rfl)),aK (aK (aA (k:=1) rfl)),by rw[append_assoc];exact r2 _⟩;rintro k nR H tS Ny ⟨fV,Gt,wR⟩;subst hL;have fY:k<oy bs.length:=by grind[oy]
 have axI:((bs.drop (64*k)).take 64).length<=64:=by grind
 refine WG (n:=18) Gt bd jq rfl (by decide) ?_;rw[arJ];unfold abB;refine WD Gt ?_;intro cB de;rw[Nat.min_eq_left (by omega)]at wR;refine axz (cr:=iA (Nat.succ q0.next) _ cr) de wR (Ny _ (by have:=r2 [];rw[append_nil]at this;exact this)) axI (by omega) ?_;intro iN sC lo afi;have iX:r0 ((lM bs).take k)++a1 (uF ((bs.drop (64*k)).take 64))=r0 ((lM bs).take (k+1)):=by simp_all[axu,r0]
 rw[iX]at lo afi;refine WE lo ?_;intro uf y9;refine⟨rfl,sC,y9,?_⟩;rw[Nat.min_eq_left (by omega)];exact afi;rintro cB ⟨fV,de,wR⟩;subst hL;refine⟨.ready,_,by simp,de,?_⟩;intro iN lo;show af _ _;have h0:(lM bs).take ((bs.length+63)/64)=lM bs:=take_of_length_le (by rw[aff];exact Nat.le_refl _);rw[h0]at lo wR;refine aP lo ((ae++[(q2,(⟨[v],true⟩:ay)),(dz,⟨[int 64],true⟩)]).length+0) (aK (aA rfl)) rfl (ag _ fV ?_ ?_);exact lo.sub (List.Sublist.append (by rw[append_assoc];exact sublist_append_left _ _) (List.Sublist.refl _));rw[aff];have jm:min ((bs.length+63)/64) (oy bs.length)=oy bs.length:=Nat.min_self _;rw[jm]at wR;exact wR
end J
namespace J
open Go Go.Ab
variable[cr:bW]
variable{H:ar}{S X:List (Nat×ay)}{v w x bY hk:Value}{ak bs b:List Int}{j p i l r n dv wr dL cK:Nat}{e bA dc j6 aZ a:Int}{m:bn}{s:fM}{aI:dm}{rZ:List Int}{gi:List (List Int)}
def bn.tu(m:bn):Prop:=∀c∈m.d.cells,cl c.fa
theorem bG.Sd{d:bG}{a:Int}(h:∀c∈d.cells,cl c.fa):∀c∈(d.gG a).1.cells,cl c.fa:=by
 unfold bG.gG;split;exact h;split;exact h;split;exact h;split;exact h;intro c aD;rcases mem_or_eq_of_mem_set aD with aD|rfl
 rcases mem_or_eq_of_mem_set aD with aD|rfl
 exact h c aD;intro x al;simp only[bG.cell]at al;rw[getD_eq_getElem?_getD]at al;by_cases aq:a.toNat<d.cells.length
 grind
 rw[List.getElem?_eq_none (by omega)]at al;have:x=0:=eq_of_mem_replicate al;omega;intro x al;have:x=255:=eq_of_mem_replicate al;omega
theorem bG.Se{d:bG}{a:Int}(h:∀c∈d.cells,cl c.fa)(aw:cl rZ):∀c∈(d.fz a rZ).1.cells,cl c.fa:=by
 unfold bG.fz;split;exact h;split;exact h;split;exact h;split;exact h;intro c aD;rcases mem_or_eq_of_mem_set aD with aD|rfl
 exact h c aD;exact aw
theorem afj{o:Op}(h:m.tu):(m.o9 o e).tu:=by unfold bn.o9;split<;>exact h
theorem bn.Sd(h:m.tu):(m.gG j6 aZ).1.tu:=by unfold bn.gG;split;exact h;exact afj (m:={m with d:=(m.d.gG (m.fH j6 aZ).1).1}) (bG.Sd h)
theorem bn.Se(h:m.tu)(aw:cl rZ):(m.fz j6 aZ rZ).1.tu:=by unfold bn.fz;split;exact h;exact afj (m:={m with d:=(m.d.fz (m.fH j6 aZ).1 rZ).1}) (bG.Se h aw)
theorem bn.axJ(h:m.tu):m.hj.1.tu:=by
 unfold bn.hj bn.tu;unfold bG.hj;split
 ·exact h
 split
 ·exact h
 show∀c∈j2 m.d.cells m.d.done,cl c.fa;have:∀(l:List (Nat×List Int)) (ao:List Cell),(∀c∈ao,cl c.fa)->∀c∈j2 ao l,cl c.fa:=by
  intro l;induction l with
  | nil=>intro ao h;exact h
  | cons x l a7=>
   intro ao h;refine a7 (wP ao x) ?_;intro c aD;rcases mem_or_eq_of_mem_set aD with aD|rfl
   ·exact h c aD
   ·show cl (ao.getD x.1 lq).fa;rw[getD_eq_getElem?_getD];by_cases aq:x.1<ao.length
    ·rw[List.getElem?_eq_getElem aq];exact h _ (getElem_mem aq)
    ·rw[List.getElem?_eq_none (by omega)];intro y a8;have:y=0:=eq_of_mem_replicate a8;omega
 exact this _ _ h
theorem bn.axK(h:m.tu):cl (m.eT j6 aZ).1:=by
 have dQ:cl sB:=fun y a8=>by have:y=0:=eq_of_mem_replicate a8;omega
 unfold bn.eT;split;exact dQ;unfold bG.eT;split;rename_i h1;show cl (m.d.cell _).fa;obtain⟨aq,e⟩:=bG.get h1;rw[<- e];exact h _ (getElem_mem aq);exact dQ
theorem bn.afk(h:m.tu):cl (m.all j6):=by intro x al;unfold bn.all bn.q3 at al;obtain⟨i,_,al⟩:=mem_flatMap.1 al;exact bn.axK h x al
structure nU (m:bn):Prop where
 ok:m.b6
 b:m.tu
theorem Sf{f:bn->bn×Int}(h:nU m)(hf:∀m,nU m->nU (f m).1):nU (s.as m cK f).1:=by unfold fM.as;split;have:=hf {m with eo:=s.dw} ⟨G6 h.ok,h.b⟩;exact⟨G6 this.ok,this.b⟩;exact h
theorem axL{f:bn->bn×Int}{N:Nat}(h:m.hN N)(hf:∀m,m.hN N->(f m).1.hN (N+1)):(s.as m cK f).1.hN (N+1):=by unfold fM.as;split;exact hf _ h;exact h.mono (by omega)
structure bN where
 s:fM
 cK:Nat
 dc:Int
 q:List j5
 aI:dm
 dv:Nat
 gi:List (List Int)
 wr:Nat
 dL:Nat
 bA:Int
 m:bn
def bN.size(w:bN):Nat:=w.m.size (w.s.part w.dc)
def bN.put(w:bN)(r:bn×Int):bN:={w with m:=r.1,bA:=r.2}
def B1(w:bN)(y:Nat):Prop:=(w.s.eT w.m w.dc y).2=0/\(w.s.eT w.m w.dc y).1≠o6
instance {w:bN} {y:Nat}:Decidable (B1 w y):=by unfold B1;infer_instance
def bN.B2(w:bN):Nat->Nat->Option Nat
 | 0,_=>none
 | n+1,y=>if B1 w y then some y else w.B2 n (y+1)
def bN.afl(w:bN)(y:Nat):bN:=w.put (w.s.as w.m w.cK (·.gG (w.s.part w.s.dc) y))
def bN.pe(w:bN):bN:=match w.B2 w.size 0 with
 | some y=>w.afl y
 | none=>{w with dL:=2}
def bN.oz(w:bN):bN:=w.put (w.s.as w.m w.cK (·.hj))
def bN.oA(w:bN):bN:=if w.oz.bA≠0 then w.oz else
 if((w.oz.m.all (w.s.part w.dc)).length:Int)<w.aI.cU\/hr ((w.oz.m.all (w.s.part w.dc)).take w.aI.cU.toNat)≠w.aI.cD then {w.oz with bA:=153}else {w.oz with dL:=4}
def bN.uG(w:bN)(x:List Int):bN:=w.put (w.s.as w.m w.cK (·.fz (w.s.part w.s.dc) w.wr x))
def bN.fill(w:bN)(x:List Int)(ak:List (List Int)):bN:=if(w.uG x).bA=0 then {w.uG x with gi:=ak,wr:=w.wr+1}else w.uG x
def bN.yw(w:bN)(m:dm):bN:=if¬en m then {w with bA:=192}else if m.cU>64*(w.size:Int)then {w with bA:=145}else {w with aI:=m,dL:=1,bA:=0}
def bN.body(w:bN)(a:Int)(bs:List Int):bN:=if a≠w.dv\/(gm w.aI a).2=0\/(bs.length:Int)≠(gm w.aI a).2 then {w with bA:=192}else {w with gi:=lM bs,dv:=w.dv+1,bA:=0}
def bN.jJ(w:bN)(n:j5):bN:=
 if w.dL=0 then(match n with|.nn _ m=>w.yw m|_=>{w with bA:=192})
 else match n with
  | .body a bs=>w.body a bs
  | .ed=>if w.dv<w.aI.bo.length then {w with bA:=192}else {w with dL:=3}
  | _=>{w with bA:=192}
def bN.step(w:bN):Bool×bN:=
 if w.bA≠0\/w.dL=4 then(false,w)
 else if w.dL=1 then(true,w.pe)
 else if w.dL=3 then(true,w.oA)
 else match w.gi with
  | x::ak=>(true,w.fill x ak)
  | []=>match w.q with
   | []=>(false,w)
   | n::q=>(true,({w with q:=q}:bN).jJ n)
def iq(l cK:Nat)(dc:Int)(r:Nat)(aI:dm)(bY:Value)(dv:Nat)(hk:Value)(wr dL:Nat)(bA:Int):List Value:=
 ai l 0::bQ .u64 cK::int dc::ai r 0::(bM aI bY++[int dv,hk,int wr,int dL,int bA])
theorem uH(aO:aI.cD.length=32):(iq l cK dc r aI bY dv hk wr dL bA).length=46:=by simp_all[iq,el]
theorem G8(aO:aI.cD.length=32)(k:Nat):(iq l cK dc r aI bY dv hk wr dL bA)[0+(41+k)]?=[int dv,hk,int wr,int dL,int bA][k]?:=by
 unfold iq;rw[show 0+(41+k)=(37+k)+4 by omega];show(bM aI bY++[int dv,hk,int wr,int dL,int bA])[37+k]?=_
 simp_all[List.getElem?_append_right,el]
theorem Sg(aO:aI.cD.length=32):(iq l cK dc r aI bY dv hk wr dL bA)[0+41]?=some (int dv):=G8 aO 0
theorem Sh(aO:aI.cD.length=32):(iq l cK dc r aI bY dv hk wr dL bA)[0+42]?=some hk:=G8 aO 1
theorem Si(aO:aI.cD.length=32):(iq l cK dc r aI bY dv hk wr dL bA)[0+43]?=some (int wr):=G8 aO 2
theorem G9(aO:aI.cD.length=32):(iq l cK dc r aI bY dv hk wr dL bA)[0+44]?=some (int dL):=G8 aO 3
theorem Lx(aO:aI.cD.length=32):(iq l cK dc r aI bY dv hk wr dL bA)[0+45]?=some (int bA):=G8 aO 4
theorem axM(aO:aI.cD.length=32):(iq l cK dc r aI bY dv hk wr dL bA)[0+4+36]?=some bY:=by
 show(bM aI bY++[int dv,hk,int wr,int dL,int bA])[36]?=_
 grind[q8]
theorem axN(aO:aI.cD.length=32):((iq l cK dc r aI bY dv hk wr dL bA).drop (0+4)).take 37=bM aI bY:=by
 unfold iq;show(bM aI bY++[int dv,hk,int wr,int dL,int bA]).take 37=_
 simp_all[el]
theorem axO(aO:aI.cD.length=32):((iq l cK dc r aI bY dv hk wr dL bA).drop (0+4+4)).take 32=a1 aI.cD:=by simp_all[iq,bM]
theorem Ha(aO:aI.cD.length=32)(k:Nat)(v:Value):(iq l cK dc r aI bY dv hk wr dL bA).set (0+(41+k)) v=ai l 0::bQ .u64 cK::int dc::ai r 0::(bM aI bY++[int dv,hk,int wr,int dL,int bA].set k v):=by
 unfold iq;rw[show 0+(41+k)=(37+k)+4 by omega];show ai l 0::bQ .u64 cK::int dc::ai r 0::((bM aI bY++[int dv,hk,int wr,int dL,int bA]).set (37+k) v)=_
 simp_all[el]
theorem axP(aO:aI.cD.length=32)(n:Nat):(iq l cK dc r aI bY dv hk wr dL bA).set (0+41) (int n)=iq l cK dc r aI bY n hk wr dL bA:=Ha aO 0 _
theorem afm(aO:aI.cD.length=32)(v:Value):(iq l cK dc r aI bY dv hk wr dL bA).set (0+42) v=iq l cK dc r aI bY dv v wr dL bA:=Ha aO 1 _
theorem axQ(aO:aI.cD.length=32)(n:Nat):(iq l cK dc r aI bY dv hk wr dL bA).set (0+43) (int n)=iq l cK dc r aI bY dv hk n dL bA:=Ha aO 2 _
theorem Ly(aO:aI.cD.length=32)(n:Nat):(iq l cK dc r aI bY dv hk wr dL bA).set (0+44) (int n)=iq l cK dc r aI bY dv hk wr n bA:=Ha aO 3 _
theorem Sj(aO:aI.cD.length=32)(n:Int):(iq l cK dc r aI bY dv hk wr dL bA).set (0+45) (int n)=iq l cK dc r aI bY dv hk wr dL n:=Ha aO 4 _
theorem axR{dE:dm}{aT:Value}(aO:aI.cD.length=32)(h2:dE.cD.length=32):(iq l cK dc r aI bY dv hk wr dL bA).take (0+4)++(bM dE aT++(iq l cK dc r aI bY dv hk wr dL bA).drop (0+4+37))=iq l cK dc r dE aT dv hk wr dL bA:=by
 unfold iq;show ai l 0::bQ .u64 cK::int dc::ai r 0::(bM dE aT++(bM aI bY++[int dv,hk,int wr,int dL,int bA]).drop 37)=_
 simp_all[el]
def qu(S:List (Nat×ay))(v:Value)(gi:List (List Int)):Prop:=
 (v=bq/\gi=[])\/∃(p k c j:Nat) (w:Bool) (all:List (List Int)),v=aC p (k*64) gi.length c/\gi=all.drop k/\k<=all.length/\S[j]?=some (p,⟨r0 all,w⟩)/\(∀x∈all,x.length=64)/\(c=128\/c=129)
theorem qu.app(h:qu S v gi):qu (S++X) v gi:=by
 rcases h with h|⟨p,k,c,j,w,all,h1,h2,aB,bk,cj⟩
 exact .inl h;exact .inr ⟨p,k,c,j,w,all,h1,h2,aB,aK bk,cj⟩
theorem qu.bP(h:qu S v gi):bP v H=some (int gi.length,H):=by rcases h with⟨rfl,rfl⟩|⟨p,k,c,j,w,all,rfl,_⟩<;>rfl
theorem qu.e5(h:qu S v gi):eA v=true:=by rcases h with⟨rfl,rfl⟩|⟨p,k,c,j,w,all,rfl,_⟩<;>rfl
end J
namespace J
open Go Go.Ab
variable[cr:bW]
variable{H:ar}{ae hH bX S F X N:List (Nat×ay)}{ab:VH}{v:Value}{ao bu:List Value}{p o k n:Nat}{e aZ:Int}{m:bn}{L cA:kV}{aI:dm}{w:bN}
theorem jK(hO:aj H ((ae++hH)++bX))(k:Nat){b:Bool}(aq:hH[k]?=some (p,⟨ao,b⟩))(hv:ao[o]?=some v)(ag:ab v H):af (ax (ai p o) H) ab:=aP hO (ae.length+k) (aK (aA aq)) hv ag
theorem uI(hO:aj H ((ae++hH)++bX))(k:Nat)(aq:hH[k]?=some (p,⟨ao,true⟩))(h1:eA v=true)(aR:o<ao.length)(aD:ao.set o v=bu)(ag:∀aa,aj aa ((ae++hH.set k (p,⟨bu,true⟩))++bX)->ab undef aa):af (bm 1 (ai p o) v H) ab:=by refine fm hO (ae.length+k) (aK (aA aq)) h1 aR aD ?_;intro aa im;have nR:=(List.getElem?_eq_some_iff.1 aq).1;rw[set_append_left _ _ (by simp_all),Go.Ab.cb]at im;exact ag aa im
theorem Lz(h:aj H ((((S++F)++hH)++bX)++N)):aj H (((S++(F++N))++hH)++bX):=h.e4 (by classical exact perm_iff_count.2 fun _=>by grind)
theorem zV(h:aj H (((S++(F++N))++hH)++bX)):aj H (((S++F)++hH)++bX):=h.sub (by refine List.Sublist.append (List.Sublist.append (List.Sublist.append (List.Sublist.refl S) (sublist_append_left F N)) (List.Sublist.refl _)) (List.Sublist.refl _))
theorem axS(h:aj H ((((S++F)++hH)++bX)++X)):aj H ((((S++X)++F)++hH)++bX):=h.e4 (by classical exact perm_iff_count.2 fun _=>by grind)
structure jB where
 A:gB
 bY:Value
 hk:Value
 l:Nat
 c:Nat
 L:kV
def LA(A:gB)(l:Nat)(axT:List Value)(c:Nat)(jw:List Value):List (Nat×ay):=
 [(A.q,⟨A.ao,true⟩),(A.r,⟨cY A.q A.n 1 A.f A.aJ.length,true⟩),(l,⟨axT,true⟩),(c,⟨jw,true⟩)]
def jB.jw(B:jB)(w:bN):List Value:=iq B.l w.cK w.dc B.A.r w.aI B.bY w.dv B.hk w.wr w.dL w.bA
def jB.fC(B:jB)(w:bN):List (Nat×ay):=LA B.A B.l (fp w.s B.L.cG) B.c (B.jw w)
structure jQ (S:List (Nat×ay)) (w:bN) (B:jB):Prop where
 q:pT S B.A w.q
 aI:w.aI.b6
 bY:eY S B.bY w.aI.bo
 gi:qu S B.hk w.gi
 rl:∀x∈w.gi,cl x
 s:w.s.b6
 m:nU w.m
 own:kp B.L w.m
 dv:w.dv<=100
 wr:w.wr<=4096
structure jB.fB (B dj:jB):Prop where
 r:dj.A.r=B.A.r
 q:dj.A.q=B.A.q
 n:dj.A.n=B.A.n
 l:dj.l=B.l
 c:dj.c=B.c
 L:B.L.Eq dj.L
variable{B dj:jB}
theorem jB.fB.gl:B.fB B:=⟨rfl,rfl,rfl,rfl,rfl,.gl⟩
theorem jQ.app(h:jQ S w B):jQ (S++X) w B:=⟨h.q.app,h.aI,h.bY.app,h.gi.app,h.rl,h.s,h.m,h.own,h.dv,h.wr⟩
def jB.at(B:jB)(L:kV):jB:={B with L:=L}
theorem jB.gu(h:B.L.Eq L):B.fB (B.at L):=⟨rfl,rfl,rfl,rfl,rfl,h⟩
theorem jQ.put(h:jQ S w B){r:bn×Int}(hm:nU r.1)(bC:kp L r.1):jQ S (w.put r) (B.at L):=⟨h.q,h.aI,h.bY,h.gi,h.rl,h.s,hm,bC,h.dv,h.wr⟩
abbrev jL(H:ar)(S F:List (Nat×ay))(w:bN)(B:jB):Prop:=aj H (((S++F)++B.fC w)++du B.L w.m)
theorem Sk{r:bn×Int}(aO:w.aI.cD.length=32)(he:B.L.Eq L)(hO:aj H (((S++F)++B.fC w)++du L r.1))(ag:∀aa,jL aa S F (w.put r) (B.at L)->ab undef aa):af (bm 1 (ai B.c 45) (int r.2) H) ab:=by
 have aM:jL H S F {w with m:=r.1} (B.at L):=by show aj H (((S++F)++LA B.A B.l (fp w.s L.cG) B.c (B.jw w))++du L r.1);rw[he.m];exact hO
 exact uI aM 3 (o:=0+45) rfl rfl (by simp_all[jB.jw,uH]) (Sj aO _) ag
theorem B3(B:jB)(w:bN):((S++F)++B.fC w)[(S++F).length+2]?=some (B.l,⟨fp w.s B.L.cG,true⟩):=aA rfl
theorem axU:∀m,nU m->nU (m.gG aZ e).1:=fun m h=>⟨bn.Qr h.ok,bn.Sd h.b⟩
theorem afn:∀m,nU m->nU m.hj.1:=fun m h=>⟨bn.Qv h.ok,bn.axJ h.b⟩
theorem afo{x:List Int}(aE:x.length=64)(an:cl x):∀m,nU m->nU (m.fz aZ e x).1:=fun m h=>⟨bn.Qs h.ok aE,bn.Se h.b an⟩
theorem fM.ye{s:fM}{a:Int}(ok:m.b6):(s.eT m a aZ).1.length=64:=by unfold fM.eT;split;rfl;exact bn.ye ok
theorem axV(aQ:jQ S w B)(hm:w.m.hN 1000000)(hO:jL H S F w B)(ag:∀aa dj,B.fB dj->jQ S w.pe dj->jL aa S F w.pe dj->ab (.tuple [].toArray) aa):az P 141 [ai B.c 0] H ab:=by
 apply aqn;unfold ZZ;have aO:=aQ.aI.cX;refine aU (jK hO 3 rfl (v:=ai B.l 0) rfl (aU (jK hO 3 rfl (v:=int w.dc) rfl (R6 hO (B3 B w) ?_))));intro H hO;unfold bN.pe at ag;refine aqm (fun k aF aa=>∃y:Nat,y<=w.size/\k=w.size-y/\aF=[ai B.c 0,int w.size,int y]/\w.B2 w.size 0=w.B2 (w.size-y) y/\jL aa S F w B) _ _ ?_ w.size _ _ ⟨0,by omega,by omega,rfl,rfl,hO⟩;rintro k aF H ⟨y,a8,rfl,rfl,ta,hO⟩;unfold ZY
 try simp only[cu,cv]
 refine ah ez (bz (fun h=>?_) (fun h=>?_));have fU:y<w.size:=by omega
 have ta:w.B2 w.size 0=if B1 w y then some y else w.B2 (w.size-(y+1)) (y+1):=by rw[ta,show w.size-y=(w.size-(y+1))+1 by omega];rfl
 refine aU (jK hO 3 rfl (v:=ai B.l 0) rfl (aU (jK hO 3 rfl (v:=int w.dc) rfl (axj aQ.m.ok hO (B3 B w) ?_))));intro H hO;have D9:=fM.ye (s:=w.s) (a:=w.dc) (aZ:=y) aQ.m.ok;refine ah jT (ah jU ?_);rw[BC];refine c4 hO ?_;intro eX H hO;refine e7 hO (_+0) (aA rfl) (by rfl) (by simp_all) (lG _) ?_;intro H hO
 replace hO:=hO.cb
 replace hO:aj H (((((S++F)++B.fC w)++du B.L w.m))++[(eX,⟨a1 (w.s.eT w.m w.dc y).1,true⟩)]):=hO
 refine e6 (fun aF aa=>aF=[ai B.c 0,int y,int w.size,int y,.bool (decide (B1 w y))]/\jL aa S F w B) ?_ ?_;refine ah fl (bz (fun h1=>?_) (fun h1=>?_));refine fs hO (_+0) (aA rfl) (by simp_all) (by omega) (DV hO ?_);intro cB de;refine⟨gu hO (_+0) (aA rfl) de (_+0) (aA rfl) (zA _),?_⟩;exact ah (acu false D9 rfl) (ah (hT h1) (⟨by simp[B1,h1],de.left⟩));exact ah (ho h1) (⟨by simp[B1,h1],hO.left⟩);rintro aF H ⟨rfl,hO⟩
 try simp only[cu,cv]
 refine bz (fun h1=>?_) (fun h1=>?_);rw[if_pos h1]at ta;rw[ta]at ag;refine aU (jK hO 3 rfl (v:=ai B.l 0) rfl (aU (jK hO 3 rfl (v:=bQ .u64 w.cK) rfl (axk aQ.s aQ.m.ok hm hO aQ.own (B3 B w) ?_))));intro H cA he hO hv;refine aU (Sk aO he hO ?_);intro H hO;exact ag H (B.at cA) (jB.gu he) (aQ.put (Sf aQ.m axU) hv) hO;rw[if_neg h1]at ta;exact ah (jg (by omega) (by have:=bn.GF aQ.m.ok (part:=w.s.part w.dc);grind[bN.size])) (⟨_,by omega,y+1,by omega,rfl,rfl,ta,hO⟩);have lI:y=w.size:=by omega
 subst lI;rw[Nat.sub_self]at ta;have ta:w.B2 w.size 0=none:=ta;rw[ta]at ag;refine km rfl ?_
 try simp only[cu,cv]
 refine aU (uI hO 3 (o:=0+44) rfl rfl (by simp_all[jB.jw,uH]) (Ly aO 2) ?_);intro H hO;exact ag H B .gl ⟨aQ.q,aQ.aI,aQ.bY,aQ.gi,aQ.rl,aQ.s,aQ.m,aQ.own,aQ.dv,aQ.wr⟩ hO
end J
