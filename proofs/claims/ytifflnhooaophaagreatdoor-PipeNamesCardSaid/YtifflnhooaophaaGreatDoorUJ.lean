/- texts of the pv, gd behind the oq -/
import Derived.Test.YtifflnhooaophaaGreatDoorUI
set_option linter.unusedVariables false
set_option linter.unusedSimpArgs false
set_option linter.unusedSectionVars false
set_option maxHeartbeats 4000000
set_option maxRecDepth 100000
namespace J
open Go Go.Ab
variable[cu:b0]
end J
namespace J
open Go Go.Ab
variable[cu:b0]
end J
namespace J
open Go Go.Ab
variable[cu:b0]
variable{Γ b8:List (Nat×az)}{v w:Value}{c n size:Nat}{ar:List Value}
def rD(size:Nat)(Γ:List (Nat×az))(v:Value)(n:Nat)(ar:List Value):Prop:=
 (v=bB/\n=0/\ar=[])\/∃(p c j:Nat) (w:Bool),v=aF p 0 n c/\Γ[j]?=some (p,(⟨ar,w⟩:az))/\ar.length=n*size
theorem rD.bo(h:rD size Γ v n ar):rD size (Γ++b8) v n ar:=by
 rcases h with h|⟨p,c,j,w,ad,af,ax⟩
 ·exact .inl h
 ·exact .inr ⟨p,c,j,w,ad,aS af,ax⟩
end J
namespace J
open Go Go.Ab
variable[cu:b0]
end J
namespace J
open Go Go.Ab
variable[cu:b0]
end J
namespace J
open Go Go.Ab
variable[cu:b0]
variable{v bb:Value}{m:df}
theorem awE(aJ:m.cq.length=32):(b4 m bb).set (0+36) v=b4 m v:=by simp_all[b4]
def ae3:Value->Bool
 | .pointer none=>false
 | _=>true
end J
namespace J
open Go Go.Ab
variable[cu:b0]
variable{H:au}{S T eO X:List (Nat×az)}{aa:VH}{v w x bb a6 b9 cF:Value}{aj bg bs b key:List Int}{p q r n f bm st cT c:Nat}{e bu:Int}{ar bx:List Value}{l:List UInt8}{m aW:df}{t:pT}{aP:List (List Value)}{dX:List Value}{a1:List (List Int)}{cZ:Bool}{A B C:fW}{F:List (Nat×az)}
inductive Al {α β:Type} (R:α->β->Prop):List α->List β->Prop
 | nil:Al R [] []
 | cons {a b l m}:R a b->Al R l m->Al R (a::l) (b::m)
namespace Al
variable{α β:Type}{R Sh:α->β->Prop}{l aG:List α}{m lM:List β}
theorem len(h:Al R l m):l.length=m.length:=by
 induction h with
 | nil=>rfl
 | cons _ _ bd=>simp[bd]
theorem LO(aq:∀a b,R a b->Sh a b)(h:Al R l m):Al Sh l m:=by
 induction h with
 | nil=>exact .nil
 | cons h _ bd=>exact .cons (aq _ _ h) bd
theorem bo(h:Al R l m)(a7:Al R aG lM):Al R (l++aG) (m++lM):=by
 induction h with
 | nil=>exact a7
 | cons h _ bd=>exact .cons h bd
theorem gd{a:α}{b:β}(h:R a b):Al R [a] [b]:=.cons h .nil
theorem all{p:β->Prop}(bM:∀a b,R a b->p b)(h:Al R l m):∀x∈m,p x:=by
 induction h with
 | nil=>intro x ao;cases ao
 | cons h _ bd=>intro x ao;rcases List.mem_cons.1 ao with rfl|ao;exact bM _ _ h;exact bd x ao
end Al
theorem B4.bo{p:Int×List Int}(h:B4 S p dX):B4 (S++X) p dX:=by obtain⟨v,ad,af,ax,aO⟩:=h;exact⟨v,ad,af.bo,ax,fun h=>(aO h).bo⟩
theorem uI.bo{s:jl}(h:uI S s dX):uI (S++X) s dX:=by
 cases s with
 | il a=>exact h
 | nk n m=>obtain⟨bb,ad,af,ax⟩:=h;exact⟨bb,ad,af.bo,ax⟩
 | body a bs=>obtain⟨v,ad,af,ax⟩:=h;exact⟨v,ad,af.bo,ax⟩
 | eC=>exact h
structure pU (S:List (Nat×az)) (R:fW) (l:List (Int×List Int)):Prop where
 mQ:ik 2 R.n R.f R.aP R.ar
 sJ:Al (B4 S) l R.aP
 ek:∀p∈l,p.2.length<=1000000
structure oj (S:List (Nat×az)) (R:fW) (l:List jl):Prop where
 mQ:ik 1 R.n R.f R.aP R.ar
 sJ:Al (uI S) l R.aP
theorem pU.bo{l}(h:pU S A l):pU (S++X) A l:=⟨h.mQ,h.sJ.LO fun _ _=>B4.bo,h.ek⟩
theorem oj.bo{l}(h:oj S A l):oj (S++X) A l:=⟨h.mQ,h.sJ.LO fun _ _=>uI.bo⟩
theorem pU.len{l}(h:pU S A l):A.aP.length=l.length:=h.sJ.len.symm
theorem oj.len{l}(h:oj S A l):A.aP.length=l.length:=h.sJ.len.symm
theorem pU.zT{l}(h:pU S A l):l.length<=A.n:=by rw[<- h.len];exact h.mQ.q4
theorem oj.zT{l}(h:oj S A l):l.length<=A.n:=by rw[<- h.len];exact h.mQ.q4
theorem oj.lp{l}{s:jl}(h:oj S A l)(hg:ik 1 A.n A.f (A.aP++[dX]) bx)(aw:uI S s dX):oj S (A.lp bx dX) (l++[s]):=⟨hg,h.sJ.bo (.gd aw)⟩
theorem pU.lp{l}{p:Int×List Int}(h:pU S A l)(hg:ik 2 A.n A.f (A.aP++[dX]) bx)(aw:B4 S p dX)(bM:p.2.length<=1000000):pU S (A.lp bx dX) (l++[p]):=⟨hg,h.sJ.bo (.gd aw),fun q b5=>by
 rcases List.mem_append.1 b5 with ad|ad
 ·exact h.ek q ad
 simp_all⟩
theorem pU.gd{l}(h:pU S A l):∀e∈A.aP,e.all eP=true:=h.sJ.all fun p dX bM=>by obtain⟨v,rfl,af,ax,_⟩:=bM;obtain⟨a,n,c,rfl⟩:=af.lC;rfl
structure eL where
 key:List Int
 t:pT
 er:List (Int×List Int)
 cU:List jl
 e7:List jl
 bN:Nat
 gH:Nat
 aW:df
 aw:Option (List Int×Nat)
 cZ:Bool
 bu:Int
def eL.eo(s:eL):Int:=match s.aw with
 | none=>-1
 | some (_,w)=>if w=s.aW.a1.length then-2 else(w:Int)
def eL.zU(s:eL)(b:List Int):eL:=
 if(eN s.key b).2.2≠0 then {s with cU:=s.cU++[.il (-1)]}
 else if oN (eN s.key b).1 s.t≠0 then {s with bu:=oN (eN s.key b).1 s.t}
 else {s with aW:=(eN s.key b).1,aw:=some ([],0),cU:=s.cU++[.nk (eN s.key b).2.1 (eN s.key b).1],e7:=s.e7++[.nk (eN s.key b).2.1 (eN s.key b).1]}
def eL.gR(s:eL)(aj:List Int)(w:Nat)(bg:List Int):eL:=
 if(bg.length:Int)=(gw s.aW w).2/\gB bg=s.aW.a1.getD w []then {s with aw:=some (aj++bg,w+1),e7:=s.e7++[.body w bg]}
 else {s with cU:=s.cU++[.il w]}
def eL.lB(s:eL)(aj:List Int):Bool×eL:=
 if s.e7.length=s.gH then(false,s)
 else if gB aj=s.aW.cq then(true,{s with e7:=s.e7++[.eC],cZ:=true})else(true,{s with bu:=153})
def eL.oO(s:eL)(r:List (Int×List Int)):eL:={s with er:=r}
def eL.step(s:eL):Bool×eL:=
 if s.bu≠0\/s.cZ=true then(false,s)
 else match s.aw with
  | some (aj,w)=>if w=s.aW.a1.length then s.lB aj else match s.er with
   | []=>(false,s)
   | p::r=>if s.cU.length=s.bN\/s.e7.length=s.gH then(false,s)else
    (true,if p.1=w then(s.oO r).gR aj w p.2 else s.oO r)
  | none=>match s.er with
   | []=>(false,s)
   | p::r=>if s.cU.length=s.bN\/s.e7.length=s.gH then(false,s)else
    (true,if p.1=-1 then(s.oO r).zU p.2 else s.oO r)
inductive sK (S:List (Nat×az)) (aW:df):Option (List Int×Nat)->Value->List (Nat×az)->Prop
 | yl:sK S aW none (.pointer none) []
 | bZ (aj:List Int) (cT st:Nat) (bb:Value) (bm:Nat) (eO:List (Nat×az)):eB aW->fR S bb aW.a1->ln bm aj eO->ct aj->cT<=aW.a1.length->aj.length<=cT*2000->sK S aW (some (aj,cT)) (ak st 0) (vP st aW bb bm cT eO)
theorem sK.bo{aw}(h:sK S aW aw cF T):sK (S++X) aW aw cF T:=by
 cases h with
 | yl=>exact .yl
 | bZ aj cT st bb bm eO ad af ax aO bl bL=>exact .bZ _ _ _ _ _ _ ad af.bo ax aO bl bL
theorem sK.awF{aw}(h:sK S aW aw cF T):cF=.pointer none\/∃st,cF=ak st 0:=by
 cases h with
 | yl=>simp_all
 | bZ aj cT st=>simp_all
structure uJ (S:List (Nat×az)) (s:eL) (A B C:fW) (a6 b9 cF:Value) (T:List (Nat×az)):Prop where
 a6:cl S a6 s.key
 w1:ct s.key
 q4:s.key.length<=1000000
 nn:s.t.cz.length<=1000000
 a:pU S A s.er
 b:oj S B s.cU
 c:oj S C s.e7
 gS:B.n=s.bN
 DO:C.n=s.gH
 ok:s.aW.b1
 b9:fR S b9 s.aW.a1
 bZ:sK S s.aW s.aw cF T
theorem awG{s:eL}(h:uJ S s A B C a6 b9 cF T)(hO:al H ((S++F)++hj A B C c (fe a6 s.t A.r B.r C.r s.aW b9 cF s.cZ s.bu) T))(ag:aa (int s.eo) H):wCall P 134 [ak c 0] H aa:=by
 have aw:=h.bZ;unfold eL.eo at ag;generalize s.aw=alr at*;cases aw with
 | yl=>exact awo h.ok.dR hO ag
 | bZ aj cT st bb bm eO ad af ax aO bl bL=>exact awp h.ok.dR h.ok.dR af.bo hO ag
end J
namespace J
open Go Go.Ab
variable[cu:b0]
variable{H:au}{S T eO X:List (Nat×az)}{aa:VH}{w x bb a6 b9 cF:Value}{aj bg b key:List Int}{p q r n f bm st cT c:Nat}{bu:Int}{bx:List Value}{l:List UInt8}{m aW:df}{t:pT}{aP:List (List Value)}{dX:List Value}{a1:List (List Int)}{cZ:Bool}{A B C ho dn hp:fW}{s:eL}{F:List (Nat×az)}
structure fW.fg (A ho:fW):Prop where
 r:ho.r=A.r
 q:ho.q=A.q
 n:ho.n=A.n
theorem fW.fg.gm:fW.fg A A:=⟨rfl,rfl,rfl⟩
theorem B5:fW.fg A (A.lp bx dX):=⟨rfl,rfl,rfl⟩
theorem LP:fW.fg A (A.dP bx aP):=⟨rfl,rfl,rfl⟩
theorem fW.fg.trans{zl:fW}(h:fW.fg A ho)(af:fW.fg ho zl):fW.fg A zl:=⟨af.r.trans h.r,af.q.trans h.q,af.n.trans h.n⟩
theorem awH{e0:List (Nat×az)}(h:al H (((S++F)++X)++e0)):al H (((S++X)++F)++e0):=h.fP (by rw[List.append_assoc S F X,List.append_assoc S X F];exact List.Perm.append_right e0 (List.Perm.append_left S List.perm_append_comm))
def zV(S F:List (Nat×az))(s:eL)(A B C:fW)(c:Nat)(a6:Value)(H:au):Prop:=
 ∃b9 cF T,uJ S s A B C a6 b9 cF T/\al H ((S++F)++hj A B C c (fe a6 s.t A.r B.r C.r s.aW b9 cF s.cZ s.bu) T)
theorem awI{m:df}{w:Nat}(h:eB m):(gw m w).2<=1024:=by grind[gw,eB]
theorem pU.dP{l:List (Int×List Int)}{p:Int×List Int}(h:pU S A (p::l))(he:A.aP=dX::aP)(hg:ik 2 A.n ((A.f+1)%A.n) aP bx):B4 S p dX/\pU S (A.dP bx aP) l:=by
 have ad:=h.sJ;rw[he]at ad;cases ad with
 | cons ad af=>exact⟨ad,hg,af,fun q b5=>h.ek q (List.mem_cons_of_mem _ b5)⟩
theorem oj.dP{l:List jl}{p:jl}(h:oj S A (p::l))(he:A.aP=dX::aP)(hg:ik 1 A.n ((A.f+1)%A.n) aP bx):uI S p dX/\oj S (A.dP bx aP) l:=by
 have ad:=h.sJ;rw[he]at ad;cases ad with
 | cons ad af=>exact⟨ad,hg,af⟩
theorem ae4(h:uJ S s A B C a6 b9 cF T):s.eo=-2↔∃aj,s.aw=some (aj,s.aW.a1.length):=by
 unfold eL.eo
 grind
theorem awJ(h:uJ S s A B C a6 b9 cF T)(hO:al H ((S++F)++hj A B C c (fe a6 s.t A.r B.r C.r s.aW b9 cF s.cZ s.bu) T))(ao:s.aw=some (aj,s.aW.a1.length))
  (ag:∀ab X hp,fW.fg C hp->zV (S++X) F (s.lB aj).2 A B hp c a6 ab->aa (.bool (s.lB aj).1) ab):wCall P 135 [ak c 0] H aa:=by
 have aw:=h.bZ;have⟨ad,af,ax,aO,bl,bL,cn,dA,fo,hS,ke,_⟩:=h;have bn:=cn.len;have bF:=cn.zT;rw[ao]at aw;cases aw with
 | bZ aj cT st oi bm eO bX b7 g3 g4 g5 kO=>
  have awK:s.aW.a1.length<=64:=by simp_all[eB]
  unfold eL.lB at ag;refine aws hS.dR hS b7.bo hO cn.mQ g3 g4 (by omega) ?_ ?_ ?_
  ·intro hf;rw[if_pos (by omega)]at ag;exact ag H [] C .gm ⟨b9,_,_,by rw[List.append_nil];exact h,by rw[List.append_nil];exact hO⟩
  ·clear hO;intro hf an H hO;rw[if_neg (by omega),if_neg (by simp_all)]at ag;refine ag H [] C .gm ⟨b9,_,_,?_,by rw[List.append_nil];exact hO⟩;rw[List.append_nil];refine⟨ad,af,ax,aO,bl,bL,cn,dA,fo,hS,ke,?_⟩;show sK S s.aW s.aw _ _;rw[ao];exact .bZ _ _ _ _ _ _ bX b7 g3 g4 g5 kO
  ·clear hO;intro hf an H bx jO hO;rw[if_neg (by omega),if_pos an.2]at ag;refine ag H [] _ B5 ⟨b9,_,_,?_,by rw[List.append_nil];exact hO⟩;rw[List.append_nil];refine⟨ad,af,ax,aO,bl,bL,cn.lp jO rfl,dA,fo,hS,ke,?_⟩;show sK S s.aW s.aw _ _;rw[ao];exact .bZ _ _ _ _ _ _ bX b7 g3 g4 g5 kO
theorem awL(h:uJ S s A B C a6 b9 cF T)(hO:al H ((S++F)++hj A B C c (fe a6 s.t A.r B.r C.r s.aW b9 cF s.cZ s.bu) T))(ao:s.aw=none)(jX:s.cU.length<s.bN)(qK:s.e7.length<s.gH)(aM:cl S w b)(mL:ct b)(oI:b.length<=1000000)
  (ag:∀ab X dn hp,fW.fg B dn->fW.fg C hp->zV (S++X) F (s.zU b) A dn hp c a6 ab->aa (.tuple [].toArray) ab):wCall P 139 [ak c 0,w] H aa:=by
 have aw:=h.bZ;have⟨ad,af,ax,aO,bl,bL,cn,dA,fo,hS,ke,_⟩:=h;have bn:=cn.len;have bF:=bL.len;rw[ao]at aw;generalize wI:cF=Si at aw;generalize bk:T=dw at aw;cases aw with
 | yl=>
  subst wI bk;unfold eL.zU at ag;refine awz hS.dR hO bL.mQ cn.mQ ad.bo af ax aM.bo mL oI aO (by omega) (by omega) ?_ ?_ ?_
  ·clear hO;intro he H bx ck hO;rw[if_pos he]at ag;refine ag H [] _ C B5 .gm ⟨b9,_,_,?_,by rw[List.append_nil];exact hO⟩;rw[List.append_nil];refine⟨ad,af,ax,aO,bl,bL.lp ck rfl,cn,dA,fo,hS,ke,?_⟩;show sK S s.aW s.aw _ _;rw[ao];exact .yl
  ·clear hO;intro he br H hO;rw[if_neg (by omega),if_pos br]at ag;refine ag H [] B C .gm .gm ⟨b9,_,_,?_,by rw[List.append_nil];exact hO⟩;rw[List.append_nil];refine⟨ad,af,ax,aO,bl,bL,cn,dA,fo,hS,ke,?_⟩;show sK S s.aW s.aw _ _;rw[ao];exact .yl
  ·clear hO;have ok:=aeA (key:=s.key) mL oI;intro he br U H X bb oi st bm eO l4 Eu tx bX b7 ck jO hO;rw[if_neg (by omega),if_neg (by omega)]at ag;refine ag H X _ _ B5 B5 ⟨bb,_,_,?_,awH hO⟩;refine⟨ad.bo,af,ax,aO,bl.bo,bL.bo.lp ck ⟨bb,rfl,bX.jv,ok⟩,cn.bo.lp jO ⟨bb,rfl,bX.jv,ok⟩,dA,fo,ok,bX.jv,?_⟩;exact .bZ _ _ _ _ _ _ U b7.jv tx (fun x ao=>by cases ao) (Nat.zero_le _) (Nat.zero_le _)
theorem awM(h:uJ S s A B C a6 b9 cF T)(hO:al H ((S++F)++hj A B C c (fe a6 s.t A.r B.r C.r s.aW b9 cF s.cZ s.bu) T))(ao:s.aw=some (aj,cT))(EG:cT≠s.aW.a1.length)(jX:s.cU.length<s.bN)(qK:s.e7.length<s.gH)(aM:cl S w bg)(mL:ct bg)(oI:bg.length<=1000000)
  (ag:∀ab X dn hp,fW.fg B dn->fW.fg C hp->zV (S++X) F (s.gR aj cT bg) A dn hp c a6 ab->aa (.tuple [].toArray) ab):wCall P 140 [ak c 0,agg [int cT,w]] H aa:=by
 have aw:=h.bZ;have⟨ad,af,ax,aO,bl,bL,cn,dA,fo,hS,ke,_⟩:=h;have bn:=cn.len;have bF:=bL.len;rw[ao]at aw;cases aw with
 | bZ aj cT st oi bm eO bX b7 g3 g4 g5 kO=>
  have ea:cT<s.aW.a1.length:=by omega
  have awK:s.aW.a1.length<=64:=by simp_all[eB]
  have awN:s.aW.a1.getD cT []=s.aW.a1[cT]:=by simp[ea]
  have wI:=awI (w:=cT) bX;unfold eL.gR at ag;rw[awN]at ag;refine awu hS.dR hS bX b7.bo hO bL.mQ cn.mQ g3 g4 (by omega) aM.bo mL oI ea (by omega) (by omega) ?_ ?_
  ·clear hO;intro hg H bx ck hO;rw[if_neg hg]at ag;refine ag H [] _ C B5 .gm ⟨b9,_,_,?_,by rw[List.append_nil];exact hO⟩;rw[List.append_nil];refine⟨ad,af,ax,aO,bl,bL.lp ck rfl,cn,dA,fo,hS,ke,?_⟩;show sK S s.aW s.aw _ _;rw[ao];exact .bZ _ _ _ _ _ _ bX b7 g3 g4 g5 kO
  ·clear hO;intro hg H bx cv tx jO hO;rw[if_pos hg]at ag;refine ag H [] B _ .gm B5 ⟨b9,_,_,?_,by rw[List.append_nil];exact hO⟩;rw[List.append_nil];refine⟨ad,af,ax,aO,bl,bL,cn.lp jO ⟨w,rfl,aM,mL⟩,dA,fo,hS,ke,?_⟩;exact .bZ _ _ _ _ _ _ bX b7 tx (by intro x ao;grind) (by grind) (by grind)
end J
namespace J
open Go Go.Ab
variable[cu:b0]
variable{H:au}{Γ S T eO X:List (Nat×az)}{aa:VH}{v w a6 b9 cF:Value}{aj bg:List Int}{i j p r n bm st cT c:Nat}{e bu:Int}{bx:List Value}{aW:df}{t:pT}{aP:List (List Value)}{dX:List Value}{a1:List (List Int)}{cZ:Bool}{A B C ho dn hp:fW}{bQ cE ff:Nat}{s:eL}{F:List (Nat×az)}
theorem ae5:(fe a6 t bQ cE ff aW b9 cF cZ bu)[0+4]?=some (ak bQ 0):=rfl
theorem awO:(fe a6 t bQ cE ff aW b9 cF cZ bu)[0+5]?=some (ak cE 0):=rfl
theorem awP:(fe a6 t bQ cE ff aW b9 cF cZ bu)[0+6]?=some (ak ff 0):=rfl
theorem awQ(h:uJ S s A B C a6 b9 cF T):-2<=s.eo/\s.eo<=1000:=by
 have ad:=h.bZ;unfold eL.eo;generalize s.aw=aw at*;cases ad with
 | yl=>simp
 | bZ aj cT st oi bm eO bX b7 g3 g4 g5 kO=>grind[eB]
theorem awR(h:zV S F s A B C c a6 H)(ag:∀ab X ho dn hp,fW.fg A ho->fW.fg B dn->fW.fg C hp->zV (S++X) F s.step.2 ho dn hp c a6 ab->aa (.bool s.step.1) ab):wCall P 64 [ak c 0] H aa:=by
 obtain⟨b9,cF,T,h,hO⟩:=h;have⟨ad,af,ax,aO,bl,bL,cn,dA,fo,hS,ke,pj⟩:=h;have aJ:=hS.dR;have hQ:=bl.len;have iG:=bL.len;have rv:=cn.len;have aCy:=bl.zT;have aCz:=bL.zT;have aCA:=cn.zT;have uF:aa (.bool false) H\/True:=.inr trivial;apply ao6;unfold Y9;refine awG h hO (gb (fun aG ab=>aG=[ak c 0,int s.eo,.bool (decide (s.bu≠0\/s.cZ=true))]/\H=ab) ?_ ?_)
 ·refine aY (cI hO 6 rfl (aeY aJ) (ai jh (bT (fun he=>?_) (fun he=>?_))))
  ·repeat refine bH ?_
   exact⟨by simp_all,rfl⟩
  ·refine aY (cI hO 6 rfl (awj aJ) ?_)
   repeat refine bH ?_
   refine⟨?_,rfl⟩
   simp_all
 rintro aG ab ⟨rfl,rfl⟩
 try simp only[cR,cS]
 unfold eL.step at ag;have Hn:aa (.bool false) H->aa (.bool false) H:=fun h=>h
 refine bT (fun he=>?_) (fun he=>?_)
 ·rw[if_pos he]at ag;exact ag H [] A B C .gm .gm .gm ⟨b9,cF,T,by rw[List.append_nil];exact h,by rw[List.append_nil];exact hO⟩
 rw[if_neg he]at ag;refine ai fz (bT (fun aM=>?_) (fun aM=>?_))
 ·obtain⟨aj,ao⟩:=(ae4 h).1 aM;rw[ao]at ag;simp only[if_true]at ag;refine awJ h hO ao ?_;intro ab X hp jO bE;exact ag ab X A B hp .gm .gm jO bE
 have U:=awQ h;refine gb (fun aG ab=>aG=[ak c 0,int s.eo,.bool (decide (s.er=[]\/s.cU.length=s.bN\/s.e7.length=s.gH))]/\H=ab) ?_ ?_
 ·refine aY (cI hO 6 rfl ae5 (avW (i:=1) hO rfl (ai fz (bT (fun aR=>?_) (fun aR=>?_)))))
  ·repeat refine bH ?_
   have:s.er=[]:=by simp_all
   exact⟨by simp_all,rfl⟩
  have UX:¬s.er=[]:=by simp_all
  refine aY (cI hO 6 rfl awO (LG (i:=3) hO rfl bL.mQ.q4 bL.mQ.uG (ai fz (ai (kV aR) (bT (fun ax=>?_) (fun ax=>?_))))))
  ·repeat refine bH ?_
   exact⟨by rw[decide_eq_true (.inr (.inl (by omega)):s.er=[]\/s.cU.length=s.bN\/s.e7.length=s.gH)],rfl⟩
  refine aY (cI hO 6 rfl awP (LG (i:=5) hO rfl cn.mQ.q4 cn.mQ.uG (ai fz (ai (kV ax) (⟨?_,rfl⟩)))));have:(((C.n-C.aP.length:Nat):Int)=0)↔(s.er=[]\/s.cU.length=s.bN\/s.e7.length=s.gH):=by grind
  simp_all
 rintro aG ab ⟨rfl,rfl⟩
 try simp only[cR,cS]
 refine bT (fun aq=>?_) (fun aq=>?_)
 ·have k0:=ag H [] A B C .gm .gm .gm;have bE:zV (S++[]) F s A B C c a6 H:=⟨b9,cF,T,by rw[List.append_nil];exact h,by rw[List.append_nil];exact hO⟩;clear ag;cases ao:s.aw with
  | none=>
   rw[ao]at k0;cases br:s.er with
   | nil=>rw[br]at k0;exact k0 bE
   | cons y bg=>rw[br]at k0 aq;simp only at k0;rw[if_pos (by simp_all)]at k0;exact k0 bE
  | some y=>
   obtain⟨aj,cT⟩:=y;rw[ao]at k0;have:¬cT=s.aW.a1.length:=by grind[ae4]
   simp only at k0;rw[if_neg this]at k0;cases br:s.er with
   | nil=>rw[br]at k0;exact k0 bE
   | cons y bg=>rw[br]at k0 aq;simp only at k0;rw[if_pos (by simp_all)]at k0;exact k0 bE
 have xu:s.er≠[]:=fun e=>aq (.inl e)
 have jX:s.cU.length<s.bN:=by omega
 have qK:s.e7.length<s.gH:=by omega
 obtain⟨cM,er,br⟩:∃p r,s.er=p::r:=by
  cases h:s.er with
  | nil=>simp_all
  | cons p r=>grind
 refine aY (cI hO 6 rfl ae5 (avZ (i:=1) (j:=0) hO rfl rfl (by omega) bl.mQ bl.gd (fun e=>absurd e (by grind)) ?_));clear hO;intro dX bu qf H bx hA hO
 replace hO:=awB hO
 rw[br]at bl;obtain⟨bM,Gm⟩:=bl.dP qf hA;obtain⟨w,rfl,A2,De,_⟩:=bM;have nF:=bl.ek cM (.head _);obtain⟨cw,la⟩:∃cw,s.oO er=cw:=⟨_,rfl⟩;have bc:uJ S cw (A.dP bx bu) B C a6 b9 cF T:=by subst la;exact⟨ad,af,ax,aO,Gm,bL,cn,dA,fo,hS,ke,pj⟩
 replace hO:al H ((S++F)++hj (A.dP bx bu) B C c (fe a6 cw.t (A.dP bx bu).r B.r C.r cw.aW b9 cF cw.cZ cw.bu) T):=by subst la;exact hO
 have Di:s.eo=cw.eo:=by subst la;rfl
 have o5:s.aw=cw.aw:=by subst la;rfl
 have jX:cw.cU.length<cw.bN:=by subst la;exact jX
 have qK:cw.e7.length<cw.gH:=by subst la;exact qK
 have rn:s.aW=cw.aW:=by subst la;rfl
 refine ai km (ai kn ?_);rw[R4];generalize sn:(S++F)++hj (A.dP bx bu) B C c (fe a6 cw.t (A.dP bx bu).r B.r C.r cw.aW b9 cF cw.cZ cw.bu) T=Γ at hO;refine j8 hO.z ?_;clear hO;intro cY H hO
 replace hO:al H (Γ++[(cY,⟨[int 0,bB],true⟩)]):=hO
 obtain⟨vQ,vR,vS,rfl⟩:=A2.lC;refine lo hO 0 rfl rfl rfl rfl ?_;clear hO;intro H hO
 replace hO:al H (Γ++[(cY,⟨[int cM.1,.slice vQ vR vS],true⟩)]):=hO
 refine ai ed (cI hO 0 rfl (v:=int cM.1) rfl (ai jh ?_));have Sj:∀(z:eL),z=(if cM.1=cw.eo then(match cw.aw with|none=>cw.zU cM.2|some (aj,w)=>cw.gR aj w cM.2)else cw)->∀ab X ho dn hp,fW.fg A ho->fW.fg B dn->fW.fg C hp->zV (S++X) F z ho dn hp c a6 ab->aa (.bool true) ab:=by
  intro z eu ab X ho dn hp bP ca dH bE;subst eu;have k0:=ag ab X ho dn hp bP ca dH;rw[Di]at aM;have uK:cw.eo=match cw.aw with|none=>-1|some (_,w)=>if w=cw.aW.a1.length then-2 else(w:Int):=rfl
  rw[rn,br]at k0;cases ao:cw.aw with
  | none=>rw[ao]at uK bE;rw[o5,ao]at k0;simp only at k0 uK bE;rw[if_neg (by omega)]at k0;rw[uK]at bE;rw[la]at k0;exact k0 bE
  | some y=>
   obtain⟨aj,cT⟩:=y;rw[ao]at uK bE;rw[o5,ao]at k0;simp only at k0 uK bE;by_cases e:cT=cw.aW.a1.length
   ·rw[if_pos e]at uK;exact absurd uK aM
   ·rw[if_neg e]at uK k0;rw[if_neg (by omega)]at k0;rw[uK]at bE;rw[la]at k0;exact k0 bE
 clear ag;rw[Di];refine bT (fun n7=>?_) (fun n7=>?_)
 ·refine Sj cw (by simp_all) H [] (A.dP bx bu) B C LP .gm .gm ⟨b9,cF,T,by rw[List.append_nil];exact bc,?_⟩;rw[List.append_nil,sn];exact hO.left
 have n7:cM.1=cw.eo:=Classical.not_not.1 n7;refine ai fz (bT (fun aV=>?_) (fun aV=>?_))
 ·have ao:cw.aw=none:=by grind[eL.eo]
  refine ai ed (cI hO 0 rfl (v:=.slice vQ vR vS) rfl ?_);have hO:=hO.left;rw[<- sn]at hO;refine awL bc hO ao jX qK A2 De nF ?_;clear hO;intro ab X dn hp ca dH bE;refine Sj _ ?_ ab X _ dn hp LP ca dH bE
  simp_all
 ·cases ao:cw.aw with
  | none=>exfalso;simp_all[eL.eo]
  | some y=>
   obtain⟨aj,cT⟩:=y;have uK:cw.eo=if cT=cw.aW.a1.length then-2 else(cT:Int):=by simp_all[eL.eo]
   have ae6:cT≠cw.aW.a1.length:=by omega
   rw[if_neg ae6]at uK;rw[uK]at n7;refine jj hO 0 rfl (n:=2) rfl (by omega) ?_;have hO:=hO.left;rw[<- sn]at hO;rw[n7];refine awM bc hO ao ae6 jX qK A2 De nF ?_;clear hO;intro ab X dn hp ca dH bE;refine Sj _ ?_ ab X _ dn hp LP ca dH bE
   simp_all
end J
namespace J
open Go Go.Ab
variable[cu:b0]
variable{H:au}{Γ:List (Nat×az)}{aa:VH}{v cW:Value}{i l p n cA:Nat}{bh a:Int}{L:lG}{m:bt}{rP:List Int}
structure gK where
 im:Int
 dh:Int
 pk:Nat
 ig:Nat
 kY:Int
 dK:Int
def fr(s:gK)(cV:Nat):List Value:=[int s.im,int s.dh,bS .u64 s.pk,ak cV 0,int s.kY,int s.dK,bS .u64 s.ig]
def gK.uL(s:gK)(cA:Nat):Prop:=s.pk≠0/\s.pk=cA
instance {s:gK}:Decidable (s.uL cA):=by unfold gK.uL;infer_instance
def gK.part(s:gK)(i:Int):Int:=if i<0\/2<=i then-1 else if i=0 then s.kY else s.dK
structure gK.b1 (s:gK):Prop where
 ua:0<=s.dh/\s.dh<2
 p:0<=s.kY/\0<=s.dK
variable{s:gK}
theorem ae7(hO:al H (Γ++dQ L m))(ag:∀ab,al ab (Γ++dQ L {m with dW:=a})->aa (int m.dW) ab):wCall P 261 [ak L.cV 0,int a] H aa:=by apply arA;unfold abV;refine aY (aZ hO (Γ.length+0) (aC rfl) (v:=int m.dW) rfl (aY (fQ hO (Γ.length+0) (aC rfl) rfl (show 0+2<4 by omega) rfl ?_)));clear hO;intro H hO;exact ag H hO.cy
theorem ae8{a b:Int}(hO:al H Γ)(ag:∀ab,al ab Γ->aa (.bool (decide (n≠0))) ab):wCall P 86 [agg [int a,int b,bS .u64 n]] H aa:=by apply aps;unfold Zv;rw[uH];refine dT hO ?_;clear hO;intro dK H hO;refine ai ed (aZ hO (Γ.length+0) (aC rfl) (v:=bS .u64 n) rfl (ai jh ?_));rw[decide_eq_decide.2 (show((n:Int)≠0)↔n≠0 by omega)];exact ag H hO.left
theorem ae9(hO:al H Γ)(aq:Γ[i]?=some (l,⟨fr s p,true⟩))(ag:∀ab,al ab Γ->aa (.bool (decide (s.uL cA))) ab):wCall P 107 [ak l 0,bS .u64 cA] H aa:=by
 apply apz;unfold ZC;refine aY (jM hO i aq (ar:=[int s.im,int s.dh,bS .u64 s.pk]) rfl rfl (by omega) (ae8 hO ?_));clear hO;intro H hO;unfold gK.uL at ag;refine bT (fun h=>?_) (fun h=>?_)
 ·refine aY (ai ed (aZ hO i aq (v:=bS .u64 s.pk) rfl (ai Xe (ai (ju h) ?_))));rw[decide_eq_decide.2 (show(s.pk=cA)↔(s.pk≠0/\s.pk=cA)from⟨fun ad=>⟨h,ad⟩,fun ad=>ad.2⟩)];exact ag H hO
 ·refine ai (kV h) ?_;have:=ag H hO;rw[decide_eq_false (show¬(s.pk≠0/\s.pk=cA)from fun ad=>h ad.1)]at this;exact this
theorem Sk{a:Int}(hO:al H Γ)(aq:Γ[i]?=some (l,⟨fr s p,true⟩))(ag:∀ab,al ab Γ->aa (int (s.part a)) ab):wCall P 151 [ak l 0,int a] H aa:=by
 apply aqe;unfold aas;unfold gK.part at ag;refine gb (fun aG ab=>aG=[ak l 0,int a]/\¬(a<0\/2<=a)/\al ab Γ) ?_ ?_
 ·refine ai gj (bT (fun h=>?_) (fun h=>?_))
  ·refine ai (ju h) (fU rfl ?_);rw[if_pos (.inl h)]at ag;exact ag H hO
  ·refine ai uk (ai (kV h) (bT (fun ad=>?_) (fun ad=>?_)))
   ·rw[if_pos (.inr (by omega))]at ag;exact ag H hO
   ·exact⟨rfl,by omega,hO⟩
 clear hO;rintro aG H ⟨rfl,h,hO⟩
 try simp only[cR,cS]
 rw[if_neg h]at ag;refine aY (ai (fA (by omega) (by omega)) ?_);by_cases aR:a=0
 ·subst aR;rw[if_pos rfl]at ag;exact aZ hO i aq (v:=int s.kY) rfl (ag H hO)
 ·have:a=1:=by omega
  subst this;rw[if_neg (by omega)]at ag;exact aZ hO i aq (v:=int s.dK) rfl (ag H hO)
theorem afa:(fr s p).all fH=true:=rfl
theorem Sl{a:Int}(hO:al H (Γ++dQ L m))(aq:Γ[i]?=some (l,⟨fr s L.cV,true⟩))(ag:∀ab,al ab (Γ++dQ L m)->aa (int (m.size (s.part a))) ab):wCall P 79 [ak l 0,int a] H aa:=by apply apk;unfold Zo;refine aY (aZ hO i (aS aq) (v:=ak L.cV 0) rfl (Sk hO (aS aq) ?_));intro cD dd;refine⟨ha hO i (aS aq) dd i (aS aq) afa,?_⟩;exact acH dd (ag cD dd)
theorem awS{a:Int}(ok:m.b1)(hO:al H (Γ++dQ L m))(aq:Γ[i]?=some (l,⟨fr s L.cV,true⟩))(ag:∀ab v ar,al ab ((Γ++dQ L m)++b2 v ar)->fI v (m.all (s.part a)) ar->aa v ab):wCall P 203 [ak l 0,int a] H aa:=by apply aqI;unfold aaY;refine aY (aZ hO i (aS aq) (v:=ak L.cV 0) rfl (Sk hO (aS aq) ?_));intro cD dd;refine⟨ha hO i (aS aq) dd i (aS aq) afa,?_⟩;exact atP ok dd ag
def gK.gA(s:gK)(m:bt)(a bh:Int):List Int×Int:=if s.part a<0 then(sx,101)else m.gA (s.part a) bh
theorem awT{a:Int}(ok:m.b1)(hO:al H (Γ++dQ L m))(aq:Γ[i]?=some (l,⟨fr s L.cV,true⟩))(ag:∀ab,al ab (Γ++dQ L m)->aa (.tuple [oK (s.gA m a bh).1,int (s.gA m a bh).2].toArray) ab):wCall P 200 [ak l 0,int a,int bh] H aa:=by
 apply aqF;unfold aaV;unfold gK.gA at ag;rw[BF];refine dT hO ?_;clear hO;intro gP H hO
 replace hO:=hO.nR
 refine Sk hO (aS (aS aq)) ?_;clear hO;intro H hO;refine ai gj (bT (fun h=>?_) (fun h=>?_))
 ·rw[if_pos h]at ag;refine ai QI (gl hO (Γ.length+0) (aS (aC rfl)) (by rfl) (by rfl) (lT _) ?_);clear hO;intro H hO;rw[List.set_append_left _ _ (by simp),Go.Ab.cy]at hO;exact hi hO (Γ.length+0) (aS (aC rfl)) (by rfl) (by omega) (ag H hO.nR.left)
 ·rw[if_neg h]at ag;refine aY (aZ hO i (aS (aS aq)) (v:=ak L.cV 0) rfl (acI ok hO ?_));clear hO;intro H hO;have Ep:=bt.yb ok (part:=s.part a) (bh:=bh);refine ai km (ai kn (gl hO (Γ.length+0) (aS (aC rfl)) (by rfl) (by simp_all) (lT _) ?_));clear hO;intro H hO;rw[List.set_append_left _ _ (by simp),Go.Ab.cy]at hO;exact hi hO (Γ.length+0) (aS (aC rfl)) (by simp_all) (by omega) (ag H hO.nR.left)
def gK.as(s:gK)(m:bt)(cA:Nat)(f:bt->bt×Int):bt×Int:=if s.uL cA then({(f {m with dW:=s.im}).1 with dW:=m.dW},(f {m with dW:=s.im}).2)else(m,161)
theorem Sm{f:bt->bt×Int}(aw:s.b1)(hO:al H (Γ++dQ L m))(hv:lk L m)(aq:Γ[i]?=some (l,⟨fr s L.cV,true⟩))
  (NF:∀ab vI,al ab (Γ++dQ L {m with dW:=s.im})->(∀cD cv,L.Eq cv->al cD (Γ++dQ cv (f {m with dW:=s.im}).1)->lk cv (f {m with dW:=s.im}).1->vI (int (f {m with dW:=s.im}).2) cD)->xK P (tR cW [int (s.part s.dh)]) ab vI)
  (ag:∀ab cv,L.Eq cv->al ab (Γ++dQ cv (s.as m cA f).1)->lk cv (s.as m cA f).1->aa (int (s.as m cA f).2) ab):wCall P 236 [ak l 0,bS .u64 cA,cW] H aa:=by
 apply arc;unfold QB;unfold gK.as at ag;refine ae9 hO (aS aq) ?_;clear hO;intro H hO;refine ai jt ?_;by_cases hh:s.uL cA
 ·rw[if_pos hh]at ag;refine eX (by simp[hh]) (aY (aZ hO i (aS aq) (v:=ak L.cV 0) rfl (aY (ai ed (aZ hO i (aS aq) (v:=int s.im) rfl (ae7 hO ?_))))));clear hO;intro H hO;refine aY (aZ hO i (aS aq) (v:=ak L.cV 0) rfl (aY (ai ed (aZ hO i (aS aq) (v:=int s.dh) rfl (aY ?_)))));obtain⟨aR,ad⟩:=aw.ua;refine ai (fA aR ad) ?_;have bM:(fr s L.cV)[0+4+s.dh.toNat*1]?=some (int (s.part s.dh)):=by
   unfold gK.part;rw[if_neg (by omega)];by_cases af:s.dh=0
   ·rw[af];rfl
   ·have:s.dh=1:=by omega
    rw[this];rfl
  refine aZ hO i (aS aq) bM (NF H _ hO ?_);clear hO;intro cD cv he hO jL;rw[<- he.m];refine ae7 hO ?_;clear hO;intro H hO;exact ag H cv he hO ⟨jL.d,jL.o⟩
 ·rw[if_neg hh]at ag;exact fU (by simp[hh]) (ag H L lG.Eq.gm hO hv)
theorem Ho(ok:m.b1):({m with dW:=a}:bt).b1:=⟨ok.d,ok.s,ok.n⟩
theorem Sn{N:Nat}(h:m.hR N):({m with dW:=a}:bt).hR N:=h
theorem Sp(h:lk L m):lk L {m with dW:=a}:=⟨h.d,h.o⟩
theorem awU(aw:s.b1)(ok:m.b1)(aV:m.hR 1000000)(hO:al H (Γ++dQ L m))(hv:lk L m)(aq:Γ[i]?=some (l,⟨fr s L.cV,true⟩))
  (ag:∀ab cv,L.Eq cv->al ab (Γ++dQ cv (s.as m cA (·.fb (s.part s.dh) bh)).1)->lk cv (s.as m cA (·.fb (s.part s.dh) bh)).1->aa (int (s.as m cA (·.fb (s.part s.dh) bh)).2) ab):wCall P 201 [ak l 0,bS .u64 cA,int bh] H aa:=by
 apply aqG;unfold aaW;refine dT hO ?_;clear hO;intro fm H hO;refine dT hO ?_;clear hO;intro fx H hO
 replace hO:=(hO.as).nR
 replace hO:al H ((Γ++[(fm,⟨[ak l 0],true⟩),(fx,⟨[int bh],true⟩)])++dQ L m):=hO
 have gN:(Γ++[(fm,(⟨[ak l 0],true⟩:az)),(fx,⟨[int bh],true⟩)])[i]?=some (l,⟨fr s L.cV,true⟩):=aS aq;refine aZ hO (Γ.length+0) (aS (aC rfl)) (v:=ak l 0) rfl (Sm (f:=(·.fb (s.part s.dh) bh)) aw hO hv gN ?_ ?_)
 ·clear hO;intro H vI hO Hp;show wCall P 237 [int (s.part s.dh),ak fm 0,ak fx 0] H vI;apply ard;unfold abA;exact aZ hO (Γ.length+0) (aS (aC rfl)) (v:=ak l 0) rfl (aY (aZ hO i (aS gN) (v:=ak L.cV 0) rfl (aZ hO (Γ.length+1) (aS (aC rfl)) (v:=int bh) rfl (asW (Ho ok) (Sn aV) hO (Sp hv) Hp))))
 ·clear hO;intro H cv he hO jL;exact ag H cv he (al.cf hO) jL
theorem awV(aw:s.b1)(ok:m.b1)(aV:m.hR 1000000)(aD:rP.length=64)(hO:al H (Γ++dQ L m))(hv:lk L m)(aq:Γ[i]?=some (l,⟨fr s L.cV,true⟩))
  (ag:∀ab cv,L.Eq cv->al ab (Γ++dQ cv (s.as m cA (·.eS (s.part s.dh) bh rP)).1)->lk cv (s.as m cA (·.eS (s.part s.dh) bh rP)).1->aa (int (s.as m cA (·.eS (s.part s.dh) bh rP)).2) ab):wCall P 205 [ak l 0,bS .u64 cA,int bh,oK rP] H aa:=by
 apply aqJ;unfold aa2;refine dT hO ?_;clear hO;intro cY H hO;refine dT hO ?_;clear hO;intro gP H hO
 replace hO:=hO.as
 refine dT hO ?_;clear hO;intro dI H hO
 replace hO:=(hO.as).nR
 replace hO:al H ((Γ++[(cY,⟨[ak l 0],true⟩),(gP,⟨[int bh],true⟩),(dI,⟨bj rP,true⟩)])++dQ L m):=hO
 have gN:(Γ++[(cY,(⟨[ak l 0],true⟩:az)),(gP,⟨[int bh],true⟩),(dI,⟨bj rP,true⟩)])[i]?=some (l,⟨fr s L.cV,true⟩):=aS aq;refine aZ hO (Γ.length+0) (aS (aC rfl)) (v:=ak l 0) rfl (Sm (f:=(·.eS (s.part s.dh) bh rP)) aw hO hv gN ?_ ?_)
 ·clear hO;intro H vI hO Hp;show wCall P 240 [int (s.part s.dh),ak cY 0,ak gP 0,ak dI 0] H vI;apply arh;unfold abD;exact aZ hO (Γ.length+0) (aS (aC rfl)) (v:=ak l 0) rfl (aY (aZ hO i (aS gN) (v:=ak L.cV 0) rfl (aZ hO (Γ.length+1) (aS (aC rfl)) (v:=int bh) rfl (hi hO (Γ.length+2) (aS (aC rfl)) (by simp_all) (by omega) (acQ (Ho ok) aD (Sn aV) hO (Sp hv) Hp)))))
 ·clear hO;intro H cv he hO jL;exact ag H cv he (al.cf hO) jL
theorem awW(aw:s.b1)(ok:m.b1)(aV:m.hR 1000000)(hO:al H (Γ++dQ L m))(hv:lk L m)(aq:Γ[i]?=some (l,⟨fr s L.cV,true⟩))
  (ag:∀ab cv,L.Eq cv->al ab (Γ++dQ cv (s.as m cA (·.iS)).1)->lk cv (s.as m cA (·.iS)).1->aa (int (s.as m cA (·.iS)).2) ab):wCall P 202 [ak l 0,bS .u64 cA] H aa:=by
 apply aqH;unfold aaX;refine dT hO ?_;clear hO;intro bI H hO
 replace hO:=hO.nR
 replace hO:al H ((Γ++[(bI,⟨[ak l 0],true⟩)])++dQ L m):=hO
 have gN:(Γ++[(bI,(⟨[ak l 0],true⟩:az))])[i]?=some (l,⟨fr s L.cV,true⟩):=aS aq;refine aZ hO (Γ.length+0) (aS (aC rfl)) (v:=ak l 0) rfl (Sm (f:=(·.iS)) aw hO hv gN ?_ ?_)
 ·clear hO;intro H vI hO Hp;show wCall P 239 [int (s.part s.dh),ak bI 0] H vI;apply arf;unfold abC;exact aZ hO (Γ.length+0) (aS (aC rfl)) (v:=ak l 0) rfl (aY (aZ hO i (aS gN) (v:=ak L.cV 0) rfl (acR (Ho ok) (Sn aV) hO (Sp hv) Hp)))
 ·clear hO;intro H cv he hO jL;exact ag H cv he (al.cf hO) jL
def gK.drop(s:gK)(cA:Nat):gK:=if s.uL cA then {s with im:=0,dh:=0,pk:=0}else s
theorem awX:(di P 189).f []=some (agg [int 0,int 0,bS .u64 0]):=by rfl
theorem awY{afb:List (Nat×az)}(hO:al H ((Γ++[(l,⟨fr s p,true⟩)])++afb))(ag:∀ab,al ab ((Γ++[(l,⟨fr (s.drop cA) p,true⟩)])++afb)->aa (.bool (decide (s.uL cA))) ab):wCall P 49 [ak l 0,bS .u64 cA] H aa:=by
 apply aoS;unfold YT;unfold gK.drop at ag;refine ae9 hO (i:=Γ.length+0) (aS (aC rfl)) ?_;clear hO;intro H hO;refine ai jt ?_;by_cases hh:s.uL cA
 ·rw[if_pos hh,decide_eq_true hh]at ag;refine eX (by simp[hh]) (ai awX (aY (o9 hO (Γ.length+0) (aS (aC rfl)) rfl (show 0+0+3<=7 by omega) rfl ?_)));clear hO;intro H hO;rw[List.set_append_left _ _ (by simp),Go.Ab.cy]at hO;exact ag H hO
 ·rw[if_neg hh,decide_eq_false hh]at ag;exact fU (by simp[hh]) (ag H hO)
end J
namespace J
open Go Go.Ab
variable[cu:b0]
variable{H:au}{Γ qY:List (Nat×az)}{aa:VH}{v:Value}{aj bs:List Int}{j p:Nat}{e:Int}
theorem awZ(h:cl Γ v aj){i n:Nat}(aX:i+n<=aj.length){gW:Option Value}(aV:gW=none\/gW=some (int ((i+n:Nat):Int))):∃aQ,hP 1 v (some (int i)) (some (int ((i+n:Nat):Int))) gW=some aQ/\qo v aj aQ ((aj.drop i).take n):=by
 have an:∀len:Nat,i+n<=len->ow len (some (int ((i+n:Nat):Int)))=some (i+n):=fun len aD=>by
  show(match kf 0 ((i+n:Nat):Int)with|true=>(match Nat.ble ((i+n:Nat):Int).toNat len with|true=>some ((i+n:Nat):Int).toNat|false=>none)|false=>none)=_
  grind[ly,Nat.ble_eq_true_of_le]
 have r9:qE (i+n) (some (int (i:Int)))=some i:=by
  show(match kf 0 (i:Int)with|true=>(match Nat.ble (i:Int).toNat (i+n)with|true=>some (i:Int).toNat|false=>none)|false=>none)=_
  simp_all[ly,Nat.ble_eq_true_of_le]
 have AS:∃f,r2 (i+n) (some (int ((i+n:Nat):Int))) gW=some f:=by
  rcases aV with rfl|rfl
  ·exact⟨false,rfl⟩
  ·refine⟨true,?_⟩;show(match kf 0 ((i+n:Nat):Int)with|true=>(match Nat.beq ((i+n:Nat):Int).toNat (i+n)with|true=>some true|false=>none)|false=>none)=_
   grind[ly,Int.toNat_natCast,Nat.beq_refl]
 obtain⟨f,hf⟩:=AS;rcases h with⟨rfl,rfl⟩|⟨p,o,c,rfl,aA,_⟩
 ·have aR:i=0/\n=0:=by simp_all
  obtain⟨rfl,rfl⟩:=aR;rcases aV with rfl|rfl<;>exact⟨bB,rfl,.none⟩
 ·have he:∃cC,(cC=2\/cC=3)/\hP 1 (aF p o aj.length c) (some (int i)) (some (int ((i+n:Nat):Int))) gW=some (aF p (o+i) n cC):=by
   generalize int ((i+n:Nat):Int)=hh at an hf⊢;generalize int (i:Int)=ii at r9⊢;rcases aA with rfl|rfl
   ·refine⟨cond f 3 2,by grind,?_⟩
    simp_all[hP,rj]
   ·refine⟨cond (f||Nat.beq (i+n) aj.length) 3 2,by grind,?_⟩
    simp_all[hP,rj]
  obtain⟨cC,gF,he⟩:=he;refine⟨_,he,fun hz h=>?_⟩;rcases h with⟨h,_⟩|⟨lb,dv,QF,jA,_,h⟩
  ·cases h
  cases jA;have aD:((aj.drop i).take n).length=n:=by grind
  refine .inr ⟨p,o+i,cC,by rw[aD],gF,?_⟩;rcases h with rfl|⟨j,b,ad,af⟩
  ·simp_all
  ·refine .inr ⟨j,b,ad,?_⟩;have:=congrArg (fun l=>(List.drop i l).take n) af;rw[List.drop_take,List.drop_drop,List.take_take,Nat.min_eq_left (by omega)]at this
   simp_all
theorem aw0{l ca dH:Nat}{I:Nat->au->Prop}(ja:∀k H,I k H->∃(hz:List (Nat×az)) (oc vH:Nat),al H hz/\hz[oc]?=some (ca,⟨[v],true⟩)/\hz[vH]?=some (dH,⟨[int 64],true⟩)/\cl hz v bs)(ao:bs.length<=1000000)
  (U:∀k,64*k<bs.length->∀H tW,qo v bs tW ((bs.drop (64*k)).take 64)->I k H->xJ P (.round l [tW] H) fun b ab=>b=.bool true/\I (k+1) ab)
  (hO:I 0 H) (ag:∀ab,I ((bs.length+63)/64) ab->aa (.tuple [].toArray) ab):wCall P 279 [u6 l,ak ca 0,ak dH 0] H aa:=by
 apply arP;unfold ace;refine arO (fun k aG ab=>∃y:Nat,y<=(bs.length+63)/64/\k=(bs.length+63)/64-y/\aG=[u6 l,ak ca 0,ak dH 0,int ((64*y:Nat):Int)]/\I y ab) _ _ ?_ ((bs.length+63)/64) _ _ ⟨0,by omega,rfl,rfl,hO⟩;clear hO;rintro k aG H ⟨y,ba,rfl,rfl,hO⟩;unfold acd
 try simp only[cR,cS]
 obtain⟨hz,oc,vH,bE,af,ax,hv⟩:=ja y H hO;refine aZ bE oc af rfl (cH hv.cG (ai gj (bT (fun h=>?_) (fun h=>?_))))
 ·have lU:64*y<bs.length:=by omega
  refine aZ bE vH ax rfl (aZ bE oc af rfl ?_);obtain⟨ev,bn,bQ⟩:=KS hv (show 64*y<=bs.length by omega);refine ai bn (cH (bQ _ hv).cG (cH vy (aZ bE oc af rfl ?_)));have aV:min (64:Int) ((bs.drop (64*y)).length:Int)=((min 64 (bs.length-64*y):Nat):Int):=by grind
  rw[aV];have aX:64*y+min 64 (bs.length-64*y)<=bs.length:=by omega
  refine ai (v:=int ((64*y+min 64 (bs.length-64*y):Nat):Int)) (by grind[mn]) (ai (v:=int ((64*y+min 64 (bs.length-64*y):Nat):Int)) (by grind[mn]) ?_);obtain⟨tW,bF,cE⟩:=awZ hv aX (gW:=some (int ((64*y+min 64 (bs.length-64*y):Nat):Int))) (.inr rfl);refine ai bF ?_;have ey:(bs.drop (64*y)).take (min 64 (bs.length-64*y))=(bs.drop (64*y)).take 64:=by simp_all
  rw[ey]at cE;refine Xn (acp (U y lU H tW cE hO) ?_);rintro fl cD ⟨rfl,dd⟩;obtain⟨aCB,hx,oE,aw1,aCC,aw2,_⟩:=ja (y+1) cD dd;exact ai jt (eX rfl (aZ aw1 oE aw2 rfl (ai (v:=int ((64*(y+1):Nat):Int)) (by grind[mn]) (⟨_,by omega,y+1,by omega,rfl,rfl,dd⟩))))
 ·have lW:y=(bs.length+63)/64:=by omega
  subst lW;exact kW rfl (ag _ hO)
def sL(c:List Int):List Int:=c++List.replicate (64-c.length) 255
def hM(n:Nat):Nat:=(n+63)/64
def my(b:List Int):List (List Int):=(List.range (hM b.length)).map fun k=>sL ((b.drop (64*k)).take 64)
def rQ(l:List (List Int)):List Value:=l.flatMap bj
theorem afc{c:List Int}(h:c.length<=64):(sL c).length=64:=by grind[sL]
theorem afd(b:List Int):(my b).length=hM b.length:=by simp[my]
theorem aw3{b:List Int}:∀s∈my b,s.length=64:=by
 intro s aw;obtain⟨k,_,rfl⟩:=List.mem_map.1 aw
 grind[afc]
theorem aw4{b:List Int}{k:Nat}(h:k<hM b.length):(my b).take (k+1)=(my b).take k++[sL ((b.drop (64*k)).take 64)]:=by simp_all[List.take_succ_eq_append_getElem,my]
theorem aw5{c:List Int}(h:c.length<=64):(bj jd).take 0++(bj c++(bj jd).drop (0+c.length))=bj (sL c):=by
 have e:(bj jd).drop (0+c.length)=bj (List.replicate (64-c.length) 255):=by simp only[bj,jd,List.map_replicate,List.drop_replicate,Nat.zero_add]
 simp_all[sL]
theorem aw6(g:Nat->Int)(H:au):(eY P 131 1).f [(0,oK ((List.range 64).map g))] H=some (aF H.next 0 1 129,H.push (bj ((List.range 64).map g))):=by rfl
theorem aw7{s:List Int}(h:s.length=64)(H:au):(eY P 131 1).f [(0,oK s)] H=some (aF H.next 0 1 129,H.push (bj s)):=by grind[K0,aw6]
theorem aw8:dq P 131=[bB]:=by rfl
theorem aw9{qu n:Nat}{iT tW:Value}{ar:List Value}{c:List Int}{X:au->Prop}(hO:al H ((qY++[(qu,⟨[iT],true⟩)])++b2 iT ar))(hv:jN 64 iT n ar)(aA:cl qY tW c)(aD:c.length<=64)(aX:n<=1000000)
  (ag:∀ab sy,al ab ((qY++[(qu,⟨[sy],true⟩)])++b2 sy (ar++bj (sL c)))->jN 64 sy (n+1) (ar++bj (sL c))->X ab):
  wCall P 116 [] H fun Ei cD=>
  cO (dq P 102) cD fun t9 ui=>
  ah (bC 64 t9 Ei ui) fun aU xZ=>
  ae (me 64 1 t9 none none none xZ) fun t20=>
  ah (qD 1 t20 tW xZ) fun aCD qZ=>
  ah (aB (ak qu 0) qZ) fun axa Sq=>
  ah (ch 64 t9 Sq) fun axb axc=>
  ah ((eY P 131 1).f [(0,axb)] axc) fun axd axe=>
  ah (gD 64 64 axa axd axe) fun Sr axf=>
  ah (bC 1 (ak qu 0) Sr axf) fun afe axg=>X axg:=by
 refine Ek hO ?_;clear hO;intro H hO;rw[BF];refine dT hO ?_;clear hO;intro aff H hO;refine gl hO (((qY++[(qu,(⟨[iT],true⟩:az))])++b2 iT ar).length+0) (aC rfl) (by rfl) (by rfl) (lT _) ?_;clear hO;intro H hO
 replace hO:al H (((qY++[(qu,⟨[iT],true⟩)])++b2 iT ar)++[(aff,⟨bj jd,true⟩)]):=hO.cy
 refine ai (xW (n:=64) hO (((qY++[(qu,(⟨[iT],true⟩:az))])++b2 iT ar).length+0) (aC rfl) (by omega) (by simp_all[jd])) (asH hO (i:=((qY++[(qu,(⟨[iT],true⟩:az))])++b2 iT ar).length+0) (aC rfl) aA.bo.bo.bo (by omega) (by rw[od];decide) ?_);clear hO;intro H hO
 replace hO:al H (((qY++[(qu,⟨[iT],true⟩)])++b2 iT ar)++[(aff,⟨(bj jd).take 0++(bj c++(bj jd).drop (0+c.length)),true⟩)]):=hO.cy
 rw[show(bj jd).take 0++(bj c++(bj jd).drop (0+c.length))=bj (sL c)from aw5 aD]at hO;have nF:=afc aD;refine aZ hO (qY.length+0) (aS (aS (aC rfl))) rfl (hi hO (((qY++[(qu,(⟨[iT],true⟩:az))])++b2 iT ar).length+0) (aC rfl) (by simp_all) (by omega) ?_)
 replace hO:=hO.left
 refine ih hO (aw7 nF _) ?_;clear hO;intro q H hO;refine Ej hO hv (by simp_all) (by omega) (lT _) (by omega) (by omega) ?_;clear hO;intro sy H hO jL;obtain⟨dm,e8,db,bn⟩:∃dm e8 db,sy=.slice dm e8 db:=by rcases jL with⟨_,h,_⟩|⟨p,rfl|rfl,_⟩;omega;exact⟨_,_,_,rfl⟩;simp_all
 refine fQ hO (qY.length+0) (aS (aC rfl)) (by rw[bn];rfl) (show 0<1 by omega) rfl ?_;clear hO;intro H hO;rw[List.set_append_left _ _ (by simp),Go.Ab.cy]at hO;exact ag H sy hO jL
theorem axh(hO:al H Γ)(hv:cl Γ v bs)(aD:bs.length<=1000000)(ag:∀(ab:au) (aQ:Value),al ab (Γ++b2 aQ (rQ (my bs)))->jN 64 aQ (my bs).length (rQ (my bs))->aa aQ ab):wCall P 241 [v] H aa:=by
 apply arj;unfold abF;rw[aw8];refine dT hO ?_;clear hO;intro qu H hO;apply arC;unfold abX;refine dT hO ?_;clear hO;intro ca H hO;refine dT hO ?_;clear hO;intro dH qZ hO;obtain⟨dm,e8,db,bn⟩:=cl.lC hv;have qK:dp v=[v]:=by rw[bn];rfl
 rw[qK]at hO;refine aZ hO (((Γ++[(qu,(⟨[bB],true⟩:az))])++[(ca,(⟨[v],true⟩:az))]).length+0) (aC rfl) rfl (ai gj (eX rfl ?_));have dd:al qZ (((Γ++[(ca,⟨[v],true⟩),(dH,⟨[int 64],true⟩)])++[(qu,⟨[bB],true⟩)])++b2 bB (rQ ((my bs).take 0))):=by
  show al qZ (((Γ++[(ca,⟨[v],true⟩),(dH,⟨[int 64],true⟩)])++[(qu,⟨[bB],true⟩)])++[]);rw[List.append_nil];have bl:al qZ ((Γ++[(qu,⟨[bB],true⟩)])++[(ca,⟨[v],true⟩),(dH,⟨[int 64],true⟩)]):=by rw[List.append_assoc (_++[(qu,_)])]at hO;exact hO
  exact bl.nR
 have cE:∀ b8,cl ((Γ++[(ca,(⟨[v],true⟩:az)),(dH,⟨[int 64],true⟩)])++b8) v bs:=fun b8=>hv.bo.bo
 refine Xm (L:=cu) dd (f:=279) (args:=[u6 (Nat.succ qZ.next),ak ca 0,ak dH 0]) rfl ?_;intro T bk jB fN pL;generalize hL:iA (Nat.succ qZ.next) _ cu=L at pL;refine aw0 (cu:=L) (l:=Nat.succ qZ.next) (v:=v) (bs:=bs) (I:=fun k ab=>∃iT,@al L ab (((Γ++[(ca,⟨[v],true⟩),(dH,⟨[int 64],true⟩)])++[(qu,⟨[iT],true⟩)])++b2 iT (rQ ((my bs).take k)))/\jN 64 iT (min k (hM bs.length)) (rQ ((my bs).take k))) ?_ (by omega) ?_ ⟨bB,pL,.inl ⟨rfl,by omega,rfl⟩⟩ ?_
 ·rintro k ab ⟨iT,ad,af⟩;exact⟨_,_,_,ad,aS (aS (aC (k:=0) rfl)),aS (aS (aC (k:=1) rfl)),by rw[List.append_assoc];exact cE _⟩
 ·rintro k kF H tW NW ⟨iT,GK,wV⟩;subst hL;have gi:k<hM bs.length:=by grind[hM]
  have axi:((bs.drop (64*k)).take 64).length<=64:=by grind
  refine Xj (n:=18) GK bk jB rfl (by decide) ?_;rw[ari];unfold abE;refine Xh GK ?_;intro cD dd;rw[Nat.min_eq_left (by omega)]at wV;refine aw9 (cu:=iA (Nat.succ qZ.next) _ cu) dd wV (NW _ (by have:=cE [];rw[List.append_nil]at this;exact this)) axi (by omega) ?_;intro iM sy kC afg;have i6:rQ ((my bs).take k)++bj (sL ((bs.drop (64*k)).take 64))=rQ ((my bs).take (k+1)):=by simp_all[aw4,rQ]
  rw[i6]at kC afg;refine Xi kC ?_;intro ui y1;refine⟨rfl,sy,y1,?_⟩;rw[Nat.min_eq_left (by omega)];exact afg
 ·rintro cD ⟨iT,dd,wV⟩;subst hL;refine⟨.ready,_,by simp,dd,?_⟩;intro iM kC;show ah _ _;have hQ:(my bs).take ((bs.length+63)/64)=my bs:=List.take_of_length_le (by rw[afd];exact Nat.le_refl _);rw[hQ]at kC wV;refine aZ kC ((Γ++[(ca,(⟨[v],true⟩:az)),(dH,⟨[int 64],true⟩)]).length+0) (aS (aC rfl)) rfl (ag _ iT ?_ ?_)
  ·exact kC.sub (List.Sublist.append (by rw[List.append_assoc];exact List.sublist_append_left _ _) (List.Sublist.refl _))
  ·rw[afd];have iG:min ((bs.length+63)/64) (hM bs.length)=hM bs.length:=Nat.min_self _;rw[iG]at wV;exact wV
end J
namespace J
open Go Go.Ab
variable[cu:b0]
variable{H:au}{S X:List (Nat×az)}{v w x b9 hq:Value}{aj bs b:List Int}{j p i l r n ez wr dx cA:Nat}{e bu dh l0 bh a:Int}{m:bt}{s:gK}{aW:df}{rP:List Int}{fM:List (List Int)}
def bt.tz(m:bt):Prop:=∀c∈m.d.cells,ct c.e5
theorem bO.Ss{d:bO}{a:Int}(h:∀c∈d.cells,ct c.e5):∀c∈(d.fb a).1.cells,ct c.e5:=by
 unfold bO.fb;split
 ·exact h
 split
 ·exact h
 split
 ·exact h
 split
 ·exact h
 intro c aA;rcases List.mem_or_eq_of_mem_set aA with aA|rfl
 ·rcases List.mem_or_eq_of_mem_set aA with aA|rfl
  ·exact h c aA
  ·intro x ao;simp only[bO.cell]at ao;rw[List.getD_eq_getElem?_getD]at ao;by_cases aq:a.toNat<d.cells.length
   ·grind
   ·rw[List.getElem?_eq_none (by omega)]at ao;have:x=0:=List.eq_of_mem_replicate ao;omega
 ·intro x ao;have:x=255:=List.eq_of_mem_replicate ao;omega
theorem bO.St{d:bO}{a:Int}(h:∀c∈d.cells,ct c.e5)(aw:ct rP):∀c∈(d.eS a rP).1.cells,ct c.e5:=by
 unfold bO.eS;split
 ·exact h
 split
 ·exact h
 split
 ·exact h
 split
 ·exact h
 intro c aA;rcases List.mem_or_eq_of_mem_set aA with aA|rfl
 ·exact h c aA
 ·exact aw
theorem afh{o:Op}(h:m.tz):(m.pM o e).tz:=by unfold bt.pM;split<;>exact h
theorem bt.Ss(h:m.tz):(m.fb l0 bh).1.tz:=by
 unfold bt.fb;split
 ·exact h
 ·exact afh (m:={m with d:=(m.d.fb (m.iX l0 bh).1).1}) (bO.Ss h)
theorem bt.St(h:m.tz)(aw:ct rP):(m.eS l0 bh rP).1.tz:=by
 unfold bt.eS;split
 ·exact h
 ·exact afh (m:={m with d:=(m.d.eS (m.iX l0 bh).1 rP).1}) (bO.St h aw)
theorem bt.axj(h:m.tz):m.iS.1.tz:=by
 unfold bt.iS bt.tz;unfold bO.iS;split
 ·exact h
 split
 ·exact h
 show∀c∈jP m.d.cells m.d.done,ct c.e5;have:∀(l:List (Nat×List Int)) (ar:List Cell),(∀c∈ar,ct c.e5)->∀c∈jP ar l,ct c.e5:=by
  intro l;induction l with
  | nil=>intro ar h;exact h
  | cons x l bd=>
   intro ar h;refine bd (tn ar x) ?_;intro c aA;rcases List.mem_or_eq_of_mem_set aA with aA|rfl
   ·exact h c aA
   ·show ct (ar.getD x.1 ij).e5;rw[List.getD_eq_getElem?_getD];by_cases aq:x.1<ar.length
    ·rw[List.getElem?_eq_getElem aq];exact h _ (List.getElem_mem aq)
    ·rw[List.getElem?_eq_none (by omega)];intro y ba;have:y=0:=List.eq_of_mem_replicate ba;omega
 exact this _ _ h
theorem bt.axk(h:m.tz):ct (m.gA l0 bh).1:=by
 have eu:ct sx:=fun y ba=>by have:y=0:=List.eq_of_mem_replicate ba;omega
 unfold bt.gA;split
 ·exact eu
 ·unfold bO.gA;split
  ·rename_i ad;show ct (m.d.cell _).e5;obtain⟨aq,e⟩:=bO.get ad;rw[<- e];exact h _ (List.getElem_mem aq)
  ·exact eu
theorem bt.axl(h:m.tz):ct (m.all l0):=by intro x ao;unfold bt.all bt.vN at ao;obtain⟨i,_,ao⟩:=List.mem_flatMap.1 ao;exact bt.axk h x ao
structure pn (m:bt):Prop where
 ok:m.b1
 b:m.tz
theorem Su{f:bt->bt×Int}(h:pn m)(hf:∀m,pn m->pn (f m).1):pn (s.as m cA f).1:=by
 unfold gK.as;split
 ·have:=hf {m with dW:=s.im} ⟨Ho h.ok,h.b⟩;exact⟨Ho this.ok,this.b⟩
 ·exact h
theorem axm{f:bt->bt×Int}{N:Nat}(h:m.hR N)(hf:∀m,m.hR N->(f m).1.hR (N+1)):(s.as m cA f).1.hR (N+1):=by
 unfold gK.as;split
 ·exact hf _ h
 ·exact h.mono (by omega)
structure bU where
 s:gK
 cA:Nat
 dh:Int
 q:List jl
 aW:df
 ez:Nat
 fM:List (List Int)
 wr:Nat
 dx:Nat
 bu:Int
 m:bt
def bU.size(w:bU):Nat:=w.m.size (w.s.part w.dh)
def bU.put(w:bU)(r:bt×Int):bU:={w with m:=r.1,bu:=r.2}
def po(w:bU)(y:Nat):Prop:=(w.s.gA w.m w.dh y).2=0/\(w.s.gA w.m w.dh y).1≠jd
instance {w:bU} {y:Nat}:Decidable (po w y):=by unfold po;infer_instance
def bU.tA(w:bU):Nat->Nat->Option Nat
 | 0,_=>none
 | n+1,y=>if po w y then some y else w.tA n (y+1)
def bU.rR(w:bU)(y:Nat):bU:=w.put (w.s.as w.m w.cA (·.fb (w.s.part w.s.dh) y))
def bU.mu(w:bU):bU:=match w.tA w.size 0 with
 | some y=>w.rR y
 | none=>{w with dx:=2}
def bU.lq(w:bU):bU:=w.put (w.s.as w.m w.cA (·.iS))
def bU.mz(w:bU):bU:=if w.lq.bu≠0 then w.lq else
 if((w.lq.m.all (w.s.part w.dh)).length:Int)<w.aW.c0\/gB ((w.lq.m.all (w.s.part w.dh)).take w.aW.c0.toNat)≠w.aW.cq then {w.lq with bu:=153}else {w.lq with dx:=4}
def bU.pV(w:bU)(x:List Int):bU:=w.put (w.s.as w.m w.cA (·.eS (w.s.part w.s.dh) w.wr x))
def bU.fill(w:bU)(x:List Int)(aj:List (List Int)):bU:=if(w.pV x).bu=0 then {w.pV x with fM:=aj,wr:=w.wr+1}else w.pV x
def bU.ym(w:bU)(m:df):bU:=if¬eB m then {w with bu:=192}else if m.c0>64*(w.size:Int)then {w with bu:=145}else {w with aW:=m,dx:=1,bu:=0}
def bU.body(w:bU)(a:Int)(bs:List Int):bU:=if a≠w.ez\/(gw w.aW a).2=0\/(bs.length:Int)≠(gw w.aW a).2 then {w with bu:=192}else {w with fM:=my bs,ez:=w.ez+1,bu:=0}
def bU.kr(w:bU)(n:jl):bU:=
 if w.dx=0 then(match n with|.nk _ m=>w.ym m|_=>{w with bu:=192})
 else match n with
  | .body a bs=>w.body a bs
  | .eC=>if w.ez<w.aW.a1.length then {w with bu:=192}else {w with dx:=3}
  | _=>{w with bu:=192}
def bU.step(w:bU):Bool×bU:=
 if w.bu≠0\/w.dx=4 then(false,w)
 else if w.dx=1 then(true,w.mu)
 else if w.dx=3 then(true,w.mz)
 else match w.fM with
  | x::aj=>(true,w.fill x aj)
  | []=>match w.q with
   | []=>(false,w)
   | n::q=>(true,({w with q:=q}:bU).kr n)
def iq(l cA:Nat)(dh:Int)(r:Nat)(aW:df)(b9:Value)(ez:Nat)(hq:Value)(wr dx:Nat)(bu:Int):List Value:=
 ak l 0::bS .u64 cA::int dh::ak r 0::(b4 aW b9++[int ez,hq,int wr,int dx,int bu])
theorem uM(aJ:aW.cq.length=32):(iq l cA dh r aW b9 ez hq wr dx bu).length=46:=by simp_all[iq,e1]
theorem Hq(aJ:aW.cq.length=32)(k:Nat):(iq l cA dh r aW b9 ez hq wr dx bu)[0+(41+k)]?=[int ez,hq,int wr,int dx,int bu][k]?:=by
 unfold iq;rw[show 0+(41+k)=(37+k)+4 by omega];show(b4 aW b9++[int ez,hq,int wr,int dx,int bu])[37+k]?=_
 simp_all[List.getElem?_append_right,e1]
theorem Sv(aJ:aW.cq.length=32):(iq l cA dh r aW b9 ez hq wr dx bu)[0+41]?=some (int ez):=Hq aJ 0
theorem Sw(aJ:aW.cq.length=32):(iq l cA dh r aW b9 ez hq wr dx bu)[0+42]?=some hq:=Hq aJ 1
theorem Sx(aJ:aW.cq.length=32):(iq l cA dh r aW b9 ez hq wr dx bu)[0+43]?=some (int wr):=Hq aJ 2
theorem Hr(aJ:aW.cq.length=32):(iq l cA dh r aW b9 ez hq wr dx bu)[0+44]?=some (int dx):=Hq aJ 3
theorem LQ(aJ:aW.cq.length=32):(iq l cA dh r aW b9 ez hq wr dx bu)[0+45]?=some (int bu):=Hq aJ 4
theorem axn(aJ:aW.cq.length=32):(iq l cA dh r aW b9 ez hq wr dx bu)[0+4+36]?=some b9:=by
 show(b4 aW b9++[int ez,hq,int wr,int dx,int bu])[36]?=_
 grind[uB]
theorem axo(aJ:aW.cq.length=32):((iq l cA dh r aW b9 ez hq wr dx bu).drop (0+4)).take 37=b4 aW b9:=by
 unfold iq;show(b4 aW b9++[int ez,hq,int wr,int dx,int bu]).take 37=_
 simp_all[e1]
theorem axp(aJ:aW.cq.length=32):((iq l cA dh r aW b9 ez hq wr dx bu).drop (0+4+4)).take 32=bj aW.cq:=by simp_all[iq,b4]
theorem Hs(aJ:aW.cq.length=32)(k:Nat)(v:Value):(iq l cA dh r aW b9 ez hq wr dx bu).set (0+(41+k)) v=ak l 0::bS .u64 cA::int dh::ak r 0::(b4 aW b9++[int ez,hq,int wr,int dx,int bu].set k v):=by
 unfold iq;rw[show 0+(41+k)=(37+k)+4 by omega];show ak l 0::bS .u64 cA::int dh::ak r 0::((b4 aW b9++[int ez,hq,int wr,int dx,int bu]).set (37+k) v)=_
 simp_all[e1]
theorem axq(aJ:aW.cq.length=32)(n:Nat):(iq l cA dh r aW b9 ez hq wr dx bu).set (0+41) (int n)=iq l cA dh r aW b9 n hq wr dx bu:=Hs aJ 0 _
theorem afi(aJ:aW.cq.length=32)(v:Value):(iq l cA dh r aW b9 ez hq wr dx bu).set (0+42) v=iq l cA dh r aW b9 ez v wr dx bu:=Hs aJ 1 _
theorem axr(aJ:aW.cq.length=32)(n:Nat):(iq l cA dh r aW b9 ez hq wr dx bu).set (0+43) (int n)=iq l cA dh r aW b9 ez hq n dx bu:=Hs aJ 2 _
theorem LR(aJ:aW.cq.length=32)(n:Nat):(iq l cA dh r aW b9 ez hq wr dx bu).set (0+44) (int n)=iq l cA dh r aW b9 ez hq wr n bu:=Hs aJ 3 _
theorem Sy(aJ:aW.cq.length=32)(n:Int):(iq l cA dh r aW b9 ez hq wr dx bu).set (0+45) (int n)=iq l cA dh r aW b9 ez hq wr dx n:=Hs aJ 4 _
theorem axs{dG:df}{bb:Value}(aJ:aW.cq.length=32)(af:dG.cq.length=32):(iq l cA dh r aW b9 ez hq wr dx bu).take (0+4)++(b4 dG bb++(iq l cA dh r aW b9 ez hq wr dx bu).drop (0+4+37))=iq l cA dh r dG bb ez hq wr dx bu:=by
 unfold iq;show ak l 0::bS .u64 cA::int dh::ak r 0::(b4 dG bb++(b4 aW b9++[int ez,hq,int wr,int dx,int bu]).drop 37)=_
 simp_all[e1]
def qv(S:List (Nat×az))(v:Value)(fM:List (List Int)):Prop:=
 (v=bB/\fM=[])\/∃(p k c j:Nat) (w:Bool) (all:List (List Int)),v=aF p (k*64) fM.length c/\fM=all.drop k/\k<=all.length/\S[j]?=some (p,⟨rQ all,w⟩)/\(∀x∈all,x.length=64)/\(c=128\/c=129)
theorem qv.bo(h:qv S v fM):qv (S++X) v fM:=by
 rcases h with h|⟨p,k,c,j,w,all,ad,af,ax,aO,bl⟩
 ·exact .inl h
 ·exact .inr ⟨p,k,c,j,w,all,ad,af,ax,aS aO,bl⟩
theorem qv.cG(h:qv S v fM):cG v H=some (int fM.length,H):=by rcases h with⟨rfl,rfl⟩|⟨p,k,c,j,w,all,rfl,_⟩<;>rfl
theorem qv.gd(h:qv S v fM):eP v=true:=by rcases h with⟨rfl,rfl⟩|⟨p,k,c,j,w,all,rfl,_⟩<;>rfl
end J
namespace J
open Go Go.Ab
variable[cu:b0]
variable{H:au}{Γ kH b8 S F X N:List (Nat×az)}{aa:VH}{v:Value}{ar bx:List Value}{p o k n:Nat}{e bh:Int}{m:bt}{L cv:lG}{aW:df}{w:bU}
theorem jQ(hO:al H ((Γ++kH)++b8))(k:Nat){b:Bool}(aq:kH[k]?=some (p,⟨ar,b⟩))(hv:ar[o]?=some v)(ag:aa v H):ah (aB (ak p o) H) aa:=aZ hO (Γ.length+k) (aS (aC aq)) hv ag
theorem uN(hO:al H ((Γ++kH)++b8))(k:Nat)(aq:kH[k]?=some (p,⟨ar,true⟩))(ad:eP v=true)(aX:o<ar.length)(aA:ar.set o v=bx)(ag:∀ab,al ab ((Γ++kH.set k (p,⟨bx,true⟩))++b8)->aa undef ab):ah (bC 1 (ak p o) v H) aa:=by refine fQ hO (Γ.length+k) (aS (aC aq)) ad aX aA ?_;intro ab iR;have kF:=(List.getElem?_eq_some_iff.1 aq).1;rw[List.set_append_left _ _ (by simp_all),Go.Ab.cy]at iR;exact ag ab iR
theorem LS(h:al H ((((S++F)++kH)++b8)++N)):al H (((S++(F++N))++kH)++b8):=h.fP (by classical exact List.perm_iff_count.2 fun _=>by grind)
theorem zW(h:al H (((S++(F++N))++kH)++b8)):al H (((S++F)++kH)++b8):=h.sub (by refine List.Sublist.append (List.Sublist.append (List.Sublist.append (List.Sublist.refl S) (List.sublist_append_left F N)) (List.Sublist.refl _)) (List.Sublist.refl _))
theorem axt(h:al H ((((S++F)++kH)++b8)++X)):al H ((((S++X)++F)++kH)++b8):=h.fP (by classical exact List.perm_iff_count.2 fun _=>by grind)
structure jm where
 A:fW
 b9:Value
 hq:Value
 l:Nat
 c:Nat
 L:lG
def LU(A:fW)(l:Nat)(Sz:List Value)(c:Nat)(j0:List Value):List (Nat×az):=
 [(A.q,⟨A.ar,true⟩),(A.r,⟨c8 A.q A.n 1 A.f A.aP.length,true⟩),(l,⟨Sz,true⟩),(c,⟨j0,true⟩)]
def jm.j0(B:jm)(w:bU):List Value:=iq B.l w.cA w.dh B.A.r w.aW B.b9 w.ez B.hq w.wr w.dx w.bu
def jm.fu(B:jm)(w:bU):List (Nat×az):=LU B.A B.l (fr w.s B.L.cV) B.c (B.j0 w)
structure j2 (S:List (Nat×az)) (w:bU) (B:jm):Prop where
 q:oj S B.A w.q
 aW:w.aW.b1
 b9:fR S B.b9 w.aW.a1
 fM:qv S B.hq w.fM
 uO:∀x∈w.fM,ct x
 s:w.s.b1
 m:pn w.m
 own:lk B.L w.m
 ez:w.ez<=100
 wr:w.wr<=4096
structure jm.fg (B dn:jm):Prop where
 r:dn.A.r=B.A.r
 q:dn.A.q=B.A.q
 n:dn.A.n=B.A.n
 l:dn.l=B.l
 c:dn.c=B.c
 L:B.L.Eq dn.L
variable{B dn:jm}
theorem jm.fg.gm:B.fg B:=⟨rfl,rfl,rfl,rfl,rfl,.gm⟩
theorem jm.fg.trans{afj:jm}(h:B.fg dn)(a7:dn.fg afj):B.fg afj:=⟨a7.r.trans h.r,a7.q.trans h.q,a7.n.trans h.n,a7.l.trans h.l,a7.c.trans h.c,h.L.trans a7.L⟩
theorem j2.bo(h:j2 S w B):j2 (S++X) w B:=⟨h.q.bo,h.aW,h.b9.bo,h.fM.bo,h.uO,h.s,h.m,h.own,h.ez,h.wr⟩
def jm.at(B:jm)(L:lG):jm:={B with L:=L}
theorem jm.ha(h:B.L.Eq L):B.fg (B.at L):=⟨rfl,rfl,rfl,rfl,rfl,h⟩
theorem j2.put(h:j2 S w B){r:bt×Int}(aV:pn r.1)(bJ:lk L r.1):j2 S (w.put r) (B.at L):=⟨h.q,h.aW,h.b9,h.fM,h.uO,h.s,aV,bJ,h.ez,h.wr⟩
abbrev jR(H:au)(S F:List (Nat×az))(w:bU)(B:jm):Prop:=al H (((S++F)++B.fu w)++dQ B.L w.m)
theorem SA{r:bt×Int}(aJ:w.aW.cq.length=32)(he:B.L.Eq L)(hO:al H (((S++F)++B.fu w)++dQ L r.1))(ag:∀ab,jR ab S F (w.put r) (B.at L)->aa undef ab):ah (bC 1 (ak B.c 45) (int r.2) H) aa:=by
 have aM:jR H S F {w with m:=r.1} (B.at L):=by show al H (((S++F)++LU B.A B.l (fr w.s L.cV) B.c (B.j0 w))++dQ L r.1);rw[he.m];exact hO
 exact uN aM 3 (o:=0+45) rfl rfl (by simp_all[jm.j0,uM]) (Sy aJ _) ag
theorem B6(B:jm)(w:bU):((S++F)++B.fu w)[(S++F).length+2]?=some (B.l,⟨fr w.s B.L.cV,true⟩):=aC rfl
theorem axu:∀m,pn m->pn (m.fb bh e).1:=fun m h=>⟨bt.QN h.ok,bt.Ss h.b⟩
theorem afk:∀m,pn m->pn m.iS.1:=fun m h=>⟨bt.QR h.ok,bt.axj h.b⟩
theorem afl{x:List Int}(aD:x.length=64)(an:ct x):∀m,pn m->pn (m.eS bh e x).1:=fun m h=>⟨bt.QO h.ok aD,bt.St h.b an⟩
theorem gK.yb{s:gK}{a:Int}(ok:m.b1):(s.gA m a bh).1.length=64:=by
 unfold gK.gA;split
 ·rfl
 ·exact bt.yb ok
theorem axv(bc:j2 S w B)(aV:w.m.hR 1000000)(hO:jR H S F w B)(ag:∀ab dn,B.fg dn->j2 S w.mu dn->jR ab S F w.mu dn->aa (.tuple [].toArray) ab):wCall P 141 [ak B.c 0] H aa:=by
 apply ap1;unfold aaf;have aJ:=bc.aW.dR;refine aY (jQ hO 3 rfl (v:=ak B.l 0) rfl (aY (jQ hO 3 rfl (v:=int w.dh) rfl (Sl hO (B6 B w) ?_))));clear hO;intro H hO;unfold bU.mu at ag;refine ap0 (fun k aG ab=>∃y:Nat,y<=w.size/\k=w.size-y/\aG=[ak B.c 0,int w.size,int y]/\w.tA w.size 0=w.tA (w.size-y) y/\jR ab S F w B) _ _ ?_ w.size _ _ ⟨0,by omega,by omega,rfl,rfl,hO⟩;clear hO;rintro k aG H ⟨y,ba,rfl,rfl,s7,hO⟩;unfold aae
 try simp only[cR,cS]
 refine ai gj (bT (fun h=>?_) (fun h=>?_))
 ·have lU:y<w.size:=by omega
  have s7:w.tA w.size 0=if po w y then some y else w.tA (w.size-(y+1)) (y+1):=by rw[s7,show w.size-y=(w.size-(y+1))+1 by omega];rfl
  refine aY (jQ hO 3 rfl (v:=ak B.l 0) rfl (aY (jQ hO 3 rfl (v:=int w.dh) rfl (awT bc.m.ok hO (B6 B w) ?_))));clear hO;intro H hO;have Ep:=gK.yb (s:=w.s) (a:=w.dh) (bh:=y) bc.m.ok;refine ai km (ai kn ?_);rw[BF];refine dT hO ?_;clear hO;intro fm H hO;refine gl hO (_+0) (aC rfl) (by rfl) (by simp_all) (lT _) ?_;clear hO;intro H hO
  replace hO:=hO.cy
  replace hO:al H (((((S++F)++B.fu w)++dQ B.L w.m))++[(fm,⟨bj (w.s.gA w.m w.dh y).1,true⟩)]):=hO
  refine gb (fun aG ab=>aG=[ak B.c 0,int y,int w.size,int y,.bool (decide (po w y))]/\jR ab S F w B) ?_ ?_
  ·refine ai fz (bT (fun ad=>?_) (fun ad=>?_))
   ·refine hi hO (_+0) (aC rfl) (by simp_all) (by omega) (Ek hO ?_);intro cD dd;refine⟨ha hO (_+0) (aC rfl) dd (_+0) (aC rfl) (zB _),?_⟩;exact ai (acx false Ep rfl) (ai (ju ad) (⟨by simp[po,ad],dd.left⟩))
   ·exact ai (kV ad) (⟨by simp[po,ad],hO.left⟩)
  clear hO;rintro aG H ⟨rfl,hO⟩
  try simp only[cR,cS]
  refine bT (fun ad=>?_) (fun ad=>?_)
  ·rw[if_pos ad]at s7;rw[s7]at ag;refine aY (jQ hO 3 rfl (v:=ak B.l 0) rfl (aY (jQ hO 3 rfl (v:=bS .u64 w.cA) rfl (awU bc.s bc.m.ok aV hO bc.own (B6 B w) ?_))));clear hO;intro H cv he hO hv;refine aY (SA aJ he hO ?_);clear hO;intro H hO;exact ag H (B.at cv) (jm.ha he) (bc.put (Su bc.m axu) hv) hO
  ·rw[if_neg ad]at s7;exact ai (mn (by omega) (by have:=bt.GY bc.m.ok (part:=w.s.part w.dh);grind[bU.size])) (⟨_,by omega,y+1,by omega,rfl,rfl,s7,hO⟩)
 ·have lW:y=w.size:=by omega
  subst lW;rw[Nat.sub_self]at s7;have s7:w.tA w.size 0=none:=s7;rw[s7]at ag;refine kW rfl ?_
  try simp only[cR,cS]
  refine aY (uN hO 3 (o:=0+44) rfl rfl (by simp_all[jm.j0,uM]) (LR aJ 2) ?_);clear hO;intro H hO;exact ag H B .gm ⟨bc.q,bc.aW,bc.b9,bc.fM,bc.uO,bc.s,bc.m,bc.own,bc.ez,bc.wr⟩ hO
end J
