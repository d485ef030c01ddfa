/- texts of the nf, fh behind the mA -/
import Derived.Test.YtifflnhooaophaaGreatDoorUI
set_option linter.unusedVariables false
set_option linter.unusedSimpArgs false
set_option linter.unusedSectionVars false
set_option maxHeartbeats 4000000
set_option maxRecDepth 100000
open List Nat
namespace J
open Go Go.Ab
variable[cu:b0]
end J
namespace J
open Go Go.Ab
variable[cu:b0]
end J
namespace J
open Go Go.Ab
variable[cu:b0]
variable{ae b9:List (Nat×ax)}{v w:Value}{c n size:Nat}{aq:List Value}
def qk(size:Nat)(ae:List (Nat×ax))(v:Value)(n:Nat)(aq:List Value):Prop:=
 (v=bu/\n=0/\aq=[])\/∃(p c j:Nat) (w:Bool),v=aC p 0 n c/\ae[j]?=some (p,(⟨aq,w⟩:ax))/\aq.length=n*size
theorem qk.app(h:qk size ae v n aq):qk size (ae++b9) v n aq:=by
 rcases h with h|⟨p,c,j,w,h1,h2,h3⟩
 exact .inl h;exact .inr ⟨p,c,j,w,h1,aL h2,h3⟩
end J
namespace J
open Go Go.Ab
variable[cu:b0]
end J
namespace J
open Go Go.Ab
variable[cu:b0]
end J
namespace J
open Go Go.Ab
variable[cu:b0]
variable{v aZ:Value}{p q o f:Nat}{l:List UInt8}{m:da}
theorem ag0(aO:m.cn.length=32):(bN m aZ).set (0+36) v=bN m v:=by simp_all[bN]
def Nl:Value->Bool
 | .pointer none=>false
 | _=>true
end J
namespace J
open Go Go.Ab
variable[cu:b0]
variable{H:au}{S T e9 X:List (Nat×ax)}{aa:VH}{v w x aZ kv sv cM:Value}{xs bh bs b key:List Int}{p q r n f bl st c7 c:Nat}{e bj:Int}{aq bE:List Value}{l:List UInt8}{m aS:da}{t:pY}{aP:List (List Value)}{dR:List Value}{aN:List (List Int)}{cw:Bool}{A B C:gz}{F:List (Nat×ax)}
inductive Al {α β:Type} (R:α->β->Prop):List α->List β->Prop
 | nil:Al R [] []
 | cons {a b l m}:R a b->Al R l m->Al R (a::l) (b::m)
namespace Al
variable{α β:Type}{R Nn:α->β->Prop}{l aA:List α}{m k3:List β}
theorem len(h:Al R l m):l.length=m.length:=by
 induction h with
 | nil=>rfl
 | cons _ _ bg=>simp[bg]
theorem xp(an:∀a b,R a b->Nn a b)(h:Al R l m):Al Nn l m:=by
 induction h with
 | nil=>exact .nil
 | cons h _ bg=>exact .cons (an _ _ h) bg
theorem app(h:Al R l m)(aT:Al R aA k3):Al R (l++aA) (m++k3):=by
 induction h with
 | nil=>exact aT
 | cons h _ bg=>exact .cons h bg
theorem fh{a:α}{b:β}(h:R a b):Al R [a] [b]:=.cons h .nil
theorem all{p:β->Prop}(bJ:∀a b,R a b->p b)(h:Al R l m):∀x∈m,p x:=by
 induction h with
 | nil=>intro x ao;cases ao
 | cons h _ bg=>intro x ao;rcases mem_cons.1 ao with rfl|ao;exact bJ _ _ h;exact bg x ao
end Al
theorem Du.app{p:Int×List Int}(h:Du S p dR):Du (S++X) p dR:=by obtain⟨v,h1,h2,h3,aG⟩:=h;exact⟨v,h1,h2.app,h3,fun h=>(aG h).app⟩
theorem xk.app{s:ib}(h:xk S s dR):xk (S++X) s dR:=by
 cases s with
 | hF a=>exact h
 | mN n m=>obtain⟨aZ,h1,h2,h3⟩:=h;exact⟨aZ,h1,h2.app,h3⟩
 | body a bs=>obtain⟨v,h1,h2,h3⟩:=h;exact⟨v,h1,h2.app,h3⟩
 | dy=>exact h
structure qs (S:List (Nat×ax)) (R:gz) (l:List (Int×List Int)):Prop where
 nx:jk 2 R.n R.f R.aP R.aq
 oX:Al (Du S) l R.aP
 dO:∀p∈l,p.2.length<=1000000
structure qt (S:List (Nat×ax)) (R:gz) (l:List ib):Prop where
 nx:jk 1 R.n R.f R.aP R.aq
 oX:Al (xk S) l R.aP
theorem qs.app{l}(h:qs S A l):qs (S++X) A l:=⟨h.nx,h.oX.xp fun _ _=>Du.app,h.dO⟩
theorem qt.app{l}(h:qt S A l):qt (S++X) A l:=⟨h.nx,h.oX.xp fun _ _=>xk.app⟩
theorem qs.len{l}(h:qs S A l):A.aP.length=l.length:=h.oX.len.symm
theorem qt.len{l}(h:qt S A l):A.aP.length=l.length:=h.oX.len.symm
theorem qs.BA{l}(h:qs S A l):l.length<=A.n:=by rw[<- h.len];exact h.nx.r9
theorem qt.BA{l}(h:qt S A l):l.length<=A.n:=by rw[<- h.len];exact h.nx.r9
theorem qt.more{l}{s:ib}(h:qt S A l)(hg:jk 1 A.n A.f (A.aP++[dR]) bE)(al:xk S s dR):qt S (A.more bE dR) (l++[s]):=⟨hg,h.oX.app (.fh al)⟩
theorem qs.more{l}{p:Int×List Int}(h:qs S A l)(hg:jk 2 A.n A.f (A.aP++[dR]) bE)(al:Du S p dR)(bJ:p.2.length<=1000000):qs S (A.more bE dR) (l++[p]):=⟨hg,h.oX.app (.fh al),fun q bY=>by
 rcases mem_append.1 bY with h1|h1
 exact h.dO q h1
 simp_all⟩
theorem qs.fh{l}(h:qs S A l):∀e∈A.aP,e.all eL=true:=h.oX.all fun p dR bJ=>by obtain⟨v,rfl,h2,h3,_⟩:=bJ;obtain⟨a,n,c,rfl⟩:=h2.lk;rfl
structure eg where
 key:List Int
 t:pY
 dB:List (Int×List Int)
 cA:List ib
 eB:List ib
 bz:Nat
 fQ:Nat
 aS:da
 al:Option (List Int×Nat)
 cw:Bool
 bj:Int
def eg.ee(s:eg):Int:=match s.al with
 | none=>-1
 | some (_,w)=>if w=s.aS.aN.length then-2 else(w:Int)
def eg.yr(s:eg)(b:List Int):eg:=
 if(e4 s.key b).2.2≠0 then {s with cA:=s.cA++[.hF (-1)]}
 else if nV (e4 s.key b).1 s.t≠0 then {s with bj:=nV (e4 s.key b).1 s.t}
 else {s with aS:=(e4 s.key b).1,al:=some ([],0),cA:=s.cA++[.mN (e4 s.key b).2.1 (e4 s.key b).1],eB:=s.eB++[.mN (e4 s.key b).2.1 (e4 s.key b).1]}
def eg.gS(s:eg)(xs:List Int)(w:Nat)(bh:List Int):eg:=
 if(bh.length:Int)=(gy s.aS w).2/\gC bh=s.aS.aN.getD w []then {s with al:=some (xs++bh,w+1),eB:=s.eB++[.body w bh]}
 else {s with cA:=s.cA++[.hF w]}
def eg.lH(s:eg)(xs:List Int):Bool×eg:=
 if s.eB.length=s.fQ then(false,s)
 else if gC xs=s.aS.cn then(true,{s with eB:=s.eB++[.dy],cw:=true})else(true,{s with bj:=153})
def eg.oo(s:eg)(r:List (Int×List Int)):eg:={s with dB:=r}
def eg.step(s:eg):Bool×eg:=
 if s.bj≠0\/s.cw=true then(false,s)
 else match s.al with
  | some (xs,w)=>if w=s.aS.aN.length then s.lH xs else match s.dB with
   | []=>(false,s)
   | p::r=>if s.cA.length=s.bz\/s.eB.length=s.fQ then(false,s)else
    (true,if p.1=w then(s.oo r).gS xs w p.2 else s.oo r)
  | none=>match s.dB with
   | []=>(false,s)
   | p::r=>if s.cA.length=s.bz\/s.eB.length=s.fQ then(false,s)else
    (true,if p.1=-1 then(s.oo r).yr p.2 else s.oo r)
inductive tJ (S:List (Nat×ax)) (aS:da):Option (List Int×Nat)->Value->List (Nat×ax)->Prop
 | zJ:tJ S aS none (.pointer none) []
 | bS (xs:List Int) (c7 st:Nat) (aZ:Value) (bl:Nat) (e9:List (Nat×ax)):eG aS->e8 S aZ aS.aN->lM bl xs e9->cE xs->c7<=aS.aN.length->xs.length<=c7*2000->tJ S aS (some (xs,c7)) (ai st 0) (xl st aS aZ bl c7 e9)
theorem tJ.app{al}(h:tJ S aS al cM T):tJ (S++X) aS al cM T:=by
 cases h with
 | zJ=>exact .zJ
 | bS xs c7 st aZ bl e9 h1 h2 h3 aG a6 bq=>exact .bS _ _ _ _ _ _ h1 h2.app h3 aG a6 bq
theorem tJ.ay8{al}(h:tJ S aS al cM T):cM=.pointer none\/∃st,cM=ai st 0:=by
 cases h with
 | zJ=>simp_all
 | bS xs c7 st=>simp_all
structure vU (S:List (Nat×ax)) (s:eg) (A B C:gz) (kv sv cM:Value) (T:List (Nat×ax)):Prop where
 kv:RdB S kv s.key
 BB:cE s.key
 r9:s.key.length<=1000000
 nK:s.t.cF.length<=1000000
 a:qs S A s.dB
 b:qt S B s.cA
 c:qt S C s.eB
 cK:B.n=s.bz
 ya:C.n=s.fQ
 ok:s.aS.b4
 sv:e8 S sv s.aS.aN
 bS:tJ S s.aS s.al cM T
theorem ay9{s:eg}(h:vU S s A B C kv sv cM T)(hO:aj H ((S++F)++hM A B C c (fk kv s.t A.r B.r C.r s.aS sv cM s.cw s.bj) T))(ah:aa (int s.ee) H):ay P 134 [ai c 0] H aa:=by
 have al:=h.bS;unfold eg.ee at ah;generalize s.al=anO at*;cases al with
 | zJ=>exact ayP h.ok.dh hO ah
 | bS xs c7 st aZ bl e9 h1 h2 h3 aG a6 bq=>exact ayQ h.ok.dh h.ok.dh h2.app hO ah
end J
namespace J
open Go Go.Ab
variable[cu:b0]
variable{H:au}{S T e9 X:List (Nat×ax)}{aa:VH}{w x aZ kv sv cM:Value}{xs bh b key:List Int}{p q r n f bl st c7 c:Nat}{bj:Int}{bE:List Value}{l:List UInt8}{m aS:da}{t:pY}{aP:List (List Value)}{dR:List Value}{aN:List (List Int)}{cw:Bool}{A B C hT dG hX:gz}{s:eg}{F:List (Nat×ax)}
structure gz.et (A hT:gz):Prop where
 r:hT.r=A.r
 q:hT.q=A.q
 n:hT.n=A.n
theorem gz.et.fC:gz.et A A:=⟨rfl,rfl,rfl⟩
theorem Dw:gz.et A (A.more bE dR):=⟨rfl,rfl,rfl⟩
theorem No:gz.et A (A.ef bE aP):=⟨rfl,rfl,rfl⟩
theorem gz.et.trans{AR:gz}(h:gz.et A hT)(h2:gz.et hT AR):gz.et A AR:=⟨h2.r.trans h.r,h2.q.trans h.q,h2.n.trans h.n⟩
theorem aza{c4:List (Nat×ax)}(h:aj H (((S++F)++X)++c4)):aj H (((S++X)++F)++c4):=h.fj (by rw[append_assoc S F X,append_assoc S X F];exact List.Perm.append_right c4 (List.Perm.append_left S perm_append_comm))
def BC(S F:List (Nat×ax))(s:eg)(A B C:gz)(c:Nat)(kv:Value)(H:au):Prop:=
 ∃sv cM T,vU S s A B C kv sv cM T/\aj H ((S++F)++hM A B C c (fk kv s.t A.r B.r C.r s.aS sv cM s.cw s.bj) T)
theorem azb{m:da}{w:Nat}(h:eG m):(gy m w).2<=1024:=by grind[gy,eG]
theorem qs.ef{l:List (Int×List Int)}{p:Int×List Int}(h:qs S A (p::l))(he:A.aP=dR::aP)(hg:jk 2 A.n ((A.f+1)%A.n) aP bE):Du S p dR/\qs S (A.ef bE aP) l:=by
 have h1:=h.oX;rw[he]at h1;cases h1 with
 | cons h1 h2=>exact⟨h1,hg,h2,fun q bY=>h.dO q (mem_cons_of_mem _ bY)⟩
theorem ag1(h:vU S s A B C kv sv cM T):s.ee=-2↔∃xs,s.al=some (xs,s.aS.aN.length):=by
 unfold eg.ee
 grind
theorem azc(h:vU S s A B C kv sv cM T)(hO:aj H ((S++F)++hM A B C c (fk kv s.t A.r B.r C.r s.aS sv cM s.cw s.bj) T))(ao:s.al=some (xs,s.aS.aN.length))
  (ah:∀ab X hX,gz.et C hX->BC (S++X) F (s.lH xs).2 A B hX c kv ab->aa (.bool (s.lH xs).1) ab):ay P 135 [ai c 0] H aa:=by
 have al:=h.bS;have⟨h1,h2,h3,aG,a6,bq,bU,c2,fe,gH,i6,_⟩:=h;have a7:=bU.len;have bt:=bU.BA;rw[ao]at al;cases al with
 | bS xs c7 st oW bl e9 cg cd g3 g4 g5 lh=>
  have azd:s.aS.aN.length<=64:=by simp_all[eG]
  unfold eg.lH at ah;refine ayT gH.dh gH cd.app hO bU.nx g3 g4 (by omega) ?_ ?_ ?_;intro hf;rw[if_pos (by omega)]at ah;exact ah H [] C .fC ⟨sv,_,_,by rw[append_nil];exact h,by rw[append_nil];exact hO⟩;clear hO;intro hf ak H hO;rw[if_neg (by omega),if_neg (by simp_all)]at ah;refine ah H [] C .fC ⟨sv,_,_,?_,by rw[append_nil];exact hO⟩;rw[append_nil];refine⟨h1,h2,h3,aG,a6,bq,bU,c2,fe,gH,i6,?_⟩;show tJ S s.aS s.al _ _;rw[ao];exact .bS _ _ _ _ _ _ cg cd g3 g4 g5 lh;clear hO;intro hf ak H bE ka hO;rw[if_neg (by omega),if_pos ak.2]at ah;refine ah H [] _ Dw ⟨sv,_,_,?_,by rw[append_nil];exact hO⟩;rw[append_nil];refine⟨h1,h2,h3,aG,a6,bq,bU.more ka rfl,c2,fe,gH,i6,?_⟩;show tJ S s.aS s.al _ _;rw[ao];exact .bS _ _ _ _ _ _ cg cd g3 g4 g5 lh
theorem aze(h:vU S s A B C kv sv cM T)(hO:aj H ((S++F)++hM A B C c (fk kv s.t A.r B.r C.r s.aS sv cM s.cw s.bj) T))(ao:s.al=none)(jo:s.cA.length<s.bz)(rI:s.eB.length<s.fQ)(aM:RdB S w b)(mH:cE b)(ph:b.length<=1000000)
  (ah:∀ab X dG hX,gz.et B dG->gz.et C hX->BC (S++X) F (s.yr b) A dG hX c kv ab->aa (.tuple [].toArray) ab):ay P 139 [ai c 0,w] H aa:=by
 have al:=h.bS;have⟨h1,h2,h3,aG,a6,bq,bU,c2,fe,gH,i6,_⟩:=h;have a7:=bU.len;have bt:=bq.len;rw[ao]at al;generalize rV:cM=TQ at al;generalize bk:T=dA at al;cases al with
 | zJ=>subst rV bk;unfold eg.yr at ah;refine ay0 gH.dh hO bq.nx bU.nx h1.app h2 h3 aM.app mH ph aG (by omega) (by omega) ?_ ?_ ?_;clear hO;intro he H bE b6 hO;rw[if_pos he]at ah;refine ah H [] _ C Dw .fC ⟨sv,_,_,?_,by rw[append_nil];exact hO⟩;rw[append_nil];refine⟨h1,h2,h3,aG,a6,bq.more b6 rfl,bU,c2,fe,gH,i6,?_⟩;show tJ S s.aS s.al _ _;rw[ao];exact .zJ;clear hO;intro he bn H hO;rw[if_neg (by omega),if_pos bn]at ah;refine ah H [] B C .fC .fC ⟨sv,_,_,?_,by rw[append_nil];exact hO⟩;rw[append_nil];refine⟨h1,h2,h3,aG,a6,bq,bU,c2,fe,gH,i6,?_⟩;show tJ S s.aS s.al _ _;rw[ao];exact .zJ;clear hO;have ok:=agy (key:=s.key) mH ph;intro he bn U H X aZ oW st bl e9 mG FZ uO cg cd b6 ka hO;rw[if_neg (by omega),if_neg (by omega)]at ah;refine ah H X _ _ Dw Dw ⟨aZ,_,_,?_,aza hO⟩;refine⟨h1.app,h2,h3,aG,a6.app,bq.app.more b6 ⟨aZ,rfl,cg.app',ok⟩,bU.app.more ka ⟨aZ,rfl,cg.app',ok⟩,c2,fe,ok,cg.app',?_⟩;exact .bS _ _ _ _ _ _ U cd.app' uO (fun x ao=>by cases ao) (zero_le _) (zero_le _)
theorem azf(h:vU S s A B C kv sv cM T)(hO:aj H ((S++F)++hM A B C c (fk kv s.t A.r B.r C.r s.aS sv cM s.cw s.bj) T))(ao:s.al=some (xs,c7))(Gb:c7≠s.aS.aN.length)(jo:s.cA.length<s.bz)(rI:s.eB.length<s.fQ)(aM:RdB S w bh)(mH:cE bh)(ph:bh.length<=1000000)
  (ah:∀ab X dG hX,gz.et B dG->gz.et C hX->BC (S++X) F (s.gS xs c7 bh) A dG hX c kv ab->aa (.tuple [].toArray) ab):ay P 140 [ai c 0,agg [int c7,w]] H aa:=by
 have al:=h.bS;have⟨h1,h2,h3,aG,a6,bq,bU,c2,fe,gH,i6,_⟩:=h;have a7:=bU.len;have bt:=bq.len;rw[ao]at al;cases al with
 | bS xs c7 st oW bl e9 cg cd g3 g4 g5 lh=>
  have dw:c7<s.aS.aN.length:=by omega
  have azd:s.aS.aN.length<=64:=by simp_all[eG]
  have azg:s.aS.aN.getD c7 []=s.aS.aN[c7]:=by simp[dw]
  have rV:=azb (w:=c7) cg;unfold eg.gS at ah;rw[azg]at ah;refine ayV gH.dh gH cg cd.app hO bq.nx bU.nx g3 g4 (by omega) aM.app mH ph dw (by omega) (by omega) ?_ ?_;clear hO;intro hg H bE b6 hO;rw[if_neg hg]at ah;refine ah H [] _ C Dw .fC ⟨sv,_,_,?_,by rw[append_nil];exact hO⟩;rw[append_nil];refine⟨h1,h2,h3,aG,a6,bq.more b6 rfl,bU,c2,fe,gH,i6,?_⟩;show tJ S s.aS s.al _ _;rw[ao];exact .bS _ _ _ _ _ _ cg cd g3 g4 g5 lh;clear hO;intro hg H bE cL uO ka hO;rw[if_pos hg]at ah;refine ah H [] B _ .fC Dw ⟨sv,_,_,?_,by rw[append_nil];exact hO⟩;rw[append_nil];refine⟨h1,h2,h3,aG,a6,bq,bU.more ka ⟨w,rfl,aM,mH⟩,c2,fe,gH,i6,?_⟩;exact .bS _ _ _ _ _ _ cg cd uO (by intro x ao;grind) (by grind) (by grind)
end J
namespace J
open Go Go.Ab
variable[cu:b0]
variable{H:au}{ae S T e9 X:List (Nat×ax)}{aa:VH}{v w kv sv cM:Value}{xs bh:List Int}{i j p r n bl st c7 c:Nat}{e bj:Int}{bE:List Value}{aS:da}{t:pY}{aP:List (List Value)}{dR:List Value}{aN:List (List Int)}{cw:Bool}{A B C hT dG hX:gz}{r1 r2 r3:Nat}{s:eg}{F:List (Nat×ax)}
theorem ag2:(fk kv t r1 r2 r3 aS sv cM cw bj)[0+4]?=some (ai r1 0):=rfl
theorem azh:(fk kv t r1 r2 r3 aS sv cM cw bj)[0+5]?=some (ai r2 0):=rfl
theorem azi:(fk kv t r1 r2 r3 aS sv cM cw bj)[0+6]?=some (ai r3 0):=rfl
theorem azj(h:vU S s A B C kv sv cM T):-2<=s.ee/\s.ee<=1000:=by
 have h1:=h.bS;unfold eg.ee;generalize s.al=al at*;cases h1 with
 | zJ=>simp
 | bS xs c7 st oW bl e9 cg cd g3 g4 g5 lh=>grind[eG]
theorem azk(h:BC S F s A B C c kv H)(ah:∀ab X hT dG hX,gz.et A hT->gz.et B dG->gz.et C hX->BC (S++X) F s.step.2 hT dG hX c kv ab->aa (.bool s.step.1) ab):ay P 64 [ai c 0] H aa:=by
 obtain⟨sv,cM,T,h,hO⟩:=h;have⟨h1,h2,h3,aG,a6,bq,bU,c2,fe,gH,i6,nW⟩:=h;have aO:=gH.dh;have hR:=a6.len;have ih:=bq.len;have sA:=bU.len;have ag3:=a6.BA;have ag4:=bq.BA;have ag5:=bU.BA;have xj:aa (.bool false) H\/True:=.inr trivial;apply arw;unfold abf;refine ay9 h hO (e3 (fun aA ab=>aA=[ai c 0,int s.ee,.bool (decide (s.bj≠0\/s.cw=true))]/\H=ab) ?_ ?_);refine aV (cB hO 6 rfl (agW aO) (ag ij (bF (fun he=>?_) (fun he=>?_))))
 repeat refine bH ?_
 exact⟨by simp_all,rfl⟩;refine aV (cB hO 6 rfl (ayJ aO) ?_)
 repeat refine bH ?_
 refine⟨?_,rfl⟩
 simp_all
 rintro aA ab ⟨rfl,rfl⟩
 try simp only[cj,ck]
 unfold eg.step at ah;have Gc:aa (.bool false) H->aa (.bool false) H:=fun h=>h
 refine bF (fun he=>?_) (fun he=>?_);rw[if_pos he]at ah;exact ah H [] A B C .fC .fC .fC ⟨sv,cM,T,by rw[append_nil];exact h,by rw[append_nil];exact hO⟩;rw[if_neg he]at ah;refine ag e2 (bF (fun aM=>?_) (fun aM=>?_));obtain⟨xs,ao⟩:=(ag1 h).1 aM;rw[ao]at ah;simp only[if_true]at ah;refine azc h hO ao ?_;intro ab X hX ka bI;exact ah ab X A B hX .fC .fC ka bI;have U:=azj h;refine e3 (fun aA ab=>aA=[ai c 0,int s.ee,.bool (decide (s.dB=[]\/s.cA.length=s.bz\/s.eB.length=s.fQ))]/\H=ab) ?_ ?_;refine aV (cB hO 6 rfl ag2 (ayn (i:=1) hO rfl (ag e2 (bF (fun aJ=>?_) (fun aJ=>?_)))))
 repeat refine bH ?_
 have:s.dB=[]:=by simp_all
 exact⟨by simp_all,rfl⟩;have WO:¬s.dB=[]:=by simp_all
 refine aV (cB hO 6 rfl azh (Nd (i:=3) hO rfl bq.nx.r9 bq.nx.vT (ag e2 (ag (gP aJ) (bF (fun h3=>?_) (fun h3=>?_))))))
 repeat refine bH ?_
 exact⟨by rw[decide_eq_true (.inr (.inl (by omega)):s.dB=[]\/s.cA.length=s.bz\/s.eB.length=s.fQ)],rfl⟩;refine aV (cB hO 6 rfl azi (Nd (i:=5) hO rfl bU.nx.r9 bU.nx.vT (ag e2 (ag (gP h3) (⟨?_,rfl⟩)))));have:(((C.n-C.aP.length:Nat):Int)=0)↔(s.dB=[]\/s.cA.length=s.bz\/s.eB.length=s.fQ):=by grind
 simp_all
 rintro aA ab ⟨rfl,rfl⟩
 try simp only[cj,ck]
 refine bF (fun an=>?_) (fun an=>?_);have lp:=ah H [] A B C .fC .fC .fC;have bI:BC (S++[]) F s A B C c kv H:=⟨sv,cM,T,by rw[append_nil];exact h,by rw[append_nil];exact hO⟩;cases ao:s.al with
 | none=>
  rw[ao]at lp;cases bn:s.dB with
  | nil=>rw[bn]at lp;exact lp bI
  | cons y bh=>rw[bn]at lp an;simp only at lp;rw[if_pos (by simp_all)]at lp;exact lp bI
 | some y=>
  obtain⟨xs,c7⟩:=y;rw[ao]at lp;have:¬c7=s.aS.aN.length:=by grind[ag1]
  simp only at lp;rw[if_neg this]at lp;cases bn:s.dB with
  | nil=>rw[bn]at lp;exact lp bI
  | cons y bh=>rw[bn]at lp an;simp only at lp;rw[if_pos (by simp_all)]at lp;exact lp bI
 have wH:s.dB≠[]:=fun e=>an (.inl e)
 have jo:s.cA.length<s.bz:=by omega
 have rI:s.eB.length<s.fQ:=by omega
 obtain⟨c0,dB,bn⟩:∃p r,s.dB=p::r:=by
  cases h:s.dB with
  | nil=>simp_all
  | cons p r=>grind
 refine aV (cB hO 6 rfl ag2 (ayq (i:=1) (j:=0) hO rfl rfl (by omega) a6.nx a6.fh (fun e=>absurd e (by grind)) ?_));intro dR bj qP H bE hA hO
 replace hO:=ay2 hO
 rw[bn]at a6;obtain⟨bJ,HS⟩:=a6.ef qP hA;obtain⟨w,rfl,rK,EI,_⟩:=bJ;have qb:=a6.dO c0 (.head _);obtain⟨cP,hl⟩:∃cP,s.oo dB=cP:=⟨_,rfl⟩;have aX:vU S cP (A.ef bE bj) B C kv sv cM T:=by subst hl;exact⟨h1,h2,h3,aG,HS,bq,bU,c2,fe,gH,i6,nW⟩
 replace hO:aj H ((S++F)++hM (A.ef bE bj) B C c (fk kv cP.t (A.ef bE bj).r B.r C.r cP.aS sv cM cP.cw cP.bj) T):=by subst hl;exact hO
 have EN:s.ee=cP.ee:=by subst hl;rfl
 have pM:s.al=cP.al:=by subst hl;rfl
 have jo:cP.cA.length<cP.bz:=by subst hl;exact jo
 have rI:cP.eB.length<cP.fQ:=by subst hl;exact rI
 have sr:s.aS=cP.aS:=by subst hl;rfl
 refine ag kT (ag kU ?_);rw[TD];generalize tm:(S++F)++hM (A.ef bE bj) B C c (fk kv cP.t (A.ef bE bj).r B.r C.r cP.aS sv cM cP.cw cP.bj) T=ae at hO;refine j3 hO.z ?_;intro c1 H hO
 replace hO:aj H (ae++[(c1,⟨[int 0,bu],true⟩)]):=hO
 obtain⟨xm,xn,xo,rfl⟩:=rK.lk;refine lr hO 0 rfl rfl rfl rfl ?_;intro H hO
 replace hO:aj H (ae++[(c1,⟨[int c0.1,.slice xm xn xo],true⟩)]):=hO
 refine ag b7 (cB hO 0 rfl (v:=int c0.1) rfl (ag ij ?_));have TR:∀(z:eg),z=(if c0.1=cP.ee then(match cP.al with|none=>cP.yr c0.2|some (xs,w)=>cP.gS xs w c0.2)else cP)->∀ab X hT dG hX,gz.et A hT->gz.et B dG->gz.et C hX->BC (S++X) F z hT dG hX c kv ab->aa (.bool true) ab:=by
  intro z dU ab X hT dG hX bP q2 cS bI;subst dU;have lp:=ah ab X hT dG hX bP q2 cS;rw[EN]at aM;have vV:cP.ee=match cP.al with|none=>-1|some (_,w)=>if w=cP.aS.aN.length then-2 else(w:Int):=rfl
  rw[sr,bn]at lp;cases ao:cP.al with
  | none=>rw[ao]at vV bI;rw[pM,ao]at lp;simp only at lp vV bI;rw[if_neg (by omega)]at lp;rw[vV]at bI;rw[hl]at lp;exact lp bI
  | some y=>obtain⟨xs,c7⟩:=y;rw[ao]at vV bI;rw[pM,ao]at lp;simp only at lp vV bI;by_cases e:c7=cP.aS.aN.length;rw[if_pos e]at vV;exact absurd vV aM;rw[if_neg e]at vV lp;rw[if_neg (by omega)]at lp;rw[vV]at bI;rw[hl]at lp;exact lp bI
 rw[EN];refine bF (fun oM=>?_) (fun oM=>?_);refine TR cP (by simp_all) H [] (A.ef bE bj) B C No .fC .fC ⟨sv,cM,T,by rw[append_nil];exact aX,?_⟩;rw[append_nil,tm];exact hO.left;have oM:c0.1=cP.ee:=Classical.not_not.1 oM;refine ag e2 (bF (fun hm=>?_) (fun hm=>?_));have ao:cP.al=none:=by grind[eg.ee]
 refine ag b7 (cB hO 0 rfl (v:=.slice xm xn xo) rfl ?_);have hO:=hO.left;rw[<- tm]at hO;refine aze aX hO ao jo rI rK EI qb ?_;intro ab X dG hX q2 cS bI;refine TR _ ?_ ab X _ dG hX No q2 cS bI
 simp_all
 cases ao:cP.al with
 | none=>exfalso;simp_all[eg.ee]
 | some y=>
  obtain⟨xs,c7⟩:=y;have vV:cP.ee=if c7=cP.aS.aN.length then-2 else(c7:Int):=by simp_all[eg.ee]
  have ag6:c7≠cP.aS.aN.length:=by omega
  rw[if_neg ag6]at vV;rw[vV]at oM;refine jN hO 0 rfl (n:=2) rfl (by omega) ?_;have hO:=hO.left;rw[<- tm]at hO;rw[oM];refine azf aX hO ao ag6 jo rI rK EI qb ?_;intro ab X dG hX q2 cS bI;refine TR _ ?_ ab X _ dG hX No q2 cS bI
  simp_all
end J
namespace J
open Go Go.Ab
variable[cu:b0]
variable{H:au}{ae:List (Nat×ax)}{aa:VH}{v fv:Value}{i l p n cy:Nat}{bc a:Int}{L:lK}{m:br}{sS:List Int}
structure fF where
 jy:Int
 cQ:Int
 mJ:Nat
 fz:Nat
 dM:Int
 dx:Int
def fs(s:fF)(cO:Nat):List Value:=[int s.jy,int s.cQ,bT .u64 s.mJ,ai cO 0,int s.dM,int s.dx,bT .u64 s.fz]
def fF.sT(s:fF)(cy:Nat):Prop:=s.mJ≠0/\s.mJ=cy
instance {s:fF}:Decidable (s.sT cy):=by unfold fF.sT;infer_instance
def fF.part(s:fF)(i:Int):Int:=if i<0\/2<=i then-1 else if i=0 then s.dM else s.dx
structure fF.b4 (s:fF):Prop where
 me:0<=s.cQ/\s.cQ<2
 p:0<=s.dM/\0<=s.dx
variable{s:fF}
theorem ag7(hO:aj H (ae++dJ L m))(ah:∀ab,aj ab (ae++dJ L {m with ct:=a})->aa (int m.ct) ab):ay P 261 [ai L.cO 0,int a] H aa:=by apply at0;unfold adZ;refine aV (aY hO (ae.length+0) (az rfl) (v:=int m.ct) rfl (aV (fR hO (ae.length+0) (az rfl) rfl (show 0+2<4 by omega) rfl ?_)));intro H hO;exact ah H hO.cD
theorem ag8{a b:Int}(hO:aj H ae)(ah:∀ab,aj ab ae->aa (.bool (decide (n≠0))) ab):ay P 86 [agg [int a,int b,bT .u64 n]] H aa:=by apply arT;unfold abE;rw[sa];refine dH hO ?_;intro dx H hO;refine ag b7 (aY hO (ae.length+0) (az rfl) (v:=bT .u64 n) rfl (ag ij ?_));rw[decide_eq_decide.2 (show((n:Int)≠0)↔n≠0 by omega)];exact ah H hO.left
theorem ag9(hO:aj H ae)(an:ae[i]?=some (l,⟨fs s p,true⟩))(ah:∀ab,aj ab ae->aa (.bool (decide (s.sT cy))) ab):ay P 107 [ai l 0,bT .u64 cy] H aa:=by apply ar0;unfold abL;refine aV (iH hO i an (aq:=[int s.jy,int s.cQ,bT .u64 s.mJ]) rfl rfl (by omega) (ag8 hO ?_));intro H hO;unfold fF.sT at ah;refine bF (fun h=>?_) (fun h=>?_);refine aV (ag b7 (aY hO i an (v:=bT .u64 s.mJ) rfl (ag Y0 (ag (gA h) ?_))));rw[decide_eq_decide.2 (show(s.mJ=cy)↔(s.mJ≠0/\s.mJ=cy)from⟨fun h1=>⟨h,h1⟩,fun h1=>h1.2⟩)];exact ah H hO;refine ag (gP h) ?_;have:=ah H hO;rw[decide_eq_false (show¬(s.mJ≠0/\s.mJ=cy)from fun h1=>h h1.1)]at this;exact this
theorem TS{a:Int}(hO:aj H ae)(an:ae[i]?=some (l,⟨fs s p,true⟩))(ah:∀ab,aj ab ae->aa (int (s.part a)) ab):ay P 151 [ai l 0,int a] H aa:=by
 apply asG;unfold acv;unfold fF.part at ah;refine e3 (fun aA ab=>aA=[ai l 0,int a]/\¬(a<0\/2<=a)/\aj ab ae) ?_ ?_;refine ag fr (bF (fun h=>?_) (fun h=>?_));refine ag (gA h) (eT rfl ?_);rw[if_pos (.inl h)]at ah;exact ah H hO;refine ag um (ag (gP h) (bF (fun h1=>?_) (fun h1=>?_)));rw[if_pos (.inr (by omega))]at ah;exact ah H hO;exact⟨rfl,by omega,hO⟩;rintro aA H ⟨rfl,h,hO⟩
 try simp only[cj,ck]
 rw[if_neg h]at ah;refine aV (ag (fX (by omega) (by omega)) ?_);by_cases aJ:a=0;subst aJ;rw[if_pos rfl]at ah;exact aY hO i an (v:=int s.dM) rfl (ah H hO);have:a=1:=by omega
 subst this;rw[if_neg (by omega)]at ah;exact aY hO i an (v:=int s.dx) rfl (ah H hO)
theorem aha:(fs s p).all fY=true:=rfl
theorem TT{a:Int}(hO:aj H (ae++dJ L m))(an:ae[i]?=some (l,⟨fs s L.cO,true⟩))(ah:∀ab,aj ab (ae++dJ L m)->aa (int (m.size (s.part a))) ab):ay P 79 [ai l 0,int a] H aa:=by apply arM;unfold abx;refine aV (aY hO i (aL an) (v:=ai L.cO 0) rfl (TS hO (aL an) ?_));intro cJ dF;refine⟨ho hO i (aL an) dF i (aL an) aha,?_⟩;exact aeI dF (ah cJ dF)
theorem azl{a:Int}(ok:m.b4)(hO:aj H (ae++dJ L m))(an:ae[i]?=some (l,⟨fs s L.cO,true⟩))(ah:∀ab v aq,aj ab ((ae++dJ L m)++bQ v aq)->gf v (m.all (s.part a)) aq->aa v ab):ay P 203 [ai l 0,int a] H aa:=by apply ata;unfold ac1;refine aV (aY hO i (aL an) (v:=ai L.cO 0) rfl (TS hO (aL an) ?_));intro cJ dF;refine⟨ho hO i (aL an) dF i (aL an) aha,?_⟩;exact afl ok dF ah
def fF.fU(s:fF)(m:br)(a bc:Int):List Int×Int:=if s.part a<0 then(tz,101)else m.fU (s.part a) bc
theorem azm{a:Int}(ok:m.b4)(hO:aj H (ae++dJ L m))(an:ae[i]?=some (l,⟨fs s L.cO,true⟩))(ah:∀ab,aj ab (ae++dJ L m)->aa (.tuple [pj (s.fU m a bc).1,int (s.fU m a bc).2].toArray) ab):ay P 200 [ai l 0,int a,int bc] H aa:=by
 apply as7;unfold acY;unfold fF.fU at ah;rw[C8];refine dH hO ?_;intro gQ H hO
 replace hO:=hO.oi
 refine TS hO (aL (aL an)) ?_;intro H hO;refine ag fr (bF (fun h=>?_) (fun h=>?_));rw[if_pos h]at ah;refine ag R3 (fT hO (ae.length+0) (aL (az rfl)) (by rfl) (by rfl) (mn _) ?_);intro H hO;rw[set_append_left _ _ (by simp),Go.Ab.cD]at hO;exact gh hO (ae.length+0) (aL (az rfl)) (by rfl) (by omega) (ah H hO.oi.left);rw[if_neg h]at ah;refine aV (aY hO i (aL (aL an)) (v:=ai L.cO 0) rfl (aeJ ok hO ?_));intro H hO;have FW:=br.zw ok (part:=s.part a) (bc:=bc);refine ag kT (ag kU (fT hO (ae.length+0) (aL (az rfl)) (by rfl) (by simp_all) (mn _) ?_));intro H hO;rw[set_append_left _ _ (by simp),Go.Ab.cD]at hO;exact gh hO (ae.length+0) (aL (az rfl)) (by simp_all) (by omega) (ah H hO.oi.left)
def fF.as(s:fF)(m:br)(cy:Nat)(f:br->br×Int):br×Int:=if s.sT cy then({(f {m with ct:=s.jy}).1 with ct:=m.ct},(f {m with ct:=s.jy}).2)else(m,161)
theorem TU{f:br->br×Int}(al:s.b4)(hO:aj H (ae++dJ L m))(hv:lq L m)(an:ae[i]?=some (l,⟨fs s L.cO,true⟩))
  (Ph:∀ab q3,aj ab (ae++dJ L {m with ct:=s.jy})->(∀cJ cL,L.Eq cL->aj cJ (ae++dJ cL (f {m with ct:=s.jy}).1)->lq cL (f {m with ct:=s.jy}).1->q3 (int (f {m with ct:=s.jy}).2) cJ)->za P (vb fv [int (s.part s.cQ)]) ab q3)
  (ah:∀ab cL,L.Eq cL->aj ab (ae++dJ cL (s.as m cy f).1)->lq cL (s.as m cy f).1->aa (int (s.as m cy f).2) ab):ay P 236 [ai l 0,bT .u64 cy,fv] H aa:=by
 apply atE;unfold RW;unfold fF.as at ah;refine ag9 hO (aL an) ?_;intro H hO;refine ag ix ?_;by_cases hh:s.sT cy;rw[if_pos hh]at ah;refine dP (by simp[hh]) (aV (aY hO i (aL an) (v:=ai L.cO 0) rfl (aV (ag b7 (aY hO i (aL an) (v:=int s.jy) rfl (ag7 hO ?_))))));intro H hO;refine aV (aY hO i (aL an) (v:=ai L.cO 0) rfl (aV (ag b7 (aY hO i (aL an) (v:=int s.cQ) rfl (aV ?_)))));obtain⟨aJ,h1⟩:=al.me;refine ag (fX aJ h1) ?_;have bJ:(fs s L.cO)[0+4+s.cQ.toNat*1]?=some (int (s.part s.cQ)):=by
  unfold fF.part;rw[if_neg (by omega)];by_cases h2:s.cQ=0;rw[h2];rfl;have:s.cQ=1:=by omega
  rw[this];rfl
 refine aY hO i (aL an) bJ (Ph H _ hO ?_);intro cJ cL he hO jT;rw[<- he.m];refine ag7 hO ?_;intro H hO;exact ah H cL he hO ⟨jT.d,jT.o⟩;rw[if_neg hh]at ah;exact eT (by simp[hh]) (ah H L lK.Eq.fC hO hv)
theorem IU(ok:m.b4):({m with ct:=a}:br).b4:=⟨ok.d,ok.s,ok.n⟩
theorem TV{N:Nat}(h:m.gB N):({m with ct:=a}:br).gB N:=h
theorem TW(h:lq L m):lq L {m with ct:=a}:=⟨h.d,h.o⟩
theorem azn(al:s.b4)(ok:m.b4)(hm:m.gB 1000000)(hO:aj H (ae++dJ L m))(hv:lq L m)(an:ae[i]?=some (l,⟨fs s L.cO,true⟩))
  (ah:∀ab cL,L.Eq cL->aj ab (ae++dJ cL (s.as m cy (·.eF (s.part s.cQ) bc)).1)->lq cL (s.as m cy (·.eF (s.part s.cQ) bc)).1->aa (int (s.as m cy (·.eF (s.part s.cQ) bc)).2) ab):ay P 201 [ai l 0,bT .u64 cy,int bc] H aa:=by
 apply as8;unfold acZ;refine dH hO ?_;intro eQ H hO;refine dH hO ?_;intro fK H hO
 replace hO:=(hO.as).oi
 replace hO:aj H ((ae++[(eQ,⟨[ai l 0],true⟩),(fK,⟨[int bc],true⟩)])++dJ L m):=hO
 have fu:(ae++[(eQ,(⟨[ai l 0],true⟩:ax)),(fK,⟨[int bc],true⟩)])[i]?=some (l,⟨fs s L.cO,true⟩):=aL an;refine aY hO (ae.length+0) (aL (az rfl)) (v:=ai l 0) rfl (TU (f:=(·.eF (s.part s.cQ) bc)) al hO hv fu ?_ ?_);clear hO;intro H q3 hO IV;show ay P 237 [int (s.part s.cQ),ai eQ 0,ai fK 0] H q3;apply atF;unfold adE;exact aY hO (ae.length+0) (aL (az rfl)) (v:=ai l 0) rfl (aV (aY hO i (aL fu) (v:=ai L.cO 0) rfl (aY hO (ae.length+1) (aL (az rfl)) (v:=int bc) rfl (avq (IU ok) (TV hm) hO (TW hv) IV))));clear hO;intro H cL he hO jT;exact ah H cL he (aj.ca hO) jT
theorem azo(al:s.b4)(ok:m.b4)(hm:m.gB 1000000)(aD:sS.length=64)(hO:aj H (ae++dJ L m))(hv:lq L m)(an:ae[i]?=some (l,⟨fs s L.cO,true⟩))
  (ah:∀ab cL,L.Eq cL->aj ab (ae++dJ cL (s.as m cy (·.fE (s.part s.cQ) bc sS)).1)->lq cL (s.as m cy (·.fE (s.part s.cQ) bc sS)).1->aa (int (s.as m cy (·.fE (s.part s.cQ) bc sS)).2) ab):ay P 205 [ai l 0,bT .u64 cy,int bc,pj sS] H aa:=by
 apply atb;unfold ac5;refine dH hO ?_;intro c1 H hO;refine dH hO ?_;intro gQ H hO
 replace hO:=hO.as
 refine dH hO ?_;intro dX H hO
 replace hO:=(hO.as).oi
 replace hO:aj H ((ae++[(c1,⟨[ai l 0],true⟩),(gQ,⟨[int bc],true⟩),(dX,⟨bd sS,true⟩)])++dJ L m):=hO
 have fu:(ae++[(c1,(⟨[ai l 0],true⟩:ax)),(gQ,⟨[int bc],true⟩),(dX,⟨bd sS,true⟩)])[i]?=some (l,⟨fs s L.cO,true⟩):=aL an;refine aY hO (ae.length+0) (aL (az rfl)) (v:=ai l 0) rfl (TU (f:=(·.fE (s.part s.cQ) bc sS)) al hO hv fu ?_ ?_);clear hO;intro H q3 hO IV;show ay P 240 [int (s.part s.cQ),ai c1 0,ai gQ 0,ai dX 0] H q3;apply atI;unfold adH;exact aY hO (ae.length+0) (aL (az rfl)) (v:=ai l 0) rfl (aV (aY hO i (aL fu) (v:=ai L.cO 0) rfl (aY hO (ae.length+1) (aL (az rfl)) (v:=int bc) rfl (gh hO (ae.length+2) (aL (az rfl)) (by simp_all) (by omega) (aeR (IU ok) aD (TV hm) hO (TW hv) IV)))));clear hO;intro H cL he hO jT;exact ah H cL he (aj.ca hO) jT
theorem azp(al:s.b4)(ok:m.b4)(hm:m.gB 1000000)(hO:aj H (ae++dJ L m))(hv:lq L m)(an:ae[i]?=some (l,⟨fs s L.cO,true⟩))
  (ah:∀ab cL,L.Eq cL->aj ab (ae++dJ cL (s.as m cy (·.jH)).1)->lq cL (s.as m cy (·.jH)).1->aa (int (s.as m cy (·.jH)).2) ab):ay P 202 [ai l 0,bT .u64 cy] H aa:=by
 apply as9;unfold ac0;refine dH hO ?_;intro bp H hO
 replace hO:=hO.oi
 replace hO:aj H ((ae++[(bp,⟨[ai l 0],true⟩)])++dJ L m):=hO
 have fu:(ae++[(bp,(⟨[ai l 0],true⟩:ax))])[i]?=some (l,⟨fs s L.cO,true⟩):=aL an;refine aY hO (ae.length+0) (aL (az rfl)) (v:=ai l 0) rfl (TU (f:=(·.jH)) al hO hv fu ?_ ?_);clear hO;intro H q3 hO IV;show ay P 239 [int (s.part s.cQ),ai bp 0] H q3;apply atH;unfold adG;exact aY hO (ae.length+0) (aL (az rfl)) (v:=ai l 0) rfl (aV (aY hO i (aL fu) (v:=ai L.cO 0) rfl (aeS (IU ok) (TV hm) hO (TW hv) IV)));clear hO;intro H cL he hO jT;exact ah H cL he (aj.ca hO) jT
def fF.drop(s:fF)(cy:Nat):fF:=if s.sT cy then {s with jy:=0,cQ:=0,mJ:=0}else s
theorem azq:(dq P 189).f []=some (agg [int 0,int 0,bT .u64 0]):=by rfl
theorem azr{ahb:List (Nat×ax)}(hO:aj H ((ae++[(l,⟨fs s p,true⟩)])++ahb))(ah:∀ab,aj ab ((ae++[(l,⟨fs (s.drop cy) p,true⟩)])++ahb)->aa (.bool (decide (s.sT cy))) ab):ay P 49 [ai l 0,bT .u64 cy] H aa:=by apply arf;unfold aaZ;unfold fF.drop at ah;refine ag9 hO (i:=ae.length+0) (aL (az rfl)) ?_;intro H hO;refine ag ix ?_;by_cases hh:s.sT cy;rw[if_pos hh,decide_eq_true hh]at ah;refine dP (by simp[hh]) (ag azq (aV (pR hO (ae.length+0) (aL (az rfl)) rfl (show 0+0+3<=7 by omega) rfl ?_)));intro H hO;rw[set_append_left _ _ (by simp),Go.Ab.cD]at hO;exact ah H hO;rw[if_neg hh,decide_eq_false hh]at ah;exact eT (by simp[hh]) (ah H hO)
end J
namespace J
open Go Go.Ab
variable[cu:b0]
variable{H:au}{ae r0:List (Nat×ax)}{aa:VH}{v:Value}{xs bs:List Int}{j p:Nat}{e:Int}
theorem azs(h:RdB ae v xs){i n:Nat}(aU:i+n<=xs.length){hy:Option Value}(hm:hy=none\/hy=some (int ((i+n:Nat):Int))):∃aQ,hI 1 v (some (int i)) (some (int ((i+n:Nat):Int))) hy=some aQ/\q1 v xs aQ ((xs.drop i).take n):=by
 have ak:∀len:Nat,i+n<=len->oG len (some (int ((i+n:Nat):Int)))=some (i+n):=fun len aD=>by
  show(match kx 0 ((i+n:Nat):Int)with|true=>(match Nat.ble ((i+n:Nat):Int).toNat len with|true=>some ((i+n:Nat):Int).toNat|false=>none)|false=>none)=_
  grind[lf,ble_eq_true_of_le]
 have s8:qD (i+n) (some (int (i:Int)))=some i:=by
  show(match kx 0 (i:Int)with|true=>(match Nat.ble (i:Int).toNat (i+n)with|true=>some (i:Int).toNat|false=>none)|false=>none)=_
  simp_all[lf,ble_eq_true_of_le]
 have Cq:∃f,sl (i+n) (some (int ((i+n:Nat):Int))) hy=some f:=by
  rcases hm with rfl|rfl
  exact⟨false,rfl⟩;refine⟨true,?_⟩;show(match kx 0 ((i+n:Nat):Int)with|true=>(match Nat.beq ((i+n:Nat):Int).toNat (i+n)with|true=>some true|false=>none)|false=>none)=_
  grind[lf,Int.toNat_natCast,beq_refl]
 obtain⟨f,hf⟩:=Cq;rcases h with⟨rfl,rfl⟩|⟨p,o,c,rfl,aB,_⟩
 have aJ:i=0/\n=0:=by simp_all
 obtain⟨rfl,rfl⟩:=aJ;rcases hm with rfl|rfl<;>exact⟨bu,rfl,.none⟩
 have he:∃bV,(bV=2\/bV=3)/\hI 1 (aC p o xs.length c) (some (int i)) (some (int ((i+n:Nat):Int))) hy=some (aC p (o+i) n bV):=by
  generalize int ((i+n:Nat):Int)=hh at ak hf⊢;generalize int (i:Int)=ii at s8⊢;rcases aB with rfl|rfl
  refine⟨cond f 3 2,by grind,?_⟩
  simp_all[hI,rC]
  refine⟨cond (f||Nat.beq (i+n) xs.length) 3 2,by grind,?_⟩
  simp_all[hI,rC]
 obtain⟨bV,gX,he⟩:=he;refine⟨_,he,fun h9 h=>?_⟩;rcases h with⟨h,_⟩|⟨cI,dK,R0,jW,_,h⟩
 cases h;cases jW;have aD:((xs.drop i).take n).length=n:=by grind
 refine .inr ⟨p,o+i,bV,by rw[aD],gX,?_⟩;rcases h with rfl|⟨j,b,h1,h2⟩
 simp_all
 refine .inr ⟨j,b,h1,?_⟩;have:=congrArg (fun l=>(List.drop i l).take n) h2;rw[drop_take,drop_drop,take_take,Nat.min_eq_left (by omega)]at this
 simp_all
theorem azt{l q2 cS:Nat}{I:Nat->au->Prop}(jf:∀k H,I k H->∃(h9:List (Nat×ax)) (q4 Dx:Nat),aj H h9/\h9[q4]?=some (q2,⟨[v],true⟩)/\h9[Dx]?=some (cS,⟨[int 64],true⟩)/\RdB h9 v bs)(ao:bs.length<=1000000)
  (U:∀k,64*k<bs.length->∀H vh,q1 v bs vh ((bs.drop (64*k)).take 64)->I k H->y9 P (.round l [vh] H) fun b ab=>b=.bool true/\I (k+1) ab)
  (hO:I 0 H) (ah:∀ab,I ((bs.length+63)/64) ab->aa (.tuple [].toArray) ab):ay P 279 [wx l,ai q2 0,ai cS 0] H aa:=by
 apply aui;unfold aeh;refine auh (fun k aA ab=>∃y:Nat,y<=(bs.length+63)/64/\k=(bs.length+63)/64-y/\aA=[wx l,ai q2 0,ai cS 0,int ((64*y:Nat):Int)]/\I y ab) _ _ ?_ ((bs.length+63)/64) _ _ ⟨0,by omega,rfl,rfl,hO⟩;rintro k aA H ⟨y,ba,rfl,rfl,hO⟩;unfold aeg
 try simp only[cj,ck]
 obtain⟨h9,q4,Dx,bI,h2,h3,hv⟩:=jf y H hO;refine aY bI q4 h2 rfl (bW hv.bO (ag fr (bF (fun h=>?_) (fun h=>?_))));have gR:64*y<bs.length:=by omega
 refine aY bI Dx h3 rfl (aY bI q4 h2 rfl ?_);obtain⟨ej,a7,r1⟩:=Md hv (show 64*y<=bs.length by omega);refine ag a7 (bW (r1 _ hv).bO (bW tl (aY bI q4 h2 rfl ?_)));have hm:min (64:Int) ((bs.drop (64*y)).length:Int)=((min 64 (bs.length-64*y):Nat):Int):=by grind
 rw[hm];have aU:64*y+min 64 (bs.length-64*y)<=bs.length:=by omega
 refine ag (v:=int ((64*y+min 64 (bs.length-64*y):Nat):Int)) (by grind[jg]) (ag (v:=int ((64*y+min 64 (bs.length-64*y):Nat):Int)) (by grind[jg]) ?_);obtain⟨vh,bt,r2⟩:=azs hv aU (hy:=some (int ((64*y+min 64 (bs.length-64*y):Nat):Int))) (.inr rfl);refine ag bt ?_;have ei:(bs.drop (64*y)).take (min 64 (bs.length-64*y))=(bs.drop (64*y)).take 64:=by simp_all
 rw[ei]at r2;refine Y9 (aer (U y gR H vh r2 hO) ?_);rintro b2 cJ ⟨rfl,dF⟩;obtain⟨aGe,gd,mg,azu,aGf,azv,_⟩:=jf (y+1) cJ dF;exact ag ix (dP rfl (aY azu mg azv rfl (ag (v:=int ((64*(y+1):Nat):Int)) (by grind[jg]) (⟨_,by omega,y+1,by omega,rfl,rfl,dF⟩))));have mq:y=(bs.length+63)/64:=by omega
 subst mq;exact k6 rfl (ah _ hO)
def tK(c:List Int):List Int:=c++List.replicate (64-c.length) 255
def hq(n:Nat):Nat:=(n+63)/64
def mV(b:List Int):List (List Int):=(List.range (hq b.length)).map fun k=>tK ((b.drop (64*k)).take 64)
def sU(l:List (List Int)):List Value:=l.flatMap bd
theorem ahc{c:List Int}(h:c.length<=64):(tK c).length=64:=by grind[tK]
theorem ahd(b:List Int):(mV b).length=hq b.length:=by simp[mV]
theorem azw{b:List Int}:∀s∈mV b,s.length=64:=by
 intro s al;obtain⟨k,_,rfl⟩:=mem_map.1 al
 grind[ahc]
theorem azx{b:List Int}{k:Nat}(h:k<hq b.length):(mV b).take (k+1)=(mV b).take k++[tK ((b.drop (64*k)).take 64)]:=by simp_all[take_succ_eq_append_getElem,mV]
theorem azy{c:List Int}(h:c.length<=64):(bd jG).take 0++(bd c++(bd jG).drop (0+c.length))=bd (tK c):=by
 have e:(bd jG).drop (0+c.length)=bd (List.replicate (64-c.length) 255):=by simp only[bd,jG,map_replicate,drop_replicate,Nat.zero_add]
 simp_all[tK]
theorem azz(g:Nat->Int)(H:au):(eV P 131 1).f [(0,pj ((List.range 64).map g))] H=some (aC H.next 0 1 129,H.push (bd ((List.range 64).map g))):=by rfl
theorem azA{s:List Int}(h:s.length=64)(H:au):(eV P 131 1).f [(0,pj s)] H=some (aC H.next 0 1 129,H.push (bd s)):=by grind[Ml,azz]
theorem azB:df P 131=[bu]:=by rfl
theorem azC{rh n:Nat}{iq vh:Value}{aq:List Value}{c:List Int}{X:au->Prop}(hO:aj H ((r0++[(rh,⟨[iq],true⟩)])++bQ iq aq))(hv:iV 64 iq n aq)(aB:RdB r0 vh c)(aD:c.length<=64)(aU:n<=1000000)
  (ah:∀ab tA,aj ab ((r0++[(rh,⟨[tA],true⟩)])++bQ tA (aq++bd (tK c)))->iV 64 tA (n+1) (aq++bd (tK c))->X ab):
  ay P 116 [] H fun FN cJ=>
  cG (df P 102) cJ fun t9 vy=>
  af (bx 64 t9 FN vy) fun u zm=>
  ad (mK 64 1 t9 none none none zm) fun t20=>
  af (rB 1 t20 vh zm) fun aGg r4=>
  af (aw (ai rh 0) r4) fun azD TX=>
  af (bZ 64 t9 TX) fun azE azF=>
  af ((eV P 131 1).f [(0,azE)] azF) fun azG azH=>
  af (gw 64 64 azD azG azH) fun TY azI=>
  af (bx 1 (ai rh 0) TY azI) fun ahe azJ=>X azJ:=by
 refine FP hO ?_;intro H hO;rw[C8];refine dH hO ?_;intro ahf H hO;refine fT hO (((r0++[(rh,(⟨[iq],true⟩:ax))])++bQ iq aq).length+0) (az rfl) (by rfl) (by rfl) (mn _) ?_;intro H hO
 replace hO:aj H (((r0++[(rh,⟨[iq],true⟩)])++bQ iq aq)++[(ahf,⟨bd jG,true⟩)]):=hO.cD
 refine ag (zj (n:=64) hO (((r0++[(rh,(⟨[iq],true⟩:ax))])++bQ iq aq).length+0) (az rfl) (by omega) (by simp_all[jG])) (ava hO (i:=((r0++[(rh,(⟨[iq],true⟩:ax))])++bQ iq aq).length+0) (az rfl) aB.app.app.app (by omega) (by rw[oR];decide) ?_);intro H hO
 replace hO:aj H (((r0++[(rh,⟨[iq],true⟩)])++bQ iq aq)++[(ahf,⟨(bd jG).take 0++(bd c++(bd jG).drop (0+c.length)),true⟩)]):=hO.cD
 rw[show(bd jG).take 0++(bd c++(bd jG).drop (0+c.length))=bd (tK c)from azy aD]at hO;have qb:=ahc aD;refine aY hO (r0.length+0) (aL (aL (az rfl))) rfl (gh hO (((r0++[(rh,(⟨[iq],true⟩:ax))])++bQ iq aq).length+0) (az rfl) (by simp_all) (by omega) ?_)
 replace hO:=hO.left
 refine ik hO (azA qb _) ?_;intro q H hO;refine FO hO hv (by simp_all) (by omega) (mn _) (by omega) (by omega) ?_;intro tA H hO jT;obtain⟨cU,fo,dg,a7⟩:∃cU fo dg,tA=.slice cU fo dg:=by rcases jT with⟨_,h,_⟩|⟨p,rfl|rfl,_⟩;omega;exact⟨_,_,_,rfl⟩;simp_all
 refine fR hO (r0.length+0) (aL (az rfl)) (by rw[a7];rfl) (show 0<1 by omega) rfl ?_;intro H hO;rw[set_append_left _ _ (by simp),Go.Ab.cD]at hO;exact ah H tA hO jT
theorem azK(hO:aj H ae)(hv:RdB ae v bs)(aD:bs.length<=1000000)(ah:∀(ab:au) (aQ:Value),aj ab (ae++bQ aQ (sU (mV bs)))->iV 64 aQ (mV bs).length (sU (mV bs))->aa aQ ab):ay P 241 [v] H aa:=by
 apply atK;unfold adJ;rw[azB];refine dH hO ?_;intro rh H hO;apply at5;unfold ad1;refine dH hO ?_;intro q2 H hO;refine dH hO ?_;intro cS r4 hO;obtain⟨cU,fo,dg,a7⟩:=RdB.lk hv;have rI:dr v=[v]:=by rw[a7];rfl
 rw[rI]at hO;refine aY hO (((ae++[(rh,(⟨[bu],true⟩:ax))])++[(q2,(⟨[v],true⟩:ax))]).length+0) (az rfl) rfl (ag fr (dP rfl ?_));have dF:aj r4 (((ae++[(q2,⟨[v],true⟩),(cS,⟨[int 64],true⟩)])++[(rh,⟨[bu],true⟩)])++bQ bu (sU ((mV bs).take 0))):=by
  show aj r4 (((ae++[(q2,⟨[v],true⟩),(cS,⟨[int 64],true⟩)])++[(rh,⟨[bu],true⟩)])++[]);rw[append_nil];have a6:aj r4 ((ae++[(rh,⟨[bu],true⟩)])++[(q2,⟨[v],true⟩),(cS,⟨[int 64],true⟩)]):=by rw[append_assoc (_++[(rh,_)])]at hO;exact hO
  exact a6.oi
 have r2:∀ b9,RdB ((ae++[(q2,(⟨[v],true⟩:ax)),(cS,⟨[int 64],true⟩)])++b9) v bs:=fun b9=>hv.app.app
 refine Y8 (L:=cu) dF (f:=279) (args:=[wx (Nat.succ r4.next),ai q2 0,ai cS 0]) rfl ?_;intro T bk jX gq tx;generalize hL:jh (Nat.succ r4.next) _ cu=L at tx;refine azt (cu:=L) (l:=Nat.succ r4.next) (v:=v) (bs:=bs) (I:=fun k ab=>∃iq,@aj L ab (((ae++[(q2,⟨[v],true⟩),(cS,⟨[int 64],true⟩)])++[(rh,⟨[iq],true⟩)])++bQ iq (sU ((mV bs).take k)))/\iV 64 iq (min k (hq bs.length)) (sU ((mV bs).take k))) ?_ (by omega) ?_ ⟨bu,tx,.inl ⟨rfl,by omega,rfl⟩⟩ ?_;rintro k ab ⟨iq,h1,h2⟩;exact⟨_,_,_,h1,aL (aL (az (k:=0) rfl)),aL (aL (az (k:=1) rfl)),by rw[append_assoc];exact r2 _⟩;rintro k l1 H vh Pz ⟨iq,Ia,uF⟩;subst hL;have gF:k<hq bs.length:=by grind[hq]
 have azL:((bs.drop (64*k)).take 64).length<=64:=by grind
 refine Y5 (n:=18) Ia bk jX rfl (by decide) ?_;rw[atJ];unfold adI;refine Y3 Ia ?_;intro cJ dF;rw[Nat.min_eq_left (by omega)]at uF;refine azC (cu:=jh (Nat.succ r4.next) _ cu) dF uF (Pz _ (by have:=r2 [];rw[append_nil]at this;exact this)) azL (by omega) ?_;intro jr tA l0 ahg;have h6:sU ((mV bs).take k)++bd (tK ((bs.drop (64*k)).take 64))=sU ((mV bs).take (k+1)):=by simp_all[azx,sU]
 rw[h6]at l0 ahg;refine Y4 l0 ?_;intro vy AB;refine⟨rfl,tA,AB,?_⟩;rw[Nat.min_eq_left (by omega)];exact ahg;rintro cJ ⟨iq,dF,uF⟩;subst hL;refine⟨.ready,_,by simp,dF,?_⟩;intro jr l0;show af _ _;have hR:(mV bs).take ((bs.length+63)/64)=mV bs:=take_of_length_le (by rw[ahd];exact Nat.le_refl _);rw[hR]at l0 uF;refine aY l0 ((ae++[(q2,(⟨[v],true⟩:ax)),(cS,⟨[int 64],true⟩)]).length+0) (aL (az rfl)) rfl (ah _ iq ?_ ?_);exact l0.sub (List.Sublist.append (by rw[append_assoc];exact sublist_append_left _ _) (List.Sublist.refl _));rw[ahd];have ih:min ((bs.length+63)/64) (hq bs.length)=hq bs.length:=Nat.min_self _;rw[ih]at uF;exact uF
end J
namespace J
open Go Go.Ab
variable[cu:b0]
variable{H:au}{S X:List (Nat×ax)}{v w x sv h0:Value}{xs bs b:List Int}{j p i l r n ep wr cC cy:Nat}{e bj cQ oq bc a:Int}{m:br}{s:fF}{aS:da}{sS:List Int}{fy:List (List Int)}
def br.uP(m:br):Prop:=∀c∈m.d.cells,cE c.eR
theorem bK.TZ{d:bK}{a:Int}(h:∀c∈d.cells,cE c.eR):∀c∈(d.eF a).1.cells,cE c.eR:=by
 unfold bK.eF;split;exact h;split;exact h;split;exact h;split;exact h;intro c aB;rcases mem_or_eq_of_mem_set aB with aB|rfl
 rcases mem_or_eq_of_mem_set aB with aB|rfl
 exact h c aB;intro x ao;simp only[bK.cell]at ao;rw[getD_eq_getElem?_getD]at ao;by_cases an:a.toNat<d.cells.length
 grind
 rw[List.getElem?_eq_none (by omega)]at ao;have:x=0:=eq_of_mem_replicate ao;omega;intro x ao;have:x=255:=eq_of_mem_replicate ao;omega
theorem bK.T0{d:bK}{a:Int}(h:∀c∈d.cells,cE c.eR)(al:cE sS):∀c∈(d.fE a sS).1.cells,cE c.eR:=by
 unfold bK.fE;split;exact h;split;exact h;split;exact h;split;exact h;intro c aB;rcases mem_or_eq_of_mem_set aB with aB|rfl
 exact h c aB;exact al
theorem ahh{o:Op}(h:m.uP):(m.oS o e).uP:=by unfold br.oS;split<;>exact h
theorem br.TZ(h:m.uP):(m.eF oq bc).1.uP:=by unfold br.eF;split;exact h;exact ahh (m:={m with d:=(m.d.eF (m.gj oq bc).1).1}) (bK.TZ h)
theorem br.T0(h:m.uP)(al:cE sS):(m.fE oq bc sS).1.uP:=by unfold br.fE;split;exact h;exact ahh (m:={m with d:=(m.d.fE (m.gj oq bc).1 sS).1}) (bK.T0 h al)
theorem br.azM(h:m.uP):m.jH.1.uP:=by
 unfold br.jH br.uP;unfold bK.jH;split
 ·exact h
 split
 ·exact h
 show∀c∈kb m.d.cells m.d.done,cE c.eR;have:∀(l:List (Nat×List Int)) (aq:List Cell),(∀c∈aq,cE c.eR)->∀c∈kb aq l,cE c.eR:=by
  intro l;induction l with
  | nil=>intro aq h;exact h
  | cons x l bg=>
   intro aq h;refine bg (uD aq x) ?_;intro c aB;rcases mem_or_eq_of_mem_set aB with aB|rfl
   ·exact h c aB
   ·show cE (aq.getD x.1 iW).eR;rw[getD_eq_getElem?_getD];by_cases an:x.1<aq.length
    ·rw[List.getElem?_eq_getElem an];exact h _ (getElem_mem an)
    ·rw[List.getElem?_eq_none (by omega)];intro y ba;have:y=0:=eq_of_mem_replicate ba;omega
 exact this _ _ h
theorem br.azN(h:m.uP):cE (m.fU oq bc).1:=by
 have dU:cE tz:=fun y ba=>by have:y=0:=eq_of_mem_replicate ba;omega
 unfold br.fU;split;exact dU;unfold bK.fU;split;rename_i h1;show cE (m.d.cell _).eR;obtain⟨an,e⟩:=bK.get h1;rw[<- e];exact h _ (getElem_mem an);exact dU
theorem br.azO(h:m.uP):cE (m.all oq):=by intro x ao;unfold br.all br.xg at ao;obtain⟨i,_,ao⟩:=mem_flatMap.1 ao;exact br.azN h x ao
structure p0 (m:br):Prop where
 ok:m.b4
 b:m.uP
theorem T1{f:br->br×Int}(h:p0 m)(hf:∀m,p0 m->p0 (f m).1):p0 (s.as m cy f).1:=by unfold fF.as;split;have:=hf {m with ct:=s.jy} ⟨IU h.ok,h.b⟩;exact⟨IU this.ok,this.b⟩;exact h
theorem azP{f:br->br×Int}{N:Nat}(h:m.gB N)(hf:∀m,m.gB N->(f m).1.gB (N+1)):(s.as m cy f).1.gB (N+1):=by unfold fF.as;split;exact hf _ h;exact h.mono (by omega)
structure bA where
 s:fF
 cy:Nat
 cQ:Int
 q:List ib
 aS:da
 ep:Nat
 fy:List (List Int)
 wr:Nat
 cC:Nat
 bj:Int
 m:br
def bA.size(w:bA):Nat:=w.m.size (w.s.part w.cQ)
def bA.put(w:bA)(r:br×Int):bA:={w with m:=r.1,bj:=r.2}
def mW(w:bA)(y:Nat):Prop:=(w.s.fU w.m w.cQ y).2=0/\(w.s.fU w.m w.cQ y).1≠jG
instance {w:bA} {y:Nat}:Decidable (mW w y):=by unfold mW;infer_instance
def bA.sb(w:bA):Nat->Nat->Option Nat
 | 0,_=>none
 | n+1,y=>if mW w y then some y else w.sb n (y+1)
def bA.ri(w:bA)(y:Nat):bA:=w.put (w.s.as w.m w.cy (·.eF (w.s.part w.s.cQ) y))
def bA.kq(w:bA):bA:=match w.sb w.size 0 with
 | some y=>w.ri y
 | none=>{w with cC:=2}
def bA.oY(w:bA):bA:=w.put (w.s.as w.m w.cy (·.jH))
def bA.kF(w:bA):bA:=if w.oY.bj≠0 then w.oY else
 if((w.oY.m.all (w.s.part w.cQ)).length:Int)<w.aS.cT\/gC ((w.oY.m.all (w.s.part w.cQ)).take w.aS.cT.toNat)≠w.aS.cn then {w.oY with bj:=153}else {w.oY with cC:=4}
def bA.rj(w:bA)(x:List Int):bA:=w.put (w.s.as w.m w.cy (·.fE (w.s.part w.s.cQ) w.wr x))
def bA.fill(w:bA)(x:List Int)(xs:List (List Int)):bA:=if(w.rj x).bj=0 then {w.rj x with fy:=xs,wr:=w.wr+1}else w.rj x
def bA.xq(w:bA)(m:da):bA:=if¬eG m then {w with bj:=192}else if m.cT>64*(w.size:Int)then {w with bj:=145}else {w with aS:=m,cC:=1,bj:=0}
def bA.body(w:bA)(a:Int)(bs:List Int):bA:=if a≠w.ep\/(gy w.aS a).2=0\/(bs.length:Int)≠(gy w.aS a).2 then {w with bj:=192}else {w with fy:=mV bs,ep:=w.ep+1,bj:=0}
def bA.iJ(w:bA)(n:ib):bA:=
 if w.cC=0 then(match n with|.mN _ m=>w.xq m|_=>{w with bj:=192})
 else match n with
  | .body a bs=>w.body a bs
  | .dy=>if w.ep<w.aS.aN.length then {w with bj:=192}else {w with cC:=3}
  | _=>{w with bj:=192}
def bA.step(w:bA):Bool×bA:=
 if w.bj≠0\/w.cC=4 then(false,w)
 else if w.cC=1 then(true,w.kq)
 else if w.cC=3 then(true,w.kF)
 else match w.fy with
  | x::xs=>(true,w.fill x xs)
  | []=>match w.q with
   | []=>(false,w)
   | n::q=>(true,({w with q:=q}:bA).iJ n)
def i7(l cy:Nat)(cQ:Int)(r:Nat)(aS:da)(sv:Value)(ep:Nat)(h0:Value)(wr cC:Nat)(bj:Int):List Value:=
 ai l 0::bT .u64 cy::int cQ::ai r 0::(bN aS sv++[int ep,h0,int wr,int cC,int bj])
theorem vW(aO:aS.cn.length=32):(i7 l cy cQ r aS sv ep h0 wr cC bj).length=46:=by simp_all[i7,eS]
theorem IW(aO:aS.cn.length=32)(k:Nat):(i7 l cy cQ r aS sv ep h0 wr cC bj)[0+(41+k)]?=[int ep,h0,int wr,int cC,int bj][k]?:=by
 unfold i7;rw[show 0+(41+k)=(37+k)+4 by omega];show(bN aS sv++[int ep,h0,int wr,int cC,int bj])[37+k]?=_
 simp_all[List.getElem?_append_right,eS]
theorem T2(aO:aS.cn.length=32):(i7 l cy cQ r aS sv ep h0 wr cC bj)[0+41]?=some (int ep):=IW aO 0
theorem T3(aO:aS.cn.length=32):(i7 l cy cQ r aS sv ep h0 wr cC bj)[0+42]?=some h0:=IW aO 1
theorem T4(aO:aS.cn.length=32):(i7 l cy cQ r aS sv ep h0 wr cC bj)[0+43]?=some (int wr):=IW aO 2
theorem IX(aO:aS.cn.length=32):(i7 l cy cQ r aS sv ep h0 wr cC bj)[0+44]?=some (int cC):=IW aO 3
theorem Np(aO:aS.cn.length=32):(i7 l cy cQ r aS sv ep h0 wr cC bj)[0+45]?=some (int bj):=IW aO 4
theorem azQ(aO:aS.cn.length=32):(i7 l cy cQ r aS sv ep h0 wr cC bj)[0+4+36]?=some sv:=by
 show(bN aS sv++[int ep,h0,int wr,int cC,int bj])[36]?=_
 grind[sP]
theorem azR(aO:aS.cn.length=32):((i7 l cy cQ r aS sv ep h0 wr cC bj).drop (0+4)).take 37=bN aS sv:=by
 unfold i7;show(bN aS sv++[int ep,h0,int wr,int cC,int bj]).take 37=_
 simp_all[eS]
theorem azS(aO:aS.cn.length=32):((i7 l cy cQ r aS sv ep h0 wr cC bj).drop (0+4+4)).take 32=bd aS.cn:=by simp_all[i7,bN]
theorem IY(aO:aS.cn.length=32)(k:Nat)(v:Value):(i7 l cy cQ r aS sv ep h0 wr cC bj).set (0+(41+k)) v=ai l 0::bT .u64 cy::int cQ::ai r 0::(bN aS sv++[int ep,h0,int wr,int cC,int bj].set k v):=by
 unfold i7;rw[show 0+(41+k)=(37+k)+4 by omega];show ai l 0::bT .u64 cy::int cQ::ai r 0::((bN aS sv++[int ep,h0,int wr,int cC,int bj]).set (37+k) v)=_
 simp_all[eS]
theorem azT(aO:aS.cn.length=32)(n:Nat):(i7 l cy cQ r aS sv ep h0 wr cC bj).set (0+41) (int n)=i7 l cy cQ r aS sv n h0 wr cC bj:=IY aO 0 _
theorem ahi(aO:aS.cn.length=32)(v:Value):(i7 l cy cQ r aS sv ep h0 wr cC bj).set (0+42) v=i7 l cy cQ r aS sv ep v wr cC bj:=IY aO 1 _
theorem azU(aO:aS.cn.length=32)(n:Nat):(i7 l cy cQ r aS sv ep h0 wr cC bj).set (0+43) (int n)=i7 l cy cQ r aS sv ep h0 n cC bj:=IY aO 2 _
theorem Nq(aO:aS.cn.length=32)(n:Nat):(i7 l cy cQ r aS sv ep h0 wr cC bj).set (0+44) (int n)=i7 l cy cQ r aS sv ep h0 wr n bj:=IY aO 3 _
theorem T5(aO:aS.cn.length=32)(n:Int):(i7 l cy cQ r aS sv ep h0 wr cC bj).set (0+45) (int n)=i7 l cy cQ r aS sv ep h0 wr cC n:=IY aO 4 _
theorem azV{dV:da}{aZ:Value}(aO:aS.cn.length=32)(h2:dV.cn.length=32):(i7 l cy cQ r aS sv ep h0 wr cC bj).take (0+4)++(bN dV aZ++(i7 l cy cQ r aS sv ep h0 wr cC bj).drop (0+4+37))=i7 l cy cQ r dV aZ ep h0 wr cC bj:=by
 unfold i7;show ai l 0::bT .u64 cy::int cQ::ai r 0::(bN dV aZ++(bN aS sv++[int ep,h0,int wr,int cC,int bj]).drop 37)=_
 simp_all[eS]
def rk(S:List (Nat×ax))(v:Value)(fy:List (List Int)):Prop:=
 (v=bu/\fy=[])\/∃(p k c j:Nat) (w:Bool) (all:List (List Int)),v=aC p (k*64) fy.length c/\fy=all.drop k/\k<=all.length/\S[j]?=some (p,⟨sU all,w⟩)/\(∀x∈all,x.length=64)/\(c=128\/c=129)
theorem rk.app(h:rk S v fy):rk (S++X) v fy:=by
 rcases h with h|⟨p,k,c,j,w,all,h1,h2,h3,aG,a6⟩
 exact .inl h;exact .inr ⟨p,k,c,j,w,all,h1,h2,h3,aL aG,a6⟩
theorem rk.bO(h:rk S v fy):bO v H=some (int fy.length,H):=by rcases h with⟨rfl,rfl⟩|⟨p,k,c,j,w,all,rfl,_⟩<;>rfl
theorem rk.fh(h:rk S v fy):eL v=true:=by rcases h with⟨rfl,rfl⟩|⟨p,k,c,j,w,all,rfl,_⟩<;>rfl
end J
namespace J
open Go Go.Ab
variable[cu:b0]
variable{H:au}{ae jz b9 S F X N:List (Nat×ax)}{aa:VH}{v:Value}{aq bE:List Value}{p o k n:Nat}{e bc:Int}{m:br}{L cL:lK}{aS:da}{w:bA}
theorem kd(hO:aj H ((ae++jz)++b9))(k:Nat){b:Bool}(an:jz[k]?=some (p,⟨aq,b⟩))(hv:aq[o]?=some v)(ah:aa v H):af (aw (ai p o) H) aa:=aY hO (ae.length+k) (aL (az an)) hv ah
theorem vX(hO:aj H ((ae++jz)++b9))(k:Nat)(an:jz[k]?=some (p,⟨aq,true⟩))(h1:eL v=true)(aU:o<aq.length)(aB:aq.set o v=bE)(ah:∀ab,aj ab ((ae++jz.set k (p,⟨bE,true⟩))++b9)->aa undef ab):af (bx 1 (ai p o) v H) aa:=by refine fR hO (ae.length+k) (aL (az an)) h1 aU aB ?_;intro ab ju;have l1:=(List.getElem?_eq_some_iff.1 an).1;rw[set_append_left _ _ (by simp_all),Go.Ab.cD]at ju;exact ah ab ju
theorem Nr(h:aj H ((((S++F)++jz)++b9)++N)):aj H (((S++(F++N))++jz)++b9):=h.fj (by classical exact perm_iff_count.2 fun _=>by grind)
theorem BD(h:aj H (((S++(F++N))++jz)++b9)):aj H (((S++F)++jz)++b9):=h.sub (by refine List.Sublist.append (List.Sublist.append (List.Sublist.append (List.Sublist.refl S) (sublist_append_left F N)) (List.Sublist.refl _)) (List.Sublist.refl _))
theorem azW(h:aj H ((((S++F)++jz)++b9)++X)):aj H ((((S++X)++F)++jz)++b9):=h.fj (by classical exact perm_iff_count.2 fun _=>by grind)
structure jP where
 A:gz
 sv:Value
 h0:Value
 l:Nat
 c:Nat
 L:lK
def Ns(A:gz)(l:Nat)(vY:List Value)(c:Nat)(jv:List Value):List (Nat×ax):=
 [(A.q,⟨A.aq,true⟩),(A.r,⟨dp A.q A.n 1 A.f A.aP.length,true⟩),(l,⟨vY,true⟩),(c,⟨jv,true⟩)]
def jP.jv(B:jP)(w:bA):List Value:=i7 B.l w.cy w.cQ B.A.r w.aS B.sv w.ep B.h0 w.wr w.cC w.bj
def jP.ga(B:jP)(w:bA):List (Nat×ax):=Ns B.A B.l (fs w.s B.L.cO) B.c (B.jv w)
structure ks (S:List (Nat×ax)) (w:bA) (B:jP):Prop where
 q:qt S B.A w.q
 aS:w.aS.b4
 sv:e8 S B.sv w.aS.aN
 fy:rk S B.h0 w.fy
 qu:∀x∈w.fy,cE x
 s:w.s.b4
 m:p0 w.m
 own:lq B.L w.m
 ep:w.ep<=100
 wr:w.wr<=4096
structure jP.et (B dG:jP):Prop where
 r:dG.A.r=B.A.r
 q:dG.A.q=B.A.q
 n:dG.A.n=B.A.n
 l:dG.l=B.l
 c:dG.c=B.c
 L:B.L.Eq dG.L
variable{B dG:jP}
theorem jP.et.fC:B.et B:=⟨rfl,rfl,rfl,rfl,rfl,.fC⟩
theorem jP.et.trans{ahj:jP}(h:B.et dG)(aT:dG.et ahj):B.et ahj:=⟨aT.r.trans h.r,aT.q.trans h.q,aT.n.trans h.n,aT.l.trans h.l,aT.c.trans h.c,h.L.trans aT.L⟩
theorem ks.app(h:ks S w B):ks (S++X) w B:=⟨h.q.app,h.aS,h.sv.app,h.fy.app,h.qu,h.s,h.m,h.own,h.ep,h.wr⟩
def jP.at(B:jP)(L:lK):jP:={B with L:=L}
theorem jP.ho(h:B.L.Eq L):B.et (B.at L):=⟨rfl,rfl,rfl,rfl,rfl,h⟩
theorem ks.put(h:ks S w B){r:br×Int}(hm:p0 r.1)(bM:lq L r.1):ks S (w.put r) (B.at L):=⟨h.q,h.aS,h.sv,h.fy,h.qu,h.s,hm,bM,h.ep,h.wr⟩
abbrev ke(H:au)(S F:List (Nat×ax))(w:bA)(B:jP):Prop:=aj H (((S++F)++B.ga w)++dJ B.L w.m)
theorem T6{r:br×Int}(aO:w.aS.cn.length=32)(he:B.L.Eq L)(hO:aj H (((S++F)++B.ga w)++dJ L r.1))(ah:∀ab,ke ab S F (w.put r) (B.at L)->aa undef ab):af (bx 1 (ai B.c 45) (int r.2) H) aa:=by
 have aM:ke H S F {w with m:=r.1} (B.at L):=by show aj H (((S++F)++Ns B.A B.l (fs w.s L.cO) B.c (B.jv w))++dJ L r.1);rw[he.m];exact hO
 exact vX aM 3 (o:=0+45) rfl rfl (by simp_all[jP.jv,vW]) (T5 aO _) ah
theorem Dy(B:jP)(w:bA):((S++F)++B.ga w)[(S++F).length+2]?=some (B.l,⟨fs w.s B.L.cO,true⟩):=az rfl
theorem azX:∀m,p0 m->p0 (m.eF bc e).1:=fun m h=>⟨br.R8 h.ok,br.TZ h.b⟩
theorem ahk:∀m,p0 m->p0 m.jH.1:=fun m h=>⟨br.Sc h.ok,br.azM h.b⟩
theorem ahl{x:List Int}(aD:x.length=64)(ak:cE x):∀m,p0 m->p0 (m.fE bc e x).1:=fun m h=>⟨br.R9 h.ok aD,br.T0 h.b ak⟩
theorem fF.zw{s:fF}{a:Int}(ok:m.b4):(s.fU m a bc).1.length=64:=by unfold fF.fU;split;rfl;exact br.zw ok
theorem azY(aX:ks S w B)(hm:w.m.gB 1000000)(hO:ke H S F w B)(ah:∀ab dG,B.et dG->ks S w.kq dG->ke ab S F w.kq dG->aa (.tuple [].toArray) ab):ay P 141 [ai B.c 0] H aa:=by
 apply ast;unfold acg;have aO:=aX.aS.dh;refine aV (kd hO 3 rfl (v:=ai B.l 0) rfl (aV (kd hO 3 rfl (v:=int w.cQ) rfl (TT hO (Dy B w) ?_))));intro H hO;unfold bA.kq at ah;refine ass (fun k aA ab=>∃y:Nat,y<=w.size/\k=w.size-y/\aA=[ai B.c 0,int w.size,int y]/\w.sb w.size 0=w.sb (w.size-y) y/\ke ab S F w B) _ _ ?_ w.size _ _ ⟨0,by omega,by omega,rfl,rfl,hO⟩;rintro k aA H ⟨y,ba,rfl,rfl,uh,hO⟩;unfold acf
 try simp only[cj,ck]
 refine ag fr (bF (fun h=>?_) (fun h=>?_));have gR:y<w.size:=by omega
 have uh:w.sb w.size 0=if mW w y then some y else w.sb (w.size-(y+1)) (y+1):=by rw[uh,show w.size-y=(w.size-(y+1))+1 by omega];rfl
 refine aV (kd hO 3 rfl (v:=ai B.l 0) rfl (aV (kd hO 3 rfl (v:=int w.cQ) rfl (azm aX.m.ok hO (Dy B w) ?_))));intro H hO;have FW:=fF.zw (s:=w.s) (a:=w.cQ) (bc:=y) aX.m.ok;refine ag kT (ag kU ?_);rw[C8];refine dH hO ?_;intro eQ H hO;refine fT hO (_+0) (az rfl) (by rfl) (by simp_all) (mn _) ?_;intro H hO
 replace hO:=hO.cD
 replace hO:aj H (((((S++F)++B.ga w)++dJ B.L w.m))++[(eQ,⟨bd (w.s.fU w.m w.cQ y).1,true⟩)]):=hO
 refine e3 (fun aA ab=>aA=[ai B.c 0,int y,int w.size,int y,.bool (decide (mW w y))]/\ke ab S F w B) ?_ ?_;refine ag e2 (bF (fun h1=>?_) (fun h1=>?_));refine gh hO (_+0) (az rfl) (by simp_all) (by omega) (FP hO ?_);intro cJ dF;refine⟨ho hO (_+0) (az rfl) dF (_+0) (az rfl) (A9 _),?_⟩;exact ag (aey false FW rfl) (ag (gA h1) (⟨by simp[mW,h1],dF.left⟩));exact ag (gP h1) (⟨by simp[mW,h1],hO.left⟩);rintro aA H ⟨rfl,hO⟩
 try simp only[cj,ck]
 refine bF (fun h1=>?_) (fun h1=>?_);rw[if_pos h1]at uh;rw[uh]at ah;refine aV (kd hO 3 rfl (v:=ai B.l 0) rfl (aV (kd hO 3 rfl (v:=bT .u64 w.cy) rfl (azn aX.s aX.m.ok hm hO aX.own (Dy B w) ?_))));intro H cL he hO hv;refine aV (T6 aO he hO ?_);intro H hO;exact ah H (B.at cL) (jP.ho he) (aX.put (T1 aX.m azX) hv) hO;rw[if_neg h1]at uh;exact ag (jg (by omega) (by have:=br.Ir aX.m.ok (part:=w.s.part w.cQ);grind[bA.size])) (⟨_,by omega,y+1,by omega,rfl,rfl,uh,hO⟩);have mq:y=w.size:=by omega
 subst mq;rw[Nat.sub_self]at uh;have uh:w.sb w.size 0=none:=uh;rw[uh]at ah;refine k6 rfl ?_
 try simp only[cj,ck]
 refine aV (vX hO 3 (o:=0+44) rfl rfl (by simp_all[jP.jv,vW]) (Nq aO 2) ?_);intro H hO;exact ah H B .fC ⟨aX.q,aX.aS,aX.sv,aX.fy,aX.qu,aX.s,aX.m,aX.own,aX.ep,aX.wr⟩ hO
end J
