/- texts of the kp, du behind the jV -/
import Derived.Test.YtifflnhooaophaaGreatDoorUK
set_option linter.unusedVariables false
set_option linter.unusedSimpArgs false
set_option linter.unusedSectionVars false
set_option maxHeartbeats 4000000
set_option maxRecDepth 100000
open List Nat
namespace J
open Go Go.Ab
section
variable[c0:cH]
variable{A B F a b Gy g i j k m n am bH aE aM ca ae}{w:bG}{f:Nat->LI}
inductive BI:Nat->bG->bG->Prop
 | nil (w:bG):BI 0 w w
 | step {k:Nat} {w aM ca:bG}:w.step=(true,aM)->BI k aM ca->BI (k+1) w ca
theorem BI.du(h:w.step=(true,aM)):BI 1 w aM:=.step h (.nil _)
structure nx (w:bG) (n:Nat) (am:Int) (f g:Nat->LI):Prop where
 GK:w.s.mX w.bH
 cr:w.s.b4=am
 ej:w.b4=am
 j5:w.s.j5=0
 b5:w.s.b5=1
 p9:oV am
 kb:lJ w.m n n
 nS:w.m.d.ff=false
 pz:w.m.d.ei=-1
 hx:w.m.d.hx=100
 f:∀i,i<n->aF w.m.d (off n am+i)=f i
 g:∀i,i<n->aF w.m.d (off n (1-am)+i)=g i
theorem nx.part(h:nx w n am f g):w.s.part am=am:=by
 unfold dU.part;rcases h.p9 with e|e<;>subst e
 rw[if_neg U,if_pos rfl,h.j5];rw[if_neg U,if_neg U,h.b5]
theorem zd:mI n n b=n:=by simp_all[mI]
theorem nx.size(h:nx w n am f g):w.size=n:=by unfold bG.size;rw[h.ej,h.part,w6 h.kb h.p9,zd]
end
section
variable[c0:cH]
variable{ag d f g j n az q am z}{w:bG}
theorem BJ{α:Type}:∀(l:List Nat) {f g:Nat->List α},(∀i∈l,f i=g i)->l.flatMap f=l.flatMap g
 | [],_,_,_=>rfl
 | a::l,f,g,h=>by rw[flatMap_cons,flatMap_cons,h a mem_cons_self,BJ l fun i b=>h i (mem_cons_of_mem _ b)]
theorem nx.all(h:nx w n am f g):w.m.all am=(range n).flatMap f:=by
 have ah:mI n n am=n:=zd;unfold bh.all bh.pn;rw[w6 h.kb h.p9,ah];refine BJ _ fun i a=>?_
 rw[BH h.kb h.p9 a1];exact h.f i (List.mem_range.1 a)
theorem Fw(h:oV am):oV (1-am):=by rcases h with e|e<;>subst e;exact .inr rfl;exact .inl rfl
theorem nx.jV(h:nx w n am f g):w.m.all (1-am)=(range n).flatMap g:=by
 have ah:mI n n (1-am)=n:=zd;unfold bh.all bh.pn;rw[w6 h.kb (Fw h.p9),ah];refine BJ _ fun i a=>?_
 rw[BH h.kb (Fw h.p9) a1];exact h.g i (List.mem_range.1 a)
end
section
variable[c0:cH]
variable{F N a b c f g nw j k l kC n q am}{w:bG}
theorem K0(h:w.m.eV N)(a:∀m,m.eV N->(F m).1.eV (N+1)):(w.put (w.s.as w.m w.bH F)).m.eV (N+1):=VV h a
theorem aqz(h:w.m.eV N):w.step.2.m.eV (N+1):=by
 have b:w.m.eV (N+1):=h.mono U;unfold bG.step;split;exact b;split;unfold bG.mj;split;exact K0 h fun m a=>bh.alE a
 exact b;split;have ah:=K0 h fun m a=>(bh.EE a).mono U
 unfold bG.py;split;exact ah;split<;>exact ah;split;rename_i x ae _;have ah:(w.jA x).m.eV (N+1):=K0 h fun m a=>bh.Ju a
 unfold bG.fill;split<;>exact ah;split;exact b;rename_i c q _;have:∀aM:bG,(aM.gv c).m=aM.m:=by
  intro aM;unfold bG.gv
  grind[bG.q8,bG.body]
 rw[this];exact b
theorem aqA(h:0<=w.au.cY)(az:hn):0<=(w.gv az).au.cY:=by
 unfold bG.gv;by_cases d:w.b8=0;rw[if_pos d];cases az with
 | jj f b=>
  show 0<=(w.q8 b).au.cY;unfold bG.q8;by_cases e:dy b;split;exact h;have⟨_,_,_,g,_⟩:=e
  grind
  simp_all
 | kl a=>exact h
 | body a c=>exact h
 | gD=>exact h
 grind[bG.body]
theorem aqB(h:0<=w.au.cY):0<=w.step.2.au.cY:=by
 unfold bG.step;split;exact h;split;unfold bG.mj;split<;>exact h;split;unfold bG.py;split;exact h;split<;>exact h;split;rename_i x ae _;unfold bG.fill;split<;>exact h;split;exact h
 simp_all[aqA]
end
section
variable[c0:cH]
variable{B cZ F H K N S b bz m n az cd am v de w aM}
theorem aqC(a:nX cd=0)(c:1<=de)(cF:de<=281474976710656)(g:1<=b.length)(h:b.length<=65536)(d:64<=bz)(e:bz<=1024)(f:bz%64=0)(i:kS b.length bz<=64):dy (mH cd de bz b):=by
 have j:0<=kS b.length bz:=JP;refine⟨a,c,cF,?_,?_,d,e,f,?_,?_⟩;show(1:Int)<=((b.length:Nat):Int);omega;show((b.length:Nat):Int)<=65536;omega;unfold mH;rw[zb];show _=kS ((b.length:Nat):Int) bz;omega
 simp_all[mH,zb]
def jT:List UInt8:=[99,111,114,101]
theorem aqD:nX jT=0:=ao
theorem aqE(ar:ih S w B)(a:0<=w.au.cY)(b:w.m.eV N)(d:N<=1000000)(e:h8 H S F w B)(f:∀E cZ X,B.en cZ->ih (S++X) w.step.2 cZ->0<=w.step.2.au.cY->w.step.2.m.eV (N+1)->h8 E (S++X) F w.step.2 cZ->K (.bool w.step.1) E):aG P 66 [ad B.c 0] H K:=
 aqg ar a (b.mono d) e fun E cZ X g h i=>f E cZ X g h (aqB a) (aqz b) i
end
section
variable[c0:cH]
variable{H K c d l eX oW n cm s g6 wr x ab}
abbrev fP(cm eX:Int)(s n:Nat):ef:=⟨[int cm,int eX,am s 0 n 3],true⟩
abbrev fK(l:LI):ef:=⟨l.map int,true⟩
section
theorem aqF(b:ac H ab)(i:Nat)(c:ab[i]?=some (d,fP cm eX s n))(a:K (.bool (decide (0<=x/\x<n))) H):aG P 190 [ad d 0,int x] H K:=by
 refine ai7.1 ?_
 repeat refine aQ ?_
 refine ay (fun h=>?_) (fun h=>?_)
 repeat refine aQ ?_
 apply bk b i c rfl
 repeat (first|refine aQ ?_|refine lL ?_)
 rw[show decide (0<=x/\x<n)=decide (x<n) by simp[h]]at a;exact a
 repeat refine aQ ?_
 rw[show decide (0<=x/\x<n)=false by simp[h]]at a;exact a
def BK(cm:Int)(l:LI)(x:Int):Int:=if 0<=x/\x<l.length then cm-l.getD x.toNat 0 else-1
theorem K1(l:LI)(x:Int)(h:0<=x/\x<l.length):(l.map int)[0+x.toNat*1]?=some (int (l.getD x.toNat 0)):=a1
theorem aqG(l:LI)(x:Int)(h:0<=x/\x<l.length):l.getD x.toNat 0∈l:=a1
def rb(l:LI):Int:=l.foldl max (l.getD 0 0)
theorem aqH(b:ac H ab)(j:Nat)(d:ab[j]?=some (s,⟨l.map int,wr⟩))(n:0<l.length)(g:l.length<=1000)(m:K (int (rb l)) H):aG P 152 [am s 0 l.length c] H K:=by
 refine aiA.1 ?_;apply sv
 repeat (first|refine aQ ?_|refine lL ?_|refine nl ?_)
 apply bk b j d (K1 l 0 U)
 try simp only[c1,c2]
 refine aiz (fun k f E=>E=H/\∃i:Nat,1<=i/\i<=l.length/\k=l.length-i/\∃v,f=[am s 0 l.length c,v,int ((l.take i).foldl max (l.getD 0 0)),int i]) _ _ ?_ (l.length-1) _ _ ⟨rfl,1,U,U,rfl,int 0,?_⟩;rintro k f E ⟨rfl,i,o,p,rfl,v,rfl⟩;unfold RQ;refine ul ?_
 try simp only[c1,c2]
 repeat (first|refine aQ ?_|refine lL ?_)
 refine ay (fun h=>?_) (fun h=>?_)
 repeat refine aQ ?_
 apply bk b j d (K1 l i U)
 repeat (first|refine aQ ?_|refine lL ?_)
 refine⟨_,?_,rfl,i+1,U,U,rfl,v,?_⟩;omega;have aB:i<l.length:=U
 rw[take_succ_eq_append_getElem aB,foldl_append]
 simp_all
 have e:i=l.length:=U
 subst e
 repeat refine qJ ?_
 rw[take_of_length_le (Nat.le_refl _)];exact m;cases l with
 | nil=>rfl
 | cons a r=>simp
theorem Wf:(fP cm eX s n).cells.all dx=true:=rfl
theorem aqI(c:∀y∈l,0<=y/\y<=cm)(e:0<l.length):0<=rb l/\rb l<=cm:=by
 have b:∀(r:LI) (a:Int),0<=a/\a<=cm->(∀y∈r,0<=y/\y<=cm)->0<=r.foldl max a/\r.foldl max a<=cm:=by
  intro r;induction r with
  | nil=>simp_all
  | cons x r f=>
   intro a h d;have i:=d x aW;refine f _ ⟨?_,?_⟩ fun y g=>d y (by simp[g])
   omega;omega
 cases l with
 | nil=>simp at e
 | cons a r=>exact b _ _ (c _ aW) c
theorem Wg(a:ac H ab)(i j:Nat)(b:ab[i]?=some (d,fP cm eX s l.length))(g:ab[j]?=some (s,fK l))(e:0<l.length)(c:l.length<=1000)(h:∀y∈l,0<=y/\y<=cm)(f:cm<=1099511627776)
  (k:K (int (cm-rb l)) H):aG P 84 [ad d 0] H K:=by
 have m:=aqI h e;refine ahi.1 ?_
 repeat refine aQ ?_
 apply bk a i b rfl
 repeat refine aQ ?_
 refine bk a i b rfl (aqH a j g e c (⟨gw a i b a i b Wf,?_⟩))
 repeat refine aQ ?_
 exact k
theorem aqJ(b:ac H ab)(i j:Nat)(c:ab[i]?=some (d,fP cm eX s l.length))(g:ab[j]?=some (s,fK l))(k:0<l.length)(f:l.length<=1000)(m:∀y∈l,0<=y/\y<=cm)(a:cm<=1099511627776)
  (e:K (int (if eX<=cm-rb l then 221 else 0)) H):aG P 125 [ad d 0] H K:=by
 refine ah2.1 ?_;apply Wg b i j c g k f m a
 repeat refine aQ ?_
 refine bk b i c rfl (⟨gw b i c b i c Wf,?_⟩)
 repeat refine aQ ?_
 refine ay (fun h=>?_) (fun h=>?_);rw[if_pos h]at e;exact e;rw[if_neg h]at e;exact e
theorem aqK(a:ac H ab)(i:Nat)(b:ab[i]?=some (d,fP cm eX s n))(g:0<=cm)(e:cm<=1099511627776)
  (f:∀E,ac E (ab.set i (d,fP (cm+max 0 (min x (1099511627776-cm))) eX s n))->K (.tuple #[]) E):aG P 75 [ad d 0,int x] H K:=by
 refine ag9.1 ?_
 repeat refine aQ ?_
 apply bk a i b rfl
 repeat refine aQ ?_
 apply bk a i b rfl
 repeat (first|refine aQ ?_|refine lL ?_)
 exact cQ a i b rfl aW rfl fun E c=>f E c
theorem aqL{x:Int}(a:ac H ab)(i j:Nat)(c:ab[i]?=some (d,fP cm eX s l.length))(g:ab[j]?=some (s,fK l))
  (b:∀E,ac E (ab.set j (s,fK (if 0<=x/\x<l.length then l.set x.toNat cm else l)))->K (.bool (decide (0<=x/\x<l.length))) E):aG P 133 [ad d 0,int x] H K:=by
 refine aib.1 ?_;apply aqF a i c;by_cases h:0<=x/\x<(l.length:Int);rw[if_pos h,decide_eq_true h]at b;rw[decide_eq_true h]
 repeat (first|refine aQ ?_|refine rJ ?_)
 apply bk a i c rfl
 repeat refine aQ ?_
 apply bk a i c rfl
 repeat refine aQ ?_
 have e:(l.map int).set (0+x.toNat*1) (int cm)=(l.set x.toNat cm).map int:=a1
 exact cQ a j g rfl aT e fun E f=>b E f
 rw[if_neg h,decide_eq_false h]at b;rw[decide_eq_false h]
 repeat (first|refine aQ ?_|refine hK ?_)
 apply b H;rw[show ab.set j (s,fK l)=ab from ?_];exact a;apply ext_getElem?
 grind
theorem Wh:lD P 48=⟨o4 1 8 [int 0]⟩:=ao
theorem aqM(a:ac H ab)
  (b:∀s d E,ac E (ab++[(s,fK (replicate (max 1 (min g6 8)).toNat 0)),(d,fP 0 (max 1 (min oW 1000000)) s (max 1 (min g6 8)).toNat)])->K (ad d 0) E):aG P 83 [int oW,int g6] H K:=by
 refine ahh.1 ?_
 repeat refine lL ?_
 rw[Wh];have e:max 1 (min g6 8)=((max 1 (min g6 8)).toNat:Int):=U
 rw[e];generalize (max 1 (min g6 8)).toNat=w at*;refine uR (k:=.i64) (eF:=.i64) a U U fun s H a=>Z rfl (b0 a ?_)
 intro d H a;rw[Pw,append_assoc]at a;apply b s d H;rw[show(fK (replicate w 0))=⟨replicate w (int 0),true⟩ by simp[fK]];exact a
end
end
section
structure oX where
 d6:Int
 js:Int
 v:Nat
abbrev kD:=List (List UInt8×LI)
def qa:kD->List UInt8->Option LI 
 | [],_=>none
 | o::r,k=>if o.1=k then some o.2 else qa r k
def pA(a:kD)(o:List UInt8×LI):kD:=if qa a (gu o.1)=none/\nX o.1=0 then a++[(gu o.1,o.2)]else a
def w7(l:kD):kD:=l.foldl pA []
structure hS where
 off:kD
 aK:List oX
 bU:Nat
def hC(b:LI)(a dg:Int):LI:=if a<0\/(b.length:Int)<=a\/dg<1 then []else(b.drop a.toNat).take dg.toNat
def hS.next(n:hS):oX×List oX:=match n.aK with
 | []=>(⟨0,0,0⟩,[])
 | f::r=>(f,r)
def ze(b:LI)(f:oX):LI:=if b=[]then b else b.set ((max f.js 0).toNat%b.length) ((((b.getD ((max f.js 0).toNat%b.length) 0).toNat ^^^ f.v):Nat):Int)
def n6(all:LI)(a dg:Int)(f:oX):LI×Int:=
 if f.d6=1 then([],181)
 else if f.d6=2 then(ze (hC all a dg) f,0)
 else if f.d6=3 then((hC all a dg).take (max 0 (min f.js (hC all a dg).length)).toNat,0)
 else if f.d6=4 then(hC all f.js dg,0)
 else(hC all a dg,0)
def hS.hD(n:hS)(c9:List UInt8)(a dg:Int):(LI×Int)×hS:=match qa n.off (gu c9)with
 | none=>(([],182),n)
 | some pv=>(n6 pv a dg n.next.1,{n with aK:=n.next.2,bU:=n.bU+1})
structure dL where
 c9:List UInt8
 left:Nat
 dS:Option (Int×fi)
 cu:Int
 aX:Int
def dL.try(l:dL):Bool×dL:=if l.left=0 then(false,{l with aX:=191})else(true,{l with left:=l.left-1})
def dL.rc(l:dL)(a:Int):Bool:=match l.dS with
 | none=>decide (a=-1)
 | some (_,m)=>decide (0<=a/\a<m.aU.length)
def dL.follow(l:dL)(s:hn):dL:=match s with
 | .kl a=>if l.rc a=false then {l with aX:=192}else if l.left=0 then {l with aX:=191}else {l with left:=l.left-1,cu:=a}
 | .jj n m=>if l.dS.isSome=true\/¬dy m\/n<0\/n>2304 then {l with aX:=192}else {l with dS:=some (n,m),cu:=0}
 | _=>{l with aX:=192}
def dL.hT(l:dL):Int×Int:=if l.cu=-1 then(0,2304)else match l.dS with
 | none=>(0,0)
 | some (n,m)=>(n+(gl m l.cu).1,(gl m l.cu).2)
def dL.on(l:dL):dL:=match l.dS with
 | none=>{l with cu:=-2}
 | some (_,m)=>if l.cu+1=m.aU.length then {l with cu:=-2}else {l with cu:=l.cu+1}
def hd(n:Nat)(l:dL)(bv:List (Int×LI))(ac1:List hn)(az:hS):Bool×dL×List (Int×LI)×List hn×hS:=
 if l.aX≠0 then(false,l,bv,ac1,az)
 else match ac1 with
  | s::r=>(true,l.follow s,bv,r,az)
  | []=>if l.cu=-2\/bv.length=n then(false,l,bv,[],az)
   else match az.hD l.c9 l.hT.1 l.hT.2 with
    |((b,e),a)=>if e=0 then(true,l.on,bv++[(l.cu,b)],[],a)
     else if e=181 then(true,l.try.2,bv,[],a)
     else(true,{l with aX:=e},bv,[],a)
structure rd where
 cm:Int
 eX:Int
 cb:LI
def rd.n7(d:rd)(i:Nat):rd:={d with cb:=d.cb.set i d.cm}
def rd.vm(d:rd):Int:=d.cm-rb d.cb
def rd.sX(d:rd)(n:Int):rd:={d with cm:=d.cm+max 0 (min n (1099511627776-d.cm))}
structure cv where
 l:dL
 c:fj
 w:bG
 az:hS
 d:rd
 st:Int
 gg:Int
def cv.im(p:cv)(st gg:Int):cv:={p with st:=st,gg:=gg,w:={p.w with s:=p.w.s.drop p.w.bH}}
def cv.iG(p:cv)(dt:Nat)(iG:Bool)(e:Int)(done:Bool):Bool×cv:=
 let q:cv:=if iG then {p with d:=p.d.n7 dt}else p
 (iG,if e≠0 then q.im 3 e else if done then q.im 2 0 else q)
def cv.K2(p:cv):Bool×cv:=match hd p.c.aC p.l p.c.fJ p.c.ac1 p.az with
 |(b,l,bv,ac1,az)=>({p with l:=l,c:={p.c with fJ:=bv,ac1:=ac1},az:=az}:cv).iG 0 b l.aX false
def cv.gZ(p:cv):Bool×cv:=({p with c:=p.c.step.2}:cv).iG 1 p.c.step.1 p.c.step.2.aX false
def cv.K3(p:cv):Bool×cv:=
 let r:=({p.w with q:=p.c.gW}:bG).step
 ({p with w:=r.2,c:={p.c with gW:=r.2.q}}:cv).iG 2 r.1 r.2.aX (decide (r.2.b8=4))
def cv.ud(p:cv):Bool×cv:=if p.d.eX<=p.d.vm then(true,p.im 3 221)else(false,p)
def cv.step(p:cv)(dt:Int):Bool×cv:=
 if p.st≠1 then(false,p)
 else if dt=3 then p.ud
 else if dt=0 then p.K2
 else if dt=1 then p.gZ
 else if dt=2 then p.K3
 else(false,p)
def cv.sX(p:cv)(n:Int):cv:=if p.st=1 then {p with d:=p.d.sX n}else p
def cv.sY(p:cv):Bool×cv:=if p.st≠1 then(false,p)else(true,p.im 4 0)
end
section
variable[c0:cH]
variable{F H K S X a b cA ag bI i kv l ed az o p q r1 r2 v x ab}
def gE(az r1 r2:Nat)(l:dL)(kv:Value):aj:=[ad az 0,a6 l.c9,int l.left,ad r1 0,ad r2 0,kv,int l.cu,int l.aX]
def rX(S:LB)(kv:Value):Option (Int×fi)->Prop
 | none=>kv=.pointer none
 | some (h,m)=>∃(g j:Nat) (aq:Value),kv=ad g 0/\S[j]?=some (aa g (int h::aR m aq))/\df S aq m.aU/\m.br
theorem rX.app(h:rX S kv x):rX (S++X) kv x:=by
 cases x with
 | none=>exact h
 | some y=>have⟨g,j,aq,a,b,c,d⟩:=h;exact⟨g,j,aq,a,ak b,c.app,d⟩
theorem rX.du(h:rX S kv x):cS kv=true:=by
 cases x with
 | none=>rw[show kv=.pointer none from h];rfl
 | some y=>obtain⟨g,j,a,rfl,_⟩:=h;rfl
theorem Fx{j:Nat}(a:ac H ab)(d:ab[i]?=some (p,b))(f:ab[j]?=some (q,cA))(c:i≠j):p≠q:=by
 intro e;have g:=a.pf;have h:(ab.map (·.1))[i]?=some p:=a1
 have k:(ab.map (·.1))[j]?=some p:=a1
 grind[getElem?_inj]
theorem Wi:∀ {l:List Nat},(∀y∈l,x≠y)->om x l=false:=by grind[om,ia,eq_of_beq_eq_true]
theorem aqN(h:∀i∈dM l,p≠i):pP (dM [ad p o]) (dM l):=by show cond (not (om p (dM l))) true false=true;rw[Wi h];rfl
theorem qb(a:ac H (ab++[aa p ag]))(b:cS v=true)(c:o<ag.length)(d:ag.set o v=bI)(e:∀E,ac E (ab++[aa p bI])->K undef E):a7 (d9 1 (ad p o) v H) K:=
 cQ a (ab.length+0) (al rfl) b c d fun E h=>e E (by rw[Go.Ab.bp]at h;exact h)
theorem ue(a:ac H (ab++[aa p ag]))(b:ag[o]?=some v)(c:K v H):a7 (db (ad p o) H) K:=aD a b c
theorem Wj(c:Bool):(cz P .eql 242 c).f (.pointer none) (.pointer none)=some (.bool true):=ao
theorem Wk(c:Bool)(p:Nat):(cz P .eql 242 c).f (ad p 0) (.pointer none)=some (.bool false):=ao
theorem aqO(c:Bool):(cz P .neq 242 c).f (.pointer none) (.pointer none)=some (.bool false):=ao
theorem aqP(c:Bool)(p:Nat):(cz P .neq 242 c).f (ad p 0) (.pointer none)=some (.bool true):=ao
theorem aqQ(x:Value):kF 313 (gy P 313) (.iface 313 x)=some (.tuple #[x,.bool true]):=ao
theorem aqR(x:Value):kF 313 (gy P 313) (.iface 316 x)=some (.tuple #[agg [int 0],.bool false]):=ao
theorem aqS(x:Value):kF 313 (gy P 313) (.iface 327 x)=some (.tuple #[agg [int 0],.bool false]):=ao
theorem aqT(x:Value):kF 313 (gy P 313) (.iface 320 x)=some (.tuple #[agg [int 0],.bool false]):=ao
theorem Fy:fF P 313=[int 0]:=ao
theorem Wl(c:l.left<=1000)(b:ac H (ab++[aa ed (gE az r1 r2 l kv)]))(a:∀E,ac E (ab++[aa ed (gE az r1 r2 l.try.2 kv)])->K (.bool l.try.1) E):aG P 132 [ad ed 0] H K:=by refine aia.1 ?_;unfold dL.try at a;refine ai (ue b rfl (Z cN (ay (fun h=>?_) (fun h=>?_))));rw[if_pos U]at a;exact ai (qb b rfl (show 7<8 by omega) rfl a);rw[if_neg U]at a;exact ai (ue b rfl (Z (by grind[iS]) (ai (qb b rfl (show 2<8 by omega) rfl a))))
theorem aqU(b:rX S kv l.dS)(e:ac H ((S++F)++[aa ed (gE az r1 r2 l kv)]))(c:K (.bool (l.rc a)) H):aG P 185 [ad ed 0,int a] H K:=by
 refine ai2.1 ?_;unfold dL.rc at c;refine ai (ue e rfl ?_);cases i:l.dS with
 | none=>rw[i]at b c;rw[show kv=.pointer none from b];exact Z (Wj _) (dz rfl (Z cN c))
 | some y=>have⟨h,m⟩:=y;rw[i]at b c;obtain⟨g,j,k,rfl,n,f,o⟩:=b;refine Z (Wk _ _) (cT rfl (Z kM (ay (fun d=>?_) (fun d=>?_))));refine ai (ue e rfl (ai (Z bj (bk e j (ak (ak n)) (by show(aR m k)[0+36]?=_;exact lv o.bi) (bg f.aZ (Z cV (Z (dT d) ?_)))))));simp[d]at c;exact c;apply Z (dl d);simp[d,decide_false]at c;exact c
theorem aqV(b:rX S kv l.dS)(p:-2<=l.cu/\l.cu<=1000)(a:ac H ((S++F)++[aa ed (gE az r1 r2 l kv)]))(c:∀E,ac E ((S++F)++[aa ed (gE az r1 r2 l.on kv)])->K (.tuple [].toArray) E):aG P 131 [ad ed 0] H K:=by
 refine ah9.1 ?_;unfold dL.on at c;refine ai (ue a rfl (Z (f2 U U) (ai (qb a rfl (show 6<8 by omega) rfl (fun H a=>cy (fun i E=>E=H/\i=[ad ed 0,.bool (match l.dS with|none=>true|some (_,m)=>decide (l.cu+1=m.aU.length))]) ?_ ?_)))));refine ai (ue a rfl ?_);cases d:l.dS with
 | none=>rw[d]at b;rw[show kv=.pointer none from b];exact Z (Wj _) (dz rfl (Z ja (⟨rfl,rfl⟩)))
 | some y=>have⟨h,m⟩:=y;rw[d]at b;obtain⟨g,j,k,rfl,n,e,o⟩:=b;exact Z (Wk _ _) (cT rfl (ai (ue a rfl (ai (ue a rfl (ai (Z bj (bk a j (ak (ak n)) (by show(aR m k)[0+36]?=_;exact lv o.bi) (bg e.aZ (Z cN (Z lb (⟨rfl,rfl⟩))))))))))))
 rintro i E ⟨rfl,rfl⟩;cases d:l.dS with
 | none=>rw[d]at c;exact dz rfl (ai (qb a rfl (show 6<8 by omega) rfl c))
 | some y=>have⟨h,m⟩:=y;rw[d]at c;simp only at c;refine ay (fun f=>?_) (fun f=>?_);rw[if_pos f]at c;exact ai (qb a rfl (show 6<8 by omega) rfl c);rw[if_neg f]at c;exact c E a
end
section
variable[c0:cH]
variable{F H K N S e kv l ed az r1 r2 aF v jl}
theorem BL(h:ac H (((S++F)++jl)++N)):ac H ((S++(F++N))++jl):=h.cf (by rw[append_assoc,<- append_assoc S F N,append_assoc (S++F) N jl];exact List.Perm.append_left (S++F) perm_append_comm)
theorem vr(h:ac H ((S++(F++N))++jl)):ac H ((S++F)++jl):=h.sub (by refine List.Sublist.append_right ?_ jl;exact List.Sublist.append_left (sublist_append_left F N) S)
theorem Wm(h:ac H (((S++F)++jl)++N)):ac H (((S++N)++F)++jl):=h.cf (by rw[append_assoc S N F,append_assoc S (N++F) jl,append_assoc,append_assoc S F (jl++N)];apply List.Perm.append_left S;rw[<- append_assoc F jl N,append_assoc N F jl];exact perm_append_comm)
theorem aqW(c:rX S kv l.dS)(gA:l.left<=1000)(d:rV S aF [v])(b:ac H ((S++F)++[aa ed (gE az r1 r2 l kv)]))
  (q:∀E u X,rX (S++X) u (l.follow aF).dS->ac E (((S++X)++F)++[aa ed (gE az r1 r2 (l.follow aF) u)])->K (.tuple [].toArray) E):aG P 127 [ad ed 0,v] H K:=by
 apply ah5;unfold IW;refine b0 b ?_;intro ax H b
 replace b:=BL b
 have V:∀ {w:LB} {B x},((w++((F++[aa ax [ad ed 0]])++B))++x)[w.length+(F.length+0)]?=some (aa ax [ad ed 0]):=ak (al (ak (al rfl)));have o:∀ {H:an} {B X},ac H (((S++X)++((F++[aa ax [ad ed 0]])++B))++[aa ed (gE az r1 r2 l kv)])->l.follow aF={l with aX:=192}->a7 (db (ad ax 0) H) fun C I=>
   bD (hI C) fun J=>bD (gh 7 J) fun L=>a7 (d9 1 L (.int .i64 192) I) fun Ft M=>K (.tuple [].toArray) M:=by
  intro H B X b r;refine aD b rfl (ai (qb b rfl (show 7<8 by omega) rfl ?_));intro E f;rw[r]at q;exact q E kv X c.app (vr (vr f))
 have g0:∀ {w:LB} {e:Nat} {W:aj} {x},((w++((F++[aa ax [ad ed 0]])++[aa e W]))++x)[w.length+((F++[aa ax [ad ed 0]]).length+0)]?=some (aa e W):=ak (al (al rfl));cases aF with
 | kl a=>
  have d:=d;injection d with d _
  subst d;refine Z (aqQ _) (Z (show _=some (agg [int a])from rfl) (Z (show _=some (Value.bool true)from rfl) ?_));rw[Fy];refine b0 b ?_;intro e H b;refine dn b (_+0) (al rfl) rfl rfl rfl ?_;intro H b
  replace b:=BL b.bp
  replace b:ac H ((S++((F++[aa ax [ad ed 0]])++[aa e [int a]]))++[aa ed (gE az r1 r2 l kv)]):=b
  have N:ac H (((S++[])++((F++[aa ax [ad ed 0]])++[aa e [int a]]))++[aa ed (gE az r1 r2 l kv)]):=by rw[append_nil];exact b
  refine dz rfl (aD b rfl (Z bj (aD b rfl (aqU c b (Z fX ?_)))));cases fR:l.rc a with
  | false=>exact dz rfl (o N (by simp_all[dL.follow]))
  | true=>
   refine cT rfl (aD b rfl (Wl gA b ?_));intro H b;unfold dL.try at b⊢;by_cases c8:l.left=0;rw[if_pos c8]at b⊢;refine cT rfl ?_;have r:l.follow (.kl a)={l with aX:=191}:=by simp_all[dL.follow]
   rw[r]at q;exact q H kv [] c.app (by rw[append_nil];exact vr (vr b));rw[if_neg c8]at b⊢;refine dz rfl (aD b rfl (Z bj (aD b rfl (ai (qb b rfl (show 6<8 by omega) rfl ?_)))));intro E f;have r:l.follow (.kl a)={l with left:=l.left-1,cu:=a}:=by simp_all[dL.follow]
   rw[r]at q;exact q E kv [] c.app (by rw[append_nil];exact vr (vr f))
 | jj i n=>
  obtain⟨s,d,t,z⟩:=d;injection d with d _
  subst d;refine Z (aqR _) (Z (show _=some (agg [int 0])from rfl) (Z (show _=some (Value.bool false)from rfl) ?_));rw[Fy];refine b0 b ?_;intro e H b;refine dn b (_+0) (al rfl) rfl rfl rfl ?_;intro H b
  replace b:=BL b.bp
  replace b:=b
  refine cT rfl (Z (VY _) (Z (show _=some (Value.bool true)from rfl) (dz rfl (Z (V7 _) (b0 b ?_)))));intro p H b;refine dn b (_+0) (al rfl) ao (by rw[length_cons,b7 z.bi]) (by rw[all_cons,hB t.du];rfl) ?_;intro H b
  replace b:=Wm b.bp
  replace b:ac H (((S++[aa p (int i::aR n s)])++((F++[aa ax [ad ed 0]])++[aa e [int 0]]))++[aa ed (gE az r1 r2 l kv)]):=b
  have j0:∀ {qc x:LB},(((S++[aa p (int i::aR n s)])++qc)++x)[S.length+0]?=some (aa p (int i::aR n s)):=ak (ak (al rfl));refine cy (fun bN E=>ac E (((S++[aa p (int i::aR n s)])++((F++[aa ax [ad ed 0]])++[aa e [int 0]]))++[aa ed (gE az r1 r2 l kv)])/\bN=[ad ax 0,ad p 0,.bool (decide (l.dS.isSome=true\/¬dy n\/i<0\/i>2304))]) ?_ ?_;refine aD b rfl (ai (ue b rfl ?_));cases ey:l.dS with
  | some y=>obtain⟨h,m⟩:=y;rw[ey]at c;obtain⟨g,j,tJ,rfl,_⟩:=c;exact Z (aqP _ _) (dz rfl (Z ja (Z ja (Z ja (⟨b,aW⟩)))))
  | none=>
   rw[ey]at c;rw[show kv=.pointer none from c];refine Z (aqO _) (cT rfl (Z bj (mg b (by show((int i::aR n s).drop 1).take 37=_;rw[drop_one,tail_cons];exact take_of_length_le (by rw[b7 z.bi];omega)) (b7 z.bi) U (y0 z (t.app.app.app) b ?_))));intro H b;refine Z fX ?_;by_cases g9:dy n;rw[decide_eq_true g9];refine Z lb (cT rfl (Z bj (aD b rfl (Z cV (Z lb (ay (fun h=>?_) (fun h=>?_)))))));refine Z (dT h) ?_;rw[show kv=.pointer none from c]at*
   simp_all
   refine Z bj (aD b rfl (Z go (Z (dl h) ?_)));rw[show kv=.pointer none from c]at*
   grind
   rw[decide_eq_false g9];refine Z lb (dz rfl (Z ja (Z ja ?_)));rw[show kv=.pointer none from c]at*
   simp_all
  rintro bN H ⟨b,rfl⟩
  try simp only[c1,c2]
  refine ay (fun h=>?_) (fun h=>?_);exact o b (by simp_all[dL.follow]);have r:l.follow (.jj i n)={l with dS:=some (i,n),cu:=0}:=by simp_all[dL.follow]
  rw[r]at q;refine aD b rfl (aD b rfl ?_);have f1:ax≠ed:=Fx b V (al (k:=0) rfl) aT;have gm:ax≠p:=Fx b V j0 aT;refine ai (qb b rfl (show 5<8 by omega) rfl ?_);intro H b;refine⟨aqN (by simp_all[dM,vV]),?_⟩;refine ai (qb b rfl (show 6<8 by omega) rfl ?_);intro E f;exact q E (ad p 0) [aa p (int i::aR n s)] ⟨p,_,s,rfl,al (k:=0) rfl,t.app,z⟩ (vr (vr f))
 | body a bs=>
  obtain⟨fs,d,qN,rW⟩:=d;injection d with d _
  subst d;refine Z (aqS _) (Z (show _=some (agg [int 0])from rfl) (Z (show _=some (Value.bool false)from rfl) ?_));rw[Fy];refine b0 b ?_;intro e H b;refine dn b (_+0) (al rfl) rfl rfl rfl ?_;intro H b
  replace b:=BL b.bp
  replace b:ac H (((S++[])++((F++[aa ax [ad ed 0]])++[aa e [int 0]]))++[aa ed (gE az r1 r2 l kv)]):=by rw[append_nil];exact b
  exact cT rfl (Z (VZ _) (Z (show _=some (Value.bool false)from rfl) (cT rfl (o b rfl))))
 | gD=>
  have d:[v]=[.iface 320 (agg [])]:=d;injection d with d _
  subst d;refine Z (aqT _) (Z (show _=some (agg [int 0])from rfl) (Z (show _=some (Value.bool false)from rfl) ?_));rw[Fy];refine b0 b ?_;intro e H b;refine dn b (_+0) (al rfl) rfl rfl rfl ?_;intro H b
  replace b:=BL b.bp
  replace b:ac H (((S++[])++((F++[aa ax [ad ed 0]])++[aa e [int 0]]))++[aa ed (gE az r1 r2 l kv)]):=by rw[append_nil];exact b
  exact cT rfl (Z (V6 _) (Z (show _=some (Value.bool false)from rfl) (cT rfl (o b rfl))))
end
section
variable[c0:cH]
variable{F H K S a c bU f aK fv gs dg bR n aC o p v w ae jx ab bL}
abbrev kX(f:oX):aj:=[int f.d6,int f.js,bB .u8 f.v]
def ee(aK:List oX):aj:=aK.flatMap kX
theorem BM(aK:List oX):(ee aK).length=aK.length*3:=by
 induction aK with
 | nil=>rfl
 | cons f r a=>show(kX f++ee r).length=_*3;grind
theorem Wn(aK:List oX):(ee aK).all cS=true:=by simp_all[ee,cS]
theorem Wo(aK gs:List oX):ee (aK++gs)=ee aK++ee gs:=by simp_all[ee]
def f8(ab:LB)(v:Value)(aK:List oX):Prop:=
 (v=aA/\aK=[])\/∃p o c,v=am p o aK.length c/\(c=6\/c=7)/\(aK=[]\/∃(j:Nat) (b:ef),ab[j]?=some (p,b)/\(b.cells.drop o).take (aK.length*3)=ee aK)
theorem f8.nil:f8 ab aA []:=.inl ⟨rfl,rfl⟩
theorem f8.ha(h:f8 ab v aK):∃a n c,v=.slice a n c:=by rcases h with⟨rfl,_⟩|⟨p,o,c,rfl,_⟩<;>exact⟨_,_,_,rfl⟩
theorem f8.du(h:f8 ab v aK):cS v=true:=by obtain⟨a,n,c,rfl⟩:=h.ha;rfl
theorem f8.mF(h:f8 ab v aK):dx v=true:=by rcases h with⟨rfl,_⟩|⟨p,o,c,rfl,_⟩<;>rfl
theorem f8.aZ(h:f8 ab v aK):aZ v H=some (int aK.length,H):=by rcases h with⟨rfl,rfl⟩|⟨p,o,c,rfl,_⟩<;>rfl
theorem f8.kr(h:f8 ab v aK):kr v=some aK.length:=by rcases h with⟨rfl,rfl⟩|⟨p,o,c,rfl,_⟩<;>rfl
theorem f8.app(h:f8 ab v aK):f8 (ab++bL) v aK:=by
 rcases h with h|⟨p,o,c,d,e,a|⟨j,b,a,f⟩⟩
 exact .inl h;exact .inr ⟨p,o,c,d,e,.inl a⟩;exact .inr ⟨p,o,c,d,e,.inr ⟨j,b,ak a,f⟩⟩
theorem aqX{b:ef}(h:(b.cells.drop o).take (aK.length*3)=ee aK):aK.length*3<=b.cells.length-o:=by grind[BM]
theorem f8.l9(f:ac H ab)(h:f8 ab v aK):m5 H 3 aK.length v=some (ee aK):=by
 rcases h with⟨rfl,rfl⟩|⟨p,o,c,rfl,_,rfl|⟨j,b,g,a⟩⟩
 rfl;rfl;by_cases d:aK=[];subst d;rfl;have i:=length_pos_iff.2 d;have k:=aqX a;rw[tA (f.at j g (.inr (fun e=>aT))) U,a]
theorem aqY(a:c=6\/c=7):hX 3 (am p o (n+1) c) (some (int 1)) none none=some (am p (o+3) n c):=by
 have e:beq (n+1) (n+1)=true:=beq_refl _;rcases a with rfl|rfl
 rfl;show some (Value.slice (some ⟨p,o+1*3,none⟩) (n+1-1) (cond (false||beq (n+1) (n+1)) 7 6))=_
 grind
theorem aqZ{l:aj}(h:l.take ((n+1)*3)=kX f++jx):l.take 3=kX f/\(l.drop 3).take (n*3)=jx:=by
 have a:=congrArg (take 3) h;have b:=congrArg (drop 3) h
 grind[drop_take]
theorem f8.cons(h:f8 ab v (f::aK)):∃p o c,∃(j:Nat) (b:ef),v=am p o (aK.length+1) c/\ab[j]?=some (p,b)/\(b.cells.drop o).take 3=kX f/\hX 3 v (some (int 1)) none none=some (am p (o+3) aK.length c)/\f8 ab (am p (o+3) aK.length c) aK:=by
 rcases h with⟨_,h⟩|⟨p,o,c,rfl,a,h|⟨j,b,d,e⟩⟩
 cases h;cases h;have g:=aqZ (show(b.cells.drop o).take ((aK.length+1)*3)=kX f++ee aK from e);refine⟨p,o,c,j,b,rfl,d,g.1,aqY a,.inr ⟨p,o+3,c,rfl,a,.inr ⟨j,b,d,?_⟩⟩⟩
 simp_all
theorem Wp(a:ac H (S++F))(c:(v=aA/\aK=[])\/((∃p o,v=am p o aK.length 7)/\f8 S v aK))(f:f8 S w gs)(m:aK.length+gs.length<=1000000)
  (d:∀E ap X,ac E ((S++F)++X)->f8 (S++X) ap (aK++gs)->K ap E):a7 (dj 3 24 v w H) K:=by
 unfold dj;simp[f.kr,f.app.l9 a];by_cases i:gs=[];subst i;have j:f8 S v aK:=by
  rcases c with⟨rfl,rfl⟩|⟨_,h⟩
  exact .nil;exact h
 have b:=d H v [] (by rw[append_nil];exact a) (by rw[append_nil aK];exact j.app);rcases c with⟨rfl,rfl⟩|⟨⟨p,o,rfl⟩,_⟩
 exact bg rfl b;exact bg rfl b;have g:beq gs.length 0=false:=by grind[eq_of_beq_eq_true]
 rcases c with⟨rfl,rfl⟩|⟨⟨p,o,rfl⟩,h⟩
 unfold pF;simp[g,if_false];rw[if_pos (sw U U)];refine bg (rfl) (d _ _ _ (a.push (ee gs)) (.inr ⟨H.next,0,6,rfl,.inl rfl,.inr ⟨_,_,al (k:=0) rfl,?_⟩⟩))
 simp_all[take_of_length_le,BM]
 unfold pF;simp[g,if_false];rw[if_pos (sw U U)];unfold uo;have l:=h.app.l9 a;have e:(if beq aK.length 0 then some []else o2 H p o (aK.length*3))=some (ee aK):=l;rw[e];simp only;rw[gM];refine bg (rfl) (d _ _ _ (a.push _) (.inr ⟨H.next,0,6,a1,.inl rfl,.inr ⟨_,_,al (k:=0) rfl,?_⟩⟩))
 grind[Wo,BM]
theorem Wq:P.underlying 24=some (.slice 61):=ao
theorem K4(H:an):(gY P 24 0).f [] H=some (am H.next 0 0 7,H.push []):=ao
theorem aq0(a:ac H (S++F))(e:f8 S v aK)(h:aK.length<=100000)(f:∀E ap X,ac E ((S++F)++X)->f8 (S++X) ap aK->K ap E):aG P 121 [v] H K:=by
 refine ah0.1 ?_;have b:=e;rcases e with⟨rfl,rfl⟩|⟨p,o,c,rfl,_⟩
 exact Z (DZ Wq) (dz rfl (f H aA [] (by rw[append_nil];exact a) .nil));refine Z (DZ Wq) (cT rfl (el a (K4 _) ?_));intro q H a;rw[append_assoc]at a;refine Wp a (.inr ⟨⟨q,0,rfl⟩,.inr ⟨q,0,7,rfl,.inr rfl,.inl rfl⟩⟩) b aT fun E ap X d g=>f E ap X (d.sub ?_) g
 refine List.Sublist.append_right ?_ X;rw[<- append_assoc];exact sublist_append_left _ _
theorem aq1(i:ac H ab)(a:f8 ab v aK)(b:∀ap,((ap=aA/\aK=[])\/((∃p o,ap=am p o aK.length 7)/\f8 ab ap aK))->K ap H):aG P 76 [v] H K:=by
 refine aha.1 ?_;refine bg a.aZ (bg a.aZ ?_);rcases a with⟨rfl,rfl⟩|⟨p,o,c,rfl,d,h⟩
 exact Z (rfl) (b aA (.inl ⟨rfl,rfl⟩));have e:lC aK.length (some (int (aK.length:Int)))=some aK.length:=by
  show(match hq 0 (aK.length:Int)with|true=>(match ble (aK.length:Int).toNat aK.length with|true=>some (aK.length:Int).toNat|false=>none)|false=>none)=_
  simp_all[i0,ble_eq_true_of_le]
 have f:nK aK.length (some (int (aK.length:Int))) (some (int (aK.length:Int)))=some true:=by
  show(match hq 0 (aK.length:Int)with|true=>(match beq (aK.length:Int).toNat aK.length with|true=>some true|false=>none)|false=>none)=_
  simp_all[i0]
 have g:hX 3 (am p o aK.length c) none (some (int (aK.length:Int))) (some (int (aK.length:Int)))=some (am p o aK.length 7):=by unfold hX;simp[e,f,mo];rcases d with rfl|rfl<;>simp[nL]
 exact Z g (b _ (.inr ⟨⟨p,o,rfl⟩,.inr ⟨p,o,7,rfl,.inr rfl,h⟩⟩))
theorem Wr(i:ac H ab)(e:bx ab v ae)(p:ae.length<=1000000)(c:tM ab K (hC ae a dg)):aG P 227 [v,int a,int dg] H K:=by
 refine ajF.1 ?_;have b:(a<0\/(ae.length:Int)<=a\/dg<1)->K aA H:=by intro h;unfold hC at c;rw[if_pos h]at c;exact c.none i
 refine cy (fun j E=>j=[v,int a,int dg]/\E=H/\0<=a/\a<ae.length/\1<=dg) ?_ ?_;refine Z cV (ay (fun h=>Z (dT h) (Z ja (dz rfl (b (.inl h))))) (fun h=>?_));refine bg e.aZ (Z kM (Z (dl h) (ay (fun d=>Z (dT d) (dz rfl (b (.inr (.inl d))))) (fun d=>?_))));refine Z cV (Z (dl d) (ay (fun f=>b (.inr (.inr f))) (fun f=>?_)));exact⟨rfl,rfl,U,U,U⟩;rintro j E ⟨rfl,rfl,k,d,f⟩;unfold hC at c;rw[if_neg U]at c;obtain⟨n,rfl⟩:=Int.eq_ofNat_of_zero_le k;obtain⟨m,rfl⟩:=Int.eq_ofNat_of_zero_le (show 0<=dg by omega);have⟨q,l,i1⟩:=A0 e (n:=n) U;apply Z l;have g:=i1 ab e;refine bg g.aZ (bg rE ?_);rw[show min (m:Int) ((ae.drop n).length:Int)=((min m (ae.drop n).length:Nat):Int) by omega];have⟨cF,o,kA⟩:=qP g (n:=min m (ae.drop n).length) U;refine Z o (Ey i (kA ab g) aT ?_);rw[show(ae.drop n).take (min m (ae.drop n).length)=(ae.drop n).take m by simp_all];exact c
def fl(bR:Nat)(fv:Value)(bU:Nat):aj:=[uV bR,fv,int bU]
theorem Ws:fF P 61=kX ⟨0,0,0⟩:=ao
theorem Wt:(eg P 61).f []=some (agg (kX ⟨0,0,0⟩)):=ao
theorem aq2(e:f8 S fv aK)(a:ac H ((S++F)++[aa aC (fl bR fv bU)]))
  (g:∀E d,f8 S d (hS.next ⟨[],aK,0⟩).2->ac E ((S++F)++[aa aC (fl bR d bU)])->K (agg (kX (hS.next ⟨[],aK,0⟩).1)) E):aG P 226 [ad aC 0] H K:=by
 generalize dJ:S++F=ab at*;refine ajE.1 ?_;apply b0 a;intro k H a;have l:∀ {m} {fv:Value},((ab++[aa aC (fl bR fv bU)])++m)[ab.length+0]?=some (aa aC (fl bR fv bU)):=ak (al rfl);refine ai (aD a rfl (bg e.aZ (Z cN ?_)));cases aK with
 | nil=>
  refine dz aW (Z Wt (dn a (_+0) (al rfl) rfl rfl rfl ?_));intro H a
  replace a:=a.bp
  exact gQ a (_+0) (al rfl) rfl U (g H fv e a.left)
 | cons f aK=>
  apply cT ao;obtain⟨p,o,c,j,b,rfl,h,r,n,i⟩:=e.cons
  replace h:ab[j]?=some (p,b):=aT
  refine ai (aD a rfl (Z (ez U U) (fe (ag:=kX f) a j (ak (ak h)) a1 rfl U (b0 a (fun q H a=>dn a (_+0) (al rfl) rfl rfl rfl ?_)))));intro H a
  replace a:=a.bp
  refine ai (aD a rfl (Z n (ai (cQ a _ (ak l) i.du (show 1<3 by omega) rfl ?_))));intro H a;rw[append_assoc (ab++_),append_assoc ab,Go.Ab.bp]at a
  replace a:ac H (ab++((aa aC (fl bR (am p (o+3) aK.length c) bU))::[aa k (kX ⟨0,0,0⟩),aa q (kX f)])):=a
  refine bK a rfl U (dn a (ab.length+1) (al rfl) rfl rfl rfl ?_);intro H a;rw[Go.Ab.bp]at a;exact gQ a (ab.length+1) (al rfl) rfl U (g H _ i (a.sub (List.Sublist.append_left (List.Sublist.cons_cons _ (nil_sublist _)) ab)))
end
section
variable[c0:cH]
variable{F H K N S a ag bU aK fv i dg bR aC c9 az y bL jl}{ab:LB}{v:Value}{ae:LI}{k:List UInt8}
def qd(ab:LB):aj->kD->Prop
 | [],[]=>True
 | kv::v::T,o::r=>kv=a6 o.1/\bx ab v o.2/\bM o.2/\o.2.length<=10000/\qd ab T r
 | _,_=>False
variable{bL:LB} in
theorem qd.app:∀ {T:aj} {off:kD},qd ab T off->qd (ab++bL) T off
 | [],[],_=>trivial
 | kv::v::T,o::r,h=>⟨h.1,h.2.1.app,h.2.2.1,h.2.2.2.1,h.2.2.2.2.app⟩
 | [],_::_,h=>h.elim
 | [_],[],h=>h.elim
 | [_],_::_,h=>h.elim
 | _::_::_,[],h=>h.elim
theorem qd.h6:∀ {T:aj} {off:kD},qd ab T off->bx ab v ae->bM ae->ae.length<=10000->qd ab (T++[a6 k,v]) (off++[(k,ae)])
 | [],[],_,a,b,c=>⟨rfl,a,b,c,trivial⟩
 | kv::v::T,o::r,h,a,b,c=>⟨h.1,h.2.1,h.2.2.1,h.2.2.2.1,h.2.2.2.2.h6 a b c⟩
 | [],_::_,h,_,_,_=>h.elim
 | [_],[],h,_,_,_=>h.elim
 | [_],_::_,h,_,_,_=>h.elim
 | _::_::_,[],h,_,_,_=>h.elim
theorem aq3(a b:List UInt8):xp true (a6 a) (a6 b)=some (decide (a=b)):=by
 have h:xp true (a6 a) (a6 b)=some (a.toArray==b.toArray):=rfl;rw[h];congr 1
 grind
theorem qd.K5:∀ {T:aj} {off:kD},qd ab T off->(k:List UInt8)->(qa off k=none/\sb true (a6 k) T=some none)\/∃bs v,qa off k=some bs/\sb true (a6 k) T=some (some v)/\bx ab v bs/\bM bs/\bs.length<=10000
 | [],[],_,_=>.inl ⟨rfl,rfl⟩
 | kv::v::T,o::r,⟨b,d,e,f,c⟩,k=>by
  subst b;unfold qa sb;rw[aq3];by_cases a:k=o.1
  grind
  rw[decide_eq_false a,if_neg (fun h=>a h.symm)];exact c.K5 k
 | [],_::_,h,_=>h.elim
 | [_],[],h,_=>h.elim
 | [_],_::_,h,_=>h.elim
 | _::_::_,[],h,_=>h.elim
structure mJ (S:LB) (bR:Nat) (fv:Value) (n:hS):Prop where
 of:∃T,dV c0.l bR=some (ij T)/\qd S T n.off
 aK:f8 S fv n.aK
 qe:∀f∈n.aK,f.v<256
variable{S:LB}{X:LB}{fv:Value}{bR:Nat}{az:hS} in
theorem mJ.app(h:mJ S bR fv az):mJ (S++X) bR fv az:=by have⟨⟨T,a,b⟩,c,d⟩:=h;exact⟨⟨T,a,b.app⟩,c.app,d⟩
theorem qf:Go.Ab.vR P 174=some (true,22):=ao
theorem Fz:gy P 22=some aA:=ao
theorem zf(h:ac H ((((S++F)++jl)++bL)++N)):ac H (((S++N)++F)++jl):=
 Wm (h.sub (List.Sublist.append_right (sublist_append_left _ _) N))
theorem bM.cut(h:bM ae):bM (hC ae a dg):=by unfold hC;split;simp[bM];exact fun x b=>h x (mem_of_mem_drop (mem_of_mem_take b))
theorem aq4(h:∀g∈aK,g.v<256):(hS.next ⟨[],aK,0⟩).1.v<256/\∀g∈(hS.next ⟨[],aK,0⟩).2,g.v<256:=by grind[hS.next]
theorem aq5(n:hS):n.next=hS.next ⟨[],n.aK,0⟩:=rfl
theorem K6:(hC ae a dg).length<=ae.length:=by
 unfold hC
 grind
theorem dm.set(h:dm v ae ag)(aB:i<ae.length):dm v (ae.set i y) (ag.set i (.int .u8 y)):=by
 rcases h with⟨rfl,rfl,rfl⟩|⟨p,b,c,d,e⟩
 simp at aB;refine .inr ⟨p,a1,?_,a1,?_⟩
 simp_all[take_set]
 rw[all_eq_true];intro x a;rcases mem_or_eq_of_mem_set a with h|rfl
 simp_all
 rfl
theorem dm.ad(h:dm v ae ag)(a:ae≠[]):∃p c,v=am p 0 ae.length c/\(c=2\/c=3)/\aw v ag=[aa p ag]:=by
 rcases h with⟨_,rfl,_⟩|⟨p,rfl|⟨rfl,_⟩,_⟩
 simp_all
 exact⟨p,2,rfl,.inl rfl,rfl⟩;exact⟨p,3,rfl,.inr rfl,rfl⟩
variable{ag:aj} in
theorem dm.at(h:dm v ae ag){i:Nat}(aB:i<ae.length):ag[i]?=some (.int .u8 ae[i]):=by
 rcases h with⟨_,rfl,_⟩|⟨p,_,a,_⟩
 simp at aB;have:=congrArg (·[i]?) a
 grind
theorem Wu(h:f8 S fv aK):(fl bR fv bU).all dx=true:=by show(dx (uV bR)&&(dx fv&&(dx (int bU)&&true)))=true;rw[h.mF];rfl
theorem aq6(ar:mJ S bR fv az)(gA:c9.length<=1000000)(fR:az.bU<=1000000)(d:ac H ((S++F)++[aa aC (fl bR fv az.bU)]))
  (e:∀E ap g X,bx (S++X) ap (az.hD c9 a dg).1.1->bM (az.hD c9 a dg).1.1->(az.hD c9 a dg).1.1.length<=10000->((az.hD c9 a dg).1.1≠[]->kV (S++X) ap)->mJ (S++X) bR g (az.hD c9 a dg).2->
   ac E (((S++X)++F)++[aa aC (fl bR g (az.hD c9 a dg).2.bU)])->K (.tuple [ap,int (az.hD c9 a dg).1.2].toArray) E):aG P 187 [ad aC 0,a6 c9,int a,int dg] H K:=by
 refine ai4.1 ?_;obtain⟨⟨T,gC,o⟩,q,C⟩:=ar;refine ai (aD d rfl (Fc gA (⟨jf d d (Wu q),?_⟩)));unfold hS.hD at e;rcases o.K5 (gu c9)with⟨cU,B⟩|⟨all,av,cU,B,I,J,L⟩
 rw[cU]at e;exact Ea d gC qf Fz B (Z f5 (Z f6 (Z fX (dz rfl (e H aA fv [] .nil (by simp[bM]) aW (fun h=>absurd rfl h) (by rw[append_nil];exact⟨⟨T,gC,o⟩,q,C⟩) (by rw[append_nil];exact d))))));rw[cU]at e;simp only[aq5 az]at e;refine Ea d gC qf Fz B (Z f5 (Z f6 (Z fX (cT rfl ?_))));show bD _ _;refine ai (aD d rfl (Z (by grind[f2]) (ai (qb d rfl (show 2<3 by omega) (bI:=fl bR fv (az.bU+1)) rfl ?_))));intro H d;refine aq2 q d ?_;obtain⟨s,M⟩:=aq4 C;generalize hf:(hS.next ⟨[],az.aK,0⟩).1=f at e s;generalize g9:(hS.next ⟨[],az.aK,0⟩).2=r at e M;intro H g pM d;have i:∀X,mJ (S++X) bR g ⟨az.off,r,az.bU+1⟩:=fun X=>mJ.app ⟨⟨T,gC,o⟩,pM,M⟩
 rw[Ws];refine b0 d ?_;intro u H d;refine dn d (_+0) (al rfl) rfl rfl rfl ?_;intro H d
 replace d:=d.bp
 replace d:ac H (((S++F)++[aa aC (fl bR g (az.bU+1))])++[aa u (kX f)]):=d
 have VJ:∀ {bL},((((S++F)++[aa aC (fl bR g (az.bU+1))])++[aa u (kX f)])++bL)[((S++F)++[aa aC (fl bR g (az.bU+1))]).length+0]?=some (aa u (kX f)):=ak (al rfl);refine Wr d (I.app.app.app) U ?_;have j:bM (hC all a dg):=J.cut;have N:(hC all a dg).length<=10000:=Nat.le_trans K6 L;have zg:=d;intro H fs kU d b;refine Z bj (aD d rfl (Z cN ?_));unfold n6 at e;refine ay (fun h=>?_) (fun h=>?_);rw[if_pos h]at e;exact e H aA g [] .nil (by simp[bM]) aW (fun h=>absurd rfl h) (i []) (by rw[append_nil];exact d.left.left);rw[if_neg h]at e;refine Z cN (ay (fun h=>?_) (fun h=>?_));rw[if_pos h]at e;refine bg b.aZ (Z go ?_);unfold ze at e;by_cases k:hC all a dg=[];rw[if_pos k]at e;exact ix aT (e H fs g _ (b.gd.app') j N (fun h=>absurd k h) (i _) (zf d));rw[if_neg k]at e;have c8:=length_pos_iff.2 k;refine kf U ?_;generalize aq7:hC all a dg=cx at*;obtain⟨p,c,rfl,tk,V⟩:=dm.ad b k;refine Z bj (aD d rfl (bg uQ (bg b.aZ ?_)));obtain⟨w,aq8⟩:=Int.eq_ofNat_of_zero_le (show 0<=max f.js 0 by omega);rw[aq8]at e⊢;simp only[Int.ofNat_eq_natCast,Int.toNat_natCast]at e⊢;have l:w%cx.length<cx.length:=mod_lt _ c8;refine Z (p5 c8) (Z (ez U U) ?_);rw[V]at d;have W:=dm.at b l;have rW:=j _ (getElem_mem l)
 have zh:cx[w%cx.length]=((cx[w%cx.length].toNat:Nat):Int):=U
 refine aD d (by show kU[0+((w%cx.length:Nat):Int).toNat*1]?=some (Value.int .u8 ((cx[w%cx.length].toNat:Nat):Int));rw[<- zh,<- W,Int.toNat_natCast,Nat.zero_add,Nat.mul_one]) ?_;refine Z bj (aD d rfl (Z (lc rfl (show _<256 by omega) (s)) (Z (ez U U) ?_)));rw[getD_eq_getElem?_getD,getElem?_eq_getElem l,Option.getD_some]at e;have ah:=dm.set b (y:=((cx[w%cx.length].toNat ^^^ f.v:Nat):Int)) l;have wA:cx[w%cx.length].toNat ^^^ f.v<256:=xor_lt_two_pow (n:=8) U s;have aq9:=(List.getElem?_eq_some_iff.1 W).1;refine cQ d (_+0) (al rfl) rfl U (by rw[Int.toNat_natCast,Nat.zero_add,Nat.mul_one]) ?_;intro E w8;rw[Go.Ab.bp]at w8;have z:=w8;exact e E _ g _ (ah.gd.app') (by
  intro x k;rcases mem_or_eq_of_mem_set k with h|rfl
  grind
  omega) aT (fun _=>(dm.fz ah).app') (i _) (zf z)
 rw[if_neg h]at e;refine Z cN (ay (fun h=>?_) (fun h=>?_));rw[if_pos h]at e;refine Z bj (aD d rfl (bg b.aZ (bg rE (bg uQ ?_))));obtain⟨t,ht⟩:=Int.eq_ofNat_of_zero_le (show 0<=max 0 (min f.js ((hC all a dg).length:Int)) by omega);rw[ht]at e⊢;simp only[Int.ofNat_eq_natCast,Int.toNat_natCast]at e⊢;obtain⟨cF,B,kA⟩:=qP b.gd (n:=t) U;exact Z B (e H cF g _ ((kA _ b.gd).app') (fun x k=>j x (mem_of_mem_take k)) (by rw[length_take];omega) (fun _=>((dm.fz b).slice B).app') (i _) (zf d));rw[if_neg h]at e;refine Z cN (ay (fun h=>?_) (fun h=>?_));rw[if_pos h]at e;refine Z bj (aD d rfl (Wr d.left (I.app.app.app) U ?_));intro e1 cF sx z m;exact e e1 cF g _ (m.gd.app') J.cut (Nat.le_trans K6 L) (fun _=>(dm.fz m).app') (i _) (zf z);rw[if_neg h]at e;exact e H fs g _ (b.gd.app') j N (fun _=>(dm.fz b).app') (i _) (zf d)
end
end J
