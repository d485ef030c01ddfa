/- texts of the kp, du behind the jV -/
import Derived.OrdersIn
import Derived.RangeFuncLeaves
import Derived.LoopNIn
import Derived.RangeFuncRecord
import Derived.Below
import Derived.KernelRfl
import Derived.WalkKit
import Derived.ProofKit
import Derived.OpenShut
import Derived.Test.YtifflnhooaophaaGreatDoorAbA
set_option linter.unusedVariables false
set_option linter.unusedSimpArgs false
set_option linter.unusedSectionVars false
noncomputable section
set_option maxHeartbeats 2000000
open List Nat
namespace Go.Ab
open Go
variable{B H E P T argTypes b Np g h l bN r s t d4 v w x σ}{a:Act}
section
def uF(P:Program)(σ:eH):Prop:=∀g,g<P.globals.size->∃s,σ g=some (g,0,s)
theorem ry(c:bt σ T a.tmps.toList)(dJ:uF P σ)(x:Operand)(b:rq P x=true):bV σ ((da x).g T) (a.eval x):=by
 cases x with
 | tmp t=>
  show bV σ (bS T t) (a.tmps.getD t undef);rw[mr];have:a.tmps.getD t undef=a.tmps.toList.getD t undef:=aW
  rw[this];exact c.getD t
 | const v=>exact rv b
 | global g=>simp only[rq,m8,decide_eq_true_eq]at b;obtain⟨s,ah⟩:=dJ g b;exact .ad g 0 g 0 s ah .nil
 | func f=>exact .func f _ _ _ _ .nil .nil .nil
theorem xJ(l:List Operand)(T:aj):iK l T=l.map fun x=>(da x).g T:=by
 induction l with
 | nil=>rfl
 | cons x r a=>simp_all[iK]
theorem CS(c:bt σ T a.tmps.toList)(dJ:uF P σ)(l:List Operand)(b:∀x∈l,rq P x=true):bt σ (iK l T) (l.map a.eval):=by
 induction l with
 | nil=>exact .nil
 | cons x r d=>exact(ry c dJ x (b x aW)).cons (d fun y e=>b y (by simp[e]))
def wc(P:Program)(B:Nat)(s:Sem Next)(w:World)(σ:eH)(h:Nat->Option ef)(H:an)(v:Value)(E:an):Prop:=
 ∃r ap aE τ,s.run P w=.ok r aE/\(r=.value ap\/(r=.skip/\ap=undef))/\bV τ v ap/\jH B σ h H.next w τ (fo h H E) E.next aE
theorem fE.next(a:fE P B s w σ h H v E):wc P B (s >>= fun x=>Pure.pure (Next.value x)) w σ h H v E:=by obtain⟨ap,aE,τ,d,b,c⟩:=a;exact⟨.value ap,ap,aE,τ,a1,.inl rfl,b,c⟩
theorem k9(a:iJ H x=some (v,E)):E=H/\x=some v:=by
 cases x with
 | none=>cases a
 | some u=>cases a;simp_all
theorem Nq(a:Array (Nat×Operand))(b:Operand->Value):(a.map fun(i,x)=>(i,b x))=(a.toList.map fun p=>(p.1,b p.2)).toArray:=aT
theorem Nr(d:bt σ T a.tmps.toList)(dJ:uF P σ)(l:List (Nat×Operand))(b:∀p∈l,rq P p.2=true):
  (qs l T).map (·.1)=(l.map fun p=>(p.1,a.eval p.2)).map (·.1)/\bt σ ((qs l T).map (·.2)) ((l.map fun p=>(p.1,a.eval p.2)).map (·.2)):=by
 obtain⟨c,e⟩:=ZL l T;refine⟨by rw[c];simp,?_⟩;clear c e;induction l with
 | nil=>exact .nil
 | cons p r f=>exact(ry d dJ p.2 (b p aW)).cons (f fun y g=>b y (by simp[g]))
theorem GW(b:bt σ T a.tmps.toList)(dJ:uF P σ)(x:Option Operand)(c:∀y,x=some y->rq P y=true):tj σ (vP x T) (x.map a.eval):=by
 cases x with
 | none=>exact .none
 | some y=>exact .some (ry b dJ y (c y rfl))
theorem GX(a:kb g l H=some r):∃x y,l=[x,y]:=by
 unfold kb at a
 grind
theorem GY(a:du g l H=some r):∃x,l=[x]:=by
 unfold du at a
 grind
theorem GZ(b:(Ci P t).f x H=some (v,E)):E=H/\∃e size,P.underlying t=some (.slice e)/\fQ P e=some size/\∃a n c,x=.slice a n c/\((a=none/\n=0/\c=0/\v=.int .i64 0)\/(a≠none/\c=2*size+1/\v=.int .i64 n)):=by
 unfold Ci at b;split at b;split at b;simp only[Mv]at b;split at b;split at b;split at b;rename_i d
 grind[eq_of_beq_eq_true]
 grind
 grind[eq_of_beq_eq_true]
 grind
 grind
 grind
theorem aaw(ah:il σ B h w)(c7:B<=w.heap.size)(F:∀i,H.next<=i->i<E.next->σ i=none)
  (o:(b=.append\/b=.copy\/b=.clear)->∀x∈l,qA h H x) (K:bt σ l bN.toList) (d:(qq P b argTypes.toList).f l H=some (v,E)):wc P B (builtin b argTypes d4 Np bN) w σ h H v E:=by
 have p:∀x y,l=[x,y]->∃bA dN,bN=#[bA,dN]/\bV σ x bA/\bV σ y dN:=by
  intro x y e;subst e;obtain⟨bA,r,I,g,j⟩:=K.k7;obtain⟨dN,r2,dw,z,L⟩:=j.k7;have V:=L.nN
  grind
 have q:∀x,l=[x]->∃bA,bN=#[bA]/\bV σ x bA:=by
  intro x e;subst e;obtain⟨bA,r,I,g,j⟩:=K.k7;have V:=j.nN
  grind
 unfold qq at d;cases b<;>simp only at d<;>first|(cases d;done)|skip
 case append=>
  unfold Ck at d;split at d
  case h_2=>cases d
  case h_1 W X s=>
  obtain rfl:argTypes=#[W,X]:=Array.ext' s;split at d
  case h_1 M=>
   have J:∃x y,l=[x,y]:=by
    unfold xm at d;split at d
    ·split at d
     ·split at d
      ·split at d
       ·exact GX d
       grind
      grind
     grind
    grind
   obtain⟨x,y,rfl⟩:=J;obtain⟨bA,dN,rfl,g,z⟩:=p x y rfl;exact(ZY ah c7 F M g z d).next
  case h_2=>
  have J:∃x y,l=[x,y]:=by
   unfold xl at d;simp only at d;split at d
   ·split at d
    ·split at d
     ·split at d
      ·exact GX d
      grind
     grind
    grind
   grind
  obtain⟨x,y,rfl⟩:=J;obtain⟨bA,dN,rfl,g,z⟩:=p x y rfl;exact(ZZ ah c7 F (o aW x aW) (o aW y aW) g z d).next
 case clear=>
  split at d
  ·rename_i t cn s;obtain⟨x,rfl⟩:=GY d;obtain⟨bA,rfl,g⟩:=q x rfl;have C:=aah (d4:=d4) ah (o aW x aW) g d;have:Builtin.clear_ argTypes d4 #[bA]=Builtin.clear_ #[t] d4 #[bA]:=by
    have e:argTypes[0]?=some t:=by
     have:argTypes.toList[0]?=some t:=aT
     grind
    simp_all[Builtin.clear_]
   show wc P B (do pure (Next.value (<- Builtin.clear_ argTypes d4 #[bA]))) w σ h H v E;rw[this];exact C.next
  grind
 case copy=>
  have J:∃u,argTypes[0]?=some u/\(∃x y,l=[x,y])/\(up P [u,u]).f l H=some (v,E):=by
   unfold up at d;split at d
   ·rename_i u cn s;refine⟨u,?_,?_,?_⟩
    ·have:argTypes.toList[0]?=some u:=aT
     grind
    ·split at d
     ·split at d
      ·split at d
       ·exact GX d
       grind
      grind
     grind
    simp_all[up]
   grind
  obtain⟨u,C,⟨x,y,rfl⟩,j⟩:=J;obtain⟨bA,dN,rfl,g,z⟩:=p x y rfl;have N:=aag (d4:=d4) ah (o aW x aW) (o aW y aW) g z j;have:Builtin.copy_ argTypes d4 #[bA,dN]=Builtin.copy_ #[u,u] d4 #[bA,dN]:=by grind[Builtin.copy_]
  show wc P B (do pure (Next.value (<- Builtin.copy_ argTypes d4 #[bA,dN]))) w σ h H v E;rw[this];exact N.next
 case len=>
  split at d
  ·rename_i t cn s;obtain⟨x,rfl⟩:=GY d;obtain⟨bA,rfl,g⟩:=q x rfl;obtain⟨rfl,C⟩:=aai (d4:=d4) (w:=w) g d;have:Builtin.len_ argTypes d4 #[bA]=Builtin.len_ #[t] d4 #[bA]:=by
    have e:argTypes[0]?=some t:=by
     have:argTypes.toList[0]?=some t:=aT
     grind
    simp_all[Builtin.len_]
   show wc P B (do pure (Next.value (<- Builtin.len_ argTypes d4 #[bA]))) w σ h E v E;rw[this];exact(fE.pure ah C).next
  grind
 case cap=>
  split at d
  ·rename_i t cn s;obtain⟨x,rfl⟩:=GY d;obtain⟨bA,rfl,g⟩:=q x rfl;have d:(Ci P t).f x H=some (v,E):=d;obtain⟨rfl,e,size,l8,lI,a,n,c,rfl,fR⟩:=GZ d;have pL:argTypes[0]?=some t:=by
    have:argTypes.toList[0]?=some t:=aT
    grind
   have C:∃ap,(Builtin.cap_ argTypes d4 #[bA]).run P w=.ok ap w/\bV σ v ap:=by
    unfold Builtin.cap_;rw[pL];rcases fR with⟨rfl,rfl,rfl,rfl⟩|⟨kc,rfl,rfl⟩
    ·cases g
     simp_all[run_underlying,goInt,bV.int]
    ·generalize tk:2*size+1=cc at g;cases g
     case jq=>omega
     case l3=>simp_all[run_underlying,goInt,bV.int]
     omega
   show wc P B (do pure (Next.value (<- Builtin.cap_ argTypes d4 #[bA]))) w σ h E v E;exact(fE.pure ah C).next
  grind
 case max=>
  obtain⟨rfl,m⟩:=k9 d;unfold mO at m;cases l with
  | nil=>cases m
  | cons x r=>
   simp only at m;cases x<;>simp only at m<;>first|(cases m;done)|skip
   rename_i k n;obtain⟨bA,bQ,I,g,j⟩:=K.k7;rw[g.l6]at I;obtain⟨h1,S⟩:=Nf (P:=P) (w:=w) r bQ n k v j m;refine(fE.pure ah ⟨v,?_,S⟩).next
   simp_all[Builtin.max_]
 case min=>
  obtain⟨rfl,m⟩:=k9 d;unfold k5 at m;cases l with
  | nil=>cases m
  | cons x r=>
   simp only at m;cases x<;>simp only at m<;>first|(cases m;done)|skip
   rename_i k n;obtain⟨bA,bQ,I,g,j⟩:=K.k7;rw[g.l6]at I;obtain⟨h1,S⟩:=Nd (P:=P) (w:=w) r bQ n k v j m;refine(fE.pure ah ⟨v,?_,S⟩).next
   simp_all[Builtin.min_]
theorem aax(o:Oper)(ah:il σ B h w)(c7:B<=w.heap.size)(dJ:uF P σ)(J:bt σ T a.tmps.toList)(C:∀i,H.next<=i->i<E.next->σ i=none)
  (q:hH (rq P) o.op.operands.toList=true) (F:(gL P o.op=1\/gL P o.op=4)->∀x∈o.op.operands.toList,qA h H ((da x).g T)) (l:(hJ P o.op).f T H=some (v,E)):wc P B (execOp a.eval o) w σ h H v E:=by
 rw[ia,all_eq_true]at q;obtain⟨M,op,u,N,I,guard⟩:=o;simp only at q F l;have dQ:∀x,x∈op.operands.toList->bV σ ((da x).g T) (a.eval x):=fun x S=>ry J dJ x (q x S)
 cases op<;>simp only[hJ]at l<;>first|(cases l;done)|skip
 case move x=>cases l;exact⟨_,a.eval x,w,σ,rfl,.inl rfl,dQ x (by simp[Op.operands]),by grind[vZ,jH.refl]⟩
 case assign x=>cases l;exact⟨_,a.eval x,w,σ,rfl,.inl rfl,dQ x (by simp[Op.operands]),by grind[vZ,jH.refl]⟩
 case pick c x y=>
  have fR:=dQ c (by simp[Op.operands]);generalize (da c).g T=aq at l fR;cases aq<;>simp only at l<;>first|(cases l;done)|skip
  rename_i t;have e:=fR.CF;cases t with
  | true=>cases l;refine⟨_,a.eval x,w,σ,?_,.inl rfl,dQ x (by simp[Op.operands]),by grind[vZ,jH.refl]⟩;show(asBool (a.eval c) >>= fun t=>pure (Next.value (if t then a.eval x else a.eval y))).run P w=_;rw[e];rfl
  | false=>cases l;refine⟨_,a.eval y,w,σ,?_,.inl rfl,dQ y (by simp[Op.operands]),by grind[vZ,jH.refl]⟩;show(asBool (a.eval c) >>= fun t=>pure (Next.value (if t then a.eval x else a.eval y))).run P w=_;rw[e];rfl
 case alloc t=>
  cases V:gy P t with
  | none=>simp_all
  | some z=>
   rw[V]at l;obtain⟨CT,aay⟩:=pK V w;refine fE.next (s:=Instr.alloc t true (.tuple #[])) ?_;have a2:=MR (P:=P) ah c7 C (es z) z t (rv aay).cells l;obtain⟨ap,aE,τ,h1,W,eh⟩:=a2;refine⟨ap,aE,τ,?_,W,eh⟩
   simp_all[Instr.alloc]
 case box t x=>refine fE.next (s:=Instr.box t (a.eval x)) ?_;exact MR (P:=P) ah c7 C _ (a.eval x) t (dQ x (by simp[Op.operands])).cells l
 case build t r=>
  obtain⟨rfl,m⟩:=k9 l;refine fE.next (s:=Instr.build t (r.map fun(i,x)=>(i,a.eval x))) ?_;rw[Nq];obtain⟨b5,ax⟩:=Nr J dJ r.toList fun p jJ=>q p.2 (by grind[Op.operands])
  exact fE.pure ah (ZN m b5 ax w)
 case buildSlice t len r=>
  refine fE.next (s:=Instr.buildSlice t len (r.map fun(i,x)=>(i,a.eval x))) ?_;rw[Nq]
  grind[Nr,Op.operands,ZQ]
 case load t x=>obtain⟨rfl,a2⟩:=MU (P:=P) ah (F (.inl rfl) x (by simp[Op.operands])) (dQ x (by simp[Op.operands])) l;exact(fE.pure ah a2).next
 case store t x y=>
  cases V:fQ P t with
  | none=>simp_all
  | some n=>
   rw[V]at l;obtain⟨rfl,eZ,aE,h1,W⟩:=ZK (P:=P) V ah (F (.inr rfl) x (by simp[Op.operands])) (dQ x (by simp[Op.operands])) (dQ y (by simp[Op.operands])) l;refine⟨.skip,undef,aE,σ,?_,.inr ⟨rfl,rfl⟩,bV.undef,W⟩;show(do Instr.storeAt t (a.eval x) (a.eval y);pure Next.skip:Sem Next).run P w=_
   simp_all
 case nilCheck x=>obtain⟨rfl,m⟩:=k9 l;obtain⟨h1,W⟩:=aaj (P:=P) (w:=w) m (dQ x (by simp[Op.operands])) ⟨M,.nilCheck x,u,N,I,guard⟩ x rfl a.eval rfl;exact⟨_,a.eval x,w,σ,h1,.inl rfl,W,by grind[vZ,jH.refl]⟩
 case binOp op t x y yt=>obtain⟨rfl,m⟩:=k9 l;exact(fE.pure ah (ZG op t x y _ _ _ _ m (dQ x (by simp[Op.operands])) (dQ y (by simp[Op.operands])) w)).next
 case unOp op t x=>obtain⟨rfl,m⟩:=k9 l;exact(fE.pure ah (ZH op _ _ m (dQ x (by simp[Op.operands])) w)).next
 case convert s d x=>
  have K:∀e,P.underlying s=some (.slice e)->gL P (.convert s d x)=1\/gL P (.convert s d x)=4:=by grind[vJ,gL]
  exact(aas ah c7 C (fun⟨e,he⟩=>F (K e he) x (by simp[Op.operands])) (dQ x (by simp[Op.operands])) l).next
 case makeInterface t x=>
  cases l8:P.underlying t with
  | none=>simp_all
  | some k8=>
   rw[l8]at l;have hv:v=.iface t ((da x).g T)/\E=H/\(match k8 with|.interface _=>true|_=>false)=false:=aT
   obtain⟨rfl,rfl,MW⟩:=hv;refine fE.next (s:=Instr.makeInterface t (a.eval x)) (fE.pure ah ⟨.iface t (a.eval x),?_,.iface t _ _ (dQ x (by simp[Op.operands])) .nil⟩);cases k8<;>first|(cases MW;done)|(simp[Instr.makeInterface,run_underlying l8])
 case makeFunc fn first X=>
  split at l
  ·rename_i f;cases l;refine fE.next (s:=Instr.makeFunc (.func f) (first.map a.eval) (X.map a.eval)) (fE.pure ah ⟨_,rfl,?_⟩);refine .func f _ _ _ _ ?_ ?_ .nil
   ·have:=CS J dJ first.toList fun y fS=>q y (by simp_all[Op.operands])
    simp_all
   ·have:=CS J dJ X.toList fun y fS=>q y (by simp_all[Op.operands])
    simp_all
  grind
 case makeSlice t x y=>exact(ZP ah c7 C (dQ x (by simp[Op.operands])) (dQ y (by simp[Op.operands])) l).next
 case slice t x d3 aB hE=>
  obtain⟨rfl,m⟩:=k9 l;exact(fE.pure ah (aal ah (fun⟨n,e,he⟩=>F (.inl (by simp_all[gL])) x (by simp[Op.operands])) (dQ x (by simp[Op.operands])) (GW J dJ d3 fun y e=>q y (by simp_all[Op.operands]))
   (GW J dJ aB fun y e=>q y (by simp_all[Op.operands])) (GW J dJ hE fun y e=>q y (by simp_all[Op.operands])) m)).next
 case fieldAddr s x f=>obtain⟨rfl,m⟩:=k9 l;exact(fE.pure ah (aam (dQ x (by simp[Op.operands])) m w)).next
 case field t x f=>obtain⟨rfl,m⟩:=k9 l;exact(fE.pure ah (aap (dQ x (by simp[Op.operands])) m w)).next
 case indexAddr t x i=>obtain⟨rfl,m⟩:=k9 l;exact(fE.pure ah (aan (dQ x (by simp[Op.operands])) (dQ i (by simp[Op.operands])) m w)).next
 case index t x i=>obtain⟨rfl,m⟩:=k9 l;exact(fE.pure ah (aao (dQ x (by simp[Op.operands])) (dQ i (by simp[Op.operands])) m w)).next
 case typeAssert x t js ok=>obtain⟨rfl,m⟩:=k9 l;exact(fE.pure ah (aaq (dQ x (by simp[Op.operands])) m w)).next
 case extract x i=>
  have S:=dQ x (by simp[Op.operands]);generalize (da x).g T=xv at l S;cases xv<;>simp only at l<;>first|(cases l;done)|skip
  rename_i vs;obtain⟨rfl,m⟩:=k9 l;obtain⟨pI,e,z6⟩:=S.Zz;rw[ru]at m;obtain⟨ap,bO,q2⟩:=z6.get i v m;refine fE.next (s:=Instr.extract (a.eval x) i) (fE.pure ah ⟨ap,?_,q2⟩)
  simp_all[Instr.extract]
 case call c=>
  split at l
  case h_2=>cases l
  case h_1 b m=>
  have gA:=CS J dJ c.args.toList fun y fS=>q y (by simp_all[Op.operands,Call.operands])
  have a2:=aaw (d4:=u) (Np:=c.args.map fun|.const _=>true|_=>false) (bN:=c.args.map a.eval) ah c7 C (fun CU x S=>by grind[xJ,gL,Op.operands,Call.operands]) a1 l;have e:execOp a.eval ⟨M,.call c,u,N,I,guard⟩=builtin b c.argTypes u (c.args.map fun|.const _=>true|_=>false) (c.args.map a.eval):=by simp only[execOp,resolve,m];rfl
  simp_all
end
end Go.Ab
namespace Go.Ab
open Go
variable{H E dc e1 P T b bytes c ag id l n ci off op s size cn v vs x}
structure gG (H E:an):Prop where
 dI:H.next<=E.next
 cj:E.cX=H.cX
 c0:E.c5=H.c5
 ks:∀i,i<H.cX->E.get i=H.get i
 cB:∀i,H.get i=none->E.get i≠none->H.next<=i/\i<E.next
theorem gG.refl(H:an):gG H H:=⟨Nat.le_refl _,rfl,rfl,fun _ _=>rfl,fun _ h aH=>absurd h aH⟩
theorem gG.trans(a:gG H dc)(b:gG dc e1):gG H e1:=by refine⟨Nat.le_trans a.dI b.dI,b.cj.trans a.cj,b.c0.trans a.c0,fun i c=>(b.ks i (by rw[a.cj];exact c)).trans (a.ks i c),fun i h d=>?_⟩;have e:=a.dI;have f:=b.dI;by_cases c8:dc.get i=none;have:=b.cB i c8 d;omega;have:=a.cB i h c8;omega
theorem Ns(ag:aj)(b:H.cX<=H.next):gG H ⟨H.t.set H.next (some ⟨ag,true⟩),succ H.next,H.cX,H.c5⟩:=by
 refine⟨le_succ _,rfl,rfl,fun i a=>Tr.jZ _ _ _ _ U,fun i h aH=>?_⟩;by_cases a:i=H.next
 simp_all
 exact absurd ((Tr.jZ _ _ _ _ a).trans h) aH
theorem Nt(a:H.cX<=H.next)(b:un ag H=some (v,E)):gG H E:=by grind[un,an.ci,Ns]
theorem wd(a:H.cX<=H.next)(b:oi ag n c H=some (v,E)):gG H E:=by grind[oi,an.ci,Ns]
theorem G0(a:rm H id off vs=some E):gG H E:=by
 rw[CB]at a;cases d:H.get id with
 | none=>simp_all
 | some b=>
  rw[d]at a;simp only at a;split at a;rename_i e;cases a;simp only[Bool.and_eq_true,an.lY,kI,decide_eq_true_eq]at e;refine⟨Nat.le_refl _,rfl,rfl,fun i c=>Tr.jZ _ _ _ _ U,fun i h aH=>?_⟩;by_cases c:i=id
  simp_all
  exact absurd ((Tr.jZ _ _ _ _ c).trans h) aH
  grind
theorem aaz(b:H.cX<=id):gG H (H.set id none):=by refine⟨Nat.le_refl _,rfl,rfl,fun i a=>Tr.jZ _ _ _ _ U,fun i h aH=>?_⟩;by_cases a:i=id;subst a;exact absurd (Tr.uA _ _) aH;exact absurd ((Tr.jZ _ _ _ _ a).trans h) aH
theorem Nu(a:sa x H=some (v,E)):E=H:=by
 unfold sa at a;split at a
 grind
 grind
section
theorem aaA(f:H.cX<=H.next)(d:pF size bytes s ci n H=some (v,E)):gG H E:=by
 unfold pF at d;split at d
 case h_2=>cases d
 case h_1 a len c=>
 split at d
 case h_1=>grind[gG.refl,wd]
 case h_2 id off g=>
  split at d
  ·cases d
  ·split at d
   ·simp_all[gG.refl]
   ·split at d
    ·split at d
     ·grind[uo,wd]
     ·split at d
      ·unfold vK at d;split at d
       ·split at d
        ·rename_i b h e;simp only[Bool.and_eq_true,an.lY,kI,decide_eq_true_eq]at e;exact(aaz e.1.2).trans (wd f d)
        grind
       grind
      grind
    grind
theorem G1{g:Value->Value->an->R}(b:∀x y,g x y H=some (v,E)->gG H E)(a:kb g l H=some (v,E)):gG H E:=by
 unfold kb at a
 grind
theorem G2{g:Value->an->R}(b:∀x,g x H=some (v,E)->gG H E)(a:du g l H=some (v,E)):gG H E:=by
 unfold du at a
 grind
theorem aaB(c:H.cX<=H.next)(a:(qq P b cn).f l H=some (v,E)):gG H E:=by
 unfold qq at a;cases b<;>simp only at a<;>first|(cases a;done)|skip
 case append=>
  unfold Ck at a;split at a
  case h_2=>cases a
  case h_1=>
  split at a
  case h_1=>
   unfold xm at a;split at a
   ·split at a
    ·split at a
     ·split at a
      ·refine G1 (fun x y a=>?_) a;unfold Cj at a;split at a
       ·grind[gG.refl,wd]
       grind
      grind
     grind
    grind
   grind
  case h_2=>
  unfold xl at a;simp only at a;split at a
  ·split at a
   ·split at a
    ·split at a
     ·grind[G1,dj,aaA]
     grind
    grind
   grind
  grind
 case clear=>
  split at a
  ·refine G2 (fun x a=>?_) a;unfold zK at a;split at a
   ·split at a
    ·simp only[uq]at a
     grind[gG.refl,G0]
    grind
   grind
  grind
 case copy=>
  unfold up at a;split at a
  ·split at a
   ·split at a
    ·split at a
     ·refine G1 (fun x y a=>?_) a;unfold nJ at a;split at a
      ·split at a
       ·grind[gG.refl,G0]
       grind
      grind
     grind
    grind
   grind
  grind
 case len=>
  split at a
  ·grind[G2,zJ,gG.refl]
  grind
 case cap=>
  split at a
  ·grind[G2,GZ,gG.refl]
  grind
 case max=>obtain⟨rfl,_⟩:=k9 a;exact gG.refl _
 case min=>obtain⟨rfl,_⟩:=k9 a;exact gG.refl _
theorem CV(e:H.cX<=H.next)(a:(hJ P op).f T H=some (v,E)):gG H E:=by
 cases op<;>simp only[hJ]at a<;>first|(cases a;done)|(obtain⟨rfl,_⟩:=k9 a;exact gG.refl _)|(cases a;exact gG.refl _)|skip
 case pick c x y=>grind[gG.refl]
 case alloc t=>grind[Nt]
 case box t x=>exact Nt e a
 case buildSlice t len b=>
  unfold gY at a;split at a
  ·split at a
   ·split at a
    ·split at a
     ·grind[Ch,wd]
     grind
    grind
   grind
  grind
 case load t x=>
  unfold lE at a;split at a
  ·simp only[jo]at a
   grind[gG.refl]
  ·simp only[db]at a;split at a
   ·split at a
    ·split at a
     ·obtain⟨rfl,_⟩:=k9 a;exact gG.refl _
     grind
    grind
   grind
  grind
 case store t x y=>
  split at a
  ·simp only[d9]at a
   grind[G0]
  grind
 case convert s d x=>
  unfold vJ at a;split at a
  ·grind[gG.refl]
  ·split at a
   ·grind[gG.refl]
   ·split at a
    ·simp only[jD]at a;split at a
     ·grind[gG.refl]
     grind
    grind
   grind
  ·split at a
   ·split at a
    ·simp only[vI]at a
     grind[wd]
    grind
   ·split at a
    ·grind[Nu,gG.refl]
    grind
   grind
  grind
 case makeInterface t x=>grind[gG.refl]
 case makeFunc fn x y=>grind[gG.refl]
 case makeSlice t x y=>
  unfold lD at a;split at a
  ·split at a
   ·split at a
    ·simp only[o4]at a
     grind[wd]
    grind
   grind
  grind
 case extract x i=>split at a<;>first|(cases a;done)|(obtain⟨rfl,_⟩:=k9 a;exact gG.refl _)
 grind[aaB]
end
end Go.Ab
namespace Go.Ab
open Go
variable{H E P T fa b bytes c ag id l n ci off op s size cn v vs x}
def mR(l:List Nat)(H E:an):Prop:=∀id,E.get id≠H.get id->id∈l\/(H.next<=id/\id<E.next)
theorem mR.refl(l:List Nat)(H:an):mR l H H:=fun _ h=>absurd rfl h
theorem Nv(l:List Nat)(ag:aj):mR l H ⟨H.t.set H.next (some ⟨ag,true⟩),succ H.next,H.cX,H.c5⟩:=fun id h=>by
 by_cases aB:id=H.next
 simp_all
 exact absurd (Tr.jZ _ _ _ _ aB) h
section
theorem Nw(a:un ag H=some (v,E)):mR l H E:=by grind[un,an.ci,Nv]
theorem xK(a:oi ag n c H=some (v,E)):mR l H E:=by grind[oi,an.ci,Nv]
theorem G3(b:id∈l)(a:rm H id off vs=some E):mR l H E:=by
 rw[CB]at a;split at a;split at a;cases a;intro i c;by_cases d:i=id
 simp_all
 exact absurd (Tr.jZ _ _ _ _ d) c
 grind
 grind
theorem aaC(e:∀i,vV s=some i->i∈l)(b:pF size bytes s ci n H=some (v,E)):mR l H E:=by
 unfold pF at b;split at b
 case h_2=>cases b
 case h_1 a len c=>
 split at b
 case h_1=>grind[mR.refl,xK]
 case h_2 id off h=>
  split at b
  ·cases b
  ·split at b
   ·simp_all[mR.refl]
   ·split at b
    ·split at b
     ·grind[uo,xK]
     ·split at b
      ·unfold vK at b;split at b
       ·split at b
        ·simp only[an.set]at b;cases b;intro i f;by_cases g:i=H.next
         ·simp_all
         ·by_cases d:i=id
          ·subst d;exact .inl (e _ rfl)
          ·exact absurd ((Tr.jZ _ _ _ _ g).trans (Tr.jZ _ _ _ _ d)) f
        grind
       grind
      grind
    grind
theorem Ac(a:x∈l):∀i,vV x=some i->i∈dM l:=fun _ b=>List.mem_filterMap.2 ⟨x,a,b⟩
theorem G4{g:Value->Value->an->R}(b:∀x y,l=[x,y]->g x y H=some (v,E)->mR (dM l) H E)(a:kb g l H=some (v,E)):mR (dM l) H E:=by
 unfold kb at a
 grind
theorem aaD(a:(qq P b cn).f l H=some (v,E)):
  ((b=.append\/b=.copy\/b=.clear)/\mR (dM l) H E)\/E=H:=by
 unfold qq at a;cases b<;>simp only at a<;>first|(cases a;done)|skip
 case append=>
  left;refine⟨.inl rfl,?_⟩;unfold Ck at a;split at a
  case h_2=>cases a
  case h_1=>
  split at a
  case h_1=>
   unfold xm at a;split at a
   ·split at a
    ·split at a
     ·split at a
      ·refine G4 (fun x y c a=>?_) a;unfold Cj at a;split at a
       ·grind[mR.refl,xK]
       grind
      grind
     grind
    grind
   grind
  case h_2=>
  unfold xl at a;simp only at a;split at a
  ·split at a
   ·split at a
    ·split at a
     ·refine G4 (fun x y c a=>?_) a;unfold dj at a;split at a
      ·split at a
       ·exact aaC (Ac aT) a
       grind
      grind
     grind
    grind
   grind
  grind
 case clear=>
  left;refine⟨.inr (.inr rfl),?_⟩;split at a
  ·unfold du at a;simp only at a;split at a
   ·unfold zK at a;split at a
    ·split at a
     ·simp only[uq]at a;split at a
      ·split at a
       ·simp_all[mR.refl]
       ·split at a
        ·simp_all[mR.refl]
        ·split at a
         ·cases a
         ·split at a
          ·rename_i d;cases a;exact G3 (Ac (mem_cons_self ..) _ rfl) d
          grind
      grind
     grind
    grind
   grind
  grind
 case copy=>
  left;refine⟨.inr (.inl rfl),?_⟩;unfold up at a;split at a
  ·split at a
   ·split at a
    ·split at a
     ·refine G4 (fun x y c a=>?_) a;unfold nJ at a;split at a
      ·split at a
       ·simp only at a;split at a
        ·simp_all[mR.refl]
        ·split at a
         ·split at a
          ·cases a
          ·split at a
           ·split at a
            ·rename_i d;cases a;exact G3 (Ac (by rw[c];exact mem_cons_self ..) _ rfl) d
            grind
           grind
         grind
       grind
      grind
     grind
    grind
   grind
  grind
 case len=>
  right;split at a
  ·unfold du at a
   grind[zJ]
  grind
 case cap=>
  right;split at a
  ·unfold du at a
   grind[GZ]
  grind
 case max=>right;exact(k9 a).1
 case min=>right;exact(k9 a).1
theorem aaE(a:(hJ P op).f T H=some (v,E)):
  ((gL P op=4/\mR (dM (iK op.operands.toList T)) H E)\/(gL P op=2/\mR [] H E))\/E=H:=by
 cases op<;>simp only[hJ]at a<;>first|(cases a;done)|(exact .inr (k9 a).1)|(cases a;exact .inr rfl)|skip
 case pick c x y=>grind
 case alloc t=>left;right;refine⟨rfl,?_⟩;grind[Nw]
 case box t x=>exact .inl (.inr ⟨rfl,Nw a⟩)
 case buildSlice t len b=>
  left;right;refine⟨rfl,?_⟩;unfold gY at a;split at a
  ·split at a
   ·split at a
    ·split at a
     ·grind[Ch,xK]
     grind
    grind
   grind
  grind
 case load t x=>
  right;unfold lE at a;split at a
  ·simp only[jo]at a
   grind
  ·simp only[db]at a;split at a
   ·split at a
    ·split at a
     ·exact(k9 a).1
     grind
    grind
   grind
  grind
 case store t x y=>
  left;left;refine⟨rfl,?_⟩;split at a
  ·simp only[d9]at a;split at a
   ·rename_i e;split at a
    ·split at a
     ·split at a
      ·split at a
       ·rename_i h;cases a;refine G3 (Ac (x:=(da x).g T) ?_ _ (by rw[e];rfl)) h
        simp_all[xJ,Op.operands]
       grind
      grind
     grind
    grind
   grind
  grind
 case convert s d x=>
  unfold vJ at a;split at a
  ·grind
  ·right;split at a
   ·grind
   ·split at a
    ·simp only[jD]at a;split at a
     ·grind
     grind
    grind
   grind
  ·rename_i k;split at a
   ·rename_i j;left;right;refine⟨by simp_all[gL],?_⟩;split at a
    ·simp only[vI]at a
     grind[xK]
    grind
   ·right;split at a
    ·exact Nu a
    grind
   grind
  grind
 case makeInterface t x=>grind
 case makeFunc fn x y=>grind
 case makeSlice t x y=>
  left;right;refine⟨rfl,?_⟩;unfold lD at a;split at a
  ·split at a
   ·split at a
    ·simp only[o4]at a
     grind[xK]
    grind
   grind
  grind
 case extract x i=>right;split at a<;>first|(cases a;done)|(exact(k9 a).1)
 grind[aaD,gL,Op.operands,Call.operands]
theorem Nx(h:∀x∈op.operands.toList,(da x).g T=(da x).g fa):(hJ P op).f T H=(hJ P op).f fa H:=by
 have rz:∀l:List Operand,(∀x∈l,(da x).g T=(da x).g fa)->iK l T=iK l fa:=fun l n=>by simp_all[xJ]
 have k:∀l:List (Nat×Operand),(∀p∈l,(da p.2).g T=(da p.2).g fa)->qs l T=qs l fa:=by
  intro l;induction l with
  | nil=>intro _;rfl
  | cons p r q=>grind[qs]
 have m:∀o:Option Operand,(∀x,o=some x->(da x).g T=(da x).g fa)->vP o T=vP o fa:=by
  intro o u;cases o with
  | none=>rfl
  | some x=>show some _=some _;grind
 cases op<;>simp only[hJ]
 case move x=>simp_all[Op.operands]
 case assign x=>simp_all[Op.operands]
 case pick c x y=>simp_all[Op.operands]
 case alloc t=>grind
 case box t x=>simp_all[Op.operands]
 case build t e=>grind[Op.operands]
 case buildSlice t len e=>grind[Op.operands]
 case load t x=>simp_all[Op.operands]
 case store t x y=>grind[Op.operands]
 case nilCheck x=>simp_all[Op.operands]
 case binOp o t x y z=>simp_all[Op.operands]
 case unOp o t x=>simp_all[Op.operands]
 case convert s d x=>simp_all[Op.operands]
 case makeInterface t x=>grind[Op.operands]
 case makeFunc fn x y=>grind[Op.operands]
 case makeSlice t x y=>simp_all[Op.operands]
 case slice t x v w B=>simp_all[Op.operands]
 case fieldAddr s x f=>simp_all[Op.operands]
 case field t x f=>simp_all[Op.operands]
 case indexAddr t x y=>simp_all[Op.operands]
 case index t x y=>simp_all[Op.operands]
 case typeAssert x t a C=>simp_all[Op.operands]
 case extract x i=>simp_all[Op.operands]
 grind[Op.operands,Call.operands]
end
end Go.Ab
namespace Go.Ab
open Go
variable{H E a b id k eF sub α}
theorem Ad{p:α->α->Bool}(b:∀x y,p x y=true->x=y):∀l m:List α,qm p l m=true->l=m
 | [],[],_=>rfl
 | [],_::_,h=>by cases h
 | _::_,[],h=>by cases h
 | x::l,y::m,h=>by
  have h:cond (p x y) (qm p l m) false=true:=h;cases a:p x y with
  | true=>rw[a]at h;rw[b x y a,Ad b l m h]
  | false=>rw[a]at h;cases h
theorem aaF(h:qn k eF=true):k=eF:=by cases k<;>cases eF<;>first|rfl|cases h
theorem aaG(h:mN a b=true):a=b:=by cases a<;>cases b;exact congrArg Int.ofNat (eq_of_beq_eq_true h);cases h;cases h;exact congrArg Int.negSucc (eq_of_beq_eq_true (h)).symm
theorem Ny(h:xt a b=true):a=b:=by
 unfold xt at h;cases a with
 | none=>grind
 | some a=>
  obtain⟨i,o,s⟩:=a;cases b with
  | none=>cases h
  | some b=>
   obtain⟨c,d,bJ⟩:=b;cases s<;>cases bJ<;>first|(cases h;done)|skip
   simp_all
theorem aaH(h:MD a b=true):a=b:=by
 cases a<;>first|(cases h;done)|skip
 cases b<;>first|(cases h;done)|skip
 exact congrArg Fn.func (eq_of_beq_eq_true h)
theorem Nz(h:Gw a b=true):a=b:=by cases a<;>cases b<;>first|rfl|cases h
theorem aaI(h:Gx a b=true):a=b:=UInt8.toNat_inj.1 (eq_of_beq_eq_true h)
theorem G5(ah:∀x y,sub x y=true->x=y)(x y:Value)(h:vU sub x y=true):x=y:=by
 unfold vU at h;cases x<;>cases y<;>simp only[Bool.false_eq_true]at h<;>first|rfl|skip
 case bool.bool a b=>rw[Nz h]
 case int.int k a e b=>grind[aaF,aaG]
 case string.string a b=>grind[Ad,aaI,ByteArray.ext,Array.ext']
 case pointer.pointer a b=>rw[Ny h]
 case slice.slice a n c d g bC=>grind[Ny,eq_of_beq_eq_true]
 case map.map a b=>grind[eq_of_beq_eq_true]
 case func.func f a b i d cA=>grind[aaH,Array.ext',Ad]
 case iface.iface t v j ap=>grind[eq_of_beq_eq_true]
 grind[Array.ext',Ad]
theorem aaJ(x y:Value)(h:Gz x y=true):x=y:=
 G5 (G5 (G5 fun _ _ h=>by cases h)) x y h
theorem aaK(h:ik H E id=true):∃b,H.get id=some b/\E.get id=some b:=by
 unfold ik at h;cases a:H.get id with
 | none=>simp_all
 | some b=>
  cases c:E.get id with
  | none=>simp_all
  | some cA=>
   obtain⟨d,aM⟩:=b;obtain⟨e,ca⟩:=cA
   grind[Nz,Ad,aaJ]
end Go.Ab
namespace Go.Ab
open Go
variable{B H E dc e1 O b c h aH GD h1 h2 i id l n k6 f1 gm o s w aE aM ca σ τ lF}
inductive Obj where
 | cells (b:ef)
 | loop (l:iZ)
 | ln
def Obj.wr:Obj->Bool
 | .cells b=>b.wr
 | _=>true
def an.cg(H:an)(i:Nat):Option Obj:=match H.get i with
 | some b=>some (.cells b)
 | none=>(dV H.c5 i).map .loop
def cellsOf(h:Nat->Option Obj)(i:Nat):Option ef:=match h i with
 | some (.cells b)=>some b
 | _=>none
theorem sk:cellsOf h i=some b↔h i=some (.cells b):=by grind[cellsOf]
def G6:vF->LoopState->Option Code->Prop
 | .ready,s,p=>s=.ready/\p=none
 | .busy,s,_=>s=.busy
 | .over .ret,s,p=>s=.done/\p=some .ret
 | .over (.exit id),s,p=>s=.done/\p=some (.exit id)
 | .over .normal,_,_=>False
structure CW (σ:eH) (l:iZ) (L:Loop):Prop where
 T:bt σ l.T L.tmps.toList
 bv:L.params.toList=l.bv
 cD:L.assign=l.cD
 body:L.body=l.body
 st:G6 l.st L.state L.pending
def we(aI:Array MapEntry):aj:=aI.toList.flatMap fun e=>[e.key,e.val]
def qB(σ:eH)(l:iZ)(O:Go.Obj):Prop:=match k2 l with
 | true=>∃aI n,O=.map aI n/\bt σ l.T (we aI)
 | false=>∃L,O=.loop L/\CW σ l L
theorem qB.mono(c:∀id x,σ id=some x->τ id=some x)(h:qB σ l O):qB τ l O:=by unfold qB at h⊢;split at h;obtain⟨d,n,b,a⟩:=h;exact⟨d,n,b,a.mono c⟩;obtain⟨L,b,a⟩:=h;exact⟨L,b,a.T.mono c,a.bv,a.cD,a.body,a.st⟩
theorem qB.aaL(h:qB σ l O):∀a b c,O≠.cells a b c:=by grind[qB]
def oy(σ:eH)(w:World)(id:Nat):Obj->Prop
 | .cells b=>MG σ w id b
 | .loop l=>∃c o s a,σ id=some (c,o,s)/\w.heap[c]?=some a/\qB σ l a
 | .ln=>∃c o s,σ id=some (c,o,s)/\w.heap[c]?=some (.deferred (some []))
theorem oy.tl(h:oy σ w id b):∃c o s,σ id=some (c,o,s):=by
 cases b with
 | cells b=>obtain⟨c,o,s,_,_,_,h,_⟩:=h;simp_all
 | loop l=>obtain⟨c,o,s,_,h,_⟩:=h;simp_all
 | ln=>obtain⟨c,o,s,h,_⟩:=h;simp_all
def Obj.rA:Obj->Bool
 | .cells _=>true
 | _=>false
def aaM:Option Go.Obj->Bool
 | some (.cells _ _ _)=>true
 | _=>false
theorem oy.dW(h:oy σ w id b)(g:σ id=some (c,o,s)):aaM w.heap[c]?=b.rA/\c<w.heap.size:=by
 cases b with
 | cells b=>obtain⟨bC,i,bJ,_,_,_,e,f,_⟩:=h;rw[g]at e;cases e;rw[f];exact⟨rfl,(Array.getElem?_eq_some_iff.1 f).1⟩
 | loop l=>
  obtain⟨bC,i,bJ,d,e,f,j⟩:=h;rw[g]at e;cases e;rw[f];refine⟨?_,(Array.getElem?_eq_some_iff.1 f).1⟩;cases d with
  | cells a b c=>exact absurd rfl (j.aaL a b c)
  | _=>rfl
 | ln=>obtain⟨bC,i,bJ,e,f⟩:=h;rw[g]at e;cases e;rw[f];exact⟨rfl,(Array.getElem?_eq_some_iff.1 f).1⟩
structure jK (σ:eH) (B:Nat) (h:Nat->Option Obj) (w:World):Prop where
 e7:∀id b,h id=some b->oy σ w id b
 own:∀id b,h id=some b->b.wr=true->∃c o s,σ id=some (c,o,s)/\B<=c
 jG:∀i j gN ft,i≠j->h i=some gN->h j=some ft->gN.wr=true->∀c o s bC l1 bJ,σ i=some (c,o,s)->σ j=some (bC,l1,bJ)->c≠bC
theorem jK.cells(ah:jK σ B h w):il σ B (cellsOf h) w:=
 ⟨fun id b a=>ah.e7 id _ (sk.1 a),fun id b a=>ah.own id _ (sk.1 a),fun i j gN ft c d e=>ah.jG i j _ _ c (sk.1 d) (sk.1 e)⟩
def wg(σ:eH)(h:Nat->Option Obj)(c:Nat):Prop:=∃id b o s,h id=some b/\b.wr=true/\σ id=some (c,o,s)
structure hr (B:Nat) (σ:eH) (h:Nat->Option Obj) (n:Nat) (w:World) (τ:eH) (aH:Nat->Option Obj) (k6:Nat) (aE:World):Prop where
 fM:jK τ B aH aE
 dI:n<=k6
 ext:∀id,id<n\/k6<=id->τ id=σ id
 mono:∀id x,σ id=some x->τ id=some x
 os:aE.os=w.os
 tape:aE.tape=w.tape
 output:aE.output=w.output
 size:w.heap.size<=aE.heap.size
 ks:∀c,c<w.heap.size->¬wg σ h c->aE.heap[c]?=w.heap[c]?
 pH:∀c,wg τ aH c->c<w.heap.size->wg σ h c
open Classical in
def eB(h:Nat->Option Obj)(H E:an):Nat->Option Obj:=fun id=>if E.cg id=H.cg id then h id else E.cg id
theorem hr.xL(ah:jK σ B h w)(g:jH B σ (cellsOf h) H.next w τ (fo (cellsOf h) H E) E.next aE)(X:E.c5=H.c5)
  (v:∀i,dV H.c5 i≠none->E.get i=H.get i):hr B σ h H.next w τ (eB h H E) E.next aE:=by
 have z:∀i,E.cg i=H.cg i↔E.get i=H.get i:=by grind[an.cg]
 have awd:∀(id c o s:Nat) (b:Obj),h id=some b->(∀x,b≠.cells x)->σ id=some (c,o,s)->aE.heap[c]?=w.heap[c]?:=by
  intro id c o s b a awe k;obtain⟨C,j1⟩:=(ah.e7 id b a).dW k;refine g.ks c j1 ?_;rintro⟨j,ft,N,CX,F,_,aaN⟩;have:=((ah.e7 j _ (sk.1 F)).dW aaN).1;rw[this]at C;cases b with
  | cells x=>simp_all
  | loop l=>cases C
  | ln=>cases C
 have f:∀id b,eB h H E id=some b->(∃x,b=.cells x/\fo (cellsOf h) H E id=some x)\/((∀x,b≠.cells x)/\h id=some b):=by
  intro id b a;unfold eB at a;split at a;rename_i S;cases b with
  | cells x=>simp_all[fo,sk]
  | loop l=>simp_all
  | ln=>simp_all
  rename_i S;have S:=fun e=>S ((z id).2 e)
  have gA:=Classical.byContradiction fun I=>S (v id I)
  unfold an.cg at a;rw[X,gA]at a;cases hg:E.get id with
  | none=>simp_all
  | some x=>simp_all[fo]
 have p:∀id b,eB h H E id=some b->oy τ aE id b:=by
  intro id b a;rcases f id b a with⟨x,rfl,q⟩|⟨I,a⟩
  exact g.fM.e7 id x q;have gH:=ah.e7 id b a;cases b with
  | cells x=>simp_all
  | loop l=>obtain⟨c,o,s,d,m,n,u⟩:=gH;exact⟨c,o,s,d,g.mono _ _ m,aT,u.mono g.mono⟩
  | ln=>obtain⟨c,o,s,m,n⟩:=gH;exact⟨c,o,s,g.mono _ _ m,aT⟩
 refine⟨⟨p,?_,?_⟩,g.dI,g.ext,g.mono,g.os,g.tape,g.output,g.size,?_,?_⟩;intro id b a J;rcases f id b a with⟨x,rfl,q⟩|⟨I,a⟩
 exact g.fM.own id x q J;obtain⟨c,o,s,m,n⟩:=ah.own id b a J;exact⟨c,o,s,g.mono _ _ m,n⟩;intro i j gN ft K aB F J c o s bC l1 bJ k r;have aQ:=p i gN aB;have N:=p j ft F;have V:=(aQ.dW k).1;have W:=(N.dW r).1;rcases f i gN aB with⟨x,rfl,q⟩|⟨I,a⟩
 rcases f j ft F with⟨y,rfl,fS⟩|⟨Ae,t⟩
 exact g.fM.jG i j x y K q fS J c o s bC l1 bJ k r;intro e;subst e;rw[V]at W;cases ft with
 | cells y=>simp_all
 | loop l=>cases W
 | ln=>cases W
 rcases f j ft F with⟨y,rfl,fS⟩|⟨Ae,t⟩
 intro e;subst e;rw[W]at V;cases gN with
 | cells y=>simp_all
 | loop l=>cases V
 | ln=>cases V
 obtain⟨nP,bP,cr,L⟩:=(ah.e7 i gN a).tl;obtain⟨mv,cP,ej,dw⟩:=(ah.e7 j ft t).tl;have M:=g.mono _ _ L;have l4:=g.mono _ _ dw;rw[k]at M;rw[r]at l4;cases M;cases l4;exact ah.jG i j gN ft K a t J _ _ _ _ _ _ L dw;intro c k sh;exact g.ks c k fun⟨id,b,o,s,m,n,u⟩=>sh ⟨id,_,o,s,sk.1 m,n,u⟩
 rintro c ⟨id,b,o,s,m,n,u⟩ k;rcases f id b m with⟨x,rfl,q⟩|⟨I,a⟩
 obtain⟨j,y,N,CX,C,j1,ma⟩:=g.pH c ⟨id,x,o,s,q,n,u⟩ k;exact⟨j,_,N,CX,sk.1 C,j1,ma⟩;obtain⟨nP,bP,cr,L⟩:=(ah.e7 id b a).tl;have M:=g.mono _ _ L;rw[u]at M;cases M;exact⟨id,b,o,s,a,n,L⟩
structure mb (H:an):Prop where
 lt:∀i,H.cg i≠none->i<H.next
 o9:∀i,dV H.c5 i≠none->H.get i=none
structure fG (H E:an):Prop where
 dI:H.next<=E.next
 cj:E.cX=H.cX
 ks:∀i,i<H.cX->E.cg i=H.cg i
 cB:∀i,H.cg i=none->E.cg i≠none->H.next<=i/\i<E.next
 CY:mb H->mb E
theorem pa{H:an}:H.cg i=none↔H.get i=none/\dV H.c5 i=none:=by
 unfold an.cg;cases H.get i with
 | some b=>simp
 | none=>simp_all
theorem fG.refl(H:an):fG H H:=⟨Nat.le_refl _,rfl,fun _ _=>rfl,fun _ h aH=>absurd h aH,fun h=>h⟩
theorem fG.trans(a:fG H dc)(b:fG dc e1):fG H e1:=by refine⟨Nat.le_trans a.dI b.dI,b.cj.trans a.cj,fun i c=>(b.ks i (by rw[a.cj];exact c)).trans (a.ks i c),fun i h d=>?_,fun w=>b.CY (a.CY w)⟩;have e:=a.dI;have f:=b.dI;by_cases c8:dc.cg i=none;have:=b.cB i c8 d;omega;have:=a.cB i h c8;omega
theorem fG.wf(a:fG H E)(h:H.cX<=H.next):E.cX<=E.next:=by rw[a.cj];exact Nat.le_trans h a.dI
theorem gG.o9(m:gG H E)(w:mb H):∀i,dV H.c5 i≠none->E.get i=H.get i:=by intro i a;have b:=w.o9 i a;rw[b];apply Classical.byContradiction;intro c;have d:=(m.cB i b c).1;have f:=w.lt i (fun e=>a (pa.1 e).2);omega
theorem gG.NA(m:gG H E):fG H E:=by
 refine⟨m.dI,m.cj,fun i aB=>?_,fun i h aH=>?_,fun w=>⟨fun i aB=>?_,fun i aB=>?_⟩⟩;unfold an.cg;rw[m.ks i aB,m.c0];rw[pa]at h;have a:=fun e=>aH (pa.2 ⟨e,by rw[m.c0];exact h.2⟩)
 exact m.cB i h.1 a;by_cases c8:H.cg i=none;have b:=pa.1 c8;have a:=fun e=>aB (pa.2 ⟨e,by rw[m.c0];grind⟩)
 exact(m.cB i b.1 a).2;exact Nat.lt_of_lt_of_le (w.lt i c8) m.dI;rw[m.c0]at aB;rw[m.o9 w i aB];exact w.o9 i aB
theorem hr.refl(ah:jK σ B h w):hr B σ h n w σ h n w:=
 ⟨ah,Nat.le_refl _,fun _ _=>rfl,fun _ _ h=>h,rfl,rfl,rfl,Nat.le_refl _,fun _ _ _=>rfl,fun _ h _=>h⟩
theorem hr.trans(a:hr B σ h n w τ h1 f1 aM)(b:hr B τ h1 f1 aM lF h2 gm ca):
  hr B σ h n w lF h2 gm ca:=by
 refine⟨b.fM,Nat.le_trans a.dI b.dI,fun id g=>?_,fun id x i=>b.mono _ _ (a.mono _ _ i),b.os.trans a.os,b.tape.trans a.tape,b.output.trans a.output,Nat.le_trans a.size b.size,
  fun c d e=>?_,fun c f d=>a.pH c (b.pH c f (Nat.lt_of_lt_of_le d a.size)) d⟩
 have h1:=a.dI;have h2:=b.dI;rw[b.ext id U,a.ext id U];rw[b.ks c (Nat.lt_of_lt_of_le d a.size) (fun f=>e (a.pH c f d)),a.ks c d e]
theorem oy.drawn(k:Nat)(h:oy σ w id b):oy σ {w with drawn:=k} id b:=by cases b<;>exact h
theorem hr.aaO(ah:jK σ B h w)(k:Nat):hr B σ h n w σ h n {w with drawn:=k}:=
 ⟨⟨fun id b a=>(ah.e7 id b a).drawn k,ah.own,ah.jG⟩,Nat.le_refl _,fun _ _=>rfl,fun _ _ h=>h,rfl,rfl,rfl,Nat.le_refl _,fun _ _ _=>rfl,fun _ h _=>h⟩
theorem jK.CZ(ah:jK σ B h w)(a:∀id b,aH id=some b->h id=some b):jK σ B aH w:=
 ⟨fun id b c=>ah.e7 id b (a _ _ c),fun id b c=>ah.own id b (a _ _ c),fun i j gN ft d e f=>ah.jG i j gN ft d (a _ _ e) (a _ _ f)⟩
theorem hr.CZ(g:hr B σ h n w τ GD k6 aE)(a:∀id b,aH id=some b->GD id=some b):hr B σ h n w τ aH k6 aE:=
 ⟨g.fM.CZ a,g.dI,g.ext,g.mono,g.os,g.tape,g.output,g.size,g.ks,fun c ⟨id,b,o,s,d,e,f⟩=>g.pH c ⟨id,b,o,s,a _ _ d,e,f⟩⟩
def rB(H:an)(h:Nat->Option Obj):Prop:=∀id b,H.cg id=some b->h id=some b
theorem xM(h:Nat->Option Obj)(H:an):eB h H H=h:=by grind[eB]
theorem rB.fo(ah:rB H h):rB E (eB h H E):=by intro id b a;unfold eB;split;rename_i e;exact ah id b (e▸a);omega
end Go.Ab
namespace Go.Ab
open Go
variable{B H E dc e1 P T c f fn h aH h1 h2 n k6 f1 gm name bm ad t v ap w aE aM ca σ τ lF}{a:Act}
abbrev dZ(r:Option Nat):Fence:={fn:=fun _=>True,depth:=none,alive:=false,round:=r}
theorem aaP(r:Option Nat)(k:Nat):(dZ r).room k:=fun _ h=>by cases h
structure cl (P:Program):Prop where
 aaQ:∀(f:Nat) (fn:Func), P.funcs[f]? = some fn->fn.name≠ "runtime.NumGoroutine"
 mixed:P.follows .mixedOrders=true
section
class gi where
 e8:Nat->Option _root_.Go.Obj
 d3:Nat
structure fV [gi] (P:Program) (B:Nat) (σ:eH) (h:Nat->Option Obj) (H:an) (w:World):Prop where
 fM:jK σ B h w
 sub:rB H h
 c7:B<=w.heap.size
 G7:uF P σ
 wf:mb H
 cj:H.cX<=H.next
 base:∀c,c<B->w.heap[c]?=gi.e8 c
 d3:gi.d3<=B
variable[gi]
theorem hr.base(g:hr B σ h n w τ aH k6 aE)(ah:jK σ B h w)(c7:B<=w.heap.size)(d:∀c,c<B->w.heap[c]?=gi.e8 c):∀c,c<B->aE.heap[c]?=gi.e8 c:=fun c a=>
 (g.ks c (Nat.lt_of_lt_of_le a c7) (fun⟨id,b,o,s,h1,h2,e⟩=>by
  obtain⟨bC,f,bJ,i,j⟩:=ah.own id b h1 h2
  grind)).trans (d c a)
structure e2 (B:Nat) (σ:eH) (h:Nat->Option Obj) (H:an) (w:World) (τ:eH) (aH:Nat->Option Obj) (E:an) (aE:World):Prop where
 fT:hr B σ h H.next w τ aH E.next aE
 sub:rB E aH
 tm:∀id b,eB h H E id=some b->aH id=some b
 jL:fG H E
def fO(σ:eH)(n k6:Nat):Prop:=∀i,n<=i->i<k6->σ i=none
theorem fV.next(k:fV P B σ h H w)(s:e2 B σ h H w τ aH E aE):fV P B τ aH E aE:=by refine⟨s.fT.fM,s.sub,Nat.le_trans k.c7 s.fT.size,fun g a=>?_,s.jL.CY k.wf,s.jL.wf k.cj,s.fT.base k.fM k.c7 k.base,k.d3⟩;obtain⟨z,b⟩:=k.G7 g a;exact⟨z,s.fT.mono _ _ b⟩
theorem e2.refl(k:fV P B σ h H w):e2 B σ h H w σ h H w:=⟨hr.refl k.fM,k.sub,fun id b a=>by rwa [xM]at a,fG.refl H⟩
theorem aaR{h2:Nat->Option Obj}(ah:jK σ B h w)(a:rB H h)(d:fO σ H.next dc.next)(j:fG H dc)
  (p:∀id b,eB h H dc id=some b->h1 id=some b) (k:∀id b,eB h1 dc e1 id=some b->h2 id=some b):∀id b,eB h H e1 id=some b->h2 id=some b:=by
 intro id b f;refine k id b ?_;by_cases l:e1.cg id=dc.cg id
 grind[eB]
 have:eB h1 dc e1 id=e1.cg id:=by simp_all[eB]
 rw[this];unfold eB at f;split at f;rename_i e;cases i:H.cg id with
 | some m=>have:=a id m i;simp_all
 | none=>
  exfalso;have g:dc.cg id≠none:=fun q=>l a1
  have:=j.cB id i g;have n:=d id this.1 this.2;obtain⟨c,o,s,r⟩:=(ah.e7 id b f).tl
  simp_all
 omega
theorem e2.trans(k:fV P B σ h H w)(c:fO σ H.next dc.next)(a:e2 B σ h H w τ h1 dc aM)(b:e2 B τ h1 dc aM lF h2 e1 ca):
  e2 B σ h H w lF h2 e1 ca:=
 ⟨a.fT.trans b.fT,b.sub,aaR k.fM k.sub c a.jL a.tm b.tm,a.jL.trans b.jL⟩
theorem fO.left(f:fO σ n gm)(h1:f1<=gm):fO σ n f1:=fun i a b=>f i a (Nat.lt_of_lt_of_le b h1)
theorem fO.right(f:fO σ n gm)(g:hr B σ h n w τ h1 f1 aM):fO τ f1 gm:=fun i a b=>by rw[g.ext i (.inr a)];exact f i (Nat.le_trans g.dI a) b
theorem e2.aaS(k:fV P B σ h H w)(g:hr B σ h H.next w τ (eB h H E) E.next aE)(m:fG H E):e2 B σ h H w τ (eB h H E) E aE:=
 ⟨g,k.sub.fo,fun _ _ a=>a,m⟩
def wh:lX->Exit
 | .normal=>.normal
 | .exit id=>.exit id
 | .ret=>.ret
structure G8 (τ:eH) (aH:Nat->Option Obj) (E:an) (d3:Nat) (ms:List Deferred):Prop where
 xN:∀d∈ms,∃id c o s,d.target=.collected c/\τ id=some (c,o,s)/\aH id=some .ln/\E.cg id=none/\d3<=id/\id<E.next
 Af:ms.Pairwise fun d e=>d.target≠e.target
def qC(B:Nat)(σ:eH)(h:Nat->Option Obj)(H:an)(w:World)(ds:List Deferred)(aY:eG):Exit->Act->World->Prop:=
 fun e a aE=>e=wh aY.cG/\∃ms τ aH,a.defers=ms++ds/\G8 τ aH aY.H H.next ms/\bt τ aY.T a.tmps.toList/\e2 B σ h H w τ aH aY.H aE
def G9:vS->an
 | .loop _ _ _ H=>H
 | .call _ _ H=>H
 | .round _ _ H=>H
structure gB [gi] (P:Program) (be:hY):Prop where
 jL:∀t aY,be t=some aY->(G9 t).cX<=(G9 t).next->fG (G9 t) aY.H
 call:∀f args H cG v E,be (.call f args H)=some ⟨cG,[v],E⟩->∀(B:Nat) (σ:eH) (h:Nat->Option Obj) (w:World) (fb:Array Value),fV P B σ h H w->fO σ H.next E.next->bt σ args fb.toList->
  (∃fn c,P.funcs[f]?=some fn/\fn.body=some c)/\CallsIn (dZ none) 0 P f fb w (fun e aE=>∃ap τ aH,e=.returned ap/\bV τ v ap/\e2 B σ h H w τ aH E aE)
 round:∀l args H cG v E,be (.round l args H)=some ⟨cG,[v],E⟩->∀(B:Nat) (σ:eH) (h:Nat->Option Obj) (w:World) (fb:Array Value) (c o s:Nat) (r:Option Nat),fV P B σ h H w->fO σ H.next E.next->bt σ args fb.toList->σ l=some (c,o,s)->
  ∃fn tmps cD body,(Instr.yield c fb).run P w=.ok (.round c fn tmps cD body) w/\RoundIn (dZ r) 0 P c fn tmps cD body w (fun e aE=>∃ap τ aH,e=.returned ap/\bV τ v ap/\e2 B σ h H w τ aH E aE)
 loop:∃n,∀c6 c T H aY,be (.loop c6 c T H)=some aY->∀(B:Nat) (σ:eH) (h:Nat->Option Obj) (w:World) (a:Act) (r:Option Nat),(c6=true->r=none)->fV P B σ h H w->fO σ H.next aY.H.next->bt σ T a.tmps.toList->
  Code.roundsIn (dZ r) 0 P c (qC B σ h H w a.defers aY) n a w
theorem NB(b:bt σ T a.tmps.toList)(o:Oper):Region.wanted o (yielded bm a.tmps)=(gF bm.toList o.guard).f T:=by
 unfold Region.wanted gF;cases o.guard with
 | none=>rfl
 | some h=>
  obtain⟨j,bF⟩:=h;simp only[yielded];have e:bm.toList[j]?=bm[j]?:=aW
  rw[e];cases a2:(bm[j]?).bind (·.dst)with
  | none=>rfl
  | some d=>
   simp only[Option.bind_some,mr];cases c:T[d]? with
   | none=>
    have:a.tmps[d]?=none:=by
     have g:=b.length
     simp_all
    simp_all[undef]
   | some v=>
    obtain⟨ap,i,g⟩:=b.get d v c;have:a.tmps[d]?=some ap:=a1
    rw[this];simp only[getD_eq_getElem?_getD,c];cases g<;>first|rfl|(cases bF<;>simp)
theorem sl(b:bt σ T a.tmps.toList)(d:Option Tmp)(c:bV σ v ap):bt σ (gz T d v) (a.put d ap).tmps.toList/\(a.put d ap).defers=a.defers:=by
 cases d with
 | none=>exact⟨b,rfl⟩
 | some d=>refine⟨?_,rfl⟩;show bt σ (fZ T d v) (a.tmps.setIfInBounds d ap).toList;rw[mu,Array.toList_setIfInBounds];exact b.set d c
theorem C1(a:cl P)(b:P.funcs[f]?=some fn)(d:fn.body=some c)(args:Array Value)(w:World):(callFunc f args).run P w=.ok (.enter f args) w:=by
 have e:=a.aaQ f fn b
 simp_all[callFunc]
theorem aaT(a:Gq P t name=some (f,ad))(h:Gr P t=some ad)(v:Value)(w:World)(n:Nat):
  (method (n+1) t v name).run P w=.ok (f,v) w:=by
 unfold Gq at a;cases aB:P.info? t with
 | none=>simp_all
 | some i=>
  rw[aB]at a;simp only at a;cases j:i.methods.toList.find? (fun m=>m.name==name)with
  | none=>simp_all
  | some m=>
   rw[j]at a;simp only at a;cases hpath:m.path.toList with
   | cons _ _=>simp_all
   | nil=>
    rw[hpath]at a;have b:i.methods.find? (fun m=>m.name==name)=some m:=a1
    unfold Gr at h;have c:∃d,P.underlying t=some d/\(match d with|.pointer _=>true|_=>false)=ad:=aT
    obtain⟨d,c,g⟩:=c;unfold method;have e:(typeInfo t).run P w=.ok i w:=by simp[typeInfo,aB]
    simp only[Sem.run_bind,e,Result.andThen_ok,b,hpath,follow,Sem.run_pure,a,receiverAt,run_underlying c];cases ad with
    | true=>
     cases d<;>first|(cases g;done)|skip
     rfl
    | false=>cases d<;>first|(cases g;done)|(simp[Place.get])
end
end Go.Ab
namespace Go.Ab
open Go
variable{B H E P T c e aI h id k eF d6 key nb sm m nM n o ok r s a6 t v w x bA σ}
theorem C2:∀(l:List (Nat×iZ)) (i:Nat) (v:iZ),dV l i≠none->dV (jW l i v) i=some v
 | [],_,_,h=>absurd rfl h
 | x::r,i,v,h=>by
  have b:dV (x::r) i=cond (beq x.1 i) (some x.2) (dV r i):=rfl;have a:jW (x::r) i v=cond (beq x.1 i) ((i,v)::r) (x::jW r i v):=rfl;rw[a];cases c:beq x.1 i with
  | true=>
   show cond (beq i i) (some v) _=some v
   simp_all
  | false=>
   show cond (beq x.1 i) (some x.2) (dV (jW r i v) i)=some v
   simp_all[C2]
theorem tn:∀(l:List (Nat×iZ)) (i j:Nat) (v:iZ),j≠i->dV (jW l i v) j=dV l j
 | [],_,_,_,_=>rfl
 | x::r,i,j,v,h=>by
  have c:dV (x::r) j=cond (beq x.1 j) (some x.2) (dV r j):=rfl;have d:jW (x::r) i v=cond (beq x.1 i) ((i,v)::r) (x::jW r i v):=rfl;rw[c,d];cases e:beq x.1 i with
  | true=>
   have a:=eq_of_beq_eq_true e;have b:beq i j=false:=by
    cases f:beq i j with
    | false=>rfl
    | true=>exact absurd (eq_of_beq_eq_true f).symm h
   show cond (beq i j) (some v) (dV r j)=_;rw[a,b];rfl
  | false=>show cond (beq x.1 j) (some x.2) (dV (jW r i v) j)=_;rw[tn r i j v h]
theorem nc(x:Nat×iZ)(r:List (Nat×iZ))(j:Nat):dV (x::r) j=if x.1=j then some x.2 else dV r j:=by
 show cond (beq x.1 j) (some x.2) (dV r j)=_
 simp_all
theorem C3(H:an)(i:Nat):(o5 H).cg i=if i=H.next then some (.loop (ij []))else H.cg i:=by
 have g:(o5 H).get i=if i=H.next then none else H.get i:=by
  show(H.t.set H.next none).get i=_;by_cases h1:i=H.next
  simp_all[Tr.uA]
  rw[if_neg h1,Tr.jZ _ _ _ _ h1];rfl
 have l:dV (o5 H).c5 i=if H.next=i then some (ij [])else dV H.c5 i:=nc _ _ _
 unfold an.cg
 grind
theorem aaU(d:H.cX<=H.next):fG H (o5 H):=by
 refine⟨by show _<=H.next+1;omega,rfl,fun i a=>?_,fun i h aH=>?_,fun b=>⟨fun i a=>?_,fun i a=>?_⟩⟩;rw[C3,if_neg U];rw[C3]at aH;split at aH;rename_i e;subst e;exact⟨Nat.le_refl _,by show _<H.next+1;omega⟩
 simp_all
 show i<H.next+1;rw[C3]at a;split at a;omega;have:=b.lt i a;omega;have c:dV (o5 H).c5 i=if H.next=i then some (ij [])else dV H.c5 i:=nc _ _ _
 rw[c]at a;show(H.t.set H.next none).get i=none;by_cases h1:H.next=i
 simp_all[Tr.uA]
 rw[if_neg h1]at a;rw[Tr.jZ _ _ _ _ (Ne.symm h1)];exact b.o9 i a
section
theorem aaV(ah:jK σ B h w)(c7:B<=w.heap.size)(q:mb H)(N:σ H.next=none)(d4:True):
  ∃ τ,hr B σ h H.next w τ (eB h H (o5 H)) (o5 H).next (w.alloc (.map #[] 0))/\bV τ (.map (some H.next)) (.map (some w.heap.size)):=by
 let g:eH:=fun id=>if id=H.next then some (w.heap.size,0,0)else σ id
 have a:∀id x,σ id=some x->g id=some x:=fun id x ey=>aT
 have cr:g H.next=some (w.heap.size,0,0):=if_pos rfl;have p:∀id,id≠H.next->g id=σ id:=fun id e=>if_neg e
 have c8:H.cg H.next=none:=Classical.byContradiction fun e=>absurd (q.lt _ e) U
 have l8:∀id,eB h H (o5 H) id=if id=H.next then some (.loop (ij []))else h id:=by simp_all[eB,C3]
 have r:∀id b c o s,h id=some b->σ id=some (c,o,s)->c<w.heap.size:=fun id b c o s f k=>((ah.e7 id b f).dW k).2
 have t:∀c,c<w.heap.size->(w.alloc (.map #[] 0)).heap[c]?=w.heap[c]?:=fun c k=>by
  show(w.heap.push _)[c]?=_
  grind
 have u:(w.alloc (.map #[] 0)).heap[w.heap.size]?=some (.map #[] 0):=by show(w.heap.push _)[w.heap.size]?=_;simp
 have d:∀id b,eB h H (o5 H) id=some b->(id=H.next/\b=.loop (ij []))\/(id≠H.next/\h id=some b):=aT
 have v:jK g B (eB h H (o5 H)) (w.alloc (.map #[] 0)):=by
  refine⟨fun id b f=>?_,fun id b f m=>?_,fun i j gN ft y z C m=>?_⟩;rcases d id b f with⟨rfl,rfl⟩|⟨e,f⟩
  exact⟨_,_,_,_,cr,u,#[],0,rfl,.nil⟩;have F:=ah.e7 id b f;have gA:=r id b;cases b with
  | cells x=>obtain⟨c,o,s,I,d4,S,l,M,J,V,W,X⟩:=F;exact⟨c,o,s,I,d4,S,a _ _ l,a1,J,V,W.mono a,X⟩
  | loop x=>obtain⟨c,o,s,bW,l,M,J⟩:=F;exact⟨c,o,s,bW,a _ _ l,a1,J.mono a⟩
  | ln=>obtain⟨c,o,s,l,M⟩:=F;exact⟨c,o,s,a _ _ l,a1⟩
  rcases d id b f with⟨rfl,rfl⟩|⟨e,f⟩
  simp_all
  obtain⟨c,o,s,cU,dw⟩:=ah.own id b f m
  simp_all
  intro c o s bC l1 bJ k n;rcases d i gN z with⟨rfl,rfl⟩|⟨K,z⟩<;>rcases d j ft C with⟨rfl,rfl⟩|⟨b1,C⟩
  omega
  grind
  grind
  rw[p i K]at k;rw[p j b1]at n;exact ah.jG i j gN ft y z C m _ _ _ _ _ _ k n
 refine⟨g,⟨v,le_succ _,fun id L=>p id (fun e=>?_),a,rfl,rfl,rfl,a1,fun c k _=>t c k,fun c ⟨id,b,o,s,f,m,k⟩ hlt'=>?_⟩,.ti _ _ _ _ cr .nil⟩;rcases L with l|l
 omega;have:H.next+1<=id:=l;omega;rcases d id b f with⟨rfl,rfl⟩|⟨K,f⟩
 simp_all
 rw[p id K]at k;exact⟨id,b,o,s,f,m,k⟩
theorem jK.map(ah:jK σ B h w)(b:rB H h)(d:mb H)(g:dV H.c5 id=some r)(i:k2 r=true):
  h id=some (.loop r)/\H.get id=none/\∃c o s aI n,σ id=some (c,o,s)/\B<=c/\w.heap[c]?=some (.map aI n)/\bt σ r.T (we aI):=by
 have j:=d.o9 id aT;have f:H.cg id=some (.loop r):=by simp_all[an.cg]
 have e:=b id _ f;obtain⟨c,o,s,a,k,l,m⟩:=ah.e7 id _ e;obtain⟨bC,p,bJ,q,t⟩:=ah.own id _ e rfl
 simp_all[qB]
theorem aaW{H:an}(a:H.get id=none)(c:dV H.c5 id=some r)(i:Nat):an.cg ⟨H.t,H.next,H.cX,jW H.c5 id v⟩ i=if i=id then some (.loop v)else H.cg i:=by
 show(match H.get i with|some b=>some (Obj.cells b)|none=>(dV (jW H.c5 id v) i).map .loop)=_;by_cases aB:i=id
 simp_all[C2]
 rw[if_neg aB,tn _ _ _ _ aB];rfl
theorem NC(g:H.cX<=id)(h:dV H.c5 id=some r):fG H ⟨H.t,H.next,H.cX,jW H.c5 id v⟩:=by
 have a:∀i,an.cg ⟨H.t,H.next,H.cX,jW H.c5 id v⟩ i=none↔H.cg i=none:=by
  intro i;rw[pa,pa];show H.get i=none/\dV (jW H.c5 id v) i=none↔_
  grind[C2,tn]
 refine⟨Nat.le_refl _,rfl,fun i c=>?_,fun i c d=>absurd ((a i).2 c) d,fun f=>⟨fun i c=>f.lt i (fun e=>c ((a i).2 e)),fun i c=>?_⟩⟩;show(match H.get i with|some b=>some (Obj.cells b)|none=>(dV (jW H.c5 id v) i).map .loop)=_;rw[tn _ _ _ _ U];rfl;refine f.o9 i ?_
 grind[tn]
theorem aaX(ah:jK σ B h w)(m:rB H h)(C:mb H)(gA:dV H.c5 id=some r)(hm:k2 r=true)(hv:k2 v=true)(f:σ id=some (c,o,s))(gC:bt σ v.T (we aI)):
  hr B σ h H.next w σ (eB h H ⟨H.t,H.next,H.cX,jW H.c5 id v⟩) H.next (w.putObj c (.map aI n)):=by
 obtain⟨F,hg,bC,d,bJ,awf,iv,bO,q2,fu,jM⟩:=ah.map m C gA hm;rw[f]at bO;cases bO;have fR:=(Array.getElem?_eq_some_iff.1 fu).1;have z:∀i,eB h H ⟨H.t,H.next,H.cX,jW H.c5 id v⟩ i=if i=id then some (.loop v)else h i:=by
  intro i;unfold eB;rw[aaW hg gA];by_cases e:i=id;have pL:H.cg id=some (.loop r):=by simp_all[an.cg]
  simp_all
  simp_all
 have I:∀i b bC d bJ,i≠id->h i=some b->σ i=some (bC,d,bJ)->bC≠c:=fun i b bC d bJ g a k e=>by subst e;exact ah.jG id i _ b (Ne.symm g) F a rfl _ _ _ _ _ _ f k rfl
 have put:∀ {i b},oy σ w i b->(∀bC d bJ,σ i=some (bC,d,bJ)->bC≠c)->oy σ (w.putObj c (.map aI n)) i b:=by
  intro i b l g;have e:∀bC,bC≠c->(w.putObj c (.map aI n)).heap[bC]?=w.heap[bC]?:=fun bC h=>World.putObj_heap_other h
  cases b with
  | cells b=>obtain⟨bC,d,bJ,J,d4,mQ,p,h2,K,g0,iL,j0⟩:=l;exact⟨bC,d,bJ,J,d4,mQ,p,a1,K,g0,iL,j0⟩
  | loop r=>obtain⟨bC,d,bJ,bW,p,h2,K⟩:=l;exact⟨bC,d,bJ,bW,p,a1,K⟩
  | ln=>obtain⟨bC,d,bJ,p,h2⟩:=l;exact⟨bC,d,bJ,p,a1⟩
 have L:jK σ B (eB h H ⟨H.t,H.next,H.cX,jW H.c5 id v⟩) (w.putObj c (.map aI n)):=by
  refine⟨fun i b a=>?_,fun i b a q=>?_,fun i j gN ft g aB M q=>?_⟩;rw[z]at a;by_cases aB:i=id;subst aB;rw[if_pos rfl]at a;cases a;refine⟨c,o,s,_,f,World.putObj_heap_same fR,?_⟩
  simp_all[qB]
  rw[if_neg aB]at a;exact put (ah.e7 i b a) fun bC d bJ k=>I i b bC d bJ aB a k
  rw[z]at a;by_cases aB:i=id
  simp_all
  rw[if_neg aB]at a;exact ah.own i b a q;intro aaY aQ aaZ aa0 aa1 CX N S;rw[z]at aB M;by_cases V:i=id
  grind
  rw[if_neg V]at aB;by_cases W:j=id
  grind
  rw[if_neg W]at M;exact ah.jG i j gN ft g aB M q _ _ _ _ _ _ N S
 have u:∀x,wg σ (eB h H ⟨H.t,H.next,H.cX,jW H.c5 id v⟩) x->wg σ h x:=by rintro x ⟨i,b,bP,cr,a,q,y⟩;rw[z]at a;by_cases aB:i=id;subst aB;exact⟨i,_,bP,cr,F,rfl,y⟩;rw[if_neg aB]at a;exact⟨i,b,bP,cr,a,q,y⟩
 refine⟨L,Nat.le_refl _,fun _ _=>rfl,fun _ _ h=>h,rfl,rfl,rfl,Nat.le_of_eq World.putObj_size.symm,fun x y X=>?_,fun x y _=>u x y⟩;refine World.putObj_heap_other ?_;rintro rfl;exact X ⟨id,_,o,s,F,rfl,f⟩
theorem aa2(h:qn k eF=true):k=eF:=by cases k<;>cases eF<;>first|rfl|cases h
theorem C4(o:bV σ key nb)(d:(a6=true/\d6=.string)\/(a6=false/\∃k,d6=.int k)):∀(aI:List MapEntry) (T:aj) (x:Option Value) (i:Nat),bt σ T (aI.flatMap fun e=>[e.key,e.val])->sb a6 key T=some x->
  match x with
  | none=>Instr.findNow d6 nb aI i=some none
  | some v=>∃j ap,Instr.findNow d6 nb aI i=some (some (j,ap))/\bV σ v ap
 | [],T,x,i,f,c=>by
  obtain rfl:T=[]:=by cases f;rfl
  cases c;rfl
 | e::aI,T,x,i,f,c=>by
  cases T with
  | nil=>cases f
  | cons k T=>
  cases T with
  | nil=>
   obtain⟨w,bQ,g,h,n⟩:=f.k7;injection g with _ g
   rw[<- g]at n;cases n
  | cons v T=>
  obtain⟨w,bQ,g,h,n⟩:=f.k7;obtain⟨ap,J,y,K,B⟩:=n.k7;injection g with C u
  rw[y]at u;injection u with g3 g4
  subst C;subst g4;have c:(match xp a6 key k with|some true=>some (some v)|some false=>sb a6 key T|none=>none)=some x:=c;have F:∀b,xp a6 key k=some b->Instr.sameNow d6 nb e.key=some b:=by
   intro b a;rcases d with⟨rfl,rfl⟩|⟨rfl,L,rfl⟩
   ·cases key with
    | string cr=>
     cases k with
     | string H=>
      have p:nb=.string cr:=by cases o;rfl
      have q:e.key=.string H:=by generalize e.key=z at h;cases h;rfl
      rw[p,q];exact a
     | _=>cases a
    | _=>cases a
   ·cases key with
    | int l r=>
     cases k with
     | int s t=>
      have p:nb=.int l r:=by cases o;rfl
      have q:e.key=.int s t:=by generalize e.key=z at h;cases h;rfl
      rw[p,q]
      replace a:(match qn l s with|true=>some (mN r t)|false=>none)=some b:=a
      cases m:qn l s with
      | true=>
       rw[m]at a;have a:=a;have:=aa2 m;subst this;injection a with a
       subst a;show(if l=l then some (r==t)else none)=_;rw[if_pos rfl,ow]
       congr 1
      | false=>simp_all
     | _=>cases a
    | _=>cases a
  have I:Instr.findNow d6 nb (e::aI) i=(match Instr.sameNow d6 nb e.key with|some true=>some (some (i,e.val))|some false=>Instr.findNow d6 nb aI (i+1)|none=>none):=rfl;rw[I];cases a:xp a6 key k with
  | none=>simp_all
  | some b=>
   rw[a]at c;rw[F b a];cases b with
   | true=>grind
   | false=>exact C4 o d aI T x (i+1) B c
theorem Ha(b:P.underlying sm=some d6)(a:d6=.string\/∃k,d6=.int k)(w:World):(Instr.checkKey e 10000 sm key).run P w=.ok () w:=by show(Instr.checkKey e (9999+1) sm key).run P w=_;generalize 9999=d;simp only[Instr.checkKey,Sem.run_bind,run_underlying b];rcases a with rfl|⟨k,rfl⟩<;>rfl
theorem ND(h:w.heap[c]?=some (.map aI n)):(getObj c).run P w=.ok (.map aI n) w:=by simp[getObj,Sem.run,h]
theorem aa3(O:Go.Obj)(h:w.heap[c]?=some (.map aI n)):(setObj c O).run P w=.ok () (w.putObj c O):=by simp[setObj,Sem.run,h,World.putObj]
theorem NE(h:vR P t=some (a6,e)):∃sm d6,P.underlying t=some (.map sm e)/\P.underlying sm=some d6/\((a6=true/\d6=.string)\/(a6=false/\∃k,d6=.int k)):=by grind[vR]
theorem Hb(a:P.underlying sm=some d6)(b:Instr.findNow d6 key aI 0=some r)(w:World):(Instr.findKey sm key aI).run P w=.ok r w:=by simp_all[Instr.findKey,run_underlying]
theorem NF(ah:jK σ B h w)(b:rB H h)(d:mb H)(f:bV σ m nM)(a:xq m H=some T):
  (m=.map none/\nM=.map none/\T=[])\/∃id c o s aI n r,m=.map (some id)/\nM=.map (some c)/\dV H.c5 id=some r/\k2 r=true/\r.T=T/\σ id=some (c,o,s)/\w.heap[c]?=some (.map aI n)/\bt σ T (we aI):=by
 unfold xq at a;split at a;split at a;cases a;cases f;simp_all;split at a;rename_i r g;split at a;rename_i e;cases a;obtain⟨_,_,c,o,s,aI,n,i,_,j,k⟩:=ah.map b d g e;cases f
 simp_all
 grind
 grind
 grind
theorem aa4(ah:jK σ B h w)(l:rB H h)(J:mb H)(X:bV σ m nM)(V:bV σ key nb)(d:sc P t ok m key H=some (v,E)):
  E=H/\∃ap,(Instr.lookup t nM nb ok).run P w=.ok ap w/\bV σ v ap:=by
 unfold sc at d;split at d
 case h_2=>cases d
 case h_1 a6 e ll=>
 split at d
 case h_2=>cases d
 case h_1 z nQ=>
 split at d
 case h_2=>cases d
 case h_1 T gC=>
 obtain⟨sm,K,q,f,u⟩:=NE ll;have g:K=.string\/∃k,K=.int k:=aT
 obtain⟨i,C,b⟩:∃i:Array MapEntry,bt σ T (we i)/\∀x,Instr.findNow K nb i.toList 0=some x->(Instr.lookup t nM nb ok).run P w=((match x with
   | some (_,v)=>pure (v,true)
   | none=>do pure (<- zeroValue e,false):Sem (Value×Bool)).run P w).andThen fun p aE=>.ok (if ok then .tuple #[p.1,.bool p.2]else p.1) aE:=by
  rcases NF ah l J X gC with⟨_,rfl,rfl⟩|⟨id,c,o,s,i,n,r,_,rfl,_,_,_,_,I,eh⟩
  ·refine⟨#[],.nil,fun x L=>?_⟩;unfold Instr.lookup;simp only[Sem.run_bind,run_underlying q,Result.andThen_ok,Sem.run_pure,Ha f g,Hb f L];cases x with
   | none=>simp_all[pK]
   | some y=>rfl
  ·refine⟨i,eh,fun x L=>?_⟩;unfold Instr.lookup;simp only[Sem.run_bind,run_underlying q,Result.andThen_ok,ND I,Sem.run_pure,Ha f g,Hb f L];cases x with
   | none=>simp_all[pK]
   | some y=>rfl
 split at d
 ·rename_i v0 M;cases d;have N:=C4 V u i.toList T _ 0 C M;obtain⟨j,ap,S,I⟩:=N;refine⟨rfl,xr ok ap true,?_,?_⟩
  ·rw[b _ S];cases ok<;>rfl
  ·cases ok
   ·exact I
   ·exact .tuple _ _ (I.cons (.bool true .nil)) .nil
 ·rename_i M;cases d;have S:=C4 V u i.toList T _ 0 C M;obtain⟨CT,W⟩:=pK nQ w;refine⟨rfl,xr ok z false,?_,?_⟩
  ·rw[b _ S];simp only[Sem.run_bind,CT,Sem.run_pure,Result.andThen_ok];cases ok<;>rfl
  ·cases ok
   ·exact rv W
   ·exact .tuple _ _ ((rv W).cons (.bool false .nil)) .nil
 grind
theorem Ag(ah:jK σ B h w)(b:rB H h)(f:mb H)(L:bV σ m nM)(C:bV σ key nb)(M:bV σ x bA)(a:qt P t m key x H=some (v,E)):
  v=undef/\fG H E/\∃aE,(Instr.mapUpdate t nM nb bA).run P w=.ok () aE/\hr B σ h H.next w σ (eB h H E) E.next aE:=by
 unfold qt at a;split at a
 case h_2=>cases a
 case h_1 a6 e ll=>
 split at a
 case h_2=>cases a
 case h_1 X=>
 split at a
 case h_2=>cases a
 case h_1 id=>
 split at a
 case h_2=>cases a
 case h_1 d=>
 split at a
 case h_2=>cases a
 case h_1 T N=>
 split at a
 case h_2=>cases a
 case h_1 S=>
 obtain⟨sm,F,l,g,p⟩:=NE ll;have i:F=.string\/∃k,F=.int k:=aT
 rcases NF ah b f L N with⟨q,_⟩|⟨V,c,o,s,u,n,r,q,rfl,I,y,_,z,J,j⟩
 ·cases q
 cases q;cases a;have d:=le_of_ble_eq_true d;have W:=C4 C p u.toList T _ 0 j S;have K:bt σ (T++[key,x]) (we (u.push {key:=nb,val:=bA,born:=n})):=by unfold we;rw[Array.toList_push,flatMap_append];exact j.append (C.cons (M.cons .nil))
 refine⟨rfl,NC d I,w.putObj c (.map (u.push {key:=nb,val:=bA,born:=n}) (n+1)),?_,?_⟩
 ·unfold Instr.mapUpdate;rw[Sem.run_bind,run_underlying l,Result.andThen_ok];simp only[Sem.run_bind,ND J,Result.andThen_ok,Ha g i,Hb g W,aa3 _ J]
 ·exact aaX ah b f I y rfl z (by grind[ij,gM])
theorem aa5(a:sc P t ok m key H=some (v,E)):fG H E:=by
 unfold sc at a
 grind[fG.refl]
theorem aa6(h:xq (.map (some id)) H=some T):∃r,dV H.c5 id=some r/\k2 r=true/\r.T=T:=by
 have h:(match dV H.c5 id with|some r=>(match k2 r with|true=>some r.T|false=>none)|none=>none)=some T:=h
 grind
theorem NG(a:qt P t m key x H=some (v,E)):fG H E:=by
 unfold qt at a;split at a
 case h_2=>cases a
 case h_1 a6 e ll=>
 split at a
 case h_2=>cases a
 grind[aa6,NC,le_of_ble_eq_true]
end
end Go.Ab
namespace Go.Ab
open Go
variable{B H E P Q T a f h next op r self v w x σ}
variable[gi]
section
theorem Ah(a:qv self x H=some (v,E)):∃t cG,x=some t/\self (Cw H t)=some ⟨cG,[v],E⟩:=by
 unfold qv at a
 grind
theorem xO(d:gB P self)(b:H.cX<=H.next)(a:(gZ P op).f self T H=some (v,E)):fG H E:=by
 have c:∀x,qv self x H=some (v,E)->fG H E:=by intro x e;obtain⟨t,g,_,ah⟩:=Ah e;have:=d.jL _ _ ah;cases t<;>exact this b
 unfold gZ at a;split at a
 case h_2=>cases a
 case h_1=>
 unfold td at a;split at a
 ·split at a
  ·exact(CV b a).NA
  ·grind
  grind
 ·grind[aaU]
 ·exact aa5 a
 ·exact NG a
 ·exact NG a
 ·exact(CV b a).NA
theorem aa7(c:Call)(d4:TypeId)(a:Act)(f:FuncId)(first cap:Array Value)(a8:Operand)(b:c.callee=.value a8)(e:a.eval a8=.func (.func f) first cap)(w:World):
  (do let d<-resolve a.eval c d4;invoke d.target d.args:Sem Next).run P w=(callFunc f (first++c.args.map a.eval++cap)).run P w:=by
 simp_all[resolve,Deferred.ofValue,invoke]
theorem aa8(c:Call)(d4:TypeId)(a:Act)(l:Nat)(a8:Operand)(b:c.callee=.value a8)(e:a.eval a8=.func (.yield l) #[] #[])(w:World):
  (do let d<-resolve a.eval c d4;invoke d.target d.args:Sem Next).run P w=(Instr.yield l (c.args.map a.eval)).run P w:=by
 simp_all[resolve,Deferred.ofValue,invoke]
theorem Hc(kd:cl P)(ib:gB P self)(o:Oper)(ah:jK σ B h w)(c7:B<=w.heap.size)(dJ:uF P σ)
  (C5:(gL P o.op=1\/gL P o.op=4)->∀x∈o.op.operands.toList,∀id,vV ((da x).g T)=some id->∀b,H.cg id=some b->h id=some b) (X:mb H) (wi:H.cX<=H.next) (N:gL P o.op=3->fV P B σ h H w) (xP:fO σ H.next E.next) (gC:bt σ T a.tmps.toList)
  (C:(gZ P o.op).f self T H=some (v,E))
  (eZ:∀ap τ aE,bV τ v ap->hr B σ h H.next w τ (eB h H E) E.next aE->next (a.put o.dst ap) aE):o.wpIn (dZ r) 0 P a w next Q:=by
 refine⟨fun _ _=>trivial,?_⟩;unfold gZ at C;split at C
 case h_2=>cases C
 case h_1 z=>
 have S:(∀c,o.op≠.defer c)->(hJ P o.op).f T H=some (v,E)->o.uponIn (dZ r) 0 P a next Q ((o.semAt (dZ r).round a.eval).run P w):=by
  intro a2 q;rw[Oper.semAt_eq _ _ _ a2];obtain⟨jN,ap,aE,τ,h1,V,eh,g0⟩:=aax o ah.cells c7 dJ gC xP z (fun fD x s id v6 b d5=>sk.2 (C5 fD x s id v6 _ (by simp_all[an.cg]))) q;have m:=CV wi q;have g0:=hr.xL ah g0 m.c0 (m.o9 X);rw[h1];rcases V with rfl|⟨rfl,rfl⟩
  ·exact eZ ap τ aE eh g0
  ·exact eZ undef τ aE eh g0
 have K:∀f n fb cG,gL P o.op=3->(∃c,o.op=.call c)->(execOp a.eval o).run P w=(callFunc f fb).run P w->self (.call f n H)=some ⟨cG,[v],E⟩->bt σ n fb.toList->o.uponIn (dZ r) 0 P a next Q ((o.semAt (dZ r).round a.eval).run P w):=by intro f n fb cG F ⟨m9,qD⟩ he L hv;obtain⟨⟨fn,c,hf,d5⟩,fR⟩:=ib.call f n H cG v E L B σ h w fb (N F) xP hv;rw[Oper.semAt_eq _ _ _ a1,he,C1 kd hf d5];rw[Oper.uponIn_enter];refine⟨fun a2=>absurd a2 aW,?_⟩;have:CallsIn (dZ r) 0 P f fb w (fun e aE=>∃ap τ aH,e=.returned ap/\bV τ v ap/\e2 B σ h H w τ aH E aE):=fR;refine CallsIn.mono this ?_;rintro e aE ⟨ap,τ,aH,rfl,h1,V⟩;exact eZ ap τ aE h1 (V.fT.CZ V.tm)
 rw[ia,all_eq_true]at z;have W:∀ {t:TypeId} {m nd x:Operand},gL P o.op=3->o.op.operands=#[m,nd,x]->(∀c,o.op≠.defer c)->execOp a.eval o=(do Instr.mapUpdate t (a.eval m) (a.eval nd) (a.eval x);pure .skip)->qt P t ((da m).g T) ((da nd).g T) ((da x).g T) H=some (v,E)->o.uponIn (dZ r) 0 P a next Q ((o.semAt (dZ r).round a.eval).run P w):=by intro t m nd x F awg a2 I l8;have k:=N F;obtain⟨rfl,hm,aE,h1,V⟩:=Ag ah k.sub X (ry gC dJ m (z m a1)) (ry gC dJ nd (z nd a1)) (ry gC dJ x (z x a1)) l8;rw[Oper.semAt_eq _ _ _ a2,I];simp only[Sem.run_bind,h1,Result.andThen_ok,Sem.run_pure,Oper.uponIn_skip];exact eZ undef σ aE .undef V
 unfold td at C;split at C
 case h_6 awh awi awj awk o7=>refine S ?_ C;intro c e;rw[e]at C;cases C
 case h_2 t jN q=>
  split at C
  case h_2=>cases C
  case h_1=>
  cases C;have F:gL P o.op=3:=by simp_all[gL]
  have k:=N F;obtain⟨τ,eA,fC⟩:=aaV ah c7 X (xP _ (Nat.le_refl _) (lt_succ_self _)) trivial;rw[Oper.semAt_eq _ _ _ a1];have I:(execOp a.eval o).run P w=.ok (.value (.map (some w.heap.size))) (w.alloc (.map #[] 0)):=by simp_all[execOp,Instr.makeMap]
  grind[Oper.uponIn_value]
 case h_3 t x i ok q=>
  have F:gL P o.op=3:=by simp_all[gL]
  have k:=N F;obtain⟨rfl,ap,h1,V⟩:=aa4 ah k.sub X (ry gC dJ x (z x (by simp_all[Op.operands]))) (ry gC dJ i (z i (by simp_all[Op.operands]))) C;rw[Oper.semAt_eq _ _ _ a1];have I:(execOp a.eval o).run P w=.ok (.value ap) w:=by simp_all[execOp]
  rw[I,Oper.uponIn_value];refine eZ ap σ w V ?_
  simp_all[xM,hr.refl]
 case h_4 t m nd x q=>exact W (by simp_all[gL]) (by rw[q];rfl) a1 (by simp_all[execOp]) C
 case h_5 t m nd x q=>exact W (by simp_all[gL]) (by rw[q];rfl) a1 (by simp_all[execOp]) C
 case h_1 c q=>
  have I:execOp a.eval o=(do let d<-resolve a.eval c o.type;invoke d.target d.args:Sem Next):=by simp_all[execOp]
  have J:bt σ (iK c.args.toList T) (c.args.map a.eval).toList:=by
   have:=CS gC dJ c.args.toList fun y fS=>z y (by simp_all[Op.operands,Call.operands])
   simp_all
  split at C
  case h_1 b d5=>simp_all
  case h_2 a8 fR=>
   obtain⟨t,cG,s,L⟩:=Ah C;have M:=ry gC dJ a8 (z a8 (by simp_all[Op.operands,Call.operands]));unfold qu at s;split at s
   case h_2=>cases s
   case h_1 fn first cap pM=>
   split at s
   case h_3=>cases s
   case h_2 l=>
    split at s
    case h_2=>cases s
    case h_1=>
    cases s;rw[pM]at M;generalize sn:a.eval a8=fv at M;cases M;rename_i cc aa9 cM aba _ _;obtain⟨fn,tmps,cD,body,fS,ar⟩:=ib.round l _ H cG v E L B σ h w (c.args.map a.eval) cc aa9 cM r (N (by simp_all[gL])) xP J aba;rw[Oper.semAt_eq _ _ _ a1,I,aa8 c o.type a cc a8 fR sn w,fS,Oper.uponIn_round];refine⟨fun a2=>absurd a2 aW,RoundIn.mono ar ?_⟩;rintro e aE ⟨ap,τ,aH,rfl,h1,V⟩;exact eZ ap τ aE h1 (V.fT.CZ V.tm)
   case h_1 g=>
   cases s;rw[pM]at M;generalize sn:a.eval a8=fv at M;cases M;rename_i abb abc abd abe _;refine K g _ (abb++c.args.map a.eval++abc) cG (by simp_all[gL]) ⟨c,q⟩ ?_ L ?_
   ·grind[aa7]
   ·rw[gM,gM];simp only[Array.toList_append];rw[append_assoc];exact abd.append (J.append abe)
  case h_3 Hd name fR=>
   obtain⟨tt,cG,s,L⟩:=Ah C;have He:=ry gC dJ Hd (z Hd (by simp_all[Op.operands,Call.operands]));unfold Gs at s;split at s
   case h_2=>cases s
   case h_1 t u abf=>
   split at s
   case h_2=>cases s
   case h_1 uG ad hm=>
   split at s
   case h_2=>cases s
   case h_1 b jJ=>
   split at s
   case isFalse=>cases s
   case isTrue NH=>
   cases s;rw[abf]at He;generalize sn:a.eval Hd=fU at He;cases He;rename_i rC l8 _;have NH:b=ad:=a1
   subst NH;refine K uG _ (#[rC]++c.args.map a.eval) cG (by simp_all[gL]) ⟨c,q⟩ ?_ L ?_
   ·rw[I];have abg:∀fb:Array Value,invoke (.fn (.method name) #[]) (#[Value.iface t rC]++fb)=callMethod (.iface t rC) name fb:=by
     intro fb;have pL:(#[Value.iface t rC]++fb)[0]?=some (.iface t rC):=aT
     have cU:(#[Value.iface t rC]++fb).extract 1 (#[Value.iface t rC]++fb).size=fb:=a1
     grind[invoke]
    simp only[resolve,fR,sn,Sem.run_bind,Sem.run_pure,Result.andThen_ok,abg];simp only[callMethod,Sem.run_bind,run_program,Result.andThen_ok];have awl:=aaT hm jJ rC w (P.types.size+Made.depth-1)
    simp_all[Made.depth]
   ·simp only[Array.toList_append];exact l8.cons J
theorem C6(i:cl P)(d:gB P self)(o:Oper)(k:fV P B σ h H w)(c:fO σ H.next E.next)(j:bt σ T a.tmps.toList)
  (e:(gZ P o.op).f self T H=some (v,E))
  (l:∀ap τ aH aE,bV τ v ap->e2 B σ h H w τ aH E aE->next (a.put o.dst ap) aE):o.wpIn (dZ r) 0 P a w next Q:=
 Hc i d o k.fM k.c7 k.G7 (fun _ _ _ id _ b m=>k.sub id b m) k.wf k.cj (fun _=>k) c j e fun ap τ aE n g=>l ap τ _ aE n (e2.aaS k g (xO d k.cj e))
theorem qE(b:gB P self)(all:List Oper):∀(l:List Oper) (T:aj) (H:an) (aY:eG),H.cX<=H.next->hZ P self all l T H=some aY->fG H aY.H/\aY.cG=.normal
 | [],T,H,aY,_,c=>by cases c;exact⟨fG.refl H,rfl⟩
 | o::l,T,H,aY,d,c=>by have a:fB P self o ((gF all o.guard).f T) T H (hZ P self all l)=some aY:=c;unfold fB at a;split at a;split at a;rename_i v g ah;have m:=xO b d ah;have e:=qE b all l _ g aY (m.wf d) a;exact⟨m.trans e.1,e.2⟩;cases a;exact qE b all l _ H aY d a
theorem Ai{P:Program}{B:Nat}{self:hY}{Q:Exit->Act->World->Prop}(p:cl P)(g:gB P self)(bm:Array Oper)(r:Option Nat):∀(l:List Oper) (i:Nat),bm.toList.drop i=l->
  ∀(σ:eH) (h:Nat->Option Obj) (T:aj) (H:an) (w:World) (a:Act) (aY:eG),fV P B σ h H w->fO σ H.next aY.H.next->bt σ T a.tmps.toList->hZ P self bm.toList l T H=some aY->
  (∀ τ aH dP aE,bt τ aY.T dP.tmps.toList->dP.defers=a.defers->e2 B σ h H w τ aH aY.H aE->Q .normal dP aE)->wpOpsIn (dZ r) 0 P bm Q (range' i l.length) a w
 | [],i,q,σ,h,T,H,w,a,aY,k,c,e,s,m=>by cases s;exact m σ h a w e rfl (e2.refl k)
 | o::l,i,q,σ,h,T,H,w,a,aY,k,c,e,s,m=>by
  have C:bm[i]?=some o:=by
   have:(bm.toList.drop i)[0]?=some o:=by rw[q];rfl
   simpa using this
  have j:bm.toList.drop (i+1)=l:=by
   have:(bm.toList.drop i).drop 1=l:=by rw[q];rfl
   rwa [drop_drop]at this
  have b:fB P self o ((gF bm.toList o.guard).f T) T H (hZ P self bm.toList l)=some aY:=s;unfold fB at b;simp only[length_cons,range'_succ,wpOpsIn,C];have n:=NB e (bm:=bm) o;split at b;rename_i d;rw[d]at n;rw[if_pos n];split at b;rename_i v y ah;have F:=xO g k.cj ah;have z:=qE g bm.toList l _ y aY (F.wf k.cj) b;refine C6 p g o k (c.left z.1.dI) e ah ?_;intro ap τ aH aE I st;obtain⟨b5,ax⟩:=sl (e.mono st.fT.mono) o.dst I;exact Ai p g bm r l (i+1) j τ aH _ y aE _ aY (k.next st) (c.right st.fT) b5 b fun t u dP ca bO q2 x=>m t u dP ca bO (q2.trans ax) (st.trans k (c.left z.1.dI) x)
  cases b;rename_i d;rw[d]at n;rw[if_neg (by rw[n];simp)];refine⟨fun _ _=>trivial,?_⟩;obtain⟨b5,ax⟩:=sl e o.dst (bV.undef);exact Ai p g bm r l (i+1) j σ h _ H w _ aY k c b5 b fun t u dP ca bO q2 x=>m t u dP ca bO (q2.trans ax) x
end
end Go.Ab
namespace Go.Ab
open Go
variable{A hs B cZ C H E P S kK T fa a b d e h id j be op post pre u v}{t:Nat}
variable[gi]
theorem abh(a:∀id,hs.cg id=A.cg id\/cZ.cg id=B.cg id):eB (eB h A hs) B cZ=eB (eB h B cZ) A hs:=by grind[eB]
theorem Hf{d:Option Tmp}(h:d≠some t):bS (gz T d v) t=bS T t:=by
 cases d with
 | none=>rfl
 | some d=>
  show bS (fZ T d v) t=_
  simp_all[mu,mr]
theorem abi(h:bS A t=bS C t)(a:A.length=C.length):bS (gz A d v) t=bS (gz C d v) t:=by
 by_cases a2:d=some t;subst a2;show bS (fZ A t v) t=bS (fZ C t v) t
 grind[mu,mr]
 simp_all[Hf]
theorem C7:(gz T d v).length=T.length:=by
 cases d with
 | none=>rfl
 | some d=>show(fZ T d v).length=_;simp_all[mu]
theorem abj(h:∀x,d=some x->e≠some x):gz (gz T d v) e u=gz (gz T e u) d v:=by
 cases d with
 | none=>rfl
 | some d=>
  cases e with
  | none=>rfl
  | some e=>
   show fZ (fZ T d v) e u=fZ (fZ T e u) d v
   simp_all[mu,set_comm]
structure iw where
 o:Oper
 p:mp
 T:aj
 H:an
 v:Value
 E:an
 w:Bool
def iw.jO(e:iw):kG:=pG e.o e.p e.T e.H e.E
def g1(S:Nat->Bool):aj->List iw->aj
 | T,[]=>T
 | T,e::r=>g1 S (if S e.p.cI then gz T e.o.dst e.v else T) r
def g2(S:Nat->Bool):(Nat->Option Obj)->List iw->(Nat->Option Obj)
 | h,[]=>h
 | h,e::r=>g2 S (if S e.p.cI then eB h e.H e.E else h) r
def nf:aj->an->List iw->aj->an->Prop
 | T,H,[],fa,E=>T=fa/\H=E
 | T,H,e::r,fa,E=>e.T=T/\e.H=H/\nf (gz T e.o.dst e.v) e.E r fa E
theorem Hg(S:Nat->Bool)(a b:List iw):∀T,g1 S T (a++b)=g1 S (g1 S T a) b:=by
 induction a with
 | nil=>intro T;rfl
 | cons e r c=>intro T;exact c _
theorem NI(S:Nat->Bool)(a b:List iw):∀h,g2 S h (a++b)=g2 S (g2 S h a) b:=by
 induction a with
 | nil=>intro T;rfl
 | cons e r c=>intro T;exact c _
theorem nf.split(c:nf T H (a++e::b) fa E):nf T H a e.T e.H/\nf (gz e.T e.o.dst e.v) e.E b fa E:=by
 induction a generalizing T H with
 | nil=>obtain⟨d,f,g⟩:=c;subst d;subst f;exact⟨⟨rfl,rfl⟩,g⟩
 | cons x r h=>obtain⟨d,f,g⟩:=c;obtain⟨i1,i⟩:=h g;exact⟨⟨d,f,i1⟩,i⟩
theorem NJ:∀ {pre:List iw} {T fa:aj} {H E:an} {h:Nat->Option Obj},nf T H pre fa E->(∀k∈pre,S k.p.cI=false->k.E.cg id=k.H.cg id)->(∀b,H.cg id=some b->h id=some b)->
  ∀b,E.cg id=some b->g2 S h pre id=some b
 | [],_,_,_,_,_,c,_,c8,b,a=>by obtain⟨_,rfl⟩:=c;exact c8 b a
 | e::r,T,fa,H,E,h,c,d,c8,b,a=>by
  obtain⟨rfl,rfl,c⟩:=c;refine NJ c (fun k f=>d k (by simp[f])) (fun b a=>?_) b a;by_cases g:S e.p.cI=true
  grind[eB]
  grind
theorem NK:∀ {post:List iw} {h:Nat->Option Obj},(∀k∈post,S k.p.cI=true->k.E.cg id=k.H.cg id)->g2 S h post id=h id
 | [],_,_=>rfl
 | e::r,h,a=>by
  show g2 S (if S e.p.cI then eB h e.H e.E else h) r id=h id;rw[NK (fun k b=>a k (by simp[b]))];split
  simp_all[eB]
  rfl
theorem abk(c:nf T H (pre++j::post) fa E)(a:S j.p.cI=false)
  (h1:∀k∈pre,S k.p.cI=false->k.E.cg id=k.H.cg id) (h2:∀k∈post,S k.p.cI=true->k.E.cg id=k.H.cg id) (c8:∀b,H.cg id=some b->h id=some b):
  ∀b,j.H.cg id=some b->g2 S h (pre++j::post) id=some b:=by
 intro b d;rw[NI];show g2 S (if S j.p.cI then eB _ j.H j.E else g2 S h pre) post id=some b;rw[NK h2];simp only[a,if_false];exact NJ c.split.1 h1 c8 b d
theorem NL:∀ {post:List iw} {h:Nat->Option Obj},(∀k∈post,S k.p.cI=true->∀id,hs.cg id=A.cg id\/k.E.cg id=k.H.cg id)->g2 S (eB h A hs) post=eB (g2 S h post) A hs
 | [],_,_=>rfl
 | e::r,h,a=>by
  show g2 S (if S e.p.cI then eB (eB h A hs) e.H e.E else eB h A hs) r=eB (g2 S (if S e.p.cI then eB h e.H e.E else h) r) A hs;have b:=fun h=>NL (post:=r) (h:=h) (fun k c=>a k (by simp[c]))
  split;rename_i d;rw[abh (a e aW d),b];exact b h
theorem NM:∀ {l:List iw} {h:Nat->Option Obj},(∀k∈l,kK k.p.cI=S k.p.cI)->g2 kK h l=g2 S h l
 | [],_,_=>rfl
 | e::r,h,a=>by simp_all[g2,NM]
theorem abl(b:S j.p.cI=false)(a:kK j.p.cI=true)(ah:∀k∈pre++post,kK k.p.cI=S k.p.cI)
  (c:∀k∈post,S k.p.cI=true->∀id,j.E.cg id=j.H.cg id\/k.E.cg id=k.H.cg id):g2 kK h (pre++j::post)=eB (g2 S h (pre++j::post)) j.H j.E:=by
 simp_all[NI,g2,NM,NL]
theorem Hh:∀ {pre:List iw} {T fa A:aj} {H E:an},nf T H pre fa E->(∀k∈pre,S k.p.cI=false->k.o.dst≠some t)->bS A t=bS T t->A.length=T.length->
  bS (g1 S A pre) t=bS fa t/\(g1 S A pre).length=fa.length
 | [],_,_,_,_,_,c,_,c8,a=>by obtain⟨rfl,_⟩:=c;exact⟨c8,a⟩
 | e::r,T,fa,A,H,E,c,d,c8,a=>by
  obtain⟨rfl,rfl,c⟩:=c;show bS (g1 S (if S e.p.cI then gz A e.o.dst e.v else A) r) t=bS fa t/\(g1 S (if S e.p.cI then gz A e.o.dst e.v else A) r).length=_;by_cases b:S e.p.cI=true;simp only[b,if_true];exact Hh c (fun k f=>d k (by simp[f])) (abi c8 a) (by rw[C7,C7,a]);have b:S e.p.cI=false:=by simpa using b
  simp only[b,Bool.false_eq_true,if_false];exact Hh c (fun k f=>d k (by simp[f])) (by rw[Hf (d e aW b),c8]) (by rw[C7,a])
theorem NN:∀ {post:List iw} {A:aj},(∀k∈post,S k.p.cI=true->k.o.dst≠some t)->bS (g1 S A post) t=bS A t
 | [],_,_=>rfl
 | e::r,A,a=>by show bS (g1 S (if S e.p.cI then gz A e.o.dst e.v else A) r) t=bS A t;rw[NN (fun k b=>a k (by simp[b]))];split;rename_i c;exact Hf (a e aW c);rfl
theorem abm{j:iw}(c:nf T H (pre++j::post) fa E)(a:S j.p.cI=false)
  (h1:∀k∈pre,S k.p.cI=false->k.o.dst≠some t) (h2:∀k∈post,S k.p.cI=true->k.o.dst≠some t):bS (g1 S T (pre++j::post)) t=bS j.T t:=by
 rw[Hg];show bS (g1 S (if S j.p.cI then _ else g1 S T pre) post) t=_;rw[NN h2];simp only[a,if_false];exact(Hh c.split.1 h1 rfl rfl).1
theorem NO{v:Value}:∀ {post:List iw} {A:aj},(∀k∈post,S k.p.cI=true->∀x,d=some x->k.o.dst≠some x)->g1 S (gz A d v) post=gz (g1 S A post) d v
 | [],_,_=>rfl
 | e::r,A,a=>by
  show g1 S (if S e.p.cI then gz (gz A d v) e.o.dst e.v else gz A d v) r=gz (g1 S (if S e.p.cI then gz A e.o.dst e.v else A) r) d v;have b:=fun A=>NO (v:=v) (post:=r) (A:=A) (fun k c=>a k (by simp[c]))
  split;rename_i f;rw[abj (a e aW f),b];exact b A
theorem NP:∀ {l:List iw} {A:aj},(∀k∈l,kK k.p.cI=S k.p.cI)->g1 kK A l=g1 S A l
 | [],_,_=>rfl
 | e::r,A,a=>by simp_all[g1,NP]
theorem abn(b:S j.p.cI=false)(a:kK j.p.cI=true)(ah:∀k∈pre++post,kK k.p.cI=S k.p.cI)
  (c:∀k∈post,S k.p.cI=true->∀x,j.o.dst=some x->k.o.dst≠some x):g1 kK T (pre++j::post)=gz (g1 S T (pre++j::post)) j.o.dst j.v:=by
 rw[Hg,Hg];show g1 kK (if kK j.p.cI then gz (g1 kK T pre) j.o.dst j.v else _) post=gz (g1 S (if S j.p.cI then _ else g1 S T pre) post) j.o.dst j.v
 simp_all[NP,NO]
theorem qF(m i:Nat):fA m i=m.testBit i:=by
 have a:land (shiftRight m i) 1=(m>>>i)%2:=and_one_is_mod (m>>>i)
 grind[fA,Nat.shiftRight_eq_div_pow,eq_of_beq_eq_true,ne_of_beq_eq_false]
def uH(all:List Oper)(S:Nat->Bool):Prop:=∀(i:Nat) (o:Oper),all[i]?=some o->S i=true->∀e∈o.after.toList,Region.binds .any e=true->S e.on=true
theorem abo(ms:List Nat)(o:Oper)(k:Nat)(i:fA (Gt ms o) k=true):∃e∈o.after.toList,Region.binds .any e=true/\(k=e.on\/∃m,ms[e.on]?=some m/\fA m k=true):=by
 have f:∀(l:List Edge) (s:Nat),fA (l.foldl (fun s e=>match Region.binds .any e with
   | true=>lor s (lor (shiftLeft 1 e.on) (match lW ms e.on with|some m=>m|none=>0))
   | false=>s) s) k=true->fA s k=true\/∃e∈l,Region.binds .any e=true/\(k=e.on\/∃m,ms[e.on]?=some m/\fA m k=true):=by
  intro l;induction l with
  | nil=>simp_all
  | cons e r j=>
   intro s h;rcases j _ h with h|⟨n,p,q⟩
   simp only at h;cases g:Region.binds .any e with
   | false=>simp_all
   | true=>
    rw[g]at h;simp only[qF]at h;rw[show∀a b:Nat,lor a b=a|||b from fun _ _=>rfl,show∀a b:Nat,lor a b=a|||b from fun _ _=>rfl,testBit_or,testBit_or]at h;simp only[Bool.or_eq_true]at h;rcases h with h|h|h
    simp_all[qF]
    right;refine⟨e,aW,g,.inl ?_⟩;have:shiftLeft 1 e.on=1<<<e.on:=rfl;rw[this,testBit_shiftLeft]at h
    grind[testBit_one_eq_true_iff_self_eq_zero]
    right;refine⟨e,aW,g,.inr ?_⟩;rw[ru]at h;cases t:ms[e.on]? with
    | none=>simp_all
    | some m=>simp_all[qF]
   grind
 rcases f _ _ i with h|h
 simp_all[qF]
 exact h
def Aj(all:List Oper)(i m:Nat):Prop:=∀S,uH all S->∀k,fA m k=true->∃o,all[i]?=some o/\((∀e∈o.after.toList,Region.binds .any e=true->S e.on=true)->S k=true)
theorem NQ(all:List Oper):∀(l:List Oper) (ms:List Nat),all.drop ms.length=l->(∀i m,ms[i]?=some m->Aj all i m)->∀i m,(zN ms l)[i]?=some m->Aj all i m
 | [],ms,_,c,i,m,h=>c i m h
 | o::l,ms,r,c,i,m,h=>by
  have w:all[ms.length]?=some o:=by
   have:(all.drop ms.length)[0]?=some o:=by rw[r];rfl
   simpa using this
  refine NQ all l (gx ms [Gt ms o]) ?_ ?_ i m h;rw[gM,length_append];have:(all.drop ms.length).drop 1=l:=by rw[r];rfl
  rwa [drop_drop]at this
  intro j q a;rw[gM]at a;by_cases x:j<ms.length;rw[getElem?_append_left x]at a;exact c j q a;rw[getElem?_append_right U]at a;have:j-ms.length=0:=by
   rcases eq_zero_or_pos (j-ms.length)with c8|c8
   exact c8;rw[getElem?_eq_none (by simp;omega)]at a;cases a
  rw[this]at a;simp at a;subst a;obtain rfl:j=ms.length:=U
  intro S s k y;refine⟨o,w,fun t=>?_⟩;obtain⟨e,u,v,z⟩:=abo ms o k y;rcases z with rfl|⟨B,d,b⟩
  exact t e u v;obtain⟨C,f,g⟩:=c e.on B d S s k b;exact g (fun F n p=>s e.on C f (t e u v) F n p)
theorem NR:∀(l:List Oper) (ms:List Nat) (i j:Nat) (x:Oper×Nat×Nat),(sd i l ms)[j]?=some x->l[j]?=some x.1/\x.2.1=i+j/\ms[j]?=some x.2.2
 | [],_,i,j,x,h=>by simp[sd]at h
 | o::r,[],i,j,x,h=>by simp[sd]at h
 | o::r,m::ms,i,j,x,h=>by
  cases j with
  | zero=>simp[sd]at h;subst h;exact⟨rfl,rfl,rfl⟩
  | succ j=>
   have aH:(sd (succ i) r ms)[j]?=some x:=by simpa [sd]using h
   obtain⟨a,c,b⟩:=NR r ms _ j x aH;exact⟨by simpa using a,U,by simpa using b⟩
theorem abp(l:List Oper):∀ms,(zN ms l).length=ms.length+l.length:=by
 induction l with
 | nil=>intro ms;rfl
 | cons o r a=>grind[zN,gM]
theorem NS:∀(l:List Oper) (ms:List Nat) (i:Nat),l.length=ms.length->(sd i l ms).length=l.length
 | [],[],_,_=>rfl
 | o::r,m::ms,i,h=>by simp[sd,NS r ms _ (by simpa using h)]
theorem abq(l:List Oper):(jE l).length=l.length:=NS _ _ _ (by rw[Mz,abp];simp)
theorem C8(l:List Oper)(j:Nat)(x:Oper×Nat×Nat)(h:(jE l)[j]?=some x):l[j]?=some x.1/\x.2.1=j/\Aj l j x.2.2:=by obtain⟨a,c,b⟩:=NR _ _ _ _ _ h;refine⟨a,U,NQ l l [] aW aW j _ b⟩
section
theorem NT(h:∀x∈op.operands.toList,(da x).g T=(da x).g fa):(gZ P op).f be T H=(gZ P op).f be fa H:=by
 unfold gZ;split;unfold td;split
 grind[Nx,Op.operands,Call.operands,xJ,map_congr_left]
 grind
 simp_all[Op.operands]
 simp_all[Op.operands]
 simp_all[Op.operands]
 exact Nx h;rfl
end
end Go.Ab
namespace Go.Ab
open Go
variable{H E P T all e id j be o p r fm v}
variable[gi]
section
structure uI (P:Program) (be:hY) (all:List Oper) (e:iw):Prop where
 w:e.w=(gF all e.o.guard).f e.T
 lo:e.w=true->qx P be e.o e.p e.T e.H=some (e.v,e.E)
 jp:e.w=false->e.v=undef/\e.E=e.H
def NU(k j:iw):Prop:=k.w=true->j.w=true->j.p.dW≠0->fA j.p.jX k.p.cI=true\/qw k.jO j.jO=true
theorem abr(a:zR p j fm=true)(b:j.dW≠0):∀k∈fm,fA p.jX k.cI=true\/qw k j=true:=by simp_all[zR,ia]
theorem C9(all:List Oper):∀(l:List (Oper×mp)) (T:aj) (H:an) (fm:List kG) (aY:eG),m6 P be all l T H fm=some aY->
  aY.cG=.normal/\∃aI:List iw,nf T H aI aY.T aY.H/\aI.map (fun e=>(e.o,e.p))=l/\(∀e∈aI,uI P be all e)/\aI.Pairwise NU/\
   (∀e∈aI,e.w=true->e.p.dW≠0->∀k∈fm,fA e.p.jX k.cI=true\/qw k e.jO=true)
 | [],T,H,fm,aY,n=>by cases n;exact⟨rfl,[],⟨rfl,rfl⟩,rfl,aW,.nil,aW⟩
 |(o,p)::l,T,H,fm,aY,n=>by
  have a:ou P be o p ((gF all o.guard).f T) T H fm (m6 P be all l)=some aY:=n;unfold ou at a;split at a;rename_i q;split at a;rename_i v E ah;split at a;rename_i C;obtain⟨r,aI,s,t,u,x,i⟩:=C9 all l _ _ _ aY a;refine⟨r,⟨o,p,T,H,v,E,true⟩::aI,⟨rfl,rfl,s⟩,by simp[t],?_,?_,?_⟩;intro e b;rcases List.mem_cons.1 b with rfl|b
  exact⟨q.symm,fun _=>ah,fun h=>by cases h⟩;exact u e b;refine List.pairwise_cons.2 ⟨fun j B _ y z=>?_,x⟩;have g:pG o p T H E∈pG o p T H E::fm:=mem_cons_self ..;exact i j B y z _ g;intro e b c d k m;rcases List.mem_cons.1 b with rfl|b
  exact abr C d k m;exact i e b c d k (mem_cons_of_mem _ m);cases a;cases a;rename_i q;obtain⟨r,aI,s,t,u,x,i⟩:=C9 all l _ _ _ aY a;refine⟨r,⟨o,p,T,H,undef,H,false⟩::aI,⟨rfl,rfl,s⟩,by simp[t],?_,?_,?_⟩;intro e b;rcases List.mem_cons.1 b with rfl|b
  exact⟨q.symm,fun h=>(by cases h),fun _=>⟨rfl,rfl⟩⟩;exact u e b;refine List.pairwise_cons.2 ⟨fun j B h=>(by cases h),x⟩;intro e b c d k m;rcases List.mem_cons.1 b with rfl|b
  cases c;exact i e b c d k m
theorem Hi(h:CA H r=some (v,E)):E=H/\∃dc,r=some (v,dc)/\dc.next=H.next:=by
 unfold CA at h
 grind[eq_of_beq_eq_true]
theorem abt(a:gB P be)(b:H.cX<=H.next)(c:qx P be o p T H=some (v,E)):fG H E:=by grind[qx,Hi,fG.refl,xO]
theorem uI.jL(c:gB P be)(a:uI P be all e)(d:e.H.cX<=e.H.next):fG e.H e.E:=by
 cases b:e.w with
 | true=>exact abt c d (a.lo b)
 | false=>rw[(a.jp b).2];exact fG.refl _
theorem Da(a:gB P be):∀ {aI:List iw} {T fa:aj} {H E:an},nf T H aI fa E->H.cX<=H.next->(∀e∈aI,uI P be all e)->fG H E
 | [],_,_,_,_,c,_,_=>by obtain⟨_,rfl⟩:=c;exact fG.refl _
 | e::r,T,fa,H,E,c,b,d=>by obtain⟨rfl,rfl,c⟩:=c;have m:=(d e aW).jL a b;exact m.trans (Da a c (m.wf b) fun k f=>d k (by simp[f]))
def wj(e:iw)(id:Nat):Prop:=e.E.cg id≠e.H.cg id
theorem wj.lt(m:fG e.H e.E)(a:mb e.H)(h:wj e id):id<e.E.next:=by by_cases c8:e.H.cg id=none;exact(m.cB id c8 (fun b=>h (b.trans c8.symm))).2;exact Nat.lt_of_lt_of_le (a.lt id c8) m.dI
theorem Db(_hS:gB P be)(j:uI P be all e)(l:e.p.jY=false->e.p.dW=gL P e.o.op)(C:e.H.cX<=e.H.next)(_hwf:mb e.H)(h:wj e id):
  e.w=true/\((e.p.dW=4/\(id∈e.jO.jF\/(e.H.next<=id/\id<e.E.next)))\/(e.p.dW=2/\e.H.next<=id/\id<e.E.next)\/(e.p.dW=3/\e.jO.ot id=false)):=by
 cases u:e.w with
 | false=>exact absurd (by rw[(j.jp u).2]) h
 | true=>
 refine⟨rfl,?_⟩;have n:=j.lo u;unfold qx at n;split at n
 ·exact absurd (by rw[(Hi n).1]) h
 rename_i q;have x:=l q;have awm:e.p.dW=3->e.jO.ot id=false:=by
  intro r;have:e.jO.ot id=ik e.H e.E id:=by show(pG e.o e.p e.T e.H e.E).ot id=_;simp only[pG,r]
  rw[this];cases ah:ik e.H e.E id with
  | false=>rfl
  | true=>obtain⟨b,F,I⟩:=aaK ah;exact absurd (by simp_all[an.cg]) h
 have s:∀(H0 a:an),H0.cX<=H0.next->(hJ P e.o.op).f e.T H0=some (e.v,a)->H0.cg=e.H.cg->H0.next=e.H.next->a.cg=e.E.cg->a.next=e.E.next->
   ((e.p.dW=4/\(id∈e.jO.jF\/(e.H.next<=id/\id<e.E.next)))\/(e.p.dW=2/\e.H.next<=id/\id<e.E.next)\/(e.p.dW=3/\e.jO.ot id=false)):=by
  intro H0 a i d y z B f1;have m:=CV i d;have g:a.get id≠H0.get id:=by intro j;refine h ?_;rw[<- B,<- y];unfold an.cg;rw[j,m.c0]
  rcases aaE d with(⟨k,c⟩|⟨k,c⟩)|c
  ·left;have t:=x.trans k;refine⟨t,?_⟩;have:=c id g;rw[z,f1]at this;rcases this with aH|aH
   ·left;show id∈(pG e.o e.p e.T e.H e.E).jF
    simp_all[pG]
   omega
  ·right;left;refine⟨x.trans k,?_⟩;have:=c id g
   simp_all
  simp_all
 have any:∀(H0 a:an),H0.cX<=H0.next->(gZ P e.o.op).f be e.T H0=some (e.v,a)->H0.cg=e.H.cg->H0.next=e.H.next->a.cg=e.E.cg->a.next=e.E.next->
   ((e.p.dW=4/\(id∈e.jO.jF\/(e.H.next<=id/\id<e.E.next)))\/(e.p.dW=2/\e.H.next<=id/\id<e.E.next)\/(e.p.dW=3/\e.jO.ot id=false)):=by
  intro H0 a i d y z B f1;unfold gZ at d;split at d
  case h_2=>cases d
  case h_1=>
  unfold td at d;split at d
  ·grind[gL]
  ·simp_all[gL]
  ·simp_all[gL]
  ·simp_all[gL]
  ·simp_all[gL]
  grind
 grind
end
end Go.Ab
namespace Go.Ab
open Go
variable{H H0 mx P S T all e aB i id j k l d3 m be o aY x y}
variable[gi]
section
structure lJ (all:List Oper) (k j:iw):Prop where
 cI:k.p.cI≠j.p.cI
 Hj:NU k j
 jX:fA j.p.jX k.p.cI=true\/oo all k.o j.o=true
 b6:k.E.next<=j.H.next
structure pN (P:Program) (be:hY) (all:List Oper) (H0 mx:an) (e:iw):Prop where
 ok:uI P be all e
 dW:e.p.jY=false->e.p.dW=gL P e.o.op
 jY:e.p.jY=true->gL P e.o.op=3
 jL:fG e.H e.E
 wf:mb e.H
 cj:e.H.cX<=e.H.next
 jX:Aj all e.p.cI e.p.jX
 e8:all[e.p.cI]?=some e.o
 abu:zQ e.o e.p.cI=true
 Ak:fG H0 e.H
 aB:e.E.next<=mx.next
theorem NV{P:Program}{be:hY}{all:List Oper}(d:gB P be):∀ {aI:List iw} {T fa:aj} {H E:an},nf T H aI fa E->H.cX<=H.next->mb H->(∀e∈aI,uI P be all e)->
  (∀e∈aI,fG H e.H/\fG e.H e.E/\mb e.H/\e.H.cX<=e.H.next/\e.E.next<=E.next)/\aI.Pairwise (fun k j=>k.E.next<=j.H.next)
 | [],_,_,_,_,_,_,_,_=>⟨aW,.nil⟩
 | e::r,T,fa,H,E,c,b,f,g=>by
  obtain⟨rfl,rfl,c⟩:=c;have m:=(g e aW).jL d b;have h:∀k∈r,uI P be all k:=fun k a=>g k (by simp[a])
  have i:=Da d c (m.wf b) h;obtain⟨i1,l⟩:=NV d c (m.wf b) (m.CY f) h;refine⟨fun k a=>?_,List.pairwise_cons.2 ⟨fun j n=>(i1 j n).1.dI,l⟩⟩;rcases List.mem_cons.1 a with rfl|a
  exact⟨fG.refl _,m,f,b,i.dI⟩;obtain⟨o,p,q,a4,a5⟩:=i1 k a;exact⟨m.trans o,p,q,a4,a5⟩
theorem Am(l:List (Oper×Nat×Nat))(x:Oper×Nat×Nat):(se P l x).cI=x.2.1/\(se P l x).jX=x.2.2/\(((se P l x).jY=false->(se P l x).dW=gL P x.1.op)/\((se P l x).jY=true->gL P x.1.op=3)):=by grind[se,MC]
theorem Hk(l:List (Oper×Nat×Nat)):(vT l).Perm l:=by unfold vT Gu;split;have:=filter_append_perm (fun(x:Oper×Nat×Nat)=>not (fA (zP l) x.2.1)) l;simpa using this;exact .refl _
theorem abv:xs x y=xs y x:=by
 unfold xs;cases x.dst with
 | none=>cases y.dst<;>rfl
 | some d=>cases y.dst with
  | none=>rfl
  | some e=>rw[Bool.eq_iff_iff,beq_eq,beq_eq];exact⟨Eq.symm,Eq.symm⟩
theorem abw(h:oo all x y=true):oo all y x=true:=by
 unfold oo at*;rw[abv]
 simp_all
theorem abx{aI:List iw}(k:aI.map (fun e=>(e.o,e.p))=oq P all)(l:e∈aI):
  all[e.p.cI]?=some e.o/\Aj all e.p.cI e.p.jX/\((e.p.jY=false->e.p.dW=gL P e.o.op)/\(e.p.jY=true->gL P e.o.op=3))/\(e.o,e.p.cI,e.p.jX)∈vT (jE all):=by
 have m:(e.o,e.p)∈oq P all:=by rw[<- k];exact List.mem_map.2 ⟨e,l,rfl⟩
 obtain⟨x,d,a⟩:=List.mem_map.1 m;have n:=(Hk _).mem_iff.1 d;obtain⟨j,q⟩:=mem_iff_getElem?.1 n;obtain⟨f,g,r⟩:=C8 all j x q;obtain⟨h,i,c⟩:=Am (jE all) x;have b:x.1=e.o:=congrArg Prod.fst a;have s:se P (jE all) x=e.p:=congrArg Prod.snd a;rw[b]at f c;rw[s]at h i c;rw[h,i,<- b];exact⟨by rw[g,b];exact f,by rw[g];exact r,by rw[b];exact c,d⟩
theorem aby(l:List Oper):(jE l).Pairwise (fun x y=>x.2.1<y.2.1):=by rw[pairwise_iff_getElem];intro i j c d e;have a:=(C8 l i _ (getElem?_eq_getElem c)).2.1;have b:=(C8 l j _ (getElem?_eq_getElem d)).2.1;omega
theorem abz(h:∀y∈jE all,∀x∈jE all,x.2.1<y.2.1->fA y.2.2 x.2.1=true\/oo all x.1 y.1=true):
  (vT (jE all)).Pairwise (fun x y=>x.2.1≠y.2.1/\(fA y.2.2 x.2.1=true\/oo all x.1 y.1=true)):=by
 have b:(jE all).Pairwise (fun x y=>x.2.1≠y.2.1/\(fA y.2.2 x.2.1=true\/oo all x.1 y.1=true)):=by have q:=aby all;rw[pairwise_iff_getElem]at q⊢;intro i j r s m;have:=q i j r s m;exact⟨U,h _ (getElem_mem s) _ (getElem_mem r) this⟩
 unfold vT Gu;split
 case h_2=>exact b
 case h_1 c=>
 rw[ia,all_eq_true]at c;refine List.pairwise_append.2 ⟨b.filter _,b.filter _,fun x u y v=>?_⟩;obtain⟨d,a⟩:=List.mem_filter.1 u;obtain⟨g,f⟩:=List.mem_filter.1 v;have o:x.2.1≠y.2.1:=by intro e;rw[e]at a;rw[f]at a;cases a
 refine⟨o,?_⟩;rcases Nat.lt_or_ge x.2.1 y.2.1 with p|w
 ·exact h y g x d p
 rcases h x d y g U with k|k
 ·exfalso;have l:=c x d;have a:fA (zP (jE all)) x.2.1=false:=by simpa using a
  rw[a]at l;have l:land (zP (jE all)) x.2.2=0:=by simpa using l
  rw[qF]at k f;have:=congrArg (fun n=>testBit n y.2.1) l;simp only[zero_testBit]at this;have t:(zP (jE all)&&&x.2.2).testBit y.2.1=false:=this;rw[testBit_and,k,f]at t;cases t
 ·exact .inr (abw k)
theorem abA(F:gB P be)(n:l2 P be all T H=some aY)(I:H.cX<=H.next)(L:mb H):
  aY.cG=.normal/\∃aI:List iw,nf T H aI aY.T aY.H/\(∀j,j<all.length->∃e∈aI,e.p.cI=j)/\(∀e∈aI,pN P be all H aY.H e)/\aI.Pairwise (lJ all)/\fG H aY.H:=by
 unfold l2 at n;split at n
 case h_2=>cases n
 case h_1 s=>
 obtain⟨M,aI,t,u,v,J,_⟩:=C9 all _ _ _ _ _ n;obtain⟨N,K⟩:=NV F t I L v;have c:=s;unfold Gv at c;rw[Bool.and_eq_true,ia,ia,all_eq_true,all_eq_true]at c;obtain⟨b5,ax⟩:=c;have w:=abz (by
  intro y S x V z;have q:=ax _ S;rw[ia,all_eq_true]at q;have q:=q _ V;have z:blt x.2.1 y.2.1=true:=a1
  simp_all)
 have f:aI.Pairwise (fun k j=>k.p.cI≠j.p.cI/\(fA j.p.jX k.p.cI=true\/oo all k.o j.o=true)):=by
  have:(oq P all).Pairwise (fun x y=>x.2.cI≠y.2.cI/\(fA y.2.jX x.2.cI=true\/oo all x.1 y.1=true)):=by
   unfold oq;rw[pairwise_map];refine w.imp fun {a b} B=>?_
   rw[(Am (jE all) a).1,(Am (jE all) b).1,(Am (jE all) b).2.1];exact B
  rw[<- u,pairwise_map]at this;exact this
 refine⟨M,aI,t,fun j g=>?_,fun e h=>?_,?_,Da F t I v⟩
 ·have l:j<(jE all).length:=by rw[abq];exact g
  have W:=(Hk _).mem_iff.2 (getElem_mem l);have X:=(C8 all j _ (getElem?_eq_getElem l)).2.1;have m:((jE all)[j].1,se P (jE all) (jE all)[j])∈oq P all:=List.mem_map.2 ⟨_,W,rfl⟩;rw[<- u]at m;obtain⟨e,h,C⟩:=List.mem_map.1 m;refine⟨e,h,?_⟩;have:e.p=se P (jE all) (jE all)[j]:=congrArg Prod.snd C;rw[this,(Am _ _).1,X]
 ·obtain⟨i2,a3,a4,a5⟩:=abx u h;obtain⟨b1,b2,o8,wb,Dc⟩:=N e h;refine⟨v e h,a4.1,a4.2,b2,o8,wb,a3,i2,?_,b1,Dc⟩;exact b5 _ ((Hk _).mem_iff.1 a5)
 ·rw[pairwise_iff_getElem]at J K f⊢;intro i j r g d;exact⟨(f i j r g d).1,J i j r g d,(f i j r g d).2,K i j r g d⟩
theorem NW{k:iw}(i3:uH all S)(c:pN P be all H0 mx j)(f:∀e∈j.o.after.toList,Region.binds .any e=true->S e.on=true)(g:S k.p.cI=false):fA j.p.jX k.p.cI=false:=by
 cases d:fA j.p.jX k.p.cI with
 | false=>rfl
 | true=>
  obtain⟨o,h,i⟩:=c.jX S i3 _ d;have l:=c.e8
  simp_all
theorem Hl{j:iw}(i3:uH all S)(ok:pN P be all H0 mx k)(b:S k.p.cI=true)(h:S j.p.cI=false):fA k.p.jX j.p.cI=false:=by
 cases c:fA k.p.jX j.p.cI with
 | false=>rfl
 | true=>
  obtain⟨o,d,f⟩:=ok.jX S i3 _ c;have:=f (fun e g a=>i3 k.p.cI o d b e g a)
  simp_all
theorem NX(h:om i l=false):i∉l:=by
 intro a;unfold om at h;rw[ia]at h;have h:(l.all fun j=>!(beq i j))=true:=aT
 rw[all_eq_true]at h;have:=h i a;simp at this
theorem NY(h:Cy o l=false):∀t∈l,o.dst≠some t:=by grind[Cy,NX]
theorem abB(h:xs x y=false):∀t,x.dst=some t->y.dst≠some t:=by
 intro t a b
 simp_all[xs]
theorem Dd(h:uu l d3 aB=true)(a:i∈l):i<d3\/aB<=i:=by
 unfold uu at h;rw[ia,all_eq_true]at h
 simp_all
theorem NZ(h:lj l m=true)(h1:i∈l):i∉m:=by simp_all[lj,ia,NX]
theorem abC(r:gB P be)(i3:uH all S)(s:pN P be all H0 mx j)(u:∀e∈j.o.after.toList,Region.binds .any e=true->S e.on=true)(f:j.w=true)
  (ok:pN P be all H0 mx k) (t:lJ all k j) (v:S k.p.cI=false) (g:(j.p.dW=3)\/((j.p.dW=1\/j.p.dW=4)/\id∈j.jO.jF)):k.E.cg id=k.H.cg id:=by
 apply Classical.byContradiction;intro h;obtain⟨x,y⟩:=Db r ok.ok ok.dW ok.cj ok.wf h;have B:=NW i3 s u v;have a:=t.Hj x f U;have a:qw k.jO j.jO=true:=a1
 have nd:k.jO.dW=k.p.dW:=rfl;have z:j.jO.dW=j.p.dW:=rfl;have i:k.jO.d3=k.H.next:=rfl;have l:k.jO.aB=k.E.next:=rfl;unfold qw at a;rw[nd,z,i,l]at a;rcases y with⟨m,b⟩|⟨m,b⟩|⟨m,b⟩<;>rcases g with n|⟨n|n,q⟩<;>rw[m,n]at a<;>simp only[Bool.and_eq_true]at a<;>first|(cases a;done)|skip
 ·rcases b with b|b
  ·grind[NZ]
  ·have:=Dd a.2 q;omega
 ·have:=Dd a q;omega
 ·have:=Dd a q;omega
 simp_all[ia]
theorem abD(c:gB P be)(i3:uH all S)(d:pN P be all H0 mx j)(a:S j.p.cI=false)(b:j.w=true)
  (ok:pN P be all H0 mx k) (t:lJ all j k) (e:S k.p.cI=true) (f:(j.p.dW=3)\/((j.p.dW=1\/j.p.dW=4)/\id∈j.jO.jF)) (g:id<j.H.next):k.E.cg id=k.H.cg id:=by
 apply Classical.byContradiction;intro h;obtain⟨i,l⟩:=Db c ok.ok ok.dW ok.cj ok.wf h;have m:=Hl i3 ok e a;have n:=t.Hj b i U;have o:k.jO.dW=k.p.dW:=rfl;have q:j.jO.dW=j.p.dW:=rfl;have r:=d.jL.dI;have s:=t.b6
 grind[qw,NZ,ia]
theorem abE(i:gB P be)(i3:uH all S)(b:pN P be all H0 mx j)(d:S j.p.cI=false)(ok:pN P be all H0 mx k)(t:lJ all j k)(n:S k.p.cI=true)(id:Nat):
  j.E.cg id=j.H.cg id\/k.E.cg id=k.H.cg id:=by
 apply Classical.byContradiction;intro o;obtain⟨l,cE⟩:=not_or.1 o;obtain⟨q,r⟩:=Db i ok.ok ok.dW ok.cj ok.wf cE;obtain⟨s,u⟩:=Db i b.ok b.dW b.cj b.wf l;have v:=wj.lt b.jL b.wf l;have x:=Hl i3 ok n d;have a:=t.Hj s q U;have a:qw j.jO k.jO=true:=a1
 have nd:k.jO.dW=k.p.dW:=rfl;have w:j.jO.dW=j.p.dW:=rfl;have e:j.jO.d3=j.H.next:=rfl;have f:j.jO.aB=j.E.next:=rfl;have y:=t.b6;unfold qw at a;rw[nd,w,e,f]at a;rcases r with⟨g,c⟩|⟨g,c⟩|⟨g,c⟩<;>rcases u with⟨h,m⟩|⟨h,m⟩|⟨h,m⟩<;>rw[g,h]at a<;>simp only at a<;>first|(cases a;done)|omega|skip
 rcases c with c|c
 ·have:=Dd a c;omega
 ·omega
end
end Go.Ab
namespace Go.Ab
open Go
variable{B H H0 mx N P Q S T fa oz a all aI h c8 h1 h2 listed be n f1 gm o bm aY w g6 aM ca σ σ0 τ lF}
variable[gi]
section
theorem hr.N0(a:hr B σ h n w τ h1 N aM)(b:hr B τ h1 f1 aM lF h2 gm ca)(j:n<=f1)(k:gm<=N):
  hr B σ h n w lF h2 N ca:=by
 refine⟨b.fM,a.dI,fun id g=>?_,fun id x i=>b.mono _ _ (a.mono _ _ i),b.os.trans a.os,b.tape.trans a.tape,b.output.trans a.output,Nat.le_trans a.size b.size,
  fun c d e=>?_,fun c f d=>a.pH c (b.pH c f (Nat.lt_of_lt_of_le d a.size)) d⟩
 rw[b.ext id U,a.ext id U];rw[b.ks c (Nat.lt_of_lt_of_le d a.size) (fun f=>e (a.pH c f d)),a.ks c d e]
theorem hr.abF(a:hr B σ h n w τ h1 f1 aM)(b:f1<=N):hr B σ h n w τ h1 N aM:=
 ⟨a.fM,Nat.le_trans a.dI b,fun id c=>a.ext id U,a.mono,a.os,a.tape,a.output,a.size,a.ks,a.pH⟩
theorem Oa:∀ {aI:List iw} {T fa:aj} {H E:an},nf T H aI fa E->(∀e∈aI,S e.p.cI=true)->g1 S T aI=fa
 | [],_,_,_,_,c,_=>c.1
 | e::r,T,fa,H,E,c,ah=>by obtain⟨rfl,rfl,c⟩:=c;show g1 S (if S e.p.cI then _ else _) r=fa;rw[if_pos (ah e aW)];exact Oa c fun k a=>ah k (by simp[a])
theorem Hm(id:Nat):∀ {aI:List iw} {T fa:aj} {H E:an} {h:Nat->Option Obj},nf T H aI fa E->(∀e∈aI,S e.p.cI=true)->
  ((∃e∈aI,wj e id)/\g2 S h aI id=E.cg id)\/(g2 S h aI id=h id/\E.cg id=H.cg id/\∀e∈aI,¬wj e id)
 | [],_,_,_,_,_,c,_=>by obtain⟨_,rfl⟩:=c;exact .inr ⟨rfl,rfl,aW⟩
 | e::r,T,fa,H,E,h,c,ah=>by
  obtain⟨rfl,rfl,c⟩:=c;have d:g2 S h (e::r) id=g2 S (eB h e.H e.E) r id:=by simp_all[g2]
  rw[d];rcases Hm id (h:=eB h e.H e.E) c fun k b=>ah k (by simp[b])with⟨⟨k,b,a⟩,h1⟩|⟨h1,h2,f⟩
  grind
  by_cases a:wj e id;refine .inl ⟨⟨e,aW,a⟩,?_⟩;rw[h1,h2];unfold eB;rw[if_neg a];refine .inr ⟨?_,?_,?_⟩;rw[h1];unfold eB;rw[if_pos (Classical.not_not.1 a)];rw[h2];exact Classical.not_not.1 a
  simp_all
theorem abG(i:fV P B σ0 c8 H0 g6)(j:fO σ0 H0.next mx.next)
  (c:nf T H0 aI fa mx) (s:∀e∈aI,pN P be all H0 mx e) (m:fG H0 mx) (ah:∀e∈aI,S e.p.cI=true) (g:hr B σ0 c8 H0.next g6 σ (g2 S c8 aI) mx.next w):e2 B σ0 c8 H0 g6 σ (g2 S c8 aI) mx w:=by
 refine⟨g,fun id b a=>?_,fun id b a=>?_,m⟩;rcases Hm id (h:=c8) c ah with⟨_,d⟩|⟨d,q,_⟩
 simp_all
 rw[d];exact i.sub id b (q▸a);rcases Hm id c ah with⟨⟨e,t,u⟩,d⟩|⟨d,q,_⟩
 rw[d];by_cases r:mx.cg id=H0.cg id;unfold eB at a;rw[if_pos r]at a;cases k:H0.cg id with
 | some v=>rw[r,k];have:=i.sub id v k;simp_all
 | none=>
  exfalso;have o:=s e t;have f:H0.next<=id/\id<mx.next:=by by_cases l:e.H.cg id=none;have n:=o.jL.cB id l (fun n=>u (n.trans l.symm));have:=o.Ak.dI;have:=o.aB;omega;have n:=o.Ak.cB id k l;have:=o.jL.dI;have:=o.aB;omega
  have x:=j id f.1 f.2;obtain⟨cc,y,cM,z⟩:=(i.fM.e7 id b a).tl
  simp_all
 simp_all[eB]
 simp_all[eB]
theorem abH{x:Operand}(h:∀t,x=.tmp t->bS T t=bS fa t):(da x).g T=(da x).g fa:=by
 cases x with
 | tmp t=>exact h t rfl
 | _=>rfl
theorem abI(h:∀t∈looks all o,bS T t=bS fa t):(gF all o.guard).f T=(gF all o.guard).f fa:=by
 unfold gF
 grind[looks,gM,ru]
theorem abJ(c:listed.size=bm.size)(d:∀(i:Nat) (o:Oper),bm[i]?=some o->zQ o i=true)(k:Region.ready .any bm listed=[]):
  ∀i,i<bm.size->listed.getD i false=true:=by
 intro i;induction i using Nat.strongRecOn with
 | ind i l=>
  intro f;apply Classical.byContradiction;intro m;have a:=Array.getElem?_eq_getElem f;have b:i∈Region.ready .any bm listed:=by
   rw[mem_ready];refine⟨?_,bm[i],a,fun e g h=>?_⟩
   simp_all
   have:=d i _ a;unfold zQ at this;rw[ia,all_eq_true]at this;have:=this e a1;rw[h]at this;have j:e.on<i:=a1
   grind
  simp_all
theorem abK(H:an)(id:Nat):(jY H).cg id=none:=ao
theorem abL{a0:Act}{aY:eG}{aI:List iw}(kd:cl P)(ib:gB P be)(bm:Array Oper)(r:Option Nat)(kJ:fV P B σ0 c8 H0 g6)
  (xP:fO σ0 H0.next aY.H.next) (fR:nf oz H0 aI aY.T aY.H) (Ob:∀j,j<bm.size->∃e∈aI,e.p.cI=j) (C:∀e∈aI,pN P be bm.toList H0 aY.H e) (abM:aI.Pairwise (lJ bm.toList)) (Hn:fG H0 aY.H)
  (iM:∀ τ aH dP aE,bt τ aY.T dP.tmps.toList->dP.defers=a0.defers->e2 B σ0 c8 H0 g6 τ aH aY.H aE->Q .normal dP aE):
  ∀(s:Nat) (listed:Array Bool) (a:Act) (w:World) (σ:eH),listed.size=bm.size->listed.toList.count false<=s->uH bm.toList (fun i=>listed.getD i false)->bt σ (g1 (fun i=>listed.getD i false) oz aI) a.tmps.toList->a.defers=a0.defers->
   hr B σ0 c8 H0.next g6 σ (g2 (fun i=>listed.getD i false) c8 aI) aY.H.next w->(∀e∈aI,listed.getD e.p.cI false=false->fO σ e.H.next e.E.next)->wpAnyIn (dZ r) 0 P .any bm Q s listed a w:=by
 have abN:∀(i:Nat) (o:Oper),bm[i]?=some o->zQ o i=true:=by
  intro i o gH;obtain⟨e,he,rfl⟩:=Ob i (Array.getElem?_eq_some_iff.1 gH).1;have on:=C _ he;have h1:=on.e8;have h2:=on.abu
  grind
 have gD:∀(listed:Array Bool) (a:Act) (w:World) (σ:eH),listed.size=bm.size->bt σ (g1 (fun i=>listed.getD i false) oz aI) a.tmps.toList->a.defers=a0.defers->
   hr B σ0 c8 H0.next g6 σ (g2 (fun i=>listed.getD i false) c8 aI) aY.H.next w->Region.ready .any bm listed=[]->Q .normal a w:=by
  intro listed a w σ lI gC a2 K g9;have hall:=abJ lI abN g9;have ah:∀e∈aI,(fun i=>listed.getD i false) e.p.cI=true:=by intro e he;have h1:=(C e he).e8;have h2:e.p.cI<bm.toList.length:=(List.getElem?_eq_some_iff.1 h1).1;exact hall _ (by simpa using h2)
  rw[Oa fR ah]at gC;exact iM σ _ a w gC a2 (abG kJ xP fR C Hn ah K)
 intro s;induction s with
 | zero=>
  intro listed a w σ lI abO i3 gC a2 K Ho;have g9:Region.ready .any bm listed=[]:=by
   cases g9:Region.ready .any bm listed with
   | nil=>rfl
   | cons i _=>
    exfalso;have aB:i∈Region.ready .any bm listed:=aT
    obtain⟨h1,_⟩:=mem_ready.1 aB;have:false∈listed.toList:=by
     by_cases rx:i<listed.size;simp only[Array.getD_eq_getD_getElem?,Array.getElem?_eq_getElem rx,Option.getD_some]at h1
     grind
     simp_all
    grind
  exact⟨g9,gD listed a w σ lI gC a2 K g9⟩
 | succ s v2=>
  intro listed a w σ lI abO i3 gC a2 K Ho;refine⟨gD listed a w σ lI gC a2 K,fun i aB=>?_⟩;obtain⟨awn,o,gH,abP⟩:=mem_ready.1 aB;have abQ:i<bm.size:=(Array.getElem?_eq_some_iff.1 gH).1;have tp:i<listed.size:=U
  have Oc:listed.getD i false=false:=aT
  obtain⟨j,Hp,Nc⟩:=Ob i abQ;have y:=C j Hp;have abR:j.o=o:=by
   have h1:=y.e8
   grind
  subst abR
  let S:Nat->Bool:=fun i=>listed.getD i false
  let l:=listed.setIfInBounds i true
  let kK:Nat->Bool:=fun i=>l.getD i false
  have V:S j.p.cI=false:=aT
  have Od:kK j.p.cI=true:=by show(listed.setIfInBounds i true).getD j.p.cI false=true;rw[Nc];simp[Array.getD_eq_getD_getElem?,tp]
  have Hq:∀m,m≠i->kK m=S m:=fun m hm=>getD_set_ne false (Ne.symm hm)
  obtain⟨pre,M,F⟩:=append_of_mem Hp;have Oe:=abM;rw[F]at Oe;obtain⟨_,abS,abT⟩:=List.pairwise_append.1 Oe;have u:∀k∈M,lJ bm.toList j k:=(List.pairwise_cons.1 abS).1;have N:∀k∈pre,lJ bm.toList k j:=fun k n=>abT k n j aW
  have abU:∀k∈pre,pN P be bm.toList H0 aY.H k:=fun k n=>C k aT
  have I:∀k∈M,pN P be bm.toList H0 aY.H k:=fun k n=>C k aT
  have Of:∀e∈j.o.after.toList,Region.binds .any e=true->S e.on=true:=fun e he d5=>abP e aT d5
  have abV:∀k∈pre,S k.p.cI=false->oo bm.toList k.o j.o=true:=fun k n q=>by
   have:=(N k n).jX;rw[NW i3 y Of q]at this
   grind
  have Og:∀k∈M,S k.p.cI=true->oo bm.toList j.o k.o=true:=fun k n q=>by
   have:=(u k n).jX
   grind[Hl]
  have Oh:∀t∈looks bm.toList j.o,bS (g1 S oz aI) t=bS j.T t:=by
   intro t ht;rw[F];have An:=fR;rw[F]at An;refine abm An V (fun k n q=>?_) (fun k n q=>?_);have:=abV k n q;unfold oo at this;simp only[Bool.and_eq_true,Bool.not_eq_true']at this
   grind[NY]
   have:=Og k n q;unfold oo at this;simp only[Bool.and_eq_true,Bool.not_eq_true']at this
   grind[NY]
  have sn:∀x∈j.o.op.operands.toList,(da x).g (g1 S oz aI)=(da x).g j.T:=fun x ey=>abH fun t e=>Oh t (by subst e;unfold looks;rw[gM];exact mem_append_left _ (List.mem_filterMap.2 ⟨.tmp t,ey,rfl⟩))
  have abW:(gF bm.toList j.o.guard).f (g1 S oz aI)=j.w:=by rw[abI Oh,y.ok.w]
  have fp:=NB gC (bm:=bm) j.o;have fp:Region.wanted j.o (yielded bm a.tmps)=j.w:=fp.trans abW;have Hr:uH bm.toList kK:=by
   intro m abX abY hm e he d5;by_cases hmi:m=i
   grind
   rw[Hq _ hmi]at hm;have:=i3 m abX abY hm e he d5
   grind
  have Oi:∀k∈pre++M,kK k.p.cI=S k.p.cI:=by
   intro k n;refine Hq _ ?_;rcases mem_append.1 n with n|n
   have:=(N k n).cI;omega;have:=(u k n).cI;omega
  have awo:g1 kK oz aI=gz (g1 S oz aI) j.o.dst j.v:=by
   rw[F];refine abn V Od Oi fun k n q x ey=>?_
   have:=Og k n q;unfold oo at this;simp only[Bool.and_eq_true,Bool.not_eq_true']at this
   grind[abB]
  have abZ:g2 kK c8 aI=eB (g2 S c8 aI) j.H j.E:=by rw[F];exact abl V Od Oi fun k n q id=>abE ib i3 y V (I k n) (u k n) q id
  have L:l.toList.count false<=s:=by
   have h1:l.toList=listed.toList.set i true:=aT
   have h2:listed.toList[i]' U=false:=by
    have:listed[i]=false:=by simp only[Array.getD_eq_getD_getElem?,Array.getElem?_eq_getElem tp,Option.getD_some]at Oc;exact Oc
    grind
   grind
  have Hs:∀(τ:eH),(∀id,id<j.H.next\/j.E.next<=id->τ id=σ id)->∀e∈aI,kK e.p.cI=false->fO τ e.H.next e.E.next:=by
   intro τ z7 e he Oj x uJ Aa;have o7:e.p.cI≠i:=fun h=>aT
   rw[Hq _ o7]at Oj;rw[F]at he;have ab0:x<j.H.next\/j.E.next<=x:=by
    rcases mem_append.1 he with h|h
    have:=(N e h).b6;omega;rcases List.mem_cons.1 h with rfl|h
    omega;have:=(u e h).b6;omega
   rw[z7 x ab0];exact Ho e aT Oj x uJ Aa
  unfold wpOpIn;rw[gH];simp only;cases X:j.w with
  | false=>
   rw[X]at fp;rw[if_neg aT];refine⟨fun _ _=>trivial,?_⟩;obtain⟨hv,De⟩:=y.ok.jp X;obtain⟨b5,ax⟩:=sl gC j.o.dst (bV.undef (σ:=σ));refine v2 l _ w σ aT L Hr ?_ (ax.trans a2) ?_ (Hs σ fun _ _=>rfl)
   grind
   grind[xM]
  | true=>
   rw[X]at fp;rw[if_pos fp];have C5:∀id,((j.p.dW=3)\/((j.p.dW=1\/j.p.dW=4)/\id∈j.jO.jF))->∀b,j.H.cg id=some b->g2 S c8 aI id=some b:=by intro id J b d5;have rx:id<j.H.next:=y.wf.lt id aT;rw[F];have An:=fR;rw[F]at An;refine abk An V (fun k n q=>?_) (fun k n q=>?_) (kJ.sub id) b d5;exact abC ib i3 y Of X (abU k n) (N k n) q J;exact abD ib i3 y V X (I k n) (u k n) q J rx
   have c7:B<=w.heap.size:=Nat.le_trans kJ.c7 K.size;have dJ:uF P σ:=fun g Ok=>by obtain⟨z,nQ⟩:=kJ.G7 g Ok;exact⟨z,K.mono _ _ nQ⟩
   have awp:fO σ j.H.next j.E.next:=Ho j Hp U;have fS:=y.ok.lo X;unfold qx at fS;cases hbj:j.p.jY with
   | false=>
    rw[hbj]at fS;have ab1:∀(d wk:an),(gZ P j.o.op).f be j.T d=some (j.v,wk)->d.cg=j.H.cg->d.next=j.H.next->wk.cg=j.E.cg->wk.next=j.E.next->d.cX<=d.next->mb d->
      Oper.wpIn (dZ r) 0 P j.o a w (wpAnyIn (dZ r) 0 P .any bm Q s l) Q:=by
     intro d wk lm eA f1 fC gm wi Ao;have xQ:(gZ P j.o.op).f be (g1 S oz aI) d=some (j.v,wk):=by rw[NT sn];exact lm
     refine Hc kd ib j.o (h:=g2 S c8 aI) (H:=d) (E:=wk) (T:=g1 S oz aI) K.fM c7 dJ ?_ Ao wi ?_ aT gC xQ ?_;intro n x ey id J b d5;have Ol:j.p.dW=1\/j.p.dW=4:=by rw[y.dW hbj];exact n
     refine C5 id (.inr ⟨Ol,?_⟩) b (by rw[<- eA];exact d5);rw[sn x ey]at J;show id∈(pG j.o j.p j.T j.H j.E).jF;have wl:id∈dM (iK j.o.op.operands.toList j.T):=Ac (by rw[xJ];grind) id J;rcases Ol with h|h<;>simp only[pG,h]<;>exact wl
     intro n;refine⟨K.fM,fun id b d5=>?_,c7,dJ,Ao,wi,K.base kJ.fM kJ.c7 kJ.base,kJ.d3⟩;exact C5 id (.inl (by rw[y.dW hbj];exact n)) b (by rw[<- eA];exact d5);intro ap τ aE hv g;rw[f1,gm]at g;have l8:eB (g2 S c8 aI) d wk=eB (g2 S c8 aI) j.H j.E:=by funext id;unfold eB;rw[eA,fC]
     rw[l8]at g;have Om:=K.N0 g y.Ak.dI y.aB;obtain⟨b5,ax⟩:=sl (gC.mono g.mono) j.o.dst hv;refine v2 l _ aE τ aT L Hr ?_ (ax.trans a2) ?_ (Hs τ g.ext)
     grind
     grind
    exact ab1 _ _ fS rfl rfl rfl rfl y.cj y.wf
   | true=>
    rw[hbj]at fS;obtain⟨De,dc,lm,On⟩:=Hi fS;have Oo:∀id,(jY j.H).cg id=none:=fun id=>abK j.H id
    have Hn:=xO ib (show(jY j.H).cX<=(jY j.H).next from y.cj) lm;have ab2:∀id,dc.cg id=none:=fun id=>Classical.byContradiction fun h=>by
     have:=Hn.cB id (Oo id) h
     grind[jY]
    have xQ:(gZ P j.o.op).f be (g1 S oz aI) (jY j.H)=some (j.v,dc):=by rw[NT sn];exact lm
    have eh:=y.jY hbj;have Ao:mb (jY j.H):=⟨fun i h=>absurd (Oo i) h,fun i h=>absurd rfl h⟩;refine Hc kd ib j.o (h:=g2 S c8 aI) (H:=jY j.H) (E:=dc) (T:=g1 S oz aI) K.fM c7 dJ ?_ Ao y.cj ?_ ?_ gC xQ ?_;omega;intro _;exact⟨K.fM,fun id b d5=>aT,c7,dJ,Ao,y.cj,K.base kJ.fM kJ.c7 kJ.base,kJ.d3⟩;rw[On];intro x uJ Aa;exact absurd (Nat.lt_of_lt_of_le Aa uJ) (Nat.lt_irrefl _);intro ap τ aE hv g;have l8:eB (g2 S c8 aI) (jY j.H) dc=g2 S c8 aI:=by
     funext id
     unfold eB
     grind
    rw[l8,On]at g;have Om:=K.N0 g y.Ak.dI (Nat.le_trans (Nat.le_of_eq (by rw[De])) y.aB);obtain⟨b5,ax⟩:=sl (gC.mono g.mono) j.o.dst hv;refine v2 l _ aE τ aT L Hr ?_ (ax.trans a2) ?_ (Hs τ fun id J=>g.ext id (by rw[De]at J;exact J))
    grind
    show hr B σ0 c8 H0.next g6 τ (g2 kK c8 aI) aY.H.next aE;rw[abZ,De,xM];exact Om
theorem Oq(q:cl P)(s:gB P be)(bm:Array Oper)(n:Nat)(r:Option Nat)(k:fV P B σ h H w)(c:fO σ H.next aY.H.next)(I:bt σ T a.tmps.toList)
  (t:l2 P be bm.toList T H=some aY) (J:aY.cG=.normal->∀ τ aH dP aE,bt τ aY.T dP.tmps.toList->dP.defers=a.defers->e2 B σ h H w τ aH aY.H aE->Q .normal dP aE):(Code.region n bm true).wpIn (dZ r) 0 P Q a w:=by
 obtain⟨K,L,u,p,b,d,f⟩:=abA s t k.cj k.wf;refine wpIn_region_any q.mixed ?_;have v:∀i,(Array.replicate bm.size false).getD i false=false:=fun i=>by rw[Array.getD_eq_getD_getElem?,Array.getElem?_replicate];grind
 have j:∀(l:List iw) (T:aj),g1 (fun i=>(Array.replicate bm.size false).getD i false) T l=T:=by
  intro l;induction l with
  | nil=>intro T;rfl
  | cons e l x=>grind[g1]
 have m:∀(l:List iw) (g:Nat->Option Obj),g2 (fun i=>(Array.replicate bm.size false).getD i false) g l=g:=by
  intro l;induction l with
  | nil=>intro T;rfl
  | cons e l x=>grind[g2]
 have M:hr B σ h H.next w σ h aY.H.next {w with drawn:=w.drawn+1}:=(hr.aaO k.fM _).abF f.dI;refine abL q s bm r k c u (by simpa using p) b d f ?_ bm.size _ a _ σ aW ?_ ?_ ?_ rfl ?_ ?_
 grind
 simp_all
 intro i o _ y
 simp_all
 simp_all
 simp_all
 intro e z _ i C F;have o:=b e z;exact c i (Nat.le_trans o.Ak.dI C) (Nat.lt_of_lt_of_le F o.aB)
theorem ab3(d:cl P)(e:gB P be)(bm:Array Oper)(b:Nat)(r:Option Nat)(k:fV P B σ h H w)(c:fO σ H.next aY.H.next)(f:bt σ T a.tmps.toList)
  (g:l2 P be bm.toList T H=some aY):(Code.region b bm true).wpIn (dZ r) 0 P (qC B σ h H w a.defers aY) a w:=
 Oq d e bm b r k c f g fun i τ aH l aE bO q2 j=>⟨by rw[i];rfl,[],τ,aH,q2,⟨aW,.nil⟩,bO,j⟩
end
end Go.Ab
namespace Go.Ab
open Go
variable{B H E L P b c h id l Ap o r s st v w σ}
variable[gi]
section
theorem fV.Df(k:fV P B σ h H w)(e:dV H.c5 l=some r)(f:k2 r=false):h l=some (.loop r)/\∃c o s L,σ l=some (c,o,s)/\B<=c/\w.heap[c]?=some (.loop L)/\CW σ r L:=by
 have g:=k.wf.o9 l aT;have d:H.cg l=some (.loop r):=by simp_all[an.cg]
 have b:=k.sub l _ d;obtain⟨c,o,s,a,i,j,m⟩:=k.fM.e7 l _ b;obtain⟨bC,n,bJ,p,q⟩:=k.fM.own l _ b rfl
 simp_all[qB]
theorem oy.put(d:oy σ w id b)(a:σ id=some (c,o,s))(g:c≠l):oy σ (w.putObj l L) id b:=by
 have e:(w.putObj l L).heap[c]?=w.heap[c]?:=World.putObj_heap_other g;cases b with
 | cells b=>obtain⟨bC,j,bJ,h,m,n,f,k,i,p,q,t⟩:=d;rw[a]at f;cases f;exact⟨c,o,s,h,m,n,a,a1,i,p,q,t⟩
 | loop r=>obtain⟨bC,j,bJ,bW,f,k,i⟩:=d;exact⟨c,o,s,bW,a,a1,i⟩
 | ln=>obtain⟨bC,j,bJ,f,k⟩:=d;exact⟨c,o,s,a,a1⟩
theorem Ot(k:fV P B σ h H w)(X:dV H.c5 l=some r)(hm:k2 r=false)(wi:H.cX<=l)(ci:Option iZ)(h1:dV Ap l=ci)(h2:∀j,j≠l->dV Ap j=dV H.c5 j)
  (g:σ l=some (c,o,s)) (O:Go.Obj) (hO:∀bQ,ci=some bQ->k2 bQ=false/\∃L,O=.loop L/\CW σ bQ L):
  e2 B σ h H w σ (fun id=>if id=l then ci.map .loop else h id) ⟨H.t,H.next,H.cX,Ap⟩ (w.putObj c O):=by
 have hg:=k.wf.o9 l aT;obtain⟨y,bC,z,bJ,L,bO,q2,fu,jM⟩:=k.Df X hm;rw[g]at bO;cases bO;have fR:=(Array.getElem?_eq_some_iff.1 fu).1;have d:∀id,an.cg ⟨H.t,H.next,H.cX,Ap⟩ id=if id=l then ci.map .loop else H.cg id:=by
  intro id;show(match H.get id with|some b=>some (Obj.cells b)|none=>(dV Ap id).map .loop)=_;by_cases aB:id=l
  simp_all
  rw[if_neg aB,h2 id aB];rfl
 have rx:=k.wf.lt l (by simp_all[an.cg]);have C:∀id b bC z bJ,id≠l->h id=some b->σ id=some (bC,z,bJ)->bC≠c:=fun id b bC z bJ m a F e=>by subst e;exact k.fM.jG l id _ b (Ne.symm m) y a rfl _ _ _ _ _ _ g F rfl
 have f:jK σ B (fun id=>if id=l then ci.map .loop else h id) (w.putObj c O):=by
  refine⟨fun id b a=>?_,fun id b a n=>?_,fun i j gN ft m aB S n=>?_⟩;by_cases aB:id=l;subst aB;simp only[if_true]at a;cases ci with
  | none=>cases a
  | some bQ=>
   cases a;obtain⟨Ou,bW,rfl,awq⟩:=hO bQ rfl;refine⟨c,o,s,_,g,World.putObj_heap_same fR,?_⟩
   simp_all[qB]
  simp only[aB,if_false]at a;have p:=k.fM.e7 id b a;obtain⟨nP,bP,cr,V⟩:=p.tl;exact p.put V (C id b _ _ _ aB a V);by_cases aB:id=l
  simp_all
  simp only[aB,if_false]at a;exact k.fM.own id b a n;intro aaY aQ aaZ aa0 aa1 CX I J;by_cases K:i=l
  grind
  simp only[K,if_false]at aB;by_cases M:j=l
  grind
  simp only[M,if_false]at S;exact k.fM.jG i j gN ft m aB S n _ _ _ _ _ _ I J
 have q:∀x,wg σ (fun id=>if id=l then ci.map .loop else h id) x->wg σ h x:=by rintro x ⟨id,b,bP,cr,a,n,u⟩;by_cases aB:id=l;subst aB;exact⟨id,_,bP,cr,y,rfl,u⟩;simp only[aB,if_false]at a;exact⟨id,b,bP,cr,a,n,u⟩
 refine⟨⟨f,Nat.le_refl _,fun _ _=>rfl,fun _ _ h=>h,rfl,rfl,rfl,Nat.le_of_eq World.putObj_size.symm,fun x u N=>?_,fun x u _=>q x u⟩,fun id b a=>?_,fun id b a=>?_,Nat.le_refl _,rfl,fun i aB=>?_,fun i aB na=>?_,fun v=>⟨fun i aB=>?_,fun i aB=>?_⟩⟩;refine World.putObj_heap_other ?_;rintro rfl;exact N ⟨l,_,o,s,y,rfl,g⟩;rw[d]at a;by_cases aB:id=l
 simp_all
 simp only[aB,if_false]at a⊢;exact k.sub id b a;unfold eB at a;rw[d]at a;by_cases aB:id=l;subst aB;simp only[if_true]at a⊢;have pL:H.cg id=some (.loop r):=by simp_all[an.cg]
 grind
 simp_all
 grind
 simp_all[an.cg]
 rw[d]at aB;by_cases W:i=l
 simp_all
 rw[if_neg W]at aB;exact v.lt i aB;show H.get i=none;by_cases W:i=l
 simp_all
 refine v.o9 i ?_
 simp_all
theorem Dg(a:rr l st H=some E):H.cX<=l/\∃r,dV H.c5 l=some r/\(k2 r=false/\k2 ⟨r.T,r.bv,r.cD,r.body,st⟩=false)/\E=⟨H.t,H.next,H.cX,jW H.c5 l ⟨r.T,r.bv,r.cD,r.body,st⟩⟩:=by
 unfold rr at a;split at a;split at a;split at a;cases a
 simp_all
 grind
 grind
theorem Ov{H:an}(a:dV H.c5 l=some r):dV (jW H.c5 l v) l=some v:=C2 _ _ _ aT
theorem Ow(k:fV P B σ h H w)(m:rr l st H=some E)(b:σ l=some (c,o,s)):
  ∃r L,dV H.c5 l=some r/\w.heap[c]?=some (.loop L)/\CW σ r L/\∀a d7,G6 st a d7->∃aH,e2 B σ h H w σ aH E (w.putObj c (.loop {L with state:=a,pending:=d7})):=by
 obtain⟨f,r,e,g,rfl⟩:=Dg m;obtain⟨q,bC,t,bJ,L,bO,q2,n,d⟩:=k.Df e g.1;rw[b]at bO;cases bO;refine⟨r,L,e,n,d,fun a d7 i=>⟨_,Ot k e g.1 f (some ⟨r.T,r.bv,r.cD,r.body,st⟩) (Ov e) (fun j p=>tn _ _ _ _ p) b _ ?_⟩⟩;rintro bQ aH;cases aH;exact⟨g.2,_,rfl,d.T,d.bv,d.cD,d.body,i⟩
theorem Ht(g:rr l st H=some E):fG H E:=by
 obtain⟨h,r,j,k,rfl⟩:=Dg g;have a:∀id,an.cg ⟨H.t,H.next,H.cX,jW H.c5 l ⟨r.T,r.bv,r.cD,r.body,st⟩⟩ id=none↔H.cg id=none:=by
  intro id;rw[pa,pa];show H.get id=none/\dV (jW H.c5 l _) id=none↔_
  grind[Ov,tn]
 refine⟨Nat.le_refl _,rfl,fun i c=>?_,fun i c d=>absurd ((a i).2 c) d,fun f=>⟨fun i c=>f.lt i (fun e=>c ((a i).2 e)),fun i c=>?_⟩⟩;show(match H.get i with|some b=>some (Obj.cells b)|none=>(dV (jW H.c5 l _) i).map .loop)=_;rw[tn _ _ _ _ U];rfl;refine f.o9 i ?_
 grind[tn]
end
end Go.Ab
namespace Go.Ab
open Go
variable{B F H dc P Q Q' T cD body c ds ds' g h h1 id k l be Dh k6 o aY bv di t tmps w aM x σ τ}
variable[gi]
section
theorem tq:∀(n:Nat) (v:Value),fr n [v]=replicate n v
 | 0,_=>rfl
 | n+1,v=>by show gx [v] (fr n [v])=_;rw[gM,tq n v,replicate_succ];rfl
theorem Ox(b:∀e a w,Q e a w->Q' e a w):∀(n:Nat) (a:Act) (w:World),Code.roundsIn F 0 P c Q n a w->Code.roundsIn F 0 P c Q' n a w
 | 0,_,_,h=>h
 | n+1,a,w,h=>wpIn_mono h fun e f aE d=>by cases e<;>first|exact Ox b n f aE d|exact b _ _ _ d
theorem Di{a:Act}(e:bt σ T a.tmps.toList)(h:(da c).g T=.bool t):a.eval c=.bool t:=by
 cases c with
 | tmp i=>
  have d:bS T i=.bool t:=h;rw[mr]at d;have b:=e.getD i;rw[d]at b;show a.tmps.getD i undef=.bool t;have j:a.tmps.toList.getD i undef=a.tmps.getD i undef:=a1
  rw[<- j];generalize a.tmps.toList.getD i undef=x at b;cases b;rfl
 | const v=>exact h
 | global g=>cases h
 | func f=>cases h
theorem pb(h:qy o k=some aY):∃bP,o=some bP/\((bP.cG=.normal/\k bP.T bP.H=some aY)\/(bP.cG≠.normal/\aY=bP)):=by
 unfold qy at h
 grind
theorem Hu(h:vW id o=some aY):∃bP,o=some bP/\aY.T=bP.T/\aY.H=bP.H/\((bP.cG=.exit id/\aY.cG=.normal)\/(bP.cG≠.exit id/\aY.cG=bP.cG)):=by
 unfold vW at h;cases o with
 | none=>cases h
 | some bP=>
  refine⟨bP,rfl,?_⟩;obtain⟨e,T,H⟩:=bP;cases e with
  | normal=>grind
  | ret=>grind
  | exit a=>
   simp only at h;split at h
   grind[eq_of_beq_eq_true]
   rename_i b;cases h;simp_all
theorem Oy(h:zT o k=some aY):∃bP,o=some bP/\bP.cG=.normal/\k bP.T bP.H=some aY:=by
 unfold zT at h
 grind
theorem Oz(a:sf be g bv cD body T H=some aY):
  ∃f args cG v dc x di,qu g [te (succ H.next)]=some (.fn f args)/\be (.call f args (laid T bv cD body H))=some ⟨cG,[v],dc⟩/\dc.c5=(succ H.next,x)::di/\dc.cX<=succ H.next/\dV di (succ H.next)=none/\
   aY=⟨(match x.st with|.over e=>e|_=>.normal),T,⟨dc.t,dc.next,dc.cX,di⟩⟩/\x.st≠.busy/\k2 x=false:=by
 unfold sf at a;split at a
 case h_2=>cases a
 case h_1 t j=>
 split at a
 case h_2=>cases a
 case h_1 f args=>
 split at a
 case h_2=>cases a
 case h_1 cG k dc d=>
 split at a
 case h_2=>cases a
 case h_1 v=>
 unfold GA at a;split at a
 case h_1=>cases a
 case h_2 x di b=>
 split at a
 case h_2=>cases a
 case h_1 c=>
 rw[Bool.and_eq_true]at c;have h:=eq_of_beq_eq_true c.1;have i:dc.cX<=succ H.next:=a1
 grind
theorem Hv(i:Nat):
  (laid T bv cD body H).cg i=if i=succ H.next then some (.loop ⟨T,bv,cD,body,.ready⟩)else if i=H.next then(dV H.c5 i).map .loop else H.cg i:=by
 have g:(laid T bv cD body H).get i=if i=succ H.next then none else if i=H.next then none else H.get i:=by
  show((H.t.set H.next none).set (succ H.next) none).get i=_;by_cases h1:i=succ H.next
  simp_all[Tr.uA]
  rw[if_neg h1,Tr.jZ _ _ _ _ h1];by_cases h2:i=H.next
  simp_all[Tr.uA]
  rw[if_neg h2,Tr.jZ _ _ _ _ h2];rfl
 have l:dV (laid T bv cD body H).c5 i=if succ H.next=i then some ⟨T,bv,cD,body,.ready⟩else dV H.c5 i:=nc _ _ _
 unfold an.cg
 grind
theorem Dj(a:mb H)(i:Nat):
  (laid T bv cD body H).cg i=if i=succ H.next then some (.loop ⟨T,bv,cD,body,.ready⟩)else if i=H.next then none else H.cg i:=by
 rw[Hv];by_cases h1:i=succ H.next
 simp_all
 by_cases h2:i=H.next;have b:=Classical.byContradiction fun h=>absurd (a.lt i h) U
 simp_all[pa]
 simp_all
theorem Hw(c:H.cX<=H.next):fG H (laid T bv cD body H):=by
 refine⟨by show _<=H.next+2;omega,rfl,fun i a=>?_,fun i h aH=>?_,fun wf=>⟨fun i a=>?_,fun i a=>?_⟩⟩;rw[Hv,if_neg U,if_neg U];rw[Hv]at aH;split at aH;rename_i e;subst e;exact⟨U,by show _<H.next+2;omega⟩
 grind[pa]
 show i<H.next+2;rw[Dj wf]at a;split at a;omega;split at a;omega;have:=wf.lt i a;omega;have b:dV (laid T bv cD body H).c5 i=if succ H.next=i then some ⟨T,bv,cD,body,.ready⟩else dV H.c5 i:=nc _ _ _
 rw[b]at a;show((H.t.set H.next none).set (succ H.next) none).get i=none;by_cases h1:succ H.next=i
 simp_all[Tr.uA]
 rw[if_neg h1]at a;rw[Tr.jZ _ _ _ _ (Ne.symm h1)];by_cases h2:i=H.next
 simp_all[Tr.uA]
 rw[Tr.jZ _ _ _ _ h2];exact wf.o9 i a
theorem ab4(m:dc.c5=(l,x)::di)(f:dc.cX<=l)(c:dV di l=none):fG dc ⟨dc.t,dc.next,dc.cX,di⟩:=by
 have g:∀j,j≠l->dV di j=dV dc.c5 j:=fun j n=>by simp_all[nc,Ne.symm]
 have k:∀i,i≠l->an.cg ⟨dc.t,dc.next,dc.cX,di⟩ i=dc.cg i:=fun i aB=>by show(match dc.get i with|some b=>some (Obj.cells b)|none=>(dV di i).map .loop)=_;rw[g i aB];rfl
 have a:∀i,an.cg ⟨dc.t,dc.next,dc.cX,di⟩ i≠none->dc.cg i≠none:=fun i aB e=>by
  by_cases o:i=l
  simp_all[pa,nc]
  simp_all
 refine⟨Nat.le_refl _,rfl,fun i aB=>k i U,fun i h aH=>absurd h (a i aH),fun d=>⟨fun i aB=>d.lt i (a i aB),fun i aB=>?_⟩⟩;refine d.o9 i fun e=>?_
 grind
theorem j2(i:gB P be)(c6:Bool):∀(c:Code) (T:aj) (H:an) (aY:eG),H.cX<=H.next->(dB P c6 c).f be T H=some aY->fG H aY.H:=by
 intro c;induction c with
 | skip=>intro T H aY _ h;cases h;exact fG.refl _
 | region id b d=>
  intro T H aY a h;cases d with
  | true=>
   have h:l2 P be b.toList T H=some aY:=h;have aH:=h;unfold l2 at aH;split at aH;obtain⟨_,u,j,_,k,_,_⟩:=C9 b.toList _ _ _ _ _ aH;exact Da i j a k
   grind
  | false=>exact(qE i b.toList _ _ _ _ a h).1
 | seq x y n o=>
  intro T H aY a h;obtain⟨bP,j,e⟩:=pb h;have m:=n _ _ _ a j;rcases e with⟨_,e⟩|⟨_,rfl⟩
  exact m.trans (o _ _ _ (m.wf a) e);exact m
 | cond c x y n o=>
  intro T H aY a h;have h:mq be ((da c).g T) (dB P c6 x) (dB P c6 y) T H=some aY:=h;unfold mq at h
  grind
 | block id x n=>grind[dB,Hu]
 | loop x _=>intro T H aY a h;exact i.jL (.loop c6 x T H) aY h a
 | rangeFunc g bv cD body _ _=>
  intro T H aY a h;cases c6 with
  | false=>cases h
  | true=>obtain⟨f,p,w,v,z,x,q,_,e,k,r,s,rfl,_⟩:=Oz h;have cJ:=Hw (T:=T) (bv:=bv.toList) (cD:=cD) (body:=body) a;have t:=i.jL _ _ e (cJ.wf a);exact(cJ.trans t).trans (ab4 k r s)
 | exit id=>intro T H aY _ h;cases h;exact fG.refl _
 | label l=>intro T H aY _ h;cases h;exact fG.refl _
 | ret=>intro T H aY _ h;cases h;exact fG.refl _
 | _=>intros;rename_i h;cases h
theorem qC.trans(k:fV P B σ h H w)(t:fO σ H.next dc.next)(s:e2 B σ h H w τ h1 dc aM)(X:ds'=Dh++ds)(u:G8 τ h1 dc H.next Dh):
  ∀e dP aE,qC B τ h1 dc aM ds' aY e dP aE->qC B σ h H w ds aY e dP aE:=by
 rintro e dP aE ⟨bO,v,I,C,q2,g,J,i⟩;have f:∀id,h1 id=some .ln->dc.cg id=none->id<dc.next->C id=some .ln/\aY.H.cg id=none:=by
  intro id eA K g3;have L:aY.H.cg id=none:=by
   cases gH:aY.H.cg id with
   | none=>rfl
   | some b=>have:=(i.jL.cB id K aT).1;omega
  refine⟨i.tm id _ ?_,L⟩
  simp_all[eB]
 refine⟨bO,v++Dh,I,C,a1,⟨fun d a=>?_,?_⟩,J,s.trans k t i⟩;rcases mem_append.1 a with a|a
 obtain⟨id,c,o,bJ,j,l,m,q,r,n⟩:=g.xN d a;exact⟨id,c,o,bJ,j,l,m,q,Nat.le_trans s.jL.dI r,n⟩;obtain⟨id,c,o,bJ,j,l,m,q,r,n⟩:=u.xN d a;obtain⟨x,F⟩:=f id m q n;exact⟨id,c,o,bJ,j,i.fT.mono _ _ l,x,F,r,Nat.lt_of_lt_of_le n i.jL.dI⟩;refine List.pairwise_append.2 ⟨g.Af,u.Af,fun d y dr z=>?_⟩;obtain⟨id,c,o,bJ,j,l,m,q,r,n⟩:=g.xN d y;obtain⟨p,bC,l1,M,N,S,V,lp,xR,W⟩:=u.xN dr z;obtain⟨x,F⟩:=f p V lp W;rw[j,N];intro e;injection e with e
 exact i.fT.fM.jG id p _ _ U m x rfl _ _ _ _ _ _ l (i.fT.mono _ _ S) e
theorem ab5(c:Call)(d4:TypeId)(a:Act)(f:FuncId)(first cap:Array Value)(a8:Operand)(b:c.callee=.value a8)(e:a.eval a8=.func (.func f) first cap)(w:World):
  ∃d,(resolve a.eval c d4).run P w=.ok d w/\(invoke d.target d.args).run P w=(callFunc f (first++c.args.map a.eval++cap)).run P w:=by
 simp only[resolve,b,e];exact⟨_,rfl,rfl⟩
theorem ab6(k:fV P B σ h H w)(Ae:succ (succ H.next)<=k6)(p:fO σ H.next k6)(gC:bt σ T tmps.toList)(bv:Array Tmp)(cD body:Code)(fn:FuncId):
  let g:eH:=fun id=>if id=H.next then some (w.heap.size,0,0)else if id=succ H.next then some (w.heap.size+1,0,0)else σ id
  let aH:Nat->Option Obj:=fun id=>if id=H.next then some .ln else if id=succ H.next then some (.loop ⟨T,bv.toList,cD,body,.ready⟩)else h id
  e2 B σ h H w g aH (laid T bv.toList cD body H) ((w.alloc (.deferred (some []))).alloc (.loop {state:=.ready,pending:=none,fn,tmps,params:=bv,assign:=cD,body,defers:=w.heap.size})):=by
 intro g aH;have f1:=p _ (Nat.le_refl _) U;have gm:σ (succ H.next)=none:=p _ U U;have o7:succ H.next≠H.next:=U
 have a:∀id x,σ id=some x->g id=some x:=aT
 have hh:∀id b,h id=some b->id≠H.next/\id≠succ H.next:=by
  intro id b d;obtain⟨c,o,s,e⟩:=(k.fM.e7 id b d).tl
  grind
 have lt:∀id b c o s,h id=some b->σ id=some (c,o,s)->c<w.heap.size:=fun id b c o s d n=>((k.fM.e7 id b d).dW n).2
 generalize hL:(Loop.mk LoopState.ready none fn tmps bv cD body w.heap.size)=L;have z:∀c,c<w.heap.size->((w.alloc (.deferred (some []))).alloc (.loop L)).heap[c]?=w.heap[c]?:=by
  intro c n;show((w.heap.push _).push _)[c]?=_
  grind
 have C:((w.alloc (.deferred (some []))).alloc (.loop L)).heap[w.heap.size]?=some (.deferred (some [])):=by
  show((w.heap.push _).push _)[_]?=_
  grind
 have F:((w.alloc (.deferred (some []))).alloc (.loop L)).heap[w.heap.size+1]?=some (.loop L):=by
  show((w.heap.push _).push _)[_]?=_
  grind
 have lI:((w.alloc (.deferred (some []))).alloc (.loop L)).heap.size=w.heap.size+2:=a1
 have f:∀id b,aH id=some b->(id=H.next/\b=.ln)\/(id=succ H.next/\b=.loop ⟨T,bv.toList,cD,body,.ready⟩)\/(id≠H.next/\id≠succ H.next/\h id=some b):=aT
 have cr:g H.next=some (w.heap.size,0,0):=if_pos rfl;have X:g (succ H.next)=some (w.heap.size+1,0,0):=aT
 have y:∀id,id≠H.next->id≠succ H.next->g id=σ id:=fun id q r=>aT
 have awr:∀id b,h id=some b->oy g ((w.alloc (.deferred (some []))).alloc (.loop L)) id b:=by
  intro id b d;have I:=k.fM.e7 id b d;have gA:=lt id b;cases b with
  | cells x=>obtain⟨c,o,s,J,d4,mQ,m,h2,K,g0,iL,j0⟩:=I;exact⟨c,o,s,J,d4,mQ,a _ _ m,a1,K,g0,iL.mono a,j0⟩
  | loop x=>obtain⟨c,o,s,bW,m,h2,K⟩:=I;exact⟨c,o,s,bW,a _ _ m,a1,K.mono a⟩
  | ln=>obtain⟨c,o,s,m,h2⟩:=I;exact⟨c,o,s,a _ _ m,a1⟩
 have l:jK g B aH ((w.alloc (.deferred (some []))).alloc (.loop L)):=by
  refine⟨fun id b d=>?_,fun id b d t=>?_,fun i j gN ft M N S t=>?_⟩;rcases f id b d with⟨rfl,rfl⟩|⟨rfl,rfl⟩|⟨_,_,d⟩
  exact⟨_,_,_,cr,C⟩;subst hL;exact⟨_,_,_,_,X,F,_,rfl,gC.mono a,rfl,rfl,rfl,rfl,rfl⟩
  simp_all
  rcases f id b d with⟨rfl,rfl⟩|⟨rfl,rfl⟩|⟨_,_,d⟩
  exact⟨_,_,_,cr,k.c7⟩;exact⟨_,_,_,X,Nat.le_trans k.c7 (le_succ _)⟩;obtain⟨c,o,s,q,r⟩:=k.fM.own id b d t
  simp_all
  intro c o s bC l1 bJ n u;rcases f i gN N with⟨rfl,rfl⟩|⟨rfl,rfl⟩|⟨V,W,N⟩<;>rcases f j ft S with⟨rfl,rfl⟩|⟨rfl,rfl⟩|⟨b1,b2,S⟩
  omega
  simp_all
  grind
  simp_all
  omega
  grind
  grind
  grind
  rw[y i V W]at n;rw[y j b1 b2]at u;exact k.fM.jG i j gN ft M N S t _ _ _ _ _ _ n u
 refine⟨⟨l,by show _<=H.next+2;omega,fun id v=>y id (fun e=>?_) (fun e=>?_),a,rfl,rfl,rfl,U,fun c n _=>z c n,fun c ⟨id,b,o,s,d,t,n⟩ rx=>?_⟩,fun id b d=>?_,fun id b d=>?_,Hw k.cj⟩;rcases v with m|m
 omega;have:H.next+2<=id:=m;omega;rcases v with m|m
 omega;have:H.next+2<=id:=m;omega;rcases f id b d with⟨rfl,rfl⟩|⟨rfl,rfl⟩|⟨V,W,d⟩
 simp_all
 grind
 rw[y id V W]at n;exact⟨id,b,o,s,d,t,n⟩;rw[Dj k.wf]at d;split at d
 grind
 rename_i q;split at d;cases d;rename_i r;show(if _ then _ else _)=_;rw[if_neg r,if_neg q];exact k.sub id b d;unfold eB at d;split at d
 grind
 rw[Dj k.wf]at d;split at d
 grind
 rename_i q;split at d;cases d;rename_i r;show(if _ then _ else _)=_;rw[if_neg r,if_neg q];exact k.sub id b d
theorem Aq(kd:cl P)(ib:gB P be)(c6:Bool):∀(c:Code) (T:aj) (H:an) (aY:eG),(dB P c6 c).f be T H=some aY->
  ∀(σ:eH) (h:Nat->Option Obj) (w:World) (a:Act) (r:Option Nat),(c6=true->r=none)->fV P B σ h H w->fO σ H.next aY.H.next->bt σ T a.tmps.toList->c.wpIn (dZ r) 0 P (qC B σ h H w a.defers aY) a w:=by
 intro c;have C:∀ {σ:eH} {h:Nat->Option Obj} {H:an} {w:World} {a:Act} {aY:eG} {e:Exit} {τ:eH} {aH:Nat->Option Obj} {X:Act} {aE:World},e=wh aY.cG->X.defers=a.defers->bt τ aY.T X.tmps.toList->e2 B σ h H w τ aH aY.H aE->qC B σ h H w a.defers aY e X aE:=
  fun bO q2 fu jM=>⟨bO,[],_,_,q2,⟨aW,.nil⟩,fu,jM⟩
 induction c with
 | skip=>intro T H aY p σ h w a r _ k _ I;cases p;exact wpIn_skip (C rfl rfl I (e2.refl k))
 | region id bm d=>
  intro T H aY p σ h w a r _ k z I;cases d with
  | true=>exact ab3 kd ib bm id r k z I p
  | false=>refine wpIn_region ?_;have hm:=qE ib bm.toList _ _ _ _ k.cj p;rw[range_eq_range',<- Array.length_toList];refine Ai kd ib bm r bm.toList 0 aW σ h T H w a aY k z I p ?_;intro τ aH X aE bO q2 fu;exact C (by rw[hm.2];rfl) q2 bO fu
 | seq x y cI OA=>
  intro T H aY p σ h w a r ht k z I;have p:=p;obtain⟨bP,h1,K⟩:=pb p;have ox:=j2 ib c6 x _ _ _ k.cj h1;refine wpIn_seq ?_;rcases K with⟨ey,K⟩|⟨ey,rfl⟩
  ·have jr:=j2 ib c6 y _ _ _ (ox.wf k.cj) K;refine wpIn_mono (cI _ _ _ h1 σ h w a r ht k (z.left jr.dI) I) ?_;rintro e X aE ⟨bO,ms,τ,aH,q2,Dk,fu,jM⟩;rw[ey]at bO;subst bO;show y.wpIn (dZ r) 0 P (qC B σ h H w a.defers aY) X aE;exact wpIn_mono (OA _ _ _ K τ aH aE X r ht (k.next jM) (z.right jM.fT) fu) (qC.trans k (z.left jr.dI) jM q2 Dk)
  ·refine wpIn_mono (cI _ _ _ h1 σ h w a r ht k z I) ?_;rintro e X aE q;have bO:=q.1;cases S:aY.cG with
   | normal=>simp_all
   | exit id=>rw[S]at bO;subst bO;exact q
   | ret=>rw[S]at bO;subst bO;exact q
 | cond c x y cI OA=>
  intro T H aY p σ h w a r ht k z I;have p:mq be ((da c).g T) (dB P c6 x) (dB P c6 y) T H=some aY:=p;unfold mq at p
  grind[wpIn_cond,Di]
 | block id x cI=>
  intro T H aY p σ h w a r ht k z I;have p:vW id ((dB P c6 x).f be T H)=some aY:=p;obtain⟨bP,h1,aac,ab7,K⟩:=Hu p;refine wpIn_block ?_;rw[ab7]at z;refine wpIn_mono (cI _ _ _ h1 σ h w a r ht k z I) ?_;rintro e X aE ⟨bO,ms,τ,aH,q2,Dk,fu,jM⟩;have gD:∀e,e=wh aY.cG->qC B σ h H w a.defers aY e X aE:=fun e S=>⟨S,ms,τ,aH,q2,a1,a1,a1⟩
  rcases K with⟨eA,fC⟩|⟨eA,fC⟩
  ·rw[eA]at bO;subst bO;show(if id=id then _ else _);rw[if_pos rfl];exact gD _ (by rw[fC];rfl)
  ·cases S:bP.cG with
   | normal=>rw[S]at bO;subst bO;exact gD _ aT
   | ret=>rw[S]at bO;subst bO;exact gD _ aT
   | exit i=>rw[S]at bO;subst bO;show(if i=id then _ else _);rw[if_neg (fun e=>eA (by rw[S,e]))];exact gD _ (by rw[fC,S];rfl)
 | loop x _=>intro T H aY p σ h w a r ht k z I;obtain⟨n,eZ⟩:=ib.loop;exact wpIn_loop_rounds n (eZ c6 x T H aY p B σ h w a r ht k z I)
 | rangeFunc g bv cD body _ _=>
  intro T H aY p σ h w a r ht k z I;cases c6 with
  | false=>cases p
  | true=>
   have Ar:=ht rfl;subst Ar;have p:sf be ((Cv g).g T) bv.toList cD body T H=some aY:=p;obtain⟨f,args,cG,v,dc,x,di,cU,dw,gO,kt,lH,m7,ab8,OB⟩:=Oz p;have cJ:=Hw (T:=T) (bv:=bv.toList) (cD:=cD) (body:=body) k.cj;have ox:=ib.jL _ _ dw (cJ.wf k.cj);have Hx:succ (succ H.next)<=dc.next:=ox.dI;have M:fO σ H.next dc.next:=a1
   have cr:=ab6 k Hx M I bv cD body;refine wpIn_rangeFunc fun fn _=>?_
   have cr:=cr fn;revert cr;generalize aws:(fun id=>if id=H.next then some (w.heap.size,0,0)else if id=succ H.next then some (w.heap.size+1,0,0)else σ id:eH)=Dl;generalize awt:(fun id=>if id=H.next then some Obj.ln else if id=succ H.next then some (.loop ⟨T,bv.toList,cD,body,.ready⟩)else h id:Nat->Option Obj)=aH;intro cr;have i5:=k.next cr;have si:Dl H.next=some (w.heap.size,0,0):=aT
   have l4:Dl (succ H.next)=some (w.heap.size+1,0,0):=aT
   have wm:aH H.next=some .ln:=aT
   unfold qu at cU;split at cU
   case h_2=>cases cU
   case h_1 c4 first cap wo=>
   split at cU
   case h_3=>cases cU
   case h_2 l=>grind
   case h_1 awu=>
   cases cU;have sn:∃m F,a.eval g=.func (.func f) m F/\bt σ first.toList m.toList/\bt σ cap.toList F.toList:=by
    cases g with
    | tmp i=>
     have h1:bS T i=.func (.func f) first cap:=wo
     have K:=I.getD i;rw[mr]at h1;rw[h1]at K;have eh:a.tmps.toList.getD i undef=a.tmps.getD i undef:=by grind[Array.getD_eq_getD_getElem?]
     rw[eh]at K;show∃m F,a.tmps.getD i undef=_/\_;generalize a.tmps.getD i undef=u at K;cases K
     grind
    | const u=>cases wo
    | global i=>cases wo
    | func i=>cases wo
   obtain⟨m,F,eA,fC,g3⟩:=sn;have OC:bt Dl (gx first.toList (gx [te (succ H.next)] cap.toList)) (m++#[Value.func (.yield (w.heap.size+1)) #[] #[]]++F).toList:=by rw[gM,gM];simp only[Array.toList_append];rw[append_assoc];exact(fC.mono cr.fT.mono).append (bt.append (.ol _ _ _ _ l4 .nil) (g3.mono cr.fT.mono))
   obtain⟨⟨awv,cc,hf,d5⟩,ab9⟩:=ib.call f _ _ cG v dc dw B Dl aH _ _ i5 (M.right cr.fT) OC;obtain⟨d,d1,d2⟩:=ab5 (rangeCall g (w.heap.size+1)) 0 a f m F g rfl eA ((w.alloc (.deferred (some []))).alloc (.loop {state:=.ready,pending:=none,fn,tmps:=a.tmps,params:=bv,assign:=cD,body,defers:=w.heap.size}));refine⟨w.heap.size+1,[{target:=.collected w.heap.size,args:=#[]}],_,d,_,f,m++#[Value.func (.yield (w.heap.size+1)) #[] #[]]++F,(w.alloc (.deferred (some []))).alloc (.loop {state:=.ready,pending:=none,fn,tmps:=a.tmps,params:=bv,assign:=cD,body,defers:=w.heap.size}),run_enterLoop_outer fn a.tmps bv cD body,d1,fun _ _=>trivial,?_,fun a2=>absurd a2 aW,?_⟩
   ·rw[d2,C1 kd hf d5];have aca:(rangeCall g (w.heap.size+1)).args.map a.eval=#[Value.func (.yield (w.heap.size+1)) #[] #[]]:=by simp only[map_toArray,map_cons,map_nil];rfl
    rw[aca]
   refine CallsIn.mono ab9 ?_;rintro e sj ⟨ap,τ,eh,rfl,_,ej⟩;have ma:=i5.next ej;have xS:dV dc.c5 (succ H.next)=some x:=by rw[gO,nc,if_pos rfl]
   have tr:=ej.fT.mono _ _ l4;have pc:=ej.fT.mono _ _ si;obtain⟨_,c,o,s,L,bO,q2,fu,jM⟩:=ma.Df xS OB;rw[tr]at bO;cases bO;have wp:L.state≠.busy:=by
    have:=jM.st;cases ey:x.st with
    | ready=>rw[ey]at this;rw[this.1];simp
    | busy=>simp_all
    | over e=>rw[ey]at this;cases e with
     | normal=>exact this.elim
     | ret=>rw[this.1];simp
     | exit id=>rw[this.1];simp
   have As:=Ot ma xS OB kt none lH (fun j jI=>by rw[gO,nc,if_neg (Ne.symm jI)]) tr (.loop {L with state:=.exhausted}) (fun _ h=>by cases h);have acb:eh H.next=some .ln/\dc.cg H.next=none:=by
    have z0:(laid T bv.toList cD body H).cg H.next=none:=by rw[Dj k.wf,if_neg U,if_pos rfl]
    have CT:dc.cg H.next=none:=by
     cases gH:dc.cg H.next with
     | none=>rfl
     | some b=>have:=(ej.jL.cB _ z0 aT).1;have:H.next+2<=H.next:=this;omega
    refine⟨ej.tm _ _ ?_,CT⟩;unfold eB
    grind
   have V:∀e,e=wh aY.cG->qC B σ h H w a.defers aY e {a with defers:=[{target:=.collected w.heap.size,args:=#[]}]++a.defers} (sj.putObj (w.heap.size+1) (.loop {L with state:=.exhausted})):=by
    intro e S;have aww:(if H.next=succ H.next then(none:Option iZ).map Obj.loop else eh H.next)=some .ln:=aT
    have awx:an.cg ⟨dc.t,dc.next,dc.cX,di⟩ H.next=none:=by rw[pa];have:=pa.1 acb.2;refine⟨this.1,?_⟩;have K:=this.2;rw[gO,nc,if_neg U]at K;exact K
    subst m7;refine⟨S,[{target:=.collected w.heap.size,args:=#[]}],τ,(fun id=>if id=succ H.next then(none:Option iZ).map Obj.loop else eh id),rfl,⟨?_,aW⟩,?_,?_⟩
    rotate_left 2
    ·exact cr.trans k (M.left ox.dI |>.left (Nat.le_refl _)) (ej.trans i5 (M.right cr.fT) As)
    ·grind
    ·exact I.mono fun id x ey=>ej.fT.mono _ _ (cr.fT.mono _ _ ey)
   refine⟨L.pending,_,run_endLoop fu wp,?_⟩;have W:aY.cG=(match x.st with|.over e=>e|_=>.normal):=by rw[m7]
   have J:=jM.st;cases ey:x.st with
   | ready=>
    rw[ey]at J W;split
    ·exact V _ (by rw[W];rfl)
    ·rename_i N;rw[J.2]at N;cases N
   | busy=>simp_all
   | over e=>
    rw[ey]at J W;cases e with
    | normal=>exact J.elim
    | ret=>
     split
     ·rename_i N;rw[J.2]at N;cases N
     ·rename_i N;rw[J.2]at N;cases N;exact wpIn_ret (V _ (by rw[W];rfl))
    | exit id=>
     split
     ·rename_i N;rw[J.2]at N;cases N
     ·rename_i N;rw[J.2]at N;cases N;exact wpIn_exit (V _ (by rw[W];rfl))
 | exit id=>intro T H aY p σ h w a r _ k _ I;cases p;exact wpIn_exit (C rfl rfl I (e2.refl k))
 | label l=>intro T H aY p σ h w a r _ k _ I;cases p;exact wpIn_label (C rfl rfl I (e2.refl k))
 | ret=>intro T H aY p σ h w a r _ k _ I;cases p;exact wpIn_ret (C rfl rfl I (e2.refl k))
 | _=>intros;rename_i p _ _ _ _ _ _ _ _ _;cases p
end
end Go.Ab
namespace Go.Ab
open Go
variable{B H E P T a args fb c cG f fn h l be o aY r s t tmps v w σ}
variable[gi]
section
theorem OD(b:(lE P t).f a H=some (v,E)):∃id off,a=.pointer (some ⟨id,off,none⟩):=by
 unfold lE at b;split at b;simp only[jo]at b
 grind
 simp only[db]at b
 grind
 grind
def Dm(tmps:Array Value):ResultVar->Sem Value
 | .tmp t=>pure (tmps.getD t undef)
 | .cell a t=>do loadVar t (<- asAddr (tmps.getD a undef))
section
theorem OE(k:fV P B σ h H w)(l:bt σ T tmps.toList)(e:xu P T H r=some v):∃ap,(Dm tmps r).run P w=.ok ap w/\bV σ v ap:=by
 have d:∀i,bV σ (bS T i) (tmps.getD i undef):=fun i=>by
  have f:=l.getD i
  simp_all[mr]
 cases r with
 | tmp t=>cases e;exact⟨_,rfl,d t⟩
 | cell a t=>
  unfold xu at e;simp only at e;split at e;rename_i u n g;cases e;obtain⟨id,off,m⟩:=OD g;obtain⟨_,ap,p,f⟩:=MU k.fM.cells (fun id _ b q=>sk.2 (k.sub id _ (by simp_all[an.cg]))) (d a) g;refine⟨ap,?_,f⟩;have j:=d a;rw[m]at j;obtain⟨_,c,o,s,x,_⟩:=j.zZ
  simp_all[Instr.loadAt,Instr.sureAddr,Dm,asAddr]
  grind
theorem OF(k:fV P B σ h H w)(d:bt σ T tmps.toList):∀(fm:List ResultVar) (vs:aj),uv P T H fm=some vs->∃b,(fm.mapM (Dm tmps)).run P w=.ok b w/\bt σ vs b
 | [],vs,a=>by cases a;exact⟨[],rfl,.nil⟩
 | r::fm,vs,a=>by unfold uv at a;split at a;rename_i v e;split at a;rename_i f g;cases a;obtain⟨ap,i,j⟩:=OE k d e;obtain⟨c,g3,l⟩:=OF k d fm f g;exact⟨ap::c,by simp only[mapM_cons,Sem.run_bind,i,Result.andThen_ok,g3,Sem.run_pure],j.cons l⟩;cases a;cases a
theorem Dn(fn:Func)(tmps:Array Value):results fn tmps=(do let vs<-fn.results.mapM (Dm tmps);pure (if h:vs.size=1 then vs[0]else .tuple vs)):=ao
theorem Do(k:fV P B σ h H w)(d:bt σ T tmps.toList)(a:uw P fn.results.toList T H=some v):∃ap,(results fn tmps).run P w=.ok ap w/\bV σ v ap:=by
 rw[Dn,Array.mapM_eq_mapM_toList];unfold uw at a;split at a;obtain⟨ap,f,e⟩:=OE k d a
 simp_all
 split at a;rename_i vs g;cases a;obtain⟨b,f,e⟩:=OF k d _ _ g;refine⟨.tuple b.toArray,?_,.tuple _ _ U .nil⟩;have:¬b.toArray.size=1:=by
  intro i;have j:=e.length;have l:∀(c:List ResultVar) (vs:aj),uv P T H c=some vs->vs.length=c.length:=by
   intro c;induction c with
   | nil=>intro vs h;cases h;rfl
   | cons r c m=>grind[uv]
  grind[length_eq_one_iff]
 simp_all
 grind
end
theorem Hy(a:(rs P f).f be args H=some aY):
  ∃fn c bP v,P.funcs[f]?=some fn/\fn.body=some c/\(dB P true c).f be (args++replicate (fn.ntmps-args.length) undef) H=some bP/\(∀id,bP.cG≠.exit id)/\uw P fn.results.toList bP.T bP.H=some v/\aY=⟨.ret,[v],bP.H⟩:=by
 unfold rs at a;split at a;split at a;simp only at a;unfold uz at a
 grind[gM,tq,f0]
 grind
 grind
theorem OG(fn:Func)(u:fV P B σ h H w)(y:H.cX<=H.next):
  ∀(ms:List Deferred) {τ:eH} {h1:Nat->Option Obj} {dc:an} {aM:World} {T:aj} {tmps:Array Value} {v:Value},fO σ H.next dc.next->G8 τ h1 dc H.next ms->e2 B σ h H w τ h1 dc aM->bt τ T tmps.toList->uw P fn.results.toList T dc=some v->
   LeavesInM (dZ none) 0 P fn tmps (fun e aE=>∃ap τ aH,e=.returned ap/\bV τ v ap/\e2 B σ h H w τ aH dc aE) ms .returning aM
 | [],τ,h1,dc,aM,T,tmps,v,l,q,st,z,g=>by obtain⟨ap,eA,C⟩:=Do (u.next st) z g;exact⟨ap,eA,ap,τ,h1,rfl,C,st⟩
 | d::ms,τ,h1,dc,aM,T,tmps,v,l,q,st,z,g=>by
  refine⟨aW,.inl ?_⟩;obtain⟨id,c,o,s,cU,F,I,kt,lH,m7⟩:=q.xN d aW;have p:=u.next st;have J:=p.fM.e7 id _ I;obtain⟨bC,K,bJ,bO,q2⟩:=J;rw[F]at bO;cases bO;refine⟨c,_,cU,run_takeDeferred q2,?_⟩;have L:∀j b bC K bJ,j≠id->h1 j=some b->τ j=some (bC,K,bJ)->bC≠c:=fun j b bC K bJ m a M e=>by subst e;exact p.fM.jG id j _ b (Ne.symm m) I a rfl _ _ _ _ _ _ F M rfl
  have f:jK τ B (fun j=>if j=id then none else h1 j) (aM.putObj c (.deferred none)):=by refine⟨fun j b a=>?_,fun j b a r=>?_,fun i j gN ft N S k r=>?_⟩;split at a;cases a;rename_i m;have gH:=p.fM.e7 j b a;obtain⟨V,bP,cr,n⟩:=gH.tl;exact gH.put n (L j b _ _ _ m a n);split at a;cases a;exact p.fM.own j b a r;have k:=k;split at S;cases S;split at k;cases k;exact p.fM.jG i j gN ft N S k r
  have C:hr B τ h1 dc.next aM τ (fun j=>if j=id then none else h1 j) dc.next (aM.putObj c (.deferred none)):=by refine⟨f,Nat.le_refl _,fun _ _=>rfl,fun _ _ h=>h,rfl,rfl,rfl,Nat.le_of_eq World.putObj_size.symm,fun x ey W=>?_,fun x ⟨j,b,bP,cr,a,r,ey⟩ _=>?_⟩;refine World.putObj_heap_other ?_;rintro rfl;exact W ⟨id,_,o,s,I,rfl,F⟩;have a:(if j=id then none else h1 j)=some b:=a;split at a;cases a;exact⟨j,b,bP,cr,a,r,ey⟩
  have X:e2 B σ h H w τ (fun j=>if j=id then none else h1 j) dc (aM.putObj c (.deferred none)):=by refine⟨st.fT.trans C,fun j b a=>?_,fun j b a=>?_,st.jL⟩;rw[if_neg (fun e=>a1)];exact p.sub j b a;by_cases k:j=id;exfalso;subst k;unfold eB at a;rw[if_pos aT]at a;obtain⟨V,bP,cr,n⟩:=(u.fM.e7 j b a).tl;rw[l j lH m7]at n;cases n;rw[if_neg k];exact st.tm j b a
  refine OG fn u y ms l ⟨fun dr t=>?_,(List.pairwise_cons.1 q.Af).2⟩ X z g;obtain⟨MX,V,bP,cr,n,l4,wm,lp,xR,Hz⟩:=q.xN dr (by simp[t]);refine⟨MX,V,bP,cr,n,l4,?_,lp,xR,Hz⟩;rw[if_neg ?_];exact wm;rintro rfl;exact(List.pairwise_cons.1 q.Af).1 dr t aT
theorem acd(q:cl P)(r:gB P be)(s:(rs P f).f be args H=some ⟨cG,[v],E⟩)(k:fV P B σ h H w)(b:fO σ H.next E.next)(l:bt σ args fb.toList):
  (∃fn c,P.funcs[f]?=some fn/\fn.body=some c)/\CallsIn (dZ none) 0 P f fb w (fun e aE=>∃ap τ aH,e=.returned ap/\bV τ v ap/\e2 B σ h H w τ aH E aE):=by
 obtain⟨fn,c,bP,I,m,o,t,J,d,u⟩:=Hy s;cases u;refine⟨⟨fn,c,m,o⟩,callsIn_of_wp_marks m o trivial ?_⟩;have g:args.length=fb.size:=by have:=l.length;omega
 have x:bt σ (args++replicate (fn.ntmps-args.length) undef) (fb++Array.replicate (fn.ntmps-fb.size) undef).toList:=by
  rw[Array.toList_append,Array.toList_replicate,g];refine l.append ?_;generalize fn.ntmps-fb.size=n;induction n with
  | zero=>exact .nil
  | succ n y=>exact bV.undef.cons y
 refine wpIn_mono (Aq q r true c _ _ _ t σ h w _ none (fun _=>rfl) k b x) ?_;rintro e i aE ⟨bO,ms,τ,aH,q2,z,C,F⟩;have j:i.defers=ms:=aT
 have a:LeavesInM (dZ none) 0 P fn i.tmps (fun e aE=>∃ap τ aH,e=.returned ap/\bV τ v ap/\e2 B σ h H w τ aH bP.H aE) i.defers .returning aE:=by rw[j];exact OG fn k k.cj ms b z F C d
 cases p:bP.cG with
 | exit id=>simp_all
 | normal=>rw[p]at bO;subst bO;exact a
 | ret=>rw[p]at bO;subst bO;exact a
theorem OH(a:vX l H=some E):∃r,dV H.c5 l=some r/\r.st=.ready/\rr l .busy H=some E:=by
 unfold vX at a;split at a;rename_i r b;split at a;rename_i ah;refine⟨r,b,?_,a⟩;cases h:r.st with
 | ready=>rfl
 | busy=>rw[h]at ah;cases ah
 | over e=>rw[h]at ah;cases ah
 grind
 grind
theorem OI(b:tf P be l args H=some aY):
  ∃r bP e1 cP d,(dV H.c5 l=some r/\k2 r=false)/\args.length=r.bv.length/\(dB P false r.cD).f be (ux r.T r.bv args) H=some bP/\bP.cG=.normal/\vX l bP.H=some e1/\(dB P false r.body).f be bP.T e1=some cP/\rr l (xw cP.cG) cP.H=some d/\aY=⟨.ret,[.bool (uy cP.cG)],d⟩:=by
 unfold tf at b;split at b
 case h_2=>cases b
 case h_1 r h=>
 split at b
 case h_2=>cases b
 case h_1 c=>
 obtain⟨bP,i,j,a⟩:=Oy b;split at a
 case h_2=>cases a
 case h_1 e1 k=>
 unfold zU at a;split at a
 case h_2=>cases a
 case h_1 e m d g=>
 split at a
 case h_2=>cases a
 case h_1 n o=>
 cases a;rw[f0,f0,Bool.and_eq_true]at c
 grind[eq_of_beq_eq_true]
theorem OJ:∀(bv:List Tmp) (T:aj) (tmps:Array Value) (args:aj) (fb:aj),bt σ T tmps.toList->bt σ args fb->
  bt σ (ux T bv args) ((bv.zip fb).foldl (fun tmps (x:Tmp×Value)=>tmps.setIfInBounds x.1 x.2) tmps).toList
 | [],T,tmps,args,fb,a,_=>by cases args<;>exact a
 | p::bv,T,tmps,[],fb,a,b=>by rw[b.nN];exact a
 | p::bv,T,tmps,v::vs,fb,a,b=>by obtain⟨ap,bQ,rfl,c,d⟩:=b.k7;refine OJ bv _ _ vs bQ ?_ d;rw[mu,Array.toList_setIfInBounds];exact a.set p c
theorem ace(kd:cl P)(y:gB P be)(g9:tf P be l args H=some ⟨cG,[v],E⟩)(r:Option Nat)(k:fV P B σ h H w)(b:fO σ H.next E.next)(hv:bt σ args fb.toList)(i:σ l=some (c,o,s)):
  ∃fn tmps cD body,(Instr.yield c fb).run P w=.ok (.round c fn tmps cD body) w/\RoundIn (dZ r) 0 P c fn tmps cD body w (fun e aE=>∃ap τ aH,e=.returned ap/\bV τ v ap/\e2 B σ h H w τ aH E aE):=by
 obtain⟨kw,bP,e1,cP,z,gA,hlen,h1,C,d5,h2,hm,gH⟩:=OI g9;obtain⟨pL,F,I⟩:cG=.ret/\v=.bool (uy cP.cG)/\E=z:=a1
 subst pL F;rw[I]at b⊢;obtain⟨_,bC,l1,bJ,L,bO,q2,fu,p⟩:=k.Df gA.1 gA.2;rw[i]at bO;cases bO;have J:fb.size=L.params.size:=by
  have K:=hv.length;have dw:=congrArg length p.bv
  simp_all
 obtain⟨acf,M,N,j⟩:=OH d5;have ox:=j2 y false _ _ _ _ k.cj h1;have jr:=Ht j;have S:=j2 y false _ _ _ _ (jr.wf (ox.wf k.cj)) h2;have m:z.next=cP.H.next:=by obtain⟨_,_,_,_,e⟩:=Dg hm;rw[e]
 have q:e1.next=bP.H.next:=by obtain⟨_,_,_,_,e⟩:=Dg j;rw[e]
 refine⟨_,_,_,_,run_yield fu J,roundIn_of_wpIn trivial ?_⟩;rw[p.cD,p.body];have gC:bt σ (ux kw.T kw.bv args) ((L.params.zip fb).foldl (fun tmps (x:Tmp×Value)=>tmps.setIfInBounds x.1 x.2) L.tmps).toList:=by rw[<- Array.foldl_toList,Array.toList_zip,p.bv];exact OJ _ _ _ _ _ p.T hv
 refine wpIn_mono (Aq kd y false kw.cD _ _ _ h1 σ h w _ (some c) (fun h=>by cases h) k (b.left (by rw[m,<- q];exact S.dI |> Nat.le_trans (Nat.le_refl _))) gC) ?_;rintro e V aM ⟨b5,Dh,τ,eh,ax,bn,qG,t⟩;rw[C]at b5;subst b5;have i5:=k.next t;have awy:=b.right t.fT;have W:fO σ H.next bP.H.next:=b.left (by rw[m,<- q];exact S.dI);obtain⟨awz,OK,K,dw,gO,kt⟩:=Ow i5 j (t.fT.mono _ _ i);rw[M]at K;cases K;have f:OK.state=.ready:=by have:=gO.st;rw[N]at this;exact this.1
 obtain⟨g0,uK⟩:=kt .busy OK.pending rfl;refine⟨_,run_beginRound dw f,?_⟩;have j1:=i5.next uK;have X:fO τ e1.next z.next:=a1
 refine wpIn_mono (Aq kd y false kw.body _ _ _ h2 τ g0 _ V (some c) (fun h=>by cases h) j1 (X.left U) qG) ?_;rintro e mP ca ⟨n,awA,lF,iL,r2,dC,eK,nR⟩;have ma:=j1.next nR;have xT:=nR.fT.mono _ _ (t.fT.mono _ _ i);obtain⟨gd,dL,si,l4,wm,lp⟩:=Ow ma hm xT;have d:∀(a:Option Code) (g:LoopState),G6 (xw cP.cG) g a->g=(if a.isNone then .ready else .done)->(a.isNone=uy cP.cG)->
   ∃v aE,(Instr.endRound c a).run P ca=.ok v aE/\(∃ap τ aH,Ending.returned v=.returned ap/\bV τ (.bool (uy cP.cG)) ap/\e2 B σ h H w τ aH z aE):=by
  intro a g lm u jI;obtain⟨j0,acg⟩:=lp g a lm;refine⟨_,_,run_endRound a l4,_,lF,j0,rfl,by rw[jI];exact bt.bool _ .nil,?_⟩;rw[<- u];have V:=(t.trans k W uK).trans k (b.left (by rw[m];exact S.dI)) nR;exact V.trans k (b.left U) acg
 cases he:cP.cG with
 | normal=>rw[he]at n d;subst n;exact d none .ready ⟨rfl,rfl⟩ rfl rfl
 | ret=>rw[he]at n d;subst n;exact d (some .ret) .done ⟨rfl,rfl⟩ rfl rfl
 | exit id=>rw[he]at n d;subst n;exact d (some (.exit id)) .done ⟨rfl,rfl⟩ rfl rfl
theorem pO(z:cl P)(d:gB P be):gB P (step P be):=by
 refine⟨?_,?_,?_,?_⟩;intro t p j x;cases t with
 | loop c6 c T H=>
  obtain⟨bP,u,i⟩:=pb j;have m:=j2 d c6 c _ _ _ x u;rcases i with⟨_,i⟩|⟨_,rfl⟩
  exact m.trans (d.jL _ _ i (m.wf x));exact m
 | call f g H=>obtain⟨fn,c,bP,fs,ts,S,fR,F,V,rfl⟩:=Hy j;exact j2 d true c _ H bP x fR
 | round l g H=>obtain⟨kw,bP,e1,cP,oA,gA,W,u,ab2,S,i,hm,rfl⟩:=OI j;obtain⟨acf,awB,awC,I⟩:=OH S;have C:=j2 d false _ _ _ _ x u;have y:=Ht I;have xG:=j2 d false _ _ _ _ (y.wf (C.wf x)) i;exact((C.trans y).trans xG).trans (Ht hm)
 intro f g H X v E j B σ h w fb k b J;exact acd z d j k b J;intro l g H X v E j B σ h w fb c o s r k b J K;exact ace z d j r k b J K;obtain⟨n,eZ⟩:=d.loop;refine⟨n+1,?_⟩;intro c6 c T H p j B σ h w a r L k b gC;obtain⟨bP,u,i⟩:=pb j;have C:=j2 d c6 c _ _ _ k.cj u;rcases i with⟨F,i⟩|⟨F,rfl⟩
 have y:=d.jL _ _ i (C.wf k.cj);refine wpIn_mono (Aq z d c6 c _ _ _ u σ h w a r L k (b.left y.dI) gC) ?_;rintro e M aE ⟨bO,ms,τ,aH,q2,Dk,fu,N⟩;rw[F]at bO;subst bO;exact Ox (qC.trans k (b.left y.dI) N q2 Dk) n M aE (eZ c6 c bP.T bP.H p i B τ aH aE M r L (k.next N) (b.right N.fT) fu);refine wpIn_mono (Aq z d c6 c _ _ _ u σ h w a r L k b gC) ?_;rintro e M aE q;have bO:=q.1;cases he:p.cG with
 | normal=>simp_all
 | exit id=>rw[he]at bO;subst bO;exact q
 | ret=>rw[he]at bO;subst bO;exact q
end
end Go.Ab
namespace Go.Ab
open Go
variable{H E P W W' Af args before cG f awD awE n At dR v}
def ng(n:Nat):an:=⟨Nat.rec (motive:=fun _=>Tr ef) .nil (fun k t=>t.set k none) n,n,0,[]⟩
def Dp (P:Program):Bool:=hH (fun fn=>not (fn.name== "runtime.NumGoroutine")) P.funcs.toList&&P.follows .mixedOrders
theorem OL(h:Dp P=true):cl P:=by
 unfold Dp at h;rw[Bool.and_eq_true,ia,all_eq_true]at h;refine⟨fun f fn a b=>?_,h.2⟩
 grind
theorem OM:∀(n i:Nat),(ng n).get i=none
 | 0,i=>rfl
 | n+1,i=>by
  cases h:(ng (n+1)).get i with
  | none=>rfl
  | some b=>
   rcases Tr.xy _ _ _ _ _ h with⟨_,a⟩|⟨_,a⟩
   cases a;have c:(ng n).get i=some b:=a;rw[OM n i]at c;cases c
abbrev lq(w:World):gi:=⟨fun c=>w.heap[c]?,w.heap.size⟩
section
open Go.ChangeShapes Go.WideShapes Go.ChangeAt Go.RowKit
end
end Go.Ab
namespace Go.Ab
open Go
variable{F H args c g l be aY w aE x y}{σ:eH}{P:Program}{n:Nat}{f:FuncId}{v:Value}
def wq:Value->Bool
 | .bool _=>true
 | .int _ _=>true
 | .string _=>true
 | .nilFunc=>true
 | .nilIface=>true
 | _=>false
def uL:Value->Bool
 | .agg ag=>ag.toList.all wq
 | v=>wq v
def ON:Value->Bool
 | .tuple vs=>vs.toList.all uL
 | v=>uL v
theorem bt.wq:∀ {ae bl:aj},bt σ ae bl->ae.all wq=true->bl=ae
 | [],bl,h,_=>h.nN
 | x::ae,bl,h,a=>by rw[all_cons,Bool.and_eq_true]at a;obtain⟨y,r,rfl,b,c⟩:=h.k7;rw[c.wq a.2];have a:=a.1;cases x<;>first|(cases a;done)|(cases b;rfl)
theorem OO{σ:eH}:∀ {ae:aj},ae.all Ab.wq=true->bt σ ae ae
 | [],_=>.nil
 | x::ae,a=>by
  rw[all_cons,Bool.and_eq_true]at a;have r:=OO (σ:=σ) a.2;have a:=a.1;cases x<;>first|(cases a;done)|skip
  ·exact .bool _ r
  ·exact .int _ _ r
  ·exact .string _ r
  ·exact .nilFunc r
  ·exact .nilIface r
theorem bt.uL:∀ {ae bl:aj},bt σ ae bl->ae.all Ab.uL=true->bl=ae
 | [],bl,h,_=>h.nN
 | x::ae,bl,h,b=>by
  rw[all_cons,Bool.and_eq_true]at b;obtain⟨y,r,rfl,d,f⟩:=h.k7;rw[f.uL b.2];have b:=b.1;cases x<;>first|(cases b;done)|skip
  case agg ag _=>
   obtain⟨bA,c,e⟩:∃bA:Array Value,bt σ ag.toList bA.toList/\y=.agg bA:=by cases d;simp_all
   rw[e,show bA=ag from Array.ext' (bt.wq c b)]
  all_goals (cases d;rfl)
theorem HA{σ:eH}:∀ {ae:aj},ae.all Ab.uL=true->bt σ ae ae
 | [],_=>.nil
 | x::ae,a=>by
  rw[all_cons,Bool.and_eq_true]at a;have r:=HA (σ:=σ) a.2;have a:=a.1;cases x<;>first|(cases a;done)|skip
  case agg ag _=>exact .agg _ _ (OO a) r
  ·exact .bool _ r
  ·exact .int _ _ r
  ·exact .string _ r
  ·exact .nilFunc r
  ·exact .nilIface r
theorem ach(a:Ab.ON x=true):bV σ x x:=by
 cases x<;>first|(cases a;done)|skip
 case tuple ag=>exact .tuple _ _ (HA a) .nil
 all_goals exact HA (by rw[all_cons,Bool.and_eq_true];exact⟨a,rfl⟩)
class ct where
 h3:FuncId->aj->an->Option Value
 /-- awF body, MA aci the ot (a function MA defers) -/
 ke:FuncId->Option Code
@[reducible] def awG (g:FuncId):ct:=⟨fun f args _=>cond (beq f g&&beq (e6 args) 0) (some (.bool true)) none,fun _=>none⟩
def oB(P:Program)(f:FuncId)(c:Code)(self:hY)(args:aj)(H:an):Option eG:=match P.funcs.toList[f]? with
 | some fn=>cond (ble (e6 args) (fn.params.size+fn.nfree)) (uz P fn.results.toList ((dB P true c).f self (gx args (fr (fn.ntmps-e6 args) [undef])) H)) none
 | none=>none
def xU[ct](P:Program)(self:hY)(t:vS):Option eG:=match t with
 | .call f args H=>match ct.h3 f args H with
  | some v=>some ⟨.ret,[v],H⟩
  | none=>match ct.ke f with
   | some c=>oB P f c self args H
   | none=>step P self (.call f args H)
 | t=>step P self t
def ea[ct](P:Program)(n:Nat):hY:=Nat.rec (motive:=fun _=>hY) (fun _=>none) (fun _ a t=>xU P a t) n
def tu[gi](P:Program)(f:FuncId)(args:aj)(H:an)(v:Value):Prop:=
 ∀(B:Nat) (σ:eH) (h:Nat->Option Obj) (w:World) (fb:Array Value),fV P B σ h H w->bt σ args fb.toList->
  (∃fn c,P.funcs[f]?=some fn/\fn.body=some c)/\CallsIn (dZ none) 0 P f fb w (fun e aE=>∃ap,e=.returned ap/\bV σ v ap/\RowKit.Below w.heap.size w aE)
def xV[gi][ct](P:Program)(f:FuncId)(c:Code):Prop:=
 ∀n,(∀m,m<=n->gB P (ea P m))->∀args H cG v E,oB P f c (ea P n) args H=some ⟨cG,[v],E⟩->∀(B:Nat) (σ:eH) (h:Nat->Option Obj) (w:World) (fb:Array Value),fV P B σ h H w->fO σ H.next E.next->bt σ args fb.toList->
  (∃fn c,P.funcs[f]?=some fn/\fn.body=some c)/\CallsIn (dZ none) 0 P f fb w (fun e aE=>∃ap τ aH,e=.returned ap/\bV τ v ap/\e2 B σ h H w τ aH E aE)
structure Au [gi] [ct] (P:Program):Prop where
 h3:∀f args H v,ct.h3 f args H=some v->tu P f args H v
 ke:∀f c,ct.ke f=some c->xV P f c
section
variable[gi][ct]
omit [gi] [ct] in
theorem jK.below{B:Nat}{h:Nat->Option Obj}{w:World}{aE:World}(ah:jK σ B h w)(f:RowKit.Below w.heap.size w aE):jK σ B h aE:=by
 refine⟨fun id b k=>?_,ah.own,ah.jG⟩;have e:=ah.e7 id b k;have g:=fun c o s (l:σ id=some (c,o,s))=>(e.dW l).2
 cases b with
 | cells x=>obtain⟨c,o,s,i,m,n,a,d,j⟩:=e;exact⟨c,o,s,i,m,n,a,by rw[f.block c (g _ _ _ a)];exact d,j⟩
 | loop x=>obtain⟨c,o,s,L,a,d,j⟩:=e;exact⟨c,o,s,L,a,by rw[f.block c (g _ _ _ a)];exact d,j⟩
 | ln=>obtain⟨c,o,s,a,d⟩:=e;exact⟨c,o,s,a,by rw[f.block c (g _ _ _ a)];exact d⟩
theorem HB(a:oB P f c be args H=some aY):
  ∃fn bP v,P.funcs[f]?=some fn/\(dB P true c).f be (args++replicate (fn.ntmps-args.length) undef) H=some bP/\(∀id,bP.cG≠.exit id)/\uw P fn.results.toList bP.T bP.H=some v/\aY=⟨.ret,[v],bP.H⟩/\args.length<=fn.params.size+fn.nfree:=by
 unfold oB at a;split at a
 ·rename_i fn d;cases b:ble (e6 args) (fn.params.size+fn.nfree)with
  | false=>simp_all
  | true=>
  rw[b]at a;unfold uz at a;split at a
  ·split at a
   ·cases a
   ·split at a
    ·simp_all[f0,gM,tq]
    grind
  grind
 grind
theorem acj(C:cl P)(x:Au P)(y:∀m,m<=n->gB P (ea P m)):gB P (xU P (ea P n)):=by
 have z:=y n (Nat.le_refl _);have s:=pO C z;refine⟨?_,?_,fun l a H j v E d=>s.round l a H j v E d,?_⟩;intro t g d q;cases t with
 | loop c6 c T H=>exact s.jL (.loop c6 c T H) g d q
 | round l a H=>exact s.jL (.round l a H) g d q
 | call f a H=>have d:(match ct.h3 f a H with|some v=>some ⟨.ret,[v],H⟩|none=>match ct.ke f with|some c=>oB P f c (ea P n) a H|none=>step P (ea P n) (.call f a H))=some g:=d;split at d;cases d;exact fG.refl H;split at d;obtain⟨fn,bP,v,_,o,_,_,rfl,_⟩:=HB d;exact j2 z true _ _ _ bP q o;exact s.jL (.call f a H) g d q
 intro f a H j v E d B σ h w fb k p r;have d:(match ct.h3 f a H with|some v=>some ⟨.ret,[v],H⟩|none=>match ct.ke f with|some c=>oB P f c (ea P n) a H|none=>step P (ea P n) (.call f a H))=some ⟨j,[v],E⟩:=d;split at d;rename_i K F;cases d;obtain⟨I,J⟩:=x.h3 f a _ _ F B σ h w fb k r;refine⟨I,CallsIn.mono J ?_⟩;rintro e aE ⟨ap,rfl,u,i⟩;refine⟨_,σ,h,rfl,u,⟨k.fM.below i,Nat.le_refl _,fun _ _=>rfl,fun _ _ h=>h,i.os,i.tape,i.output,i.size,fun c o _=>i.block c o,fun _ h _=>h⟩,k.sub,fun id b i=>by rwa [xM]at i,fG.refl H⟩;split at d;rename_i c o;exact x.ke f c o n y a H j v E d B σ h w fb k p r;exact s.call f a H j v E d B σ h w fb k p r;exact s.loop
theorem OP(a:cl P)(b:Au P):∀n m,m<=n->gB P (ea P m)
 | 0,m,d=>by
  obtain rfl:m=0:=U
  exact⟨fun _ _ h=>(by cases h),fun _ _ _ _ _ _ h=>(by cases h),fun _ _ _ _ _ _ h=>(by cases h),0,fun _ _ _ _ _ h=>(by cases h)⟩
 | n+1,m,d=>by
  have c:=OP a b n;by_cases h:m<=n;exact c m h;obtain rfl:m=n+1:=U
  exact acj a b c
theorem ack(a:cl P)(b:Au P)(n:Nat):gB P (ea P n):=OP a b n n (Nat.le_refl _)
end
section
variable[gi]
end
end Go.Ab
