/- texts of the kp, du behind the jV -/
import Derived.Test.YtifflnhooaophaaGreatDoorUI
set_option linter.unusedVariables false
set_option linter.unusedSimpArgs false
set_option linter.unusedSectionVars false
set_option maxHeartbeats 4000000
set_option maxRecDepth 100000
open List Nat
namespace J
open Go Go.Ab
variable[c0:cH]
section
variable{H K dD cp c aq cs aX ah bc kv m KD ov st t bF cC ab}
def lx(kv:Value)(t:rU)(bc cp ov:Value)(dD KD:Nat)(ah cs:Bool)(st:Nat)(aX:Int):aj:=
 [kv,a6 t.cd,bB .u64 t.cj,int t.dC,bc,cp,ov,int dD,int KD,.bool ah,.bool cs,ad st 0,int aX]
theorem ao7{i:Nat}{j:Nat}(e:m.bw.length=32)(g:df ab aq m.aU)(a:ac H ab)(d:ab[i]?=some (aa c (lx kv t bc cp ov dD KD ah cs st aX)))(f:ab[j]?=some (aa st (gV m aq cC bF)))
  (b:K (int (if ah=true then(if bF=m.aU.length then-2 else(bF:Int))else-1)) H):aG P 164 [ad c 0] H K:=by
 refine aiM.1 ?_;refine ai (bk a i d rfl (Z fX ?_));cases ah with
 | false=>exact dz rfl b
 | true=>refine cT rfl (ai (bk a i d rfl (Kw e g a f (ay (fun h=>?_) (fun h=>?_)))));rw[if_pos h]at b;exact b;rw[if_neg h]at b;exact ai (bk a i d rfl (ai (bk a j f (Fg e) b)))
end
section
end
section
variable{a b ag n p size v ab bL}
def j3(size:Nat)(ab:LB)(v:Value)(n:Nat)(ag:aj):Prop:=
 (v=aA/\n=0/\ag=[])\/∃(p c j:Nat) (w:Bool),v=am p 0 n c/\ab[j]?=some (p,(⟨ag,w⟩:ef))/\ag.length=n*size
theorem j3.app(h:j3 size ab v n ag):j3 size (ab++bL) v n ag:=by
 rcases h with h|⟨p,c,j,w,a,b,d⟩
 exact .inl h;exact .inr ⟨p,c,j,w,a,ak b,d⟩
theorem VC(c:a≠p)(d:b≠p):lj [a,b] [p]=true:=by grind[eq_of_beq_eq_true,lj,ia,om]
theorem KE(b:a≠p):lj [a] [p]=true:=by grind[eq_of_beq_eq_true,lj,ia,om]
theorem KF(H:an):(gY P 130 0).f [] H=some (am H.next 0 0 83,H.push []):=ao
end
section
variable{H K ag n q v ab}
theorem ao8(a:ac H (ab++[aa q []]))(h:j3 41 ab v n ag)(k:ag.all cS=true)(r:n<=1000000)(b:∀d E,ac E (ab++aw d ag)->dK 41 d n ag->K d E):a7 (dj 41 144 (am q 0 0 83) v H) K:=by
 rcases h with⟨rfl,rfl,rfl⟩|⟨p,c,j,w,rfl,l,i⟩
 exact bg (rfl) (b (am q 0 0 83) H a (.inr ⟨q,.inr rfl,rfl⟩));by_cases m:n=0;subst m;have:ag=[]:=length_eq_zero_iff.1 U;subst this;exact bg (rfl) (b (am q 0 0 83) H a (.inr ⟨q,.inr rfl,rfl⟩));have s:=a.at j (ak l) (.inr fun e=>aT);have o:m5 H 41 n (am p 0 n c)=some ag:=by simp_all[tA,take_of_length_le]
 have f:=a;apply ww f (.inr ⟨q,.inr rfl,rfl⟩) U rfl o U U U k i;intro ax E g _;rw[Nat.zero_add];exact b (am ax 0 n 82) E g (.inr ⟨ax,.inl rfl,i⟩)
end
section
variable{H K ag b3 n v ab}
theorem ao9(h:b3.length=41)(H:an):(gY P 130 1).f [(0,agg b3)] H=some (am H.next 0 1 83,H.push b3):=by
 obtain⟨a,b,rfl,c,d⟩:∃a b:aj,b3=a++b/\a.length=21/\b.length=20:=⟨b3.take 21,b3.drop 21,(take_append_drop 21 b3).symm,by simp[h],by simp[h]⟩
 match a,c,b,d with
 | [a0,t,u,a3,a4,a5,v,w,x,a9,e,g,i,j,k,l,m,n,o,p,a20],_,[y,z,B,C,F,I,J,K,JB,L,q,r,b12,s,b14,b15,b16,b17,b18,b19],_=>rfl
theorem apa(a:ac H ab)(h:j3 41 ab v n ag)(s:ag.all cS=true)(z:n<=100000)(f:b3.length=41)(g:b3.all cS=true)
  (t:∀e E,ac E (ab++aw e (ag++b3))->dK 41 e (n+1) (ag++b3)->K e E):aG P 166 [v,agg b3] H K:=by
 refine aiO.1 ?_;apply b0 a;intro u B a;have b:=a;apply el a (KF _);intro q C a;have d:=a;refine ao8 a h.app s U fun e F a k=>bK a f U ?_
 have o:=J.ac.ve d (i:=(ab++[aa u b3]).length+0) (j:=ab.length+0) (al rfl) (ak (al rfl)) aW;refine⟨?_,t1 (E:=H) d (i:=ab.length+0) (ak (al rfl)) _,t1 (E:=H) b (i:=ab.length+0) (al rfl) _,?_⟩;rcases h with⟨rfl,_⟩|⟨p,c,j,w,rfl,r,_⟩
 exact KE o;have x:=(List.getElem?_eq_some_iff.1 r).1;exact VC o (J.ac.ve b (j:=ab.length+0) (ak r) (al rfl) U);refine el a (ao9 f _) fun I L a=>qQ a k f U g U U fun y l a m=>t y l (a.sub ?_) m
 exact List.Sublist.append (sublist_append_left ab _) (List.Sublist.refl _)
end
section
variable{A B C H K S T c aq cs aX kv l m o l1 p q r1 r2 eK au cq aO t v}
theorem VD(a:m.bw.length=32):(aR m aq).set (0+36) v=aR m v:=by simp_all[aR]
def Fi:Value->Bool
 | .pointer none=>false
 | _=>true
theorem apb:(cz P .neq 251 true).f (.pointer none) (.pointer none)=some (.bool false):=ao
theorem apc(h:p≠q):pP (dM [ad p o]) (dM [ad q l1,agg l]):=KE h
end
section
variable{H:an}{S T ev X:LB}{K:VH}{v w x aq kv aO cq:Value}{ae bl bs b key:LI}{p q r n f aS st bF c:Nat}{e aX:Int}{ag bI:aj}{l:List UInt8}{m au:fi}{t:rU}{aI:List aj}{b3:aj}{aU:List LI}{cs:Bool}{A B C:gI}{F:LB}
inductive Al {α β:Type} (R:α->β->Prop):List α->List β->Prop
 | nil:Al R [] []
 | cons {a b l m}:R a b->Al R l m->Al R (a::l) (b::m)
namespace Al
variable{α β:Type}{R jk:α->β->Prop}{l bN:List α}{m nM:List β}
theorem len(h:Al R l m):l.length=m.length:=by
 induction h with
 | nil=>rfl
 | cons _ _ a=>simp[a]
theorem imp(c:∀a b,R a b->jk a b)(h:Al R l m):Al jk l m:=by
 induction h with
 | nil=>exact .nil
 | cons h _ d=>exact .cons (c _ _ h) d
theorem app(h:Al R l m)(aH:Al R bN nM):Al R (l++bN) (m++nM):=by
 induction h with
 | nil=>exact aH
 | cons h _ a=>exact .cons h a
theorem du{a:α}{b:β}(h:R a b):Al R [a] [b]:=.cons h .nil
theorem all{p:β->Prop}(d:∀a b,R a b->p b)(h:Al R l m):∀x∈m,p x:=by
 induction h with
 | nil=>intro x c;cases c
 | cons h _ e=>intro x c;rcases List.mem_cons.1 c with rfl|c;exact d _ _ h;exact e x c
end Al
theorem n2.app{p:Int×LI}(h:n2 S p b3):n2 (S++X) p b3:=by have⟨v,a,b,c,d⟩:=h;exact⟨v,a,b.app,c,fun h=>(d h).app⟩
theorem rV.app{s:hn}(h:rV S s b3):rV (S++X) s b3:=by
 cases s with
 | kl a=>exact h
 | jj n m=>have⟨aq,b,c,d⟩:=h;exact⟨aq,b,c.app,d⟩
 | body a bs=>have⟨v,b,c,d⟩:=h;exact⟨v,b,c.app,d⟩
 | gD=>exact h
structure mV (S:LB) (R:gI) (l:List (Int×LI)):Prop where
 kW:gU 2 R.n R.f R.aI R.ag
 pv:Al (n2 S) l R.aI
 dI:∀p∈l,p.2.length<=1000000
structure mW (S:LB) (R:gI) (l:List hn):Prop where
 kW:gU 1 R.n R.f R.aI R.ag
 pv:Al (rV S) l R.aI
theorem mV.app{l}(h:mV S A l):mV (S++X) A l:=⟨h.kW,h.pv.imp fun _ _=>n2.app,h.dI⟩
theorem mW.app{l}(h:mW S A l):mW (S++X) A l:=⟨h.kW,h.pv.imp fun _ _=>rV.app⟩
theorem mV.len{l}(h:mV S A l):A.aI.length=l.length:=h.pv.len.symm
theorem mW.len{l}(h:mW S A l):A.aI.length=l.length:=h.pv.len.symm
theorem mV.w2{l}(h:mV S A l):l.length<=A.n:=by rw[<- h.len];exact h.kW.jy
theorem mW.w2{l}(h:mW S A l):l.length<=A.n:=by rw[<- h.len];exact h.kW.jy
theorem mW.h6{l}{s:hn}(h:mW S A l)(a:gU 1 A.n A.f (A.aI++[b3]) bI)(ah:rV S s b3):mW S (A.h6 bI b3) (l++[s]):=⟨a,h.pv.app (.du ah)⟩
theorem mV.h6{l}{p:Int×LI}(h:mV S A l)(b:gU 2 A.n A.f (A.aI++[b3]) bI)(ah:n2 S p b3)(d:p.2.length<=1000000):mV S (A.h6 bI b3) (l++[p]):=⟨b,h.pv.app (.du ah),fun q c=>by
 rcases mem_append.1 c with a|a
 exact h.dI q a
 simp_all⟩
theorem mV.du{l}(h:mV S A l):∀e∈A.aI,e.all cS=true:=h.pv.all fun p f b=>by obtain⟨v,rfl,d,g,_⟩:=b;obtain⟨a,n,c,rfl⟩:=d.ha;rfl
structure fj where
 key:LI
 t:rU
 fJ:List (Int×LI)
 ac1:List hn
 gW:List hn
 aC:Nat
 h0:Nat
 au:fi
 ah:Option (LI×Nat)
 cs:Bool
 aX:Int
def fj.cu(s:fj):Int:=match s.ah with
 | none=>-1
 | some (_,w)=>if w=s.au.aU.length then-2 else(w:Int)
def fj.sS(s:fj)(b:LI):fj:=
 if(eQ s.key b).2.2≠0 then {s with ac1:=s.ac1++[.kl (-1)]}
 else if oT (eQ s.key b).1 s.t≠0 then {s with aX:=oT (eQ s.key b).1 s.t}
 else {s with au:=(eQ s.key b).1,ah:=some ([],0),ac1:=s.ac1++[.jj (eQ s.key b).2.1 (eQ s.key b).1],gW:=s.gW++[.jj (eQ s.key b).2.1 (eQ s.key b).1]}
def fj.dv(s:fj)(ae:LI)(w:Nat)(bl:LI):fj:=
 if(bl.length:Int)=(gl s.au w).2/\hP bl=s.au.aU.getD w []then {s with ah:=some (ae++bl,w+1),gW:=s.gW++[.body w bl]}
 else {s with ac1:=s.ac1++[.kl w]}
def fj.im(s:fj)(ae:LI):Bool×fj:=
 if s.gW.length=s.h0 then(false,s)
 else if hP ae=s.au.bw then(true,{s with gW:=s.gW++[.gD],cs:=true})else(true,{s with aX:=153})
def fj.vk(s:fj)(r:List (Int×LI)):fj:={s with fJ:=r}
def fj.step(s:fj):Bool×fj:=
 if s.aX≠0\/s.cs=true then(false,s)
 else match s.ah with
  | some (ae,w)=>if w=s.au.aU.length then s.im ae else match s.fJ with
   | []=>(false,s)
   | p::r=>if s.ac1.length=s.aC\/s.gW.length=s.h0 then(false,s)else
    (true,if p.1=w then(s.vk r).dv ae w p.2 else s.vk r)
  | none=>match s.fJ with
   | []=>(false,s)
   | p::r=>if s.ac1.length=s.aC\/s.gW.length=s.h0 then(false,s)else
    (true,if p.1=-1 then(s.vk r).sS p.2 else s.vk r)
inductive t2 (S:LB) (au:fi):Option (LI×Nat)->Value->LB->Prop
 | t6:t2 S au none (.pointer none) []
 | a6 (ae:LI) (bF st:Nat) (aq:Value) (aS:Nat) (ev:LB):dy au->df S aq au.aU->j7 aS ae ev->bM ae->bF<=au.aU.length->ae.length<=bF*2000->t2 S au (some (ae,bF)) (ad st 0) (sR st au aq aS bF ev)
theorem t2.app{ah}(h:t2 S au ah cq T):t2 (S++X) au ah cq T:=by
 cases h with
 | t6=>exact .t6
 | a6 ae bF st g i ev a b c d e f=>exact .a6 _ _ _ _ _ _ a b.app c d e f
theorem t2.apd{ah}(h:t2 S au ah cq T):cq=.pointer none\/∃st,cq=ad st 0:=by
 cases h with
 | t6=>simp_all
 | a6 ae bF st=>simp_all
structure q5 (S:LB) (s:fj) (A B C:gI) (kv aO cq:Value) (T:LB):Prop where
 kv:bx S kv s.key
 kB:bM s.key
 jy:s.key.length<=1000000
 n3:s.t.cd.length<=1000000
 a:mV S A s.fJ
 b:mW S B s.ac1
 c:mW S C s.gW
 eJ:B.n=s.aC
 yi:C.n=s.h0
 ok:s.au.br
 aO:df S aO s.au.aU
 a6:t2 S s.au s.ah cq T
theorem ape{s:fj}(h:q5 S s A B C kv aO cq T)(b:ac H ((S++F)++f7 A B C c (ew kv s.t A.r B.r C.r s.au aO cq s.cs s.aX) T))(a:K (int s.cu) H):aG P 134 [ad c 0] H K:=by
 have ah:=h.a6;unfold fj.cu at a;generalize s.ah=d at*;cases ah with
 | t6=>exact aoV h.ok.bi b a
 | a6 ae bF st f g ev i e j k l m=>exact aoW h.ok.bi h.ok.bi e.app b a
end
section
variable{A hs Eb B C F H K M S T X b c bI b3 aI kv l m p s cq aO w bF ae bl}
structure gI.en (A hs:gI):Prop where
 r:hs.r=A.r
 q:hs.q=A.q
 n:hs.n=A.n
theorem gI.en.eu:gI.en A A:=⟨rfl,rfl,rfl⟩
theorem w3:gI.en A (A.h6 bI b3):=⟨rfl,rfl,rfl⟩
theorem Fj:gI.en A (A.di bI aI):=⟨rfl,rfl,rfl⟩
theorem Fk(h:ac H (((S++F)++X)++M)):ac H (((S++X)++F)++M):=h.cf (by rw[append_assoc S F X,append_assoc S X F];exact List.Perm.append_right M (List.Perm.append_left S perm_append_comm))
def vl(S F:LB)(s:fj)(A B C:gI)(c:Nat)(kv:Value)(H:an):Prop:=
 ∃aO cq T,q5 S s A B C kv aO cq T/\ac H ((S++F)++f7 A B C c (ew kv s.t A.r B.r C.r s.au aO cq s.cs s.aX) T)
theorem VE{w:Nat}(h:dy m):(gl m w).2<=1024:=by grind[gl,dy]
theorem mV.di(h:mV S A (p::l))(b:A.aI=b3::aI)(c:gU 2 A.n ((A.f+1)%A.n) aI bI):n2 S p b3/\mV S (A.di bI aI) l:=by
 have a:=h.pv;rw[b]at a;cases a with
 | cons a d=>exact⟨a,c,d,fun q e=>h.dI q (mem_cons_of_mem _ e)⟩
theorem VF(h:q5 S s A B C kv aO cq T):s.cu=-2↔∃ae,s.ah=some (ae,s.au.aU.length):=by
 unfold fj.cu
 grind
theorem apf(h:q5 S s A B C kv aO cq T)(d:ac H ((S++F)++f7 A B C c (ew kv s.t A.r B.r C.r s.au aO cq s.cs s.aX) T))(g:s.ah=some (ae,s.au.aU.length))
  (b:∀E X l,gI.en C l->vl (S++X) F (s.im ae).2 A B l c kv E->K (.bool (s.im ae).1) E):aG P 135 [ad c 0] H K:=by
 have ah:=h.a6;have⟨m,n,o,p,q,u,f,v,w,a,e,_⟩:=h;have W:=f.len;rw[g]at ah;cases ah with
 | a6 ae bF st M aS ev x i j k y z=>
  have I:s.au.aU.length<=64:=by simp_all[dy]
  unfold fj.im at b;refine aoZ a.bi a i.app d f.kW j k U ?_ ?_ ?_;intro J;rw[if_pos U]at b;exact b H [] C .eu ⟨aO,_,_,by rw[append_nil];exact h,by rw[append_nil];exact d⟩;intro J L H d;rw[if_neg U,if_neg a1]at b;refine b H [] C .eu ⟨aO,_,_,?_,by rw[append_nil];exact d⟩;rw[append_nil];refine⟨m,n,o,p,q,u,f,v,w,a,e,?_⟩;rw[g];exact .a6 _ _ _ _ _ _ x i j k y z;intro J L H N V d;rw[if_neg U,if_pos L.2]at b;refine b H [] _ w3 ⟨aO,_,_,?_,by rw[append_nil];exact d⟩;rw[append_nil];refine⟨m,n,o,p,q,u,f.h6 V rfl,v,w,a,e,?_⟩;rw[g];exact .a6 _ _ _ _ _ _ x i j k y z
theorem apg(h:q5 S s A B C kv aO cq T)(a:ac H ((S++F)++f7 A B C c (ew kv s.t A.r B.r C.r s.au aO cq s.cs s.aX) T))(f:s.ah=none)(V:s.ac1.length<s.aC)(W:s.gW.length<s.h0)(fp:bx S w b)(g:bM b)(i:b.length<=1000000)
  (d:∀E X cZ M,gI.en B cZ->gI.en C M->vl (S++X) F (s.sS b) A cZ M c kv E->K (.tuple [].toArray) E):aG P 139 [ad c 0,w] H K:=by
 have ah:=h.a6;have⟨m,n,o,p,q,j,k,u,v,e,l,_⟩:=h;have cU:=k.len;have dw:=j.len;rw[f]at ah;cases ah with
 | t6=>unfold fj.sS at d;refine ao3 e.bi a j.kW k.kW m.app n o fp.app g i p U U ?_ ?_ ?_;intro y H bI c7 a;rw[if_pos y]at d;refine d H [] _ C w3 .eu ⟨aO,_,_,?_,by rw[append_nil];exact a⟩;rw[append_nil];refine⟨m,n,o,p,q,j.h6 c7 rfl,k,u,v,e,l,?_⟩;rw[f];exact .t6;intro y N H a;rw[if_neg U,if_pos N]at d;refine d H [] B C .eu .eu ⟨aO,_,_,?_,by rw[append_nil];exact a⟩;rw[append_nil];refine⟨m,n,o,p,q,j,k,u,v,e,l,?_⟩;rw[f];exact .t6;have z:=Ki (key:=s.key) g i;intro y N g9 H X I KG st aS ev sx axv J L fC c7 lM a;rw[if_neg U,if_neg U]at d;refine d H X _ _ w3 w3 ⟨I,_,_,?_,Fk a⟩;refine⟨m.app,n,o,p,q.app,j.app.h6 c7 ⟨I,rfl,L.app',z⟩,k.app.h6 lM ⟨I,rfl,L.app',z⟩,u,v,z,L.app',?_⟩;exact .a6 _ _ _ _ _ _ g9 fC.app' J (fun x f=>by cases f) (zero_le _) (zero_le _)
theorem aph(h:q5 S s A B C kv aO cq T)(d:ac H ((S++F)++f7 A B C c (ew kv s.t A.r B.r C.r s.au aO cq s.cs s.aX) T))(l:s.ah=some (ae,bF))(m:bF≠s.au.aU.length)(me:s.ac1.length<s.aC)(uC:s.gW.length<s.h0)(y:bx S w bl)(e:bM bl)(n:bl.length<=1000000)
  (b:∀E X cZ z,gI.en B cZ->gI.en C z->vl (S++X) F (s.dv ae bF bl) A cZ z c kv E->K (.tuple [].toArray) E):aG P 140 [ad c 0,agg [int bF,w]] H K:=by
 have ah:=h.a6;have⟨I,J,L,M,N,i,j,V,W,a,f,_⟩:=h;have cU:=j.len;have dw:=i.len;rw[l]at ah;cases ah with
 | a6 ae bF st KG aS ev k o g3 g4 g5 pJ=>
  have g:bF<s.au.aU.length:=U
  have api:s.au.aU.length<=64:=by simp_all[dy]
  have p:s.au.aU.getD bF []=s.au.aU[bF]:=by simp[g]
  have DN:=VE (w:=bF) k;unfold fj.dv at b;rw[p]at b;refine ao0 a.bi a k o.app d i.kW j.kW g3 g4 U y.app e n g U U ?_ ?_;intro q H u c7 d;rw[if_neg q]at b;refine b H [] _ C w3 .eu ⟨aO,_,_,?_,by rw[append_nil];exact d⟩;rw[append_nil];refine⟨I,J,L,M,N,i.h6 c7 rfl,j,V,W,a,f,?_⟩;rw[l];exact .a6 _ _ _ _ _ _ k o g3 g4 g5 pJ;intro q H u bW v lM d;rw[if_pos q]at b;refine b H [] B _ .eu w3 ⟨aO,_,_,?_,by rw[append_nil];exact d⟩;rw[append_nil];refine⟨I,J,L,M,N,i,j.h6 lM ⟨w,rfl,y,e⟩,V,W,a,f,?_⟩;exact .a6 _ _ _ _ _ _ k o v (by intro x l;grind) aT aT
end
section
variable{A B C F H K S T c cs aX kv r1 r2 eK s au cq aO t}
theorem VG:(ew kv t r1 r2 eK au aO cq cs aX)[0+4]?=some (ad r1 0):=rfl
theorem apj:(ew kv t r1 r2 eK au aO cq cs aX)[0+5]?=some (ad r2 0):=rfl
theorem apk:(ew kv t r1 r2 eK au aO cq cs aX)[0+6]?=some (ad eK 0):=rfl
theorem apl(h:q5 S s A B C kv aO cq T):-2<=s.cu/\s.cu<=1000:=by
 have a:=h.a6;unfold fj.cu;generalize s.ah=ah at*;cases a with
 | t6=>simp
 | a6 ae bF st b c ev d e f g i j=>grind[dy]
theorem apm(h:vl S F s A B C c kv H)(I:∀E X hs cZ q,gI.en A hs->gI.en B cZ->gI.en C q->vl (S++X) F s.step.2 hs cZ q c kv E->K (.bool s.step.1) E):aG P 64 [ad c 0] H K:=by
 obtain⟨aO,cq,T,h,b⟩:=h;have⟨h1,h2,eh,g0,W,j0,t7,Bt,wI,VI,apn,VJ⟩:=h;have a2:=VI.bi;have lH:=W.len;have m7:=j0.len;have ab8:=t7.len;have axw:=W.w2;have axx:=j0.w2;have axy:=t7.w2;have fz:K (.bool false) H\/True:=.inr trivial;refine agX.1 ?_;refine ape h b (cy (fun bN E=>bN=[ad c 0,int s.cu,.bool (decide (s.aX≠0\/s.cs=true))]/\H=E) ?_ ?_);refine ai (bY b 6 rfl (Vw a2) (Z dX (ay (fun he=>?_) (fun he=>?_))))
 repeat refine aQ ?_
 exact⟨a1,rfl⟩;refine ai (bY b 6 rfl (aoP a2) ?_)
 repeat refine aQ ?_
 refine⟨?_,rfl⟩
 simp_all
 rintro bN E ⟨rfl,rfl⟩
 try simp only[c1,c2]
 unfold fj.step at I;have vm:K (.bool false) H->K (.bool false) H:=fun h=>h
 refine ay (fun he=>?_) (fun he=>?_);rw[if_pos he]at I;exact I H [] A B C .eu .eu .eu ⟨aO,cq,T,by rw[append_nil];exact h,by rw[append_nil];exact b⟩;rw[if_neg he]at I;refine Z cN (ay (fun fp=>?_) (fun fp=>?_));obtain⟨ae,o⟩:=(VF h).1 fp;rw[o]at I;simp only[if_true]at I;refine apf h b o ?_;intro E X q lM k;exact I E X A B q .eu .eu lM k;have g9:=apl h;refine cy (fun bN E=>bN=[ad c 0,int s.cu,.bool (decide (s.fJ=[]\/s.ac1.length=s.aC\/s.gW.length=s.h0))]/\H=E) ?_ ?_;refine ai (bY b 6 rfl VG (aop (i:=1) b rfl (Z cN (ay (fun c8=>?_) (fun c8=>?_)))))
 repeat refine aQ ?_
 have:s.fJ=[]:=a1
 exact⟨a1,rfl⟩;have VK:¬s.fJ=[]:=a1
 refine ai (bY b 6 rfl apj (Fe (i:=3) b rfl j0.kW.jy j0.kW.sQ (Z cN (Z (dl c8) (ay (fun eh=>?_) (fun eh=>?_))))))
 repeat refine aQ ?_
 exact⟨by rw[decide_eq_true (.inr (.inl U):s.fJ=[]\/s.ac1.length=s.aC\/s.gW.length=s.h0)],rfl⟩;refine ai (bY b 6 rfl apk (Fe (i:=5) b rfl t7.kW.jy t7.kW.sQ (Z cN (Z (dl eh) (⟨?_,rfl⟩)))));have:(((C.n-C.aI.length:Nat):Int)=0)↔(s.fJ=[]\/s.ac1.length=s.aC\/s.gW.length=s.h0):=aT
 simp_all
 rintro bN E ⟨rfl,rfl⟩
 try simp only[c1,c2]
 refine ay (fun aB=>?_) (fun aB=>?_);have a:=I H [] A B C .eu .eu .eu;have k:vl (S++[]) F s A B C c kv H:=⟨aO,cq,T,by rw[append_nil];exact h,by rw[append_nil];exact b⟩;cases o:s.ah with
 | none=>
  rw[o]at a;cases N:s.fJ with
  | nil=>rw[N]at a;exact a k
  | cons y bl=>rw[N]at a aB;simp only at a;rw[if_pos a1]at a;exact a k
 | some y=>
  obtain⟨ae,bF⟩:=y;rw[o]at a;have:¬bF=s.au.aU.length:=by grind[VF]
  simp only at a;rw[if_neg this]at a;cases N:s.fJ with
  | nil=>rw[N]at a;exact a k
  | cons y bl=>rw[N]at a aB;simp only at a;rw[if_pos a1]at a;exact a k
 have uD:s.fJ≠[]:=fun e=>aB (.inl e)
 have L:s.ac1.length<s.aC:=U
 have M:s.gW.length<s.h0:=U
 obtain⟨ch,g,N⟩:∃p r,s.fJ=p::r:=by
  cases h:s.fJ with
  | nil=>simp_all
  | cons p r=>grind
 refine ai (bY b 6 rfl VG (aos (i:=1) (j:=0) b rfl rfl U W.kW W.du (fun e=>absurd e aT) ?_));intro b3 J apo H u hA b
 replace b:=ao4 b
 rw[N]at W;obtain⟨jJ,AM⟩:=W.di apo hA;obtain⟨w,rfl,p6,pw,_⟩:=jJ;have vn:=W.dI ch (.head _);obtain⟨d,l⟩:∃d,s.vk g=d:=⟨_,rfl⟩;have ar:q5 S d (A.di u J) B C kv aO cq T:=by subst l;exact⟨h1,h2,eh,g0,AM,j0,t7,Bt,wI,VI,apn,VJ⟩
 replace b:ac H ((S++F)++f7 (A.di u J) B C c (ew kv d.t (A.di u J).r B.r C.r d.au aO cq d.cs d.aX) T):=by subst l;exact b
 have za:s.cu=d.cu:=by subst l;rfl
 have ku:s.ah=d.ah:=by subst l;rfl
 have L:d.ac1.length<d.aC:=by subst l;exact L
 have M:d.gW.length<d.h0:=by subst l;exact M
 have qM:s.au=d.au:=by subst l;rfl
 refine Z f5 (Z f6 ?_);rw[Vi];generalize KH:(S++F)++f7 (A.di u J) B C c (ew kv d.t (A.di u J).r B.r C.r d.au aO cq d.cs d.aX) T=ab at b;refine dA b.z ?_;intro jw H b
 replace b:ac H (ab++[aa jw [int 0,aA]]):=b
 obtain⟨sT,sU,sV,rfl⟩:=p6.ha;refine gS b 0 rfl rfl rfl rfl ?_;intro H b
 replace b:ac H (ab++[aa jw [int ch.1,.slice sT sU sV]]):=b
 refine Z bj (bY b 0 rfl (v:=int ch.1) rfl (Z dX ?_));have m:∀(z:fj),z=(if ch.1=d.cu then(match d.ah with|none=>d.sS ch.2|some (ae,w)=>d.dv ae w ch.2)else d)->∀E X hs cZ q,gI.en A hs->gI.en B cZ->gI.en C q->vl (S++X) F z hs cZ q c kv E->K (.bool true) E:=by
  intro z nQ E X hs cZ q bO q2 fu k;subst nQ;have a:=I E X hs cZ q bO q2 fu;rw[za]at fp;have f:d.cu=match d.ah with|none=>-1|some (_,w)=>if w=d.au.aU.length then-2 else(w:Int):=rfl
  rw[qM,N]at a;cases o:d.ah with
  | none=>rw[o]at f k;rw[ku,o]at a;simp only at a f k;rw[if_neg U]at a;rw[f]at k;rw[l]at a;exact a k
  | some y=>obtain⟨ae,bF⟩:=y;rw[o]at f k;rw[ku,o]at a;simp only at a f k;by_cases e:bF=d.au.aU.length;rw[if_pos e]at f;exact absurd f fp;rw[if_neg e]at f a;rw[if_neg U]at a;rw[f]at k;rw[l]at a;exact a k
 rw[za];refine ay (fun x=>?_) (fun x=>?_);refine m d a1 H [] (A.di u J) B C Fj .eu .eu ⟨aO,cq,T,by rw[append_nil];exact ar,?_⟩;rw[append_nil,KH];exact b.left;have x:ch.1=d.cu:=Classical.not_not.1 x;refine Z cN (ay (fun hm=>?_) (fun hm=>?_));have o:d.ah=none:=by grind[fj.cu]
 refine Z bj (bY b 0 rfl (v:=.slice sT sU sV) rfl ?_);have b:=b.left;rw[<- KH]at b;refine apg ar b o L M p6 pw vn ?_;intro E X cZ q q2 fu k;refine m _ ?_ E X _ cZ q Fj q2 fu k
 simp_all
 cases o:d.ah with
 | none=>exfalso;simp_all[fj.cu]
 | some y=>
  obtain⟨ae,bF⟩:=y;have f:d.cu=if bF=d.au.aU.length then-2 else(bF:Int):=by simp_all[fj.cu]
  have V:bF≠d.au.aU.length:=U
  rw[if_neg V]at f;rw[f]at x;refine fI b 0 rfl (n:=2) rfl U ?_;have b:=b.left;rw[<- KH]at b;rw[x];refine aph ar b o V L M p6 pw vn ?_;intro E X cZ q q2 fu k;refine m _ ?_ E X _ cZ q Fj q2 fu k
  simp_all
end
section
variable{H K L N a b f fv l n p bb s p7 bH ab t8}{i:Nat}{m:bh}
structure dU where
 h7:Int
 b4:Int
 ho:Nat
 c4:Nat
 j5:Int
 b5:Int
def eq(s:dU)(bn:Nat):aj:=[int s.h7,int s.b4,bB .u64 s.ho,ad bn 0,int s.j5,int s.b5,bB .u64 s.c4]
def dU.mX(s:dU)(bH:Nat):Prop:=s.ho≠0/\s.ho=bH
variable{bH:Nat} in
instance {s:dU}:Decidable (s.mX bH):=by unfold dU.mX;infer_instance
def dU.part(s:dU)(i:Int):Int:=if i<0\/2<=i then-1 else if i=0 then s.j5 else s.b5
structure dU.br (s:dU):Prop where
 md:0<=s.b4/\s.b4<2
 p:0<=s.j5/\0<=s.b5
theorem VL(b:ac H (ab++cR L m))(c:∀E,ac E (ab++cR L {m with dt:=a})->K (int m.dt) E):aG P 261 [ad L.bn 0,int a] H K:=by refine akm.1 ?_;exact ai (aD b rfl (ai (cQ b (ab.length+0) (al rfl) rfl (show 0+2<4 by omega) rfl (fun H b=>c H b.bp))))
theorem VM(c:ac H ab)(d:∀E,ac E ab->K (.bool (decide (n≠0))) E):aG P 86 [agg [int a,int b,bB .u64 n]] H K:=by
 refine ahk.1 ?_;refine b0 c fun b5 H c=>Z bj (aD c rfl (Z dX ?_))
 rw[decide_eq_decide.2 (show((n:Int)≠0)↔n≠0 by omega)];exact d H c.left
theorem VN(a:ac H ab)(d:ab[i]?=some (aa l (eq s p)))(c:∀E,ac E ab->K (.bool (decide (s.mX bH))) E):aG P 107 [ad l 0,bB .u64 bH] H K:=by refine ahJ.1 ?_;refine ai (fe a i d rfl rfl U (VM a ?_));intro H a;unfold dU.mX at c;refine ay (fun h=>?_) (fun h=>?_);refine ai (Z bj (bk a i d rfl (Z DY (Z (dT h) ?_))));rw[decide_eq_decide.2 (show(s.ho=bH)↔(s.ho≠0/\s.ho=bH)from⟨fun b=>⟨h,b⟩,fun b=>b.2⟩)];exact c H a;apply Z (dl h);have:=c H a;rw[decide_eq_false (show¬(s.ho≠0/\s.ho=bH)from fun b=>h b.1)]at this;exact this
theorem KI(b:ac H ab)(d:ab[i]?=some (aa l (eq s p)))(c:∀E,ac E ab->K (int (s.part a)) E):aG P 151 [ad l 0,int a] H K:=by
 refine aiy.1 ?_;unfold dU.part at c;refine cy (fun e E=>e=[ad l 0,int a]/\¬(a<0\/2<=a)/\ac E ab) ?_ ?_;refine Z cV (ay (fun h=>?_) (fun h=>?_));refine Z (dT h) (dz rfl ?_);rw[if_pos (.inl h)]at c;exact c H b;refine Z kM (Z (dl h) (ay (fun f=>?_) (fun f=>?_)));rw[if_pos (.inr U)]at c;exact c H b;exact⟨rfl,U,b⟩;rintro e H ⟨rfl,h,b⟩;refine ai (Z (eo U U) ?_);by_cases g:a=0;subst g;exact bk b i d rfl (c H b);have:a=1:=U
 subst this;exact bk b i d rfl (c H b)
theorem VO:(eq s p).all dx=true:=rfl
theorem KJ(d:ac H (ab++cR L m))(c:ab[i]?=some (aa l (eq s L.bn)))(e:∀E,ac E (ab++cR L m)->K (int (m.size (s.part a))) E):aG P 79 [ad l 0,int a] H K:=by refine ahd.1 ?_;refine ai (bk d i (ak c) rfl (KI d (ak c) (fun f b=>⟨gw d i (ak c) b i (ak c) VO,?_⟩)));exact Tc b (e f b)
theorem apq(e:m.br)(d:ac H (ab++cR L m))(c:ab[i]?=some (aa l (eq s L.bn)))(f:∀E v ag,ac E ((ab++cR L m)++aw v ag)->dm v (m.all (s.part a)) ag->K v E):aG P 203 [ad l 0,int a] H K:=by refine ajk.1 ?_;refine ai (bk d i (ak c) rfl (KI d (ak c) (fun g b=>⟨gw d i (ak c) b i (ak c) VO,?_⟩)));exact TN e b f
def dU.fg(s:dU)(m:bh)(a bb:Int):LI×Int:=if s.part a<0 then(ju,101)else m.fg (s.part a) bb
theorem apr(d:m.br)(b:ac H (ab++cR L m))(e:ab[i]?=some (aa l (eq s L.bn)))(c:∀E,ac E (ab++cR L m)->K (.tuple [jt (s.fg m a bb).1,int (s.fg m a bb).2].toArray) E):aG P 200 [ad l 0,int a,int bb] H K:=by
 refine ajh.1 ?_;unfold dU.fg at c;apply b0 b;intro g H b
 replace b:=b.je
 refine KI b (ak (ak e)) fun H b=>Z cV (ay (fun h=>?_) (fun h=>?_))
 rw[if_pos h]at c;refine Z wK (dn b (ab.length+0) (ak (al rfl)) ao ao (ge _) ?_);intro H b;rw[set_append_left _ _ aW,Go.Ab.bp]at b;exact gQ b (ab.length+0) (ak (al rfl)) ao U (c H b.je.left);rw[if_neg h]at c;refine ai (bk b i (ak (ak e)) rfl (Td d b ?_));intro H b;have f:=bh.pl d (part:=s.part a) (bb:=bb);refine Z f5 (Z f6 (dn b (ab.length+0) (ak (al rfl)) ao a1 (ge _) ?_));intro H b;rw[set_append_left _ _ aW,Go.Ab.bp]at b;exact gQ b (ab.length+0) (ak (al rfl)) a1 U (c H b.je.left)
def dU.as(s:dU)(m:bh)(bH:Nat)(f:bh->bh×Int):bh×Int:=if s.mX bH then({(f {m with dt:=s.h7}).1 with dt:=m.dt},(f {m with dt:=s.h7}).2)else(m,161)
theorem KK(ah:s.br)(a:ac H (ab++cR L m))(p:jg L m)(b:ab[i]?=some (aa l (eq s L.bn)))
  (h:∀E k,ac E (ab++cR L {m with dt:=s.h7})->(∀j bW,L.Eq bW->ac j (ab++cR bW (f {m with dt:=s.h7}).1)->jg bW (f {m with dt:=s.h7}).1->k (int (f {m with dt:=s.h7}).2) j)->tw P (qu fv [int (s.part s.b4)]) E k)
  (c:∀E bW,L.Eq bW->ac E (ab++cR bW (s.as m bH f).1)->jg bW (s.as m bH f).1->K (int (s.as m bH f).2) E):aG P 236 [ad l 0,bB .u64 bH,fv] H K:=by
 apply ajX;unfold I5;unfold dU.as at c;refine VN a (ak b) fun H a=>Z fX ?_
 by_cases g:s.mX bH;rw[if_pos g]at c;refine cT (by simp[g]) (ai (bk a i (ak b) rfl (ai (Z bj (bk a i (ak b) rfl (VL a (fun H a=>ai (bk a i (ak b) rfl (ai (Z bj (bk a i (ak b) rfl (ai ?_))))))))))));have⟨q,r⟩:=ah.md;apply Z (eo q r);have t:(eq s L.bn)[0+4+s.b4.toNat*1]?=some (int (s.part s.b4)):=by
  unfold dU.part;by_cases u:s.b4=0;rw[u];rfl;have:s.b4=1:=U
  rw[this];rfl
 refine bk a i (ak b) t (h H _ a ?_);intro j bW n a e;rw[<- n.m];exact VL a fun H a=>c H bW n a ⟨e.d,e.o⟩
 rw[if_neg g]at c;exact dz (by simp[g]) (c H L no.Eq.eu a p)
theorem w4(b:m.br):({m with dt:=a}:bh).br:=⟨b.d,b.s,b.n⟩
theorem KL(h:m.eV N):({m with dt:=a}:bh).eV N:=h
theorem KM(h:jg L m):jg L {m with dt:=a}:=⟨h.d,h.o⟩
theorem aps(ah:s.br)(g:m.br)(h:m.eV 1000000)(a:ac H (ab++cR L m))(e:jg L m)(j:ab[i]?=some (aa l (eq s L.bn)))
  (k:∀E bW,L.Eq bW->ac E (ab++cR bW (s.as m bH (·.fH (s.part s.b4) bb)).1)->jg bW (s.as m bH (·.fH (s.part s.b4) bb)).1->K (int (s.as m bH (·.fH (s.part s.b4) bb)).2) E):aG P 201 [ad l 0,bB .u64 bH,int bb] H K:=by
 apply aji;unfold R7;refine b0 a fun n H a=>b0 a ?_
 intro o H a
 replace a:=(a.as).je
 have b:(ab++[aa n [ad l 0],aa o [int bb]])[i]?=some (aa l (eq s L.bn)):=ak j;refine aD a rfl (KK (f:=(·.fH (s.part s.b4) bb)) ah a e b ?_ ?_);intro H q a c;refine ajY.1 ?_;exact aD a rfl (ai (bk a i (ak b) rfl (aD a rfl (alF (w4 g) (KL h) a (KM e) c))));intro H bW p a d;exact k H bW p (ac.bR a) d
theorem apt(ah:s.br)(g:m.br)(h:m.eV 1000000)(j:p7.length=64)(a:ac H (ab++cR L m))(e:jg L m)(k:ab[i]?=some (aa l (eq s L.bn)))
  (n:∀E bW,L.Eq bW->ac E (ab++cR bW (s.as m bH (·.fh (s.part s.b4) bb p7)).1)->jg bW (s.as m bH (·.fh (s.part s.b4) bb p7)).1->K (int (s.as m bH (·.fh (s.part s.b4) bb p7)).2) E):aG P 205 [ad l 0,bB .u64 bH,int bb,jt p7] H K:=by
 apply ajl;unfold Sc;refine b0 a fun o H a=>b0 a ?_
 intro p H a
 replace a:=a.as
 apply b0 a;intro q H a
 replace a:=(a.as).je
 have b:(ab++[aa o [ad l 0],aa p [int bb],aa q (aN p7)])[i]?=some (aa l (eq s L.bn)):=ak k;refine aD a rfl (KK (f:=(·.fh (s.part s.b4) bb p7)) ah a e b ?_ ?_);intro H t a c;refine aj1.1 ?_;exact aD a rfl (ai (bk a i (ak b) rfl (aD a rfl (bK a a1 U (Tm (w4 g) j (KL h) a (KM e) c)))));intro H bW r a d;exact n H bW r (ac.bR a) d
theorem apu(ah:s.br)(g:m.br)(h:m.eV 1000000)(a:ac H (ab++cR L m))(e:jg L m)(j:ab[i]?=some (aa l (eq s L.bn)))
  (k:∀E bW,L.Eq bW->ac E (ab++cR bW (s.as m bH (·.gR)).1)->jg bW (s.as m bH (·.gR)).1->K (int (s.as m bH (·.gR)).2) E):aG P 202 [ad l 0,bB .u64 bH] H K:=by
 apply ajj;unfold R8;apply b0 a;intro ax H a
 replace a:=a.je
 have b:(ab++[aa ax [ad l 0]])[i]?=some (aa l (eq s L.bn)):=ak j;refine aD a rfl (KK (f:=(·.gR)) ah a e b ?_ ?_);intro H o a c;refine aj0.1 ?_;exact aD a rfl (ai (bk a i (ak b) rfl (Tn (w4 g) (KL h) a (KM e) c)));intro H bW n a d;exact k H bW n (ac.bR a) d
def dU.drop(s:dU)(bH:Nat):dU:=if s.mX bH then {s with h7:=0,b4:=0,ho:=0}else s
theorem apv:(eg P 189).f []=some (agg [int 0,int 0,bB .u64 0]):=ao
theorem VP(a:ac H ((ab++[aa l (eq s p)])++t8))(c:∀E,ac E ((ab++[aa l (eq (s.drop bH) p)])++t8)->K (.bool (decide (s.mX bH))) E):aG P 49 [ad l 0,bB .u64 bH] H K:=by
 refine agC.1 ?_;unfold dU.drop at c;refine VN a (i:=ab.length+0) (ak (al rfl)) fun H a=>Z fX ?_
 by_cases b:s.mX bH;rw[if_pos b,decide_eq_true b]at c;refine cT (by simp[b]) (Z apv (ai (kx a (ab.length+0) (ak (al rfl)) rfl (show 0+0+3<=7 by omega) rfl ?_)));intro H a;rw[set_append_left _ _ aW,Go.Ab.bp]at a;exact c H a;rw[if_neg b,decide_eq_false b]at c;exact dz (by simp[b]) (c H a)
end
section
variable{H K b bs c ag i k l hE n q2 fu vo s v px e0 ae ab sW}
theorem apw(h:bx ab v ae)(y:i+n<=ae.length)(k:hE=none\/hE=some (int ((i+n:Nat):Int))):∃ap,hX 1 v (some (int i)) (some (int ((i+n:Nat):Int))) hE=some ap/\lN v ae ap ((ae.drop i).take n):=by
 have z:∀len:Nat,i+n<=len->lC len (some (int ((i+n:Nat):Int)))=some (i+n):=fun len m=>by
  show(match hq 0 ((i+n:Nat):Int)with|true=>(match ble ((i+n:Nat):Int).toNat len with|true=>some ((i+n:Nat):Int).toNat|false=>none)|false=>none)=_
  grind[i0,ble_eq_true_of_le]
 have q:mo (i+n) (some (int (i:Int)))=some i:=by
  show(match hq 0 (i:Int)with|true=>(match ble (i:Int).toNat (i+n)with|true=>some (i:Int).toNat|false=>none)|false=>none)=_
  simp_all[i0,ble_eq_true_of_le]
 have a:∃f,nK (i+n) (some (int ((i+n:Nat):Int))) hE=some f:=by
  rcases k with rfl|rfl
  exact⟨false,rfl⟩;refine⟨true,?_⟩;show(match hq 0 ((i+n:Nat):Int)with|true=>(match beq ((i+n:Nat):Int).toNat (i+n)with|true=>some true|false=>none)|false=>none)=_
  grind[i0,Int.toNat_natCast,beq_refl]
 obtain⟨f,B⟩:=a;rcases h with⟨rfl,rfl⟩|⟨p,o,c,rfl,r,_⟩
 have s:i=0/\n=0:=a1
 obtain⟨rfl,rfl⟩:=s;rcases k with rfl|rfl<;>exact⟨aA,rfl,.none⟩
 have d:∃bC,(bC=2\/bC=3)/\hX 1 (am p o ae.length c) (some (int i)) (some (int ((i+n:Nat):Int))) hE=some (am p (o+i) n bC):=by
  rcases r with rfl|rfl
  refine⟨cond f 3 2,aT,?_⟩
  simp_all[hX,nL]
  refine⟨cond (f||beq (i+n) ae.length) 3 2,aT,?_⟩
  simp_all[hX,nL]
 obtain⟨bC,e,d⟩:=d;refine⟨_,d,fun t h=>?_⟩;rcases h with⟨h,_⟩|⟨C,F,u,g,_,h⟩
 cases h;cases g;have m:((ae.drop i).take n).length=n:=aT
 refine .inr ⟨p,o+i,bC,by rw[m],e,?_⟩;rcases h with rfl|⟨j,b,w,x⟩
 simp_all
 refine .inr ⟨j,b,w,?_⟩;have:=congrArg (fun l=>(drop i l).take n) x;rw[drop_take,drop_drop,take_take,Nat.min_eq_left U]at this
 simp_all
theorem apx{I:Nat->an->Prop}(p:∀k H,I k H->∃(a:LB) (c i:Nat),ac H a/\a[c]?=some (aa q2 [v])/\a[i]?=some (aa fu [int 64])/\bx a v bs)(V:bs.length<=1000000)
  (s:∀k,64*k<bs.length->∀H px,lN v bs px ((bs.drop (64*k)).take 64)->I k H->tv P (.round l [px] H) fun b E=>b=.bool true/\I (k+1) E)
  (d:I 0 H) (t:∀E,I ((bs.length+63)/64) E->K (.tuple [].toArray) E):aG P 279 [te l,ad q2 0,ad fu 0] H K:=by
 refine akK.1 ?_;refine akJ (fun k q E=>∃y:Nat,y<=(bs.length+63)/64/\k=(bs.length+63)/64-y/\q=[te l,ad q2 0,ad fu 0,int ((64*y:Nat):Int)]/\I y E) _ _ ?_ ((bs.length+63)/64) _ _ ⟨0,U,rfl,rfl,d⟩;rintro k q H ⟨y,W,rfl,rfl,d⟩;unfold SL
 try simp only[c1,c2]
 obtain⟨a,c,i,f,j,u,g⟩:=p y H d;refine bk f c j rfl (bg g.aZ (Z cV (ay (fun h=>?_) (fun h=>?_))));have m:64*y<bs.length:=U
 refine bk f i u rfl (bk f c j rfl ?_);obtain⟨X,w,x⟩:=A0 g (show 64*y<=bs.length by omega);refine Z w (bg (x _ g).aZ (bg rE (bk f c j rfl ?_)));have z:min (64:Int) ((bs.drop (64*y)).length:Int)=((min 64 (bs.length-64*y):Nat):Int):=aT
 rw[z];have B:64*y+min 64 (bs.length-64*y)<=bs.length:=U
 refine Z (v:=int ((64*y+min 64 (bs.length-64*y):Nat):Int)) (by grind[f2]) (Z (v:=int ((64*y+min 64 (bs.length-64*y):Nat):Int)) (by grind[f2]) ?_);obtain⟨px,C,r⟩:=apw g B (.inr rfl);refine Z C ?_;have F:(bs.drop (64*y)).take (min 64 (bs.length-64*y))=(bs.drop (64*y)).take 64:=a1
 rw[F]at r;refine PR (SR (s y m H px r d) ?_);rintro b2 J ⟨rfl,e⟩;obtain⟨L,j1,M,n,N,o,_⟩:=p (y+1) J e;exact Z fX (cT rfl (bk n M o rfl (Z (by grind[f2]) (⟨_,U,y+1,U,rfl,rfl,e⟩))));have S:y=(bs.length+63)/64:=U
 subst S;exact(t _ d)
def nu(c:LI):LI:=c++replicate (64-c.length) 255
def lR(n:Nat):Nat:=(n+63)/64
def iq(b:LI):List LI:=(range (lR b.length)).map fun k=>nu ((b.drop (64*k)).take 64)
def fk(l:List LI):aj:=l.flatMap aN
theorem BA(h:c.length<=64):(nu c).length=64:=by grind[nu]
theorem Fl(b:LI):(iq b).length=lR b.length:=by simp[iq]
theorem VQ:∀s∈iq b,s.length=64:=by
 intro s ah;obtain⟨k,_,rfl⟩:=List.mem_map.1 ah
 grind[BA]
theorem VR(h:k<lR b.length):(iq b).take (k+1)=(iq b).take k++[nu ((b.drop (64*k)).take 64)]:=by simp_all[take_succ_eq_append_getElem,iq]
theorem apy(h:c.length<=64):(aN iz).take 0++(aN c++(aN iz).drop (0+c.length))=aN (nu c):=by
 have e:(aN iz).drop (0+c.length)=aN (replicate (64-c.length) 255):=by simp only[iz,map_replicate,drop_replicate,Nat.zero_add]
 simp_all[nu]
theorem apz(g:Nat->Int)(H:an):(gY P 131 1).f [(0,jt ((range 64).map g))] H=some (am H.next 0 1 129,H.push (aN ((range 64).map g))):=ao
theorem VS(h:s.length=64)(H:an):(gY P 131 1).f [(0,jt s)] H=some (am H.next 0 1 129,H.push (aN s)):=by grind[yK,apz]
theorem apA{X:an->Prop}(a:ac H ((sW++[aa vo [e0]])++aw e0 ag))(J:dK 64 e0 n ag)(K:bx sW px c)(z:c.length<=64)(eZ:n<=1000000)
  (L:∀E b,ac E ((sW++[aa vo [b]])++aw b (ag++aN (nu c)))->dK 64 b (n+1) (ag++aN (nu c))->X E):
  aG P 116 [] H fun e M=>
  iO (fF P 102) M fun g N=>
  a7 (d9 64 g e N) fun u B=>
  bD (qr 64 1 g none none none B) fun j=>
  a7 (nJ 1 j px B) fun S V=>
  a7 (db (ad vo 0) V) fun k l=>
  a7 (jo 64 g l) fun m o=>
  a7 ((gY P 131 1).f [(0,m)] o) fun r s=>
  a7 (dj 64 64 k r s) fun t v=>
  a7 (d9 1 (ad vo 0) t v) fun W w=>X w:=by
 refine yJ a fun H a=>b0 a fun apB H a=>dn a (((sW++[aa vo [e0]])++aw e0 ag).length+0) (al rfl) ao ao (ge _) ?_
 intro H a
 replace a:=a.bp
 refine Z (sy a (((sW++[aa vo [e0]])++aw e0 ag).length+0) (al rfl) U (by simp_all[iz])) (als a (i:=((sW++[aa vo [e0]])++aw e0 ag).length+0) (al rfl) K.app.app.app U (by rw[dp];decide) ?_);intro H a
 replace a:ac H (((sW++[aa vo [e0]])++aw e0 ag)++[aa apB ((aN iz).take 0++(aN c++(aN iz).drop (0+c.length)))]):=a.bp
 rw[show(aN iz).take 0++(aN c++(aN iz).drop (0+c.length))=aN (nu c)from apy z]at a;have x:=BA z;refine aD a rfl (bK a a1 U ?_)
 replace a:=a.left
 refine el a (VS x _) fun q H a=>qQ a J a1 U (ge _) U U ?_
 intro b H a d;obtain⟨C,F,I,cU⟩:∃C F I,b=.slice C F I:=by rcases d with⟨_,h,_⟩|⟨p,rfl|rfl,_⟩;omega;exact⟨_,_,_,rfl⟩;simp_all
 apply cQ a (sW.length+0) (ak (al rfl)) (by rw[cU];rfl) (show 0<1 by omega) rfl;intro H a;rw[set_append_left _ _ aW,Go.Ab.bp]at a;exact L H b a d
theorem apC(d:ac H ab)(s:bx ab v bs)(X:bs.length<=1000000)(x:∀(E:an) (ap:Value),ac E (ab++aw ap (fk (iq bs)))->dK 64 ap (iq bs).length (fk (iq bs))->K ap E):aG P 241 [v] H K:=by
 apply aj3;unfold Sw;refine b0 d ?_;intro g H d;apply akp;refine b0 d ?_;intro q2 H d;refine b0 d ?_;intro h i d;obtain⟨i2,f1,nP,y⟩:=bx.ha s;have n:es v=[v]:=by rw[y];rfl
 rw[n]at d;refine aD d rfl (Z cV (cT rfl ?_));have c:ac i (((ab++[aa q2 [v],aa h [int 64]])++[aa g [aA]])++aw aA (fk ((iq bs).take 0))):=by
  show ac i (((ab++[aa q2 [v],aa h [int 64]])++[aa g [aA]])++[]);rw[append_nil];have z:ac i ((ab++[aa g [aA]])++[aa q2 [v],aa h [int 64]]):=by rw[append_assoc (_++[(g,_)])]at d;exact d
  exact z.je
 have t:∀ u,bx ((ab++[aa q2 [v],aa h [int 64]])++u) v bs:=fun u=>s.app.app
 refine PQ c rfl ?_;intro T B o H0 j;generalize w:gP (succ i.next) _ c0=L at j;refine apx (v:=v) (I:=fun k E=>∃f,@ac L E (((ab++[aa q2 [v],aa h [int 64]])++[aa g [f]])++aw f (fk ((iq bs).take k)))/\dK 64 f (min k (lR bs.length)) (fk ((iq bs).take k))) ?_ U ?_ ⟨aA,j,.inl ⟨rfl,U,rfl⟩⟩ ?_;rintro k E ⟨f,C,h2⟩;exact⟨_,_,_,C,ak (ak (al (k:=0) rfl)),ak (ak (al (k:=1) rfl)),by rw[append_assoc];exact t _⟩;rintro k F H px p ⟨f,l,a⟩;subst w;have J:k<lR bs.length:=by grind[lR]
 have m:((bs.drop (64*k)).take 64).length<=64:=aT
 refine PN l B o rfl bT ?_;rw[aj2];unfold Sv;refine PL l ?_;intro M c;rw[Nat.min_eq_left U]at a;refine apA (c0:=gP (succ i.next) _ c0) c a (p _ (by have:=t [];rw[append_nil]at this;exact this)) m U ?_;intro N q b e;have S:fk ((iq bs).take k)++aN (nu ((bs.drop (64*k)).take 64))=fk ((iq bs).take (k+1)):=by simp_all[VR,fk]
 rw[S]at b e;refine PM b ?_;intro yF r;refine⟨rfl,q,r,?_⟩;rw[Nat.min_eq_left U];exact e;rintro M ⟨f,c,a⟩;subst w;refine⟨.ready,_,aW,c,?_⟩;intro N b;show a7 _ _;have V:(iq bs).take ((bs.length+63)/64)=iq bs:=take_of_length_le (by rw[Fl];exact Nat.le_refl _);rw[V]at b a;refine aD b rfl (x _ f ?_ ?_);exact b.sub (List.Sublist.append (by rw[append_assoc];exact sublist_append_left _ _) (List.Sublist.refl _));rw[Fl];have W:min ((bs.length+63)/64) (lR bs.length)=lR bs.length:=Nat.min_self _;rw[W]at a;exact a
end
section
variable{H N S X a aq e aX f l jr b6 o r au p7 b8 b4 cM bX aO bH v wr}{d:ba}{m:bh}{s:dU}{bq bb:Int}
def bh.p8(m:bh):Prop:=∀c∈m.d.cells,bM c.cb
theorem ba.KN(h:∀c∈d.cells,bM c.cb):∀c∈(d.fH a).1.cells,bM c.cb:=by
 unfold ba.fH;split;exact h;split;exact h;split;exact h;split;exact h;intro c g;rcases mem_or_eq_of_mem_set g with g|rfl
 rcases mem_or_eq_of_mem_set g with g|rfl
 exact h c g;intro x f;simp only[ba.cell]at f;rw[getD_eq_getElem?_getD]at f;by_cases aB:a.toNat<d.cells.length
 grind
 rw[getElem?_eq_none U]at f;have:x=0:=eq_of_mem_replicate f;omega;intro x f;have:x=255:=eq_of_mem_replicate f;omega
theorem ba.KO(h:∀c∈d.cells,bM c.cb)(ah:bM p7):∀c∈(d.fh a p7).1.cells,bM c.cb:=by
 unfold ba.fh;split;exact h;split;exact h;split;exact h;split;exact h;intro c e;rcases mem_or_eq_of_mem_set e with e|rfl
 exact h c e;exact ah
theorem VT(h:m.p8):(m.mi o e).p8:=by unfold bh.mi;split<;>exact h
theorem bh.KN(h:m.p8):(m.fH bq bb).1.p8:=by unfold bh.fH;split;exact h;exact VT (ba.KN h)
variable{p7:LI} in
theorem bh.KO(h:m.p8)(ah:bM p7):(m.fh bq bb p7).1.p8:=by unfold bh.fh;split;exact h;exact VT (ba.KO h ah)
theorem bh.apD(h:m.p8):m.gR.1.p8:=by
 unfold bh.gR bh.p8;unfold ba.gR;split;exact h;split;exact h;have:∀(l:List (Nat×LI)) (ag:List Cell),(∀c∈ag,bM c.cb)->∀c∈gt ag l,bM c.cb:=by
  intro l;induction l with
  | nil=>intro ag h;exact h
  | cons x l b=>
   intro ag h;apply b (sG ag x);intro c a;rcases mem_or_eq_of_mem_set a with a|rfl
   exact h c a;show bM (ag.getD x.1 fY).cb;rw[getD_eq_getElem?_getD];by_cases aB:x.1<ag.length;rw[getElem?_eq_getElem aB];exact h _ (getElem_mem aB);rw[getElem?_eq_none U];intro y d;have:y=0:=eq_of_mem_replicate d;omega
 exact this _ _ h
theorem bh.apE(h:m.p8):bM (m.fg bq bb).1:=by
 have a:bM ju:=fun y b=>by have:y=0:=eq_of_mem_replicate b;omega
 unfold bh.fg;split;exact a;unfold ba.fg;split;rename_i c;have⟨aB,e⟩:=ba.get c;rw[<- e];exact h _ (getElem_mem aB);exact a
theorem bh.VU(h:m.p8):bM (m.all bq):=by intro x a;have⟨i,_,a⟩:=List.mem_flatMap.1 a;exact bh.apE h x a
structure jz (m:bh):Prop where
 ok:m.br
 b:m.p8
theorem BB(h:jz m)(a:∀m,jz m->jz (f m).1):jz (s.as m bH f).1:=by unfold dU.as;split;have:=a {m with dt:=s.h7} ⟨w4 h.ok,h.b⟩;exact⟨w4 this.ok,this.b⟩;exact h
theorem VV(h:m.eV N)(a:∀m,m.eV N->(f m).1.eV (N+1)):(s.as m bH f).1.eV (N+1):=by unfold dU.as;split;exact a _ h;exact h.mono U
structure bG where
 s:dU
 bH:Nat
 b4:Int
 q:List hn
 au:fi
 b6:Nat
 cM:List LI 
 wr:Nat
 b8:Nat
 aX:Int
 m:bh
def bG.size(w:bG):Nat:=w.m.size (w.s.part w.b4)
def bG.put(w:bG)(r:bh×Int):bG:={w with m:=r.1,aX:=r.2}
def q6(w:bG)(y:Nat):Prop:=(w.s.fg w.m w.b4 y).2=0/\(w.s.fg w.m w.b4 y).1≠iz
instance {w:bG} {y:Nat}:Decidable (q6 w y):=by unfold q6;infer_instance
def bG.q7(w:bG):Nat->Nat->Option Nat
 | 0,_=>none
 | n+1,y=>if q6 w y then some y else w.q7 n (y+1)
def bG.KP(w:bG)(y:Nat):bG:=w.put (w.s.as w.m w.bH (·.fH (w.s.part w.s.b4) y))
def bG.mj(w:bG):bG:=match w.q7 w.size 0 with
 | some y=>w.KP y
 | none=>{w with b8:=2}
def bG.ig(w:bG):bG:=w.put (w.s.as w.m w.bH (·.gR))
def bG.py(w:bG):bG:=if w.ig.aX≠0 then w.ig else
 if((w.ig.m.all (w.s.part w.b4)).length:Int)<w.au.cY\/hP ((w.ig.m.all (w.s.part w.b4)).take w.au.cY.toNat)≠w.au.bw then {w.ig with aX:=153}else {w.ig with b8:=4}
def bG.jA(w:bG)(x:LI):bG:=w.put (w.s.as w.m w.bH (·.fh (w.s.part w.s.b4) w.wr x))
def bG.fill(w:bG)(x:LI)(ae:List LI):bG:=if(w.jA x).aX=0 then {w.jA x with cM:=ae,wr:=w.wr+1}else w.jA x
def bG.q8(w:bG)(m:fi):bG:=if¬dy m then {w with aX:=192}else if m.cY>64*(w.size:Int)then {w with aX:=145}else {w with au:=m,b8:=1,aX:=0}
def bG.body(w:bG)(a:Int)(bs:LI):bG:=if a≠w.b6\/(gl w.au a).2=0\/(bs.length:Int)≠(gl w.au a).2 then {w with aX:=192}else {w with cM:=iq bs,b6:=w.b6+1,aX:=0}
def bG.gv(w:bG)(n:hn):bG:=
 if w.b8=0 then(match n with|.jj _ m=>w.q8 m|_=>{w with aX:=192})
 else match n with
  | .body a bs=>w.body a bs
  | .gD=>if w.b6<w.au.aU.length then {w with aX:=192}else {w with b8:=3}
  | _=>{w with aX:=192}
def bG.step(w:bG):Bool×bG:=
 if w.aX≠0\/w.b8=4 then(false,w)
 else if w.b8=1 then(true,w.mj)
 else if w.b8=3 then(true,w.py)
 else match w.cM with
  | x::ae=>(true,w.fill x ae)
  | []=>match w.q with
   | []=>(false,w)
   | n::q=>(true,({w with q:=q}:bG).gv n)
def hp(l bH:Nat)(b4:Int)(r:Nat)(au:fi)(aO:Value)(b6:Nat)(bX:Value)(wr b8:Nat)(aX:Int):aj:=
 ad l 0::bB .u64 bH::int b4::ad r 0::(aR au aO++[int b6,bX,int wr,int b8,int aX])
theorem q9(a:au.bw.length=32):(hp l bH b4 r au aO b6 bX wr b8 aX).length=46:=by simp_all[hp,b7]
theorem BC(a:au.bw.length=32)(k:Nat):(hp l bH b4 r au aO b6 bX wr b8 aX)[0+(41+k)]?=[int b6,bX,int wr,int b8,int aX][k]?:=by
 rw[show 0+(41+k)=(37+k)+4 by omega];show(aR au aO++[int b6,bX,int wr,int b8,int aX])[37+k]?=_
 simp_all[getElem?_append_right,b7]
theorem KQ(a:au.bw.length=32):(hp l bH b4 r au aO b6 bX wr b8 aX)[0+41]?=some (int b6):=BC a 0
theorem KR(a:au.bw.length=32):(hp l bH b4 r au aO b6 bX wr b8 aX)[0+42]?=some bX:=BC a 1
theorem KS(a:au.bw.length=32):(hp l bH b4 r au aO b6 bX wr b8 aX)[0+43]?=some (int wr):=BC a 2
theorem BD(a:au.bw.length=32):(hp l bH b4 r au aO b6 bX wr b8 aX)[0+44]?=some (int b8):=BC a 3
theorem Fm(a:au.bw.length=32):(hp l bH b4 r au aO b6 bX wr b8 aX)[0+45]?=some (int aX):=BC a 4
theorem apF(a:au.bw.length=32):(hp l bH b4 r au aO b6 bX wr b8 aX)[0+4+36]?=some aO:=by
 show(aR au aO++[int b6,bX,int wr,int b8,int aX])[36]?=_
 grind[lv]
theorem apG(a:au.bw.length=32):((hp l bH b4 r au aO b6 bX wr b8 aX).drop (0+4)).take 37=aR au aO:=by
 show(aR au aO++[int b6,bX,int wr,int b8,int aX]).take 37=_
 simp_all[b7]
theorem apH(a:au.bw.length=32):((hp l bH b4 r au aO b6 bX wr b8 aX).drop (0+4+4)).take 32=aN au.bw:=by simp_all[hp,aR]
theorem BE(a:au.bw.length=32)(k:Nat)(v:Value):(hp l bH b4 r au aO b6 bX wr b8 aX).set (0+(41+k)) v=ad l 0::bB .u64 bH::int b4::ad r 0::(aR au aO++[int b6,bX,int wr,int b8,int aX].set k v):=by
 rw[show 0+(41+k)=(37+k)+4 by omega];show ad l 0::bB .u64 bH::int b4::ad r 0::((aR au aO++[int b6,bX,int wr,int b8,int aX]).set (37+k) v)=_
 simp_all[b7]
theorem apI(a:au.bw.length=32)(n:Nat):(hp l bH b4 r au aO b6 bX wr b8 aX).set (0+41) (int n)=hp l bH b4 r au aO n bX wr b8 aX:=BE a 0 _
theorem VW(a:au.bw.length=32)(v:Value):(hp l bH b4 r au aO b6 bX wr b8 aX).set (0+42) v=hp l bH b4 r au aO b6 v wr b8 aX:=BE a 1 _
theorem apJ(a:au.bw.length=32)(n:Nat):(hp l bH b4 r au aO b6 bX wr b8 aX).set (0+43) (int n)=hp l bH b4 r au aO b6 bX n b8 aX:=BE a 2 _
theorem Fo(a:au.bw.length=32)(n:Nat):(hp l bH b4 r au aO b6 bX wr b8 aX).set (0+44) (int n)=hp l bH b4 r au aO b6 bX wr n aX:=BE a 3 _
theorem KT(a:au.bw.length=32)(n:Int):(hp l bH b4 r au aO b6 bX wr b8 aX).set (0+45) (int n)=hp l bH b4 r au aO b6 bX wr b8 n:=BE a 4 _
theorem apK(a:au.bw.length=32)(b:jr.bw.length=32):(hp l bH b4 r au aO b6 bX wr b8 aX).take (0+4)++(aR jr aq++(hp l bH b4 r au aO b6 bX wr b8 aX).drop (0+4+37))=hp l bH b4 r jr aq b6 bX wr b8 aX:=by
 unfold hp
 simp_all[b7]
def nv(S:LB)(v:Value)(cM:List LI):Prop:=
 (v=aA/\cM=[])\/∃(p k c j:Nat) (w:Bool) (all:List LI),v=am p (k*64) cM.length c/\cM=all.drop k/\k<=all.length/\S[j]?=some (p,⟨fk all,w⟩)/\(∀x∈all,x.length=64)/\(c=128\/c=129)
theorem nv.app(h:nv S v cM):nv (S++X) v cM:=by
 rcases h with h|⟨p,k,c,j,w,all,a,b,d,e,f⟩
 exact .inl h;exact .inr ⟨p,k,c,j,w,all,a,b,d,ak e,f⟩
theorem nv.aZ(h:nv S v cM):aZ v H=some (int cM.length,H):=by rcases h with⟨rfl,rfl⟩|⟨p,k,c,j,w,all,rfl,_⟩<;>rfl
theorem nv.du(h:nv S v cM):cS v=true:=by rcases h with⟨rfl,rfl⟩|⟨p,k,c,j,w,all,rfl,_⟩<;>rfl
end
section
variable{cZ axA F H K L N S X a b ag bI e m o p bb r v w x ab bL jl}
theorem dk(a:ac H ((ab++jl)++bL))(k:Nat)(c:jl[k]?=some (p,⟨ag,b⟩))(d:ag[o]?=some v)(e:K v H):a7 (db (ad p o) H) K:=bk a _ (ak (al c)) d e
theorem hc(c:ac H ((ab++jl)++bL))(k:Nat)(b:jl[k]?=some (aa p ag))(d:cS v=true)(e:o<ag.length)(f:ag.set o v=bI)(g:∀E,ac E ((ab++jl.set k (aa p bI))++bL)->K undef E):a7 (d9 1 (ad p o) v H) K:=by apply cQ c _ (ak (al b)) d e f;intro E a;have h:=(List.getElem?_eq_some_iff.1 b).1;rw[set_append_left _ _ a1,Go.Ab.bp]at a;exact g E a
theorem Fp(h:ac H ((((S++F)++jl)++bL)++N)):ac H (((S++(F++N))++jl)++bL):=h.cf (by classical exact perm_iff_count.2 fun _=>aT)
theorem vp(h:ac H (((S++(F++N))++jl)++bL)):ac H (((S++F)++jl)++bL):=h.sub (by refine List.Sublist.append (List.Sublist.append (List.Sublist.append (List.Sublist.refl S) (sublist_append_left F N)) (List.Sublist.refl _)) (List.Sublist.refl _))
theorem apL(h:ac H ((((S++F)++jl)++bL)++X)):ac H ((((S++X)++F)++jl)++bL):=h.cf (by classical exact perm_iff_count.2 fun _=>aT)
structure iF where
 A:gI
 aO:Value
 bX:Value
 l:Nat
 c:Nat
 L:no
variable{B:iF}
def Fq(A:gI)(l:Nat)(apM:aj)(c:Nat)(hF:aj):LB:=
 [aa A.q A.ag,aa A.r (cw A.q A.n 1 A.f A.aI.length),aa l apM,aa c hF]
def iF.hF(B:iF)(w:bG):aj:=hp B.l w.bH w.b4 B.A.r w.au B.aO w.b6 B.bX w.wr w.b8 w.aX
def iF.e7(B:iF)(w:bG):LB:=Fq B.A B.l (eq w.s B.L.bn) B.c (B.hF w)
structure ih (S:LB) (w:bG) (B:iF):Prop where
 q:mW S B.A w.q
 au:w.au.br
 aO:df S B.aO w.au.aU
 cM:nv S B.bX w.cM
 n4:∀x∈w.cM,bM x
 s:w.s.br
 m:jz w.m
 own:jg B.L w.m
 b6:w.b6<=100
 wr:w.wr<=4096
structure iF.en (B cZ:iF):Prop where
 r:cZ.A.r=B.A.r
 q:cZ.A.q=B.A.q
 n:cZ.A.n=B.A.n
 l:cZ.l=B.l
 c:cZ.c=B.c
 L:B.L.Eq cZ.L
theorem iF.en.eu:B.en B:=⟨rfl,rfl,rfl,rfl,rfl,.eu⟩
theorem ih.app(h:ih S w B):ih (S++X) w B:=⟨h.q.app,h.au,h.aO.app,h.cM.app,h.n4,h.s,h.m,h.own,h.b6,h.wr⟩
def iF.at(B:iF)(L:no):iF:={B with L:=L}
theorem iF.gw(h:B.L.Eq L):B.en (B.at L):=⟨rfl,rfl,rfl,rfl,rfl,h⟩
theorem ih.put(h:ih S w B)(a:jz r.1)(b:jg L r.1):ih S (w.put r) (B.at L):=⟨h.q,h.au,h.aO,h.cM,h.n4,h.s,a,b,h.b6,h.wr⟩
abbrev h8(H:an)(S F:LB)(w:bG)(B:iF):Prop:=ac H (((S++F)++B.e7 w)++cR B.L w.m)
theorem KU(a:w.au.bw.length=32)(b:B.L.Eq L)(d:ac H (((S++F)++B.e7 w)++cR L r.1))(e:∀E,h8 E S F (w.put r) (B.at L)->K undef E):a7 (d9 1 (ad B.c 45) (int r.2) H) K:=by
 have f:h8 H S F {w with m:=r.1} (B.at L):=by show ac H (((S++F)++Fq B.A B.l (eq w.s L.bn) B.c (B.hF w))++cR L r.1);rw[b.m];exact d
 exact hc f 3 rfl rfl (by simp_all[iF.hF,q9]) (KT a _) e
theorem w5(B:iF)(w:bG):((S++F)++B.e7 w)[(S++F).length+2]?=some (aa B.l (eq w.s B.L.bn)):=al rfl
theorem apN:∀m,jz m->jz (m.fH bb e).1:=fun m h=>⟨bh.Ji h.ok,bh.KN h.b⟩
theorem BF:∀m,jz m->jz m.gR.1:=fun m h=>⟨bh.Jl h.ok,bh.apD h.b⟩
theorem KV(a:x.length=64)(c:bM x):∀m,jz m->jz (m.fh bb e x).1:=fun m h=>⟨bh.Jj h.ok a,bh.KO h.b c⟩
theorem dU.pl{s:dU}(b:m.br):(s.fg m a bb).1.length=64:=by unfold dU.fg;split;rfl;exact bh.pl b
theorem apO(ar:ih S w B)(o:w.m.eV 1000000)(d:h8 H S F w B)(f:∀E cZ,B.en cZ->ih S w.mj cZ->h8 E S F w.mj cZ->K (.tuple [].toArray) E):aG P 141 [ad B.c 0] H K:=by
 refine aik.1 ?_;have l:=ar.au.bi;refine ai (dk d 3 rfl rfl (ai (dk d 3 rfl rfl (KJ d (w5 B w) ?_))));intro H d;unfold bG.mj at f;refine aij (fun k g E=>∃y:Nat,y<=w.size/\k=w.size-y/\g=[ad B.c 0,int w.size,int y]/\w.q7 w.size 0=w.q7 (w.size-y) y/\h8 E S F w B) _ _ ?_ w.size _ _ ⟨0,U,U,rfl,rfl,d⟩;rintro k g H ⟨y,v,rfl,rfl,b,d⟩;unfold RL;refine ul ?_
 try simp only[c1,c2]
 refine Z cV (ay (fun h=>?_) (fun h=>?_));have p:y<w.size:=U
 have b:w.q7 w.size 0=if q6 w y then some y else w.q7 (w.size-(y+1)) (y+1):=by rw[b,show w.size-y=(w.size-(y+1))+1 by omega];rfl
 refine ai (dk d 3 rfl rfl (ai (dk d 3 rfl rfl (apr ar.m.ok d (w5 B w) ?_))));intro H d;have j:=dU.pl (s:=w.s) (a:=w.b4) (bb:=y) ar.m.ok;refine Z f5 (Z f6 ?_);rw[tN];refine b0 d ?_;intro r H d;refine dn d (_+0) (al rfl) ao a1 (ge _) ?_;intro H d
 replace d:=d.bp
 replace d:ac H (((((S++F)++B.e7 w)++cR B.L w.m))++[aa r (aN (w.s.fg w.m w.b4 y).1)]):=d
 refine cy (fun g E=>g=[ad B.c 0,int y,int w.size,int y,.bool (decide (q6 w y))]/\h8 E S F w B) ?_ ?_;refine Z cN (ay (fun e=>?_) (fun e=>?_));refine bK d a1 U (yJ d ?_);intro x i;refine⟨jf d i (sD _),?_⟩;exact Z (EC false j rfl) (Z (dT e) (⟨by simp[q6,e],i.left⟩));exact Z (dl e) (⟨by simp[q6,e],d.left⟩);rintro g H ⟨rfl,d⟩
 try simp only[c1,c2]
 refine ay (fun e=>?_) (fun e=>?_);rw[if_pos e]at b;rw[b]at f;refine ai (dk d 3 rfl rfl (ai (dk d 3 rfl rfl (aps ar.s ar.m.ok o d ar.own (w5 B w) ?_))));intro H bW n d t;refine ai (KU l n d ?_);intro H d;exact f H (B.at bW) (iF.gw n) (ar.put (BB ar.m apN) t) d;rw[if_neg e]at b;exact Z (f2 U (by have:=bh.tR ar.m.ok (part:=w.s.part w.b4);grind[bG.size])) (⟨_,U,y+1,U,rfl,rfl,b,d⟩);have u:y=w.size:=U
 subst u;rw[Nat.sub_self]at b;have b:=b;rw[b]at f;refine iR rfl ?_
 try simp only[c1,c2]
 refine ai (hc d 3 rfl rfl (by simp_all[iF.hF,q9]) (Fo l 2) ?_);intro H d;exact f H B .eu ⟨ar.q,ar.au,ar.aO,ar.cM,ar.n4,ar.s,ar.m,ar.own,ar.b6,ar.wr⟩ d
end
end J
