/- texts of the kp, du behind the jV -/
import Derived.Test.YtifflnhooaophaaGreatDoorVA
set_option linter.unusedVariables false
set_option linter.unusedSimpArgs false
set_option linter.unusedSectionVars false
set_option maxHeartbeats 8000000
set_option maxRecDepth 100000
open List Nat
namespace J
open Go Go.Ab
variable[c0:cH]
section
variable{H:an}{ab bL S X R:LB}{K:VH}{v w x aq:Value}{bs b:LI}{j p n c:Nat}{ag:aj}{l:List UInt8}{m:fi}{aI:List aj}{b3:aj}{aU:List LI}
theorem _root_.Go.Ab.ac.LD(h:ac H ab)(a:ab.Perm (bL++R)):ac H bL:=(h.cf a).left
theorem Xz{ab bL:LB}{y:Nat×ef}{j:Nat}(h:bL[j]?=some y)(ah:∀x∈bL,x∈ab):∃a:Nat,ab[a]?=some y:=mem_iff_getElem?.1 (ah y (mem_of_getElem? h))
theorem j3.mono{size:Nat}(h:j3 size bL v n ag)(ah:∀x∈bL,x∈ab):j3 size ab v n ag:=by
 rcases h with h|⟨p,c,j,w,a,b,d⟩
 exact .inl h;have⟨e,f⟩:=Xz b ah;exact .inr ⟨p,c,e,w,a,f,d⟩
theorem df.mono(h:df bL v aU)(ah:∀x∈bL,x∈ab):df ab v aU:=by
 rcases h with h|⟨p,c,j,w,a,b⟩
 exact .inl h;have⟨d,e⟩:=Xz b ah;exact .inr ⟨p,c,d,w,a,e⟩
theorem _root_.Go.Ab.dK.XA{size:Nat}(h:dK size v n ag):j3 size (aw v ag) v n ag:=by
 rcases h with h|⟨p,b,a⟩
 exact .inl h;rcases b with rfl|rfl
 exact .inr ⟨p,_,0,true,rfl,rfl,a⟩;exact .inr ⟨p,_,0,true,rfl,rfl,a⟩
theorem _root_.Go.Ab.dK.ha{size:Nat}(h:dK size v n ag):∃a n c,v=.slice a n c:=by rcases h with⟨rfl,_⟩|⟨p,rfl|rfl,_⟩<;>exact⟨_,_,_,rfl⟩
theorem lg.app{a:hn}(h:lg S a b3):lg (S++X) a b3:=by
 cases a with
 | kl a=>exact h
 | jj n m=>have⟨aq,b,c,d⟩:=h;exact⟨aq,b,c.app,d⟩
 | body a bs=>have⟨v,b,c,d⟩:=h;exact⟨v,b,c.app,d⟩
 | gD=>exact h
theorem BU(a2:m.bw.length=32)(a b d:Value)(x:Value)(e:cS a=true)(f:cS b=true)(c:cS d=true)(g:cS aq=true)(h:cS x=true):(a::b::d::(aR m aq++[x])).length=41/\(a::b::d::(aR m aq++[x])).all cS=true:=by constructor;simp[b7 a2];show(cS a&&(cS b&&(cS d&&(aR m aq++[x]).all cS)))=true;rw[all_append,hB g,e,f,c];simp[h]
theorem FU:cJ.bw.length=32:=rfl
theorem lg.row{a:hn}(h:lg S a b3):b3.length=41/\b3.all cS=true:=by
 cases a with
 | kl a=>have h:=h;rw[h];exact BU FU _ _ _ _ rfl rfl rfl rfl rfl
 | jj n m=>obtain⟨e,rfl,b,d⟩:=h;exact BU d.bi _ _ _ _ rfl rfl rfl b.du rfl
 | body a bs=>obtain⟨v,rfl,b,d⟩:=h;obtain⟨a,n,c,rfl⟩:=b.ha;exact BU FU _ _ _ _ rfl rfl rfl rfl rfl
 | gD=>have h:=h;rw[h];exact BU FU _ _ _ _ rfl rfl rfl rfl rfl
structure mm {α:Type} (size:Nat) (P:α->aj->Prop) (v:Value) (l:List α) (ag:aj):Prop where
 own:dK size v l.length ag
 pv:∃aI,ag=aI.flatten/\Al P l aI
 du:ag.all cS=true
theorem mm.imp{α:Type}{size:Nat}{P c:α->aj->Prop}{l:List α}(d:∀a b,P a b->c a b)(h:mm size P v l ag):mm size c v l ag:=by have⟨e,⟨aI,f,g⟩,i⟩:=h;exact⟨e,⟨aI,f,g.imp d⟩,i⟩
theorem mm.nil{α:Type}{size:Nat}{P:α->aj->Prop}:mm size P aA [] []:=⟨.inl ⟨rfl,rfl,rfl⟩,⟨[],rfl,.nil⟩,rfl⟩
theorem mm.h6{α:Type}{size:Nat}{P:α->aj->Prop}{l:List α}{a:α}(h:mm size P v l ag)(b:P a b3)(c:b3.all cS=true)(d:dK size w (l.length+1) (ag++b3)):mm size P w (l++[a]) (ag++b3):=by obtain⟨i,⟨e,rfl,f⟩,g⟩:=h;exact⟨by rw[length_append];exact d,⟨e++[b3],aW,f.app (.du b)⟩,by rw[all_append,g,c];rfl⟩
theorem zs{l:List hn}{a:hn}(f:ac H ab)(h:mm 41 (lg S) v l ag)(ah:∀x∈aw v ag,x∈ab)(g:l.length<=100000)(d:lg S a b3)
  (i:∀b E kU,ac E (ab++aw b kU)->mm 41 (lg S) b (l++[a]) kU->K b E):aG P 166 [v,agg b3] H K:=by
 have⟨j,e⟩:=d.row;exact apa f (h.own.XA.mono ah) h.du g j e fun b E c k=>i b E _ c (h.h6 d e k)
end
section
variable{H K L ep cp bytes c nE XB ag kU bZ bc m n dq ov p q nF XC size st w aM e5 cC ab}
def hU(c st:Nat)(nE nF:aj)(bc cp ov cC:Value)(bZ ep dq e5:aj):LB:=
 [aa c nE,aa st nF]++(aw bc bZ++(aw cp ep++(aw ov dq++aw cC e5)))
structure rZ (S:LB) (s:fj) (kv aq bc cp ov cC:Value) (bZ ep dq e5:aj):Prop where
 kv:bx S kv s.key
 r0:s.key≠[]->True
 kB:bM s.key
 jy:s.key.length<=1000000
 n3:s.t.cd.length<=1000000
 i:mm 2 (n2 S) bc s.fJ bZ
 b:mm 41 (lg S) cp s.ac1 ep
 o:mm 41 (lg S) ov s.gW dq
 mL:∀p∈s.fJ,p.2.length<=1000000
 n:s.ac1.length<=s.aC/\s.gW.length<=s.h0/\s.aC<=16/\s.h0<=16/\s.fJ.length<=1000
 ok:s.au.br
 aq:df S aq s.au.aU
 y:dm cC (s.ah.getD ([],0)).1 e5
 r3:∀ae w,s.ah=some (ae,w)->dy s.au/\bM ae/\w<=s.au.aU.length/\ae.length<=w*2000
def jb(kv:Value)(s:fj)(st:Nat)(bc cp ov:Value):aj:=lx kv s.t bc cp ov s.aC s.h0 s.ah.isSome s.cs st s.aX
def it(s:fj)(aq cC:Value):aj:=gV s.au aq cC (s.ah.getD ([],0)).2
def zt(S F:LB)(s:fj)(c:Nat)(kv:Value)(H:an):Prop:=
 ∃st aq bc cp ov cC bZ ep dq e5,rZ S s kv aq bc cp ov cC bZ ep dq e5/\ac H ((S++F)++hU c st (jb kv s st bc cp ov) (it s aq cC) bc cp ov cC bZ ep dq e5)
theorem XD(e:Int):(eg P 283).f [(0,int 1),(1,int e)]=some (agg (int 1::int e::int 0::(aR cJ aA++[aA]))):=by kernel_rfl
theorem as6:(eg P 283).f [(0,int 4)]=some (agg (int 4::int 0::int 0::(aR cJ aA++[aA]))):=by kernel_rfl
theorem as7(e:Int)(a:Option Addr)(n c:Nat):(eg P 283).f [(0,int 3),(1,int e),(4,.slice a n c)]=some (agg (int 3::int e::int 0::(aR cJ aA++[.slice a n c]))):=by kernel_rfl
theorem as8(b:m.bw.length=32)(e:Int)(a:Option Addr)(k c:Nat):(eg P 283).f [(0,int 2),(2,int e),(3,agg (aR m (.slice a k c)))]=some (agg (int 2::int 0::int e::(aR m (.slice a k c)++[aA]))):=by
 have⟨cd,de,cY,bz,bw,aU⟩:=m
 match bw,b with
 | [a0,C,F,a3,a4,a5,H,I,J,a9,d,g,h,i,j,l,n,o,p,q,a20,a21,r,s,t,u,v,w,x,y,z,B],_=>show _=_;kernel_rfl
theorem as9(M:LB)(h:ac H ((ab++(M++hU c st nE nF bc cp ov cC bZ ep dq e5))++aw aM kU)):ac H (ab++(M++hU c st nE nF aM cp ov cC kU ep dq e5)):=by unfold hU at*;exact h.LD (R:=aw bc bZ) ((by classical exact perm_iff_count.2 fun _=>by simp only[count_append,set_cons_zero];omega))
theorem LG(M:LB)(h:ac H ((ab++(M++hU c st nE nF bc cp ov cC bZ ep dq e5))++aw aM kU)):ac H (ab++(M++hU c st nE nF bc aM ov cC bZ kU dq e5)):=by unfold hU at*;exact h.LD (R:=aw cp ep) ((by classical exact perm_iff_count.2 fun _=>by simp only[count_append,set_cons_zero];omega))
theorem LH(M:LB)(h:ac H ((ab++(M++hU c st nE nF bc cp ov cC bZ ep dq e5))++aw aM kU)):ac H (ab++(M++hU c st nE nF bc cp aM cC bZ ep kU e5)):=by unfold hU at*;exact h.LD (R:=aw ov dq) ((by classical exact perm_iff_count.2 fun _=>by simp only[count_append,set_cons_zero];omega))
theorem zu(M:LB)(h:ac H (ab++(M++hU c st nE nF bc cp ov cC bZ ep dq e5).set M.length (aa c XB))):ac H (ab++(M++hU c st XB nF bc cp ov cC bZ ep dq e5)):=by rw[set_append_right _ _ (Nat.le_refl _),Nat.sub_self]at h;exact h
theorem LJ(h:ac H (ab++L))(a:∀p E,ac E (ab++((aa p ag)::L))->K (ad p 0) E):iO ag H K:=
 b0 h fun p E b=>a p E (b.cf (by rw[append_assoc];exact List.Perm.append_left ab (perm_append_comm)))
theorem BV{j:Nat}(a:ac H (ab++[aa q []]))(k:ab[j]?=some (p,⟨ag,w⟩))(h:ag.length=(n+1)*size)(i:ag.all cS=true)(l:0<size)(m:(0+n)*bytes<=140737488355328)(v:n<=1000000)
  (b:∀d E,ac E (ab++aw d (ag.drop size))->dK size d n (ag.drop size)->K d E):a7 (dj size bytes (am q 0 0 (2*size+1)) (am p (0+1*size) n c) H) K:=by
 have o:(n+1)*size=n*size+size:=succ_mul n size;by_cases r:n=0;subst r;have e:ag.drop size=[]:=length_eq_zero_iff.1 (by rw[length_drop];omega);rw[e]at b;exact bg (rfl) (b (am q 0 0 (2*size+1)) H a (.inr ⟨q,.inr rfl,aW⟩));have s:=a.at j (ak k) (.inr fun e=>by have e:ag=[]:=e;rw[e]at h;simp at h;omega);have t:m5 H size n (am p (0+1*size) n c)=some (ag.drop size):=by rw[tA s (by show 0+1*size+n*size<=ag.length;omega)];show some ((ag.drop (0+1*size)).take (n*size))=_;rw[show 0+1*size=size by omega,take_of_length_le (by rw[length_drop];omega)]
 have f:=a;refine ww f (.inr ⟨q,.inr rfl,aW⟩) l rfl t U m U ?_ (by rw[length_drop];omega) ?_;rw[all_eq_true]at i⊢;intro x u;exact i x (mem_of_mem_drop u);intro ax E g _;rw[Nat.zero_add];exact b (am ax 0 n (2*size)) E g (.inr ⟨ax,.inl rfl,by rw[length_drop];omega⟩)
theorem BW{H:an}(e:0<size)(a:c=2*size\/c=2*size+1):∃bC,hX size (am p 0 (n+1) c) (some (int 1)) none none=some (am p (0+1*size) n bC):=by
 have b:beq (2*size) (2*size+1)=false:=by
  cases d:beq (2*size) (2*size+1)with
  | false=>rfl
  | true=>have:=eq_of_beq_eq_true d;omega
 have f:mo (n+1) (some (int 1))=some 1:=by
  unfold mo;have g:hq 0 1=true:=rfl;have h:ble (Int.toNat 1) (n+1)=true:=by rw[kI];exact decide_eq_true (by show 1<=n+1;omega)
  rfl
 unfold hX;simp only[nK];rcases a with rfl|rfl
 rw[b];simp only[beq_refl];exact⟨_,rfl⟩;rw[beq_refl];exact⟨_,rfl⟩
end
section
variable{F H K S X b ep cp c aq bZ bc kv m dq ov s au st v w bF e5 cC}
theorem rZ.app(h:rZ S s kv aq bc cp ov cC bZ ep dq e5):rZ (S++X) s kv aq bc cp ov cC bZ ep dq e5:=
 ⟨h.kv.app,h.r0,h.kB,h.jy,h.n3,h.i.imp fun _ _=>n2.app,h.b.imp fun _ _=>lg.app,h.o.imp fun _ _=>lg.app,h.mL,h.n,h.ok,h.aq.app,h.y,h.r3⟩
theorem ata(b:m.bw.length=32)(a:au.bw.length=32):aR m v++(gV au aq cC bF).drop 37=gV m v cC bF:=by unfold gV;rw[drop_left' (b7 a)]
theorem atb(h:rZ S s kv aq bc cp ov cC bZ ep dq e5)(f:s.ah=none)(M:s.aX=0)(me:s.ac1.length<s.aC)(uC:s.gW.length<s.h0)
  (d:ac H ((S++F)++hU c st (jb kv s st bc cp ov) (it s aq cC) bc cp ov cC bZ ep dq e5)) (fp:bx S w b) (N:b≠[]->kV S w) (v:bM b) (z:b.length<=1000000)
  (l:∀E X,zt (S++X) F (s.sS b) c kv E->K (.tuple [].toArray) E):aG P 167 [ad c 0,w] H K:=by
 refine aiP.1 ?_;have e:=Ki (key:=s.key) v z;have p:=h.n;refine ai ?_;refine bY d 0 rfl rfl ?_;refine an7 d h.kv.app.app fp.app.app (fun h=>(N h).app.app) h.kB v h.jy z ?_;intro H q d k;unfold fj.sS at l;generalize eQ s.key b=fN at*;obtain⟨m,B,gO⟩:=fN;have d:=Vz d;generalize oN:aw q (ec m.aU)=X at*;refine Z UQ ?_;refine Z UR ?_;refine Z US ?_;refine LJ d ?_;intro jw H d;refine gS d 0 rfl rfl (b7 e.bi) (hB k.du) ?_;intro H d;refine Z dX ?_;refine ay (fun L=>?_) (fun L=>?_);refine ai ?_;refine bY d 1 rfl rfl ?_;refine Z (XD _) ?_;refine zs (a:=.kl (-1)) d h.b (by intro x f;unfold hU;simp[f]) U rfl ?_;intro V H r d g
 replace d:=LG [_] d
 refine ai ?_;refine cr d 1 rfl g.own.kk (by simp[jb,lx]) ?_;intro H d
 replace d:=zu [_] d
 rw[if_pos L]at l;refine l H X ⟨st,aq,bc,V,ov,cC,bZ,r,dq,e5,?_,?_⟩;have aH:=h.app (X:=X);exact⟨aH.kv,aH.r0,aH.kB,aH.jy,aH.n3,aH.i,g.imp fun _ _=>lg.app,aH.o,aH.mL,⟨by simp;omega,p.2.1,p.2.2.1,p.2.2.2.1,p.2.2.2.2⟩,aH.ok,aH.aq,aH.y,aH.r3⟩;refine Fk ?_;exact sK d;refine fI d 0 rfl (b7 e.bi) U ?_;refine ai ?_;refine fe d (((S++F)++X).length+1) (al rfl) rfl rfl U ?_;refine aom e (k.mono (by intro x f;simp[f])) h.n3 d ?_;intro H d;refine ai ?_;refine cr d 1 rfl rfl (by simp[jb,lx]) ?_;intro H d
 replace d:=zu [_] d
 refine ai ?_;refine bY d 1 rfl rfl ?_;refine Z dX ?_;refine ay (fun u=>?_) (fun u=>?_);rw[if_neg (by simpa using L),if_pos u]at l;refine l H X ⟨st,aq,bc,cp,ov,cC,bZ,ep,dq,e5,?_,?_⟩;have aH:=h.app (X:=X);exact⟨aH.kv,aH.r0,aH.kB,aH.jy,aH.n3,aH.i,aH.b,aH.o,aH.mL,aH.n,aH.ok,aH.aq,aH.y,aH.r3⟩;refine Fk ?_;exact sK d;have u:=Classical.not_not.1 u;have g9:=(VB.1 u).1;have W:it s aq cC=gV s.au aq cC 0:=by unfold it;rw[f];rfl
 have atc:dm cC [] e5:=by have:=h.y;rw[f]at this;exact this
 refine ai ?_;refine cr d 1 rfl rfl (by simp[jb,lx]) ?_;intro H d;refine ai ?_;refine bY d 1 rfl rfl ?_;refine fI d 0 rfl (b7 e.bi) U ?_;refine ai ?_;rw[W]at d;refine kx d (((S++F)++X).length+2) (al rfl) (b7 e.bi) (by rw[Kv h.ok.bi];omega) (hB k.du) ?_;intro H d
 replace d:=d.bp
 rw[n1]at d;rw[show(gV s.au aq cC 0).take (0+0)++(aR m q++(gV s.au aq cC 0).drop (0+0+37))=gV m q cC 0 from ata e.bi h.ok.bi]at d;refine fI d 0 rfl (b7 e.bi) U ?_;obtain⟨C,I,bO,rfl⟩:=k.ha;refine Z (as8 e.bi _ _ _ _) ?_;refine LJ d ?_;intro e4 H d;have j:lg X (.jj B m) (int 2::int 0::int B::(aR m (.slice C I bO)++[aA])):=⟨_,rfl,k,e⟩;refine gS d 0 rfl ao j.row.1 j.row.2 ?_;intro H d;refine ai ?_;refine bY d 2 rfl rfl ?_;refine fI d 0 rfl j.row.1 U ?_
 replace d:ac H (((S++F)++X)++([aa e4 (int 2::int 0::int B::(aR m (.slice C I bO)++[aA])),aa jw (aR m (.slice C I bO))]++hU c st (lx kv s.t bc cp ov s.aC s.h0 true s.cs st (oT m s.t)) (gV m (.slice C I bO) cC 0) bc cp ov cC bZ ep dq e5)):=by unfold jb at d;rw[f]at d;exact d
 refine zs (a:=.jj B m) d (h.b.imp fun _ _=>lg.app) (by intro x f;unfold hU;simp[f]) U ⟨_,rfl,k.app',e⟩ ?_;intro V H r d g
 replace d:=LG [_,_] d
 refine ai ?_;refine cr d 2 rfl g.own.kk (by simp[lx]) ?_;intro H d;refine ai ?_;refine bY d 2 rfl rfl ?_;refine fI d 0 rfl j.row.1 U ?_;refine zs (a:=.jj B m) d (h.o.imp fun _ _=>lg.app) (by intro x f;unfold hU;simp[f]) U ⟨_,rfl,k.app',e⟩ ?_;intro cF H sx d J
 replace d:=LH [_,_] d
 refine ai ?_;refine cr d 2 rfl J.own.kk (by simp[lx]) ?_;intro H d
 replace d:=zu [_,_] d
 rw[if_neg (by simpa using L),if_neg (by simpa using u)]at l;refine l H X ⟨st,.slice C I bO,bc,V,cF,cC,bZ,r,sx,e5,?_,?_⟩;have aH:=h.app (X:=X);exact⟨aH.kv,aH.r0,aH.kB,aH.jy,aH.n3,aH.i,g,J,aH.mL,⟨by simp;omega,by simp;omega,p.2.2.1,p.2.2.2.1,p.2.2.2.2⟩,e,k.app',atc,by intro ae w hh;cases hh;exact⟨g9,(fun x f=>by cases f),zero_le _,zero_le _⟩⟩;refine Fk ?_;have d:=sK d;rw[show oT m s.t=s.aX from u.trans M.symm]at d;exact d
end
section
variable{F H K S ep cp c nE aq bZ bc kv dq ov s nF st w ae e5 cC ab}
def LK(c st:Nat)(nE nF:aj)(bc cp ov:Value)(bZ ep dq:aj):LB:=
 [aa c nE,aa st nF]++(aw bc bZ++(aw cp ep++aw ov dq))
theorem FV(M:LB):ab++(M++hU c st nE nF bc cp ov cC bZ ep dq e5)=(ab++(M++LK c st nE nF bc cp ov bZ ep dq))++aw cC e5:=by simp[hU,LK]
theorem XE(H:an):(gY P 134 0).f [] H=some (am H.next 0 0 5,H.push []):=by kernel_rfl
theorem atd(h:rZ S s kv aq bc cp ov cC bZ ep dq e5):(if s.ah.isSome=true then(if(s.ah.getD ([],0)).2=s.au.aU.length then(-2:Int)else(((s.ah.getD ([],0)).2:Nat):Int))else-1)=s.cu:=by
 unfold fj.cu;cases s.ah with
 | none=>rfl
 | some y=>have⟨ae,w⟩:=y;simp
theorem ate(h:rZ S s kv aq bc cp ov cC bZ ep dq e5)(a:ac H ((S++F)++hU c st (jb kv s st bc cp ov) (it s aq cC) bc cp ov cC bZ ep dq e5))(b:K (int s.cu) H):aG P 164 [ad c 0] H K:=by apply ao7 (i:=(S++F).length+0) (j:=(S++F).length+1) h.ok.bi h.aq.app.app a (al rfl) (al rfl);rw[atd h];exact b
theorem atf(h:rZ S s kv aq bc cp ov cC bZ ep dq e5)(d:ac H ((S++F)++hU c st (jb kv s st bc cp ov) (it s aq cC) bc cp ov cC bZ ep dq e5))(f:s.ah=some (ae,s.au.aU.length))(n:s.gW.length≠s.h0)
  (a:¬hP ae=s.au.bw->∀E,ac E ((S++F)++hU c st (jb kv s st bc cp ov) (it s aq cC) bc cp ov cC bZ ep dq e5)->K (.bool false) E)
  (b:hP ae=s.au.bw->∀E,ac E ((S++F)++hU c st (jb kv s st bc cp ov) (it s aq cC) bc cp ov cC bZ ep dq e5)->K (.bool true) E):aG P 165 [ad st 0] H K:=by
 have e:=FV (ab:=S++F) [] (c:=c) (st:=st) (nE:=jb kv s st bc cp ov) (nF:=it s aq cC) (bc:=bc) (cp:=cp) (ov:=ov) (cC:=cC) (bZ:=bZ) (ep:=ep) (dq:=dq) (e5:=e5);rw[nil_append,nil_append]at e;rw[e]at d a b;have⟨k,l,g3,g4⟩:=h.r3 _ _ f;have m:dm cC ae e5:=by have:=h.y;rw[f]at this;exact this
 have j:s.au.aU.length<=64:=by have:=k;unfold dy at this;omega
 have g:it s aq cC=gV s.au aq cC s.au.aU.length:=by unfold it;rw[f];rfl
 rw[g]at d a b;apply aoN (i:=(S++F).length+1) h.ok h.aq.app.app d (al rfl) m l U;intro E d;by_cases a2:hP ae=s.au.bw;rw[decide_eq_true (⟨rfl,a2⟩)];exact b a2 E d;rw[decide_eq_false (by intro h;exact a2 h.2)];exact a a2 E d
theorem atg{K:VH}(h:rZ S s kv aq bc cp ov cC bZ ep dq e5)(d:ac H ((S++F)++hU c st (jb kv s st bc cp ov) (it s aq cC) bc cp ov cC bZ ep dq e5))(l:s.ah=some (ae,s.au.aU.length))(fp:w=ad c 0)
  (e:∀E X,zt (S++X) F (s.im ae).2 c kv E->K (.bool (s.im ae).1) E):
 bD (hI w) fun m=>
 bD (gh 6 m) fun p=>
 a7 (db p H) fun q r=>
 a7 (aZ q r) fun t v=>
 bD (hI w) fun z=>
 bD (gh 8 z) fun B=>
 a7 (db B v) fun C g=>
 bD ((cz P .geq 3 false).f t C) fun I=>
 fW I (
 K (.bool false) g) (
 bD (hI w) fun J=>
 bD (gh 11 J) fun L=>
 a7 (db L g) fun M N=>
 aG P 165 [M] N fun V j=>
 fW V (
 bD (hI w) fun W=>
 bD (gh 6 W) fun ath=>
 a7 (db ath j) fun ati atj=>
 bD ((eg P 283).f [(0,(.int .i64 4))]) fun atk=>
 aG P 166 [ati,atk] atj fun atl atm=>
 bD (hI w) fun atn=>
 bD (gh 6 atn) fun ato=>
 a7 (d9 1 ato atl atm) fun u atp=>
 bD (hI w) fun atq=>
 bD (gh 10 atq) fun t46=>
 a7 (d9 1 t46 (.bool true) atp) fun Ft atr=>
 K (.bool true) atr) (
 bD (hI w) fun ats=>
 bD (gh 12 ats) fun t49=>
 a7 (d9 1 t49 (.int .i64 153) j) fun Xj att=>
 K (.bool true) att)):=by
 subst fp;have eZ:=h.n;refine ai (bY d 0 rfl rfl (bg h.o.own.aZ (ai (bY d 0 rfl rfl (Z kM ?_)))));unfold fj.im at e;refine ay (fun hf=>?_) (fun hf=>?_)
 ·rw[if_pos U]at e;exact e H [] ⟨st,aq,bc,cp,ov,cC,bZ,ep,dq,e5,by rw[append_nil];exact h,by rw[append_nil];exact d⟩
 rw[if_neg U]at e;refine ai (bY d 0 rfl rfl (atf h d l U ?_ ?_))
 ·intro a2 H d;refine cT rfl (ai (cr d 0 rfl rfl (by simp[jb,lx]) ?_));intro H d;rw[if_neg a2]at e;refine e H [] ⟨st,aq,bc,cp,ov,cC,bZ,ep,dq,e5,?_,by rw[append_nil];exact d⟩;rw[append_nil];exact⟨h.kv,h.r0,h.kB,h.jy,h.n3,h.i,h.b,h.o,h.mL,h.n,h.ok,h.aq,h.y,h.r3⟩
 ·intro a2 H d;refine dz rfl (ai (bY d 0 rfl rfl (Z as6 (zs (a:=.gD) d h.o (by intro x l;unfold hU;simp[l]) U rfl ?_))));intro fs H kU d k
  replace d:=LH [] d
  refine ai (cr d 0 rfl k.own.kk (by simp[jb,lx]) fun H d=>ai (cr d 0 rfl rfl (by simp[jb,lx]) ?_));intro H d;rw[if_pos a2]at e;refine e H [] ⟨st,aq,bc,cp,fs,cC,bZ,ep,kU,e5,?_,by rw[append_nil];exact d⟩;rw[append_nil];exact⟨h.kv,h.r0,h.kB,h.jy,h.n3,h.i,h.b,k,h.mL,⟨eZ.1,by simp;omega,eZ.2.2⟩,h.ok,h.aq,h.y,h.r3⟩
end
section
variable{F H K S a c ag b3 kv n s size v α}
theorem mm.head{P:α->aj->Prop}{a:α}{l:List α}(h:mm size P v (a::l) ag)(i:∀a b3,P a b3->b3.length=size):∃b3,P a b3/\ag.take size=b3/\∀c,dK size c l.length (ag.drop size)->mm size P c l (ag.drop size):=by
 obtain⟨o,⟨b,rfl,j⟩,d⟩:=h;cases j with
 | cons e k=>
  rename_i b3 b;have f:=i _ _ e;have m:((b3::b).flatten).take size=b3:=by rw[flatten_cons];exact take_left' f
  have n:((b3::b).flatten).drop size=b.flatten:=by rw[flatten_cons];exact drop_left' f
  refine⟨b3,e,m,fun c g=>?_⟩;rw[n]at g⊢;refine⟨g,⟨b,rfl,k⟩,?_⟩;rw[flatten_cons,all_append,Bool.and_eq_true]at d;exact d.2
theorem n2.len(h:n2 S a b3):b3.length=2:=by obtain⟨v,rfl,_⟩:=h;rfl
theorem _root_.Go.Ab.dK.am(h:dK size v (n+1) ag):∃p c,v=Go.Ab.am p 0 (n+1) c/\(c=2*size\/c=2*size+1)/\aw v ag=[aa p ag]:=by
 rcases h with⟨_,h,_⟩|⟨p,h|h,_⟩
 cases h;exact⟨p,_,h,.inl rfl,by rw[h];rfl⟩;exact⟨p,_,h,.inr rfl,by rw[h];rfl⟩
theorem atu(ib:zt S F s c kv H)(fD:∀E X,zt (S++X) F s.step.2 c kv E->K (.bool s.step.1) E):aG P 110 [ad c 0] H K:=by
 obtain⟨st,aq,bc,M,ov,cC,u,N,V,W,h,d⟩:=ib;have eZ:=h.n;refine ahM.1 ?_;have fz:∀ {B:Bool×fj},s.step=B->B=(false,s)->K (.bool false) H:=by intro B cU dw;have:=fD H [];rw[cU,dw]at this;exact this ⟨st,aq,bc,M,ov,cC,u,N,V,W,by rw[append_nil];exact h,by rw[append_nil];exact d⟩
 refine cy (fun bN E=>bN=[ad c 0]/\H=E/\¬(s.aX≠0\/s.cs=true)) ?_ ?_;refine ai ?_;refine bY d 0 rfl rfl ?_;refine Z dX ?_;refine ay (fun he=>?_) (fun he=>?_)
 repeat (first|refine aQ ?_|refine hK ?_)
 exact fz rfl (by unfold fj.step;rw[if_pos (.inl he)]);refine ai ?_;refine bY d 0 rfl rfl ?_;refine Z (dl he) ?_;refine lr (fun a2=>?_) (fun a2=>?_);exact fz rfl (by unfold fj.step;rw[if_pos (.inr a2)]);exact⟨rfl,rfl,by rintro(h|h);exact he h;rw[h]at a2;cases a2⟩;rintro bN E ⟨rfl,rfl,he⟩
 try simp only[c1,c2]
 have vw:s.aX=0:=Classical.byContradiction fun h=>he (.inl h)
 unfold fj.step at fD fz;rw[if_neg he]at fD fz;refine ate h d ?_;refine Z cN ?_;refine ay (fun fp=>?_) (fun fp=>?_);obtain⟨ae,j⟩:∃ae,s.ah=some (ae,s.au.aU.length):=by
  unfold fj.cu at fp;cases j:s.ah with
  | none=>rw[j]at fp;simp at fp
  | some y=>obtain⟨ae,w⟩:=y;rw[j]at fp;simp only at fp;by_cases e:w=s.au.aU.length;exact⟨ae,by rw[e]⟩;rw[if_neg e]at fp;omega
 rw[j]at fD;simp only[if_true]at fD;exact atg h d j rfl fD;have FW:(s.fJ=[]\/s.ac1.length=s.aC\/s.gW.length=s.h0)->K (.bool false) H:=by
  intro aB;cases j:s.ah with
  | none=>
   rw[j]at fz;cases kc:s.fJ with
   | nil=>rw[kc]at fz;exact fz rfl rfl
   | cons y bl=>rw[kc]at fz aB;simp only at fz;rw[if_pos (by simpa using aB)]at fz;exact fz rfl rfl
  | some y=>
   obtain⟨ae,bF⟩:=y;rw[j]at fz;have:¬bF=s.au.aU.length:=by intro e;exact fp (by unfold fj.cu;rw[j];simp[e])
   simp only at fz;rw[if_neg this]at fz;cases kc:s.fJ with
   | nil=>rw[kc]at fz;exact fz rfl rfl
   | cons y bl=>rw[kc]at fz aB;simp only at fz;rw[if_pos (by simpa using aB)]at fz;exact fz rfl rfl
 refine cy (fun bN E=>bN=[ad c 0,int s.cu]/\H=E/\¬(s.fJ=[]\/s.ac1.length=s.aC\/s.gW.length=s.h0)) ?_ ?_;refine ai ?_;refine bY d 0 rfl rfl ?_;refine bg h.i.own.aZ ?_;refine Z cN ?_;refine ay (fun c8=>?_) (fun c8=>?_)
 repeat (first|refine aQ ?_|refine hK ?_)
 exact FW (.inl (length_eq_zero_iff.1 U));have VK:¬s.fJ=[]:=by rw[<- length_eq_zero_iff];omega
 refine ai ?_;refine bY d 0 rfl rfl ?_;refine bg h.b.own.aZ ?_;refine ai ?_;refine bY d 0 rfl rfl ?_;refine Z kM ?_;refine Z (dl c8) ?_;refine ay (fun eh=>?_) (fun eh=>?_)
 repeat (first|refine aQ ?_|refine hK ?_)
 exact FW (.inr (.inl U));refine ai ?_;refine bY d 0 rfl rfl ?_;refine bg h.o.own.aZ ?_;refine ai ?_;refine bY d 0 rfl rfl ?_;refine Z kM ?_;refine Z (dl eh) ?_;refine ay (fun g0=>?_) (fun g0=>?_);exact FW (.inr (.inr U));exact⟨rfl,rfl,by rintro(h|h|h);exact VK h;omega;omega⟩;rintro bN E ⟨rfl,rfl,aB⟩
 try simp only[c1,c2]
 have uD:s.fJ≠[]:=fun e=>aB (.inl e)
 have me:s.ac1.length<s.aC:=by have:¬s.ac1.length=s.aC:=fun e=>aB (.inr (.inl e));omega
 have uC:s.gW.length<s.h0:=by have:¬s.gW.length=s.h0:=fun e=>aB (.inr (.inr e));omega
 clear FW fz;obtain⟨ch,k,kc⟩:∃p r,s.fJ=p::r:=by
  cases h:s.fJ with
  | nil=>exact absurd h uD
  | cons p r=>exact⟨p,r,rfl⟩
 have u5:=h.i;have tp:=h.mL;rw[kc]at u5 tp;obtain⟨b3,jJ,ht,BX⟩:=u5.head (fun a b3 h=>h.len);obtain⟨p,m9,rfl,qD,LL⟩:=u5.own.am;have hlen:=u5.own.len;obtain⟨w,rfl,p6,pw,ui⟩:=jJ;have vn:=tp ch (.head _);have wl:(aa p u)∈hU c st (jb kv s st (am p 0 (k.length+1) m9) M ov) (it s aq cC) (am p 0 (k.length+1) m9) M ov cC u N V W:=by unfold hU;rw[LL];simp
 obtain⟨BY,FX⟩:=mem_iff_getElem?.1 wl;refine ai ?_;refine bY d 0 rfl rfl ?_;refine Z (ez U U) ?_;refine fe d (_+BY) (al FX) (by show(u.drop (0+0*2)).take 2=_;simpa using ht) rfl U ?_;rw[Vi];refine LJ d ?_;clear d;intro jw H d;obtain⟨sT,sU,sV,rfl⟩:=p6.ha;refine gS d 0 rfl rfl rfl rfl ?_;clear d;intro H d
 replace d:ac H ((S++F)++([aa jw [int ch.1,.slice sT sU sV]]++hU c st (jb kv s st (am p 0 (k.length+1) m9) M ov) (it s aq cC) (am p 0 (k.length+1) m9) M ov cC u N V W)):=d
 refine el d (XE _) ?_;clear d;intro q H d;refine ai ?_;refine bk d (_+1) (ak (al rfl)) rfl ?_;obtain⟨bC,rT⟩:=BW (H:=H) U qD;refine Z rT ?_;have LM:k.length<=1000:=by have:=eZ.2.2.2.2;rw[kc]at this;simp at this;omega
 have LO:((S++F)++([aa jw [int ch.1,.slice sT sU sV]]++hU c st (jb kv s st (am p 0 (k.length+1) m9) M ov) (it s aq cC) (am p 0 (k.length+1) m9) M ov cC u N V W))[(S++F).length+(1+BY)]?=some (aa p u):=al (by rw[show 1+BY=[aa jw [int ch.1,.slice sT sU sV]].length+BY from rfl];exact al FX);refine BV d LO hlen u5.du U U U ?_;clear d;intro C H d qN
 replace d:=as9 [_] d
 refine ai ?_;refine cr d 1 rfl qN.kk (by simp[jb,lx]) ?_;clear d;intro H d
 replace d:=zu [_] d
 refine Z bj ?_;refine aD d rfl ?_;refine Z dX ?_;obtain⟨f,L⟩:∃f,s.vk k=f:=⟨_,rfl⟩;have l:rZ S f kv aq C M ov cC (u.drop 2) N V W:=by subst L;exact⟨h.kv,h.r0,h.kB,h.jy,h.n3,BX _ qN,h.b,h.o,fun q iM=>tp q (mem_cons_of_mem _ iM),⟨eZ.1,eZ.2.1,eZ.2.2.1,eZ.2.2.2.1,LM⟩,h.ok,h.aq,h.y,h.r3⟩
 replace d:ac H ((S++F)++([aa jw [int ch.1,.slice sT sU sV]]++hU c st (jb kv f st C M ov) (it f aq cC) C M ov cC (u.drop 2) N V W)):=by subst L;exact d
 have za:s.cu=f.cu:=by subst L;rfl
 have ku:s.ah=f.ah:=by subst L;rfl
 have me:f.ac1.length<f.aC:=by subst L;exact me
 have uC:f.gW.length<f.h0:=by subst L;exact uC
 have qM:s.au=f.au:=by subst L;rfl
 have vw:f.aX=0:=by subst L;exact vw
 have g:∀(z:fj),z=(if ch.1=f.cu then(match f.ah with|none=>f.sS ch.2|some (ae,w)=>f.dv ae w ch.2)else f)->∀E X,zt (S++X) F z c kv E->K (.bool true) E:=by
  intro z nQ E X ib;subst nQ;have I:=fD E X;rw[za]at fp;have m:f.cu=match f.ah with|none=>-1|some (_,w)=>if w=f.au.aU.length then-2 else(w:Int):=rfl
  rw[qM,kc]at I;cases j:f.ah with
  | none=>rw[j]at m ib;rw[ku,j]at I;simp only at I m ib;rw[if_neg (by intro e;exact aB (.inr e))]at I;rw[m]at ib;rw[L]at I;exact I ib
  | some y=>obtain⟨ae,bF⟩:=y;rw[j]at m ib;rw[ku,j]at I;simp only at I m ib;by_cases e:bF=f.au.aU.length;rw[if_pos e]at m;exact absurd m fp;rw[if_neg e]at m I;rw[if_neg (by intro e;exact aB (.inr e))]at I;rw[m]at ib;rw[L]at I;exact I ib
 clear fD;rw[za];refine ay (fun r4=>?_) (fun r4=>?_);refine g f (by rw[if_neg r4]) H [] ⟨st,aq,C,M,ov,cC,u.drop 2,N,V,W,by rw[append_nil];exact l,?_⟩;rw[append_nil];exact sK d;have r4:ch.1=f.cu:=Classical.not_not.1 r4;refine Z cN ?_;refine ay (fun hm=>?_) (fun hm=>?_);have j:f.ah=none:=by
  cases j:f.ah with
  | none=>rfl
  | some y=>exfalso;unfold fj.cu at hm;rw[j]at hm;simp only at hm;split at hm<;>omega
 refine Z bj ?_;refine aD d rfl ?_;refine atb l j vw me uC (sK d) p6 ui pw vn ?_;clear d;intro E X ib;refine g _ ?_ E X ib;rw[if_pos r4,j];cases j:f.ah with
 | none=>exfalso;apply hm;unfold fj.cu;rw[j]
 | some y=>
  obtain⟨ae,bF⟩:=y;have m:f.cu=if bF=f.au.aU.length then-2 else(bF:Int):=by unfold fj.cu;rw[j]
  have atv:bF≠f.au.aU.length:=by intro e;rw[if_pos e]at m;exact fp (za.trans m)
  rw[if_neg atv]at m;rw[m]at r4;obtain⟨eA,fC,g3,g4⟩:=l.r3 _ _ j;have rx:bF<f.au.aU.length:=U
  have api:f.au.aU.length<=64:=by have:=eA;unfold dy at this;omega
  have atw:f.au.aU.getD bF []=f.au.aU[bF]:=by simp[rx]
  have DN:=VE (w:=bF) eA;have atx:dm cC ae W:=by have:=l.y;rw[j]at this;exact this
  have XF:it f aq cC=gV f.au aq cC bF:=by unfold it;rw[j];rfl
  have vx:=l.n
  replace g:∀E X,zt (S++X) F (f.dv ae bF ch.2) c kv E->K (.bool true) E:=fun E X ib=>g _ (by rw[m,if_pos r4,j]) E X ib
  unfold fj.dv at g;rw[atw]at g;rw[XF]at d;refine ai ?_;refine bY d 1 rfl (v:=ad st 0) rfl ?_;refine Z bj ?_;refine aD d (v:=int ch.1) rfl ?_;refine Z bj ?_;refine aD d (v:=.slice sT sU sV) rfl ?_;rw[FV]at d;rw[r4]at d⊢;refine aoO (i:=(S++F).length+2) l.ok eA l.aq.app.app d (al rfl) atx fC U p6.app.app pw vn rx ?_ ?_;clear d;intro hg H d;rw[<- FV]at d;rw[if_neg hg]at g;refine Z dX ?_;refine kf bT ?_;refine ai ?_;refine bY d 1 rfl (v:=M) rfl ?_;refine Z bj ?_;refine aD d (v:=int bF) rfl ?_;refine Z (XD _) ?_;refine zs (S:=S) (a:=.kl bF) d l.b (by intro x j;unfold hU;simp[j]) U rfl ?_;clear d;intro fs H kU d qN
  replace d:=LG [_] d
  refine ai ?_;refine cr d 1 rfl qN.own.kk (by simp[jb,lx]) ?_;clear d;intro H d
  replace d:=sK (zu [_] d)
  rw[<- XF]at d;refine g H [] ⟨st,aq,C,fs,ov,cC,u.drop 2,kU,V,W,?_,by rw[append_nil];exact d⟩;rw[append_nil];exact⟨l.kv,l.r0,l.kB,l.jy,l.n3,l.i,qN,l.o,l.mL,⟨by simp;omega,vx.2⟩,l.ok,l.aq,l.y,l.r3⟩;clear d;intro hg H LP XG aty d;rw[Go.Ab.bp]at d
  replace d:ac H (((S++F)++([aa jw [int bF,.slice sT sU sV]]++LK c st (jb kv f st C M ov) (gV f.au aq LP (bF+1)) C M ov (u.drop 2) N V))++aw LP XG):=d
  rw[<- FV]at d;rw[if_pos hg]at g;refine Z dX ?_;refine ix (fun h=>h rfl) ?_;refine ai ?_;refine bY d 1 rfl (v:=ov) rfl ?_;refine Z bj ?_;refine aD d (v:=int bF) rfl ?_;refine Z bj ?_;refine aD d (v:=.slice sT sU sV) rfl ?_;refine Z (as7 _ _ _ _) ?_;refine zs (S:=S) (a:=.body bF ch.2) d l.o (by intro x j;unfold hU;simp[j]) U ⟨_,rfl,p6,pw⟩ ?_;clear d;intro fs H kU d qN
  replace d:=LH [_] d
  refine ai ?_;refine cr d 1 rfl qN.own.kk (by simp[jb,lx]) ?_;clear d;intro H d
  replace d:=sK (zu [_] d)
  refine g H [] ⟨st,aq,C,M,fs,LP,u.drop 2,N,kU,XG,?_,?_⟩;rw[append_nil];refine⟨l.kv,l.r0,l.kB,l.jy,l.n3,l.i,l.b,qN,l.mL,⟨vx.1,by simp;omega,vx.2.2⟩,l.ok,l.aq,aty,?_⟩;intro zY aE hh;cases hh;exact⟨eA,by intro x j;rcases mem_append.1 j with j|j;exact fC x j;exact pw x j,(by show bF+1<=f.au.aU.length;omega),(by show(ae++ch.2).length<=_;rw[length_append];have:=hg.1;omega)⟩;rw[append_nil];have cU:jb kv f st C M fs=lx kv f.t C M fs f.aC f.h0 true f.cs st f.aX:=by unfold jb;rw[j];rfl
  have dw:jb kv f st C M ov=lx kv f.t C M ov f.aC f.h0 true f.cs st f.aX:=by unfold jb;rw[j];rfl
  rw[dw]at d;exact d
end
section
variable{H K x ab}
def LQ:aj:=int 0::int 0::int 0::(aR cJ aA++[aA])
theorem XH:fF P 283=LQ:=by kernel_rfl
theorem XI:LQ.length=41/\LQ.all cS=true:=BU FU _ _ _ _ rfl rfl rfl rfl rfl
theorem XJ(x:Int):(eg P 213).f [(0,int x)]=some (agg [int x,aA,.bool false]):=by kernel_rfl
theorem atz(a:ac H ab)(b:∀E p,ac E (ab++[aa p [int (d8 x),aA,.bool false]])->K (ad p 0) E):aG P 100 [int x] H K:=by refine ahC.1 ?_;have⟨d,e,eK⟩:=Kp x;refine cy (fun c E=>c=[int (max 1 x)]/\H=E) ?_ ?_;refine Z cV (ay (fun h=>⟨by rw[show max 1 x=1 by omega],rfl⟩) (fun h=>?_));exact⟨by rw[show max 1 x=x by omega],rfl⟩;rintro c E ⟨rfl,rfl⟩;refine Z go (ay (fun h=>?_) (fun h=>?_));refine Z (XJ _) (b0 a fun p E a=>b E p ?_);rw[show(d8 x:Int)=16 by omega];exact a;refine Z (XJ _) (b0 a fun p E a=>b E p ?_);rw[show(d8 x:Int)=max 1 x by omega];exact a
end
section
variable{a aq b3 m x ab}
def hn.d6:hn->Int
 | .kl _=>1
 | .jj _ _=>2
 | .body _ _=>3
 | .gD=>4
def hn.e8:hn->Int
 | .kl a=>a
 | .body a _=>a
 | _=>0
def hn.a2:hn->Int
 | .jj n _=>n
 | _=>0
def hn.hi:hn->fi
 | .jj _ m=>m
 | _=>cJ
def hn.r5:hn->LI
 | .body _ b=>b
 | _=>[]
theorem XK(h:lg ab a b3):∃aq x,b3=int a.d6::int a.e8::int a.a2::(aR a.hi aq++[x])/\df ab aq a.hi.aU/\a.hi.br/\bx ab x a.r5/\bM a.r5:=by
 cases a with
 | kl e=>have h:=h;exact⟨aA,aA,h,.inl ⟨rfl,rfl⟩,p4,.inl ⟨rfl,rfl⟩,(fun x b=>by cases b)⟩
 | jj n m=>have⟨aq,c,d,f⟩:=h;exact⟨aq,aA,c,d,f,.inl ⟨rfl,rfl⟩,(fun x b=>by cases b)⟩
 | body e bs=>have⟨v,c,d,f⟩:=h;exact⟨aA,v,c,.inl ⟨rfl,rfl⟩,p4,d,f⟩
 | gD=>have h:=h;exact⟨aA,aA,h,.inl ⟨rfl,rfl⟩,p4,.inl ⟨rfl,rfl⟩,(fun x b=>by cases b)⟩
theorem atA(a2:m.bw.length=32)(a b d:Value):(a::b::d::(aR m aq++[x]))[0+40]?=some x:=by show(aR m aq++[x])[37]?=_;rw[getElem?_append_right (by rw[b7 a2];omega),b7 a2];rfl
theorem XL(c:m.bw.length=32)(a b d:Value):((a::b::d::(aR m aq++[x])).drop (0+3)).take 37=aR m aq:=take_left' (b7 c)
end
end J
