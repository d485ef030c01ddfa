/- texts of the kp, du behind the jV -/
import Derived.Test.YtifflnhooaophaaGreatDoorVC
set_option linter.unusedVariables false
set_option linter.unusedSimpArgs false
set_option linter.unusedSectionVars false
set_option maxHeartbeats 8000000
set_option maxRecDepth 100000
open List Nat
namespace J
open Go Go.Ab
variable[c0:cH]
section
variable{H K M a h7 l m n p bb s bH x ab bL}{i:Nat}
def gJ(s:dU)(bn:Nat):aj:=[ad bn 0,int s.j5,int s.b5,bB .u64 s.c4,.bool (decide (s.ho≠0)),int s.h7,int s.b4]
def dU.qh(s:dU):Prop:=s.ho≠0->s.ho=s.c4
theorem F2(b:s.qh)(c:ac H ab)(d:ab[i]?=some (aa l (gJ s p)))(a:K (.bool (decide (s.mX bH))) H):aG P 108 [ad l 0,bB .u64 bH] H K:=by refine ahK.1 ?_;unfold dU.mX at a;refine ai (bk c i d rfl (ay (fun h=>?_) (fun h=>?_)));refine ai (bk c i d rfl (Z DY (Z (dT h) ?_)));rw[decide_eq_decide.2 (show(bH=s.c4)↔(s.ho≠0/\s.ho=bH)from⟨fun e=>⟨h,by rw[b h,e]⟩,fun e=>by rw[<- e.2,b h]⟩)];exact a;apply Z (dl h);rw[decide_eq_false (show¬(s.ho≠0/\s.ho=bH)from fun f=>h f.1)]at a;exact a
theorem Yd(d:s.qh)(a:ac H ((ab++[aa l (gJ s p)])++bL))(c:∀E,ac E ((ab++[aa l (gJ (s.drop bH) p)])++bL)->K (.bool (decide (s.mX bH))) E):aG P 50 [ad l 0,bB .u64 bH] H K:=by refine agD.1 ?_;unfold dU.drop at c;refine F2 d a (i:=ab.length+0) (ak (al rfl)) (Z fX ?_);by_cases b:s.mX bH;rw[if_pos b,decide_eq_true b]at c;exact cT (by simp[b]) (ai (hc a 0 rfl rfl (show 0+4<7 by omega) rfl (fun H a=>ai (hc a 0 rfl rfl (show 0+5<7 by omega) rfl (fun H a=>ai (hc a 0 rfl rfl (show 0+6<7 by omega) rfl (fun H a=>c H a)))))));rw[if_neg b,decide_eq_false b]at c;exact dz (by simp[b]) (c H a)
theorem Ye(f:s.c4<1000)(b:ac H ((ab++[aa l (gJ s p)])++bL))(c:∀E,ac E ((ab++[aa l (gJ (s.dv h7 a).2.2 p)])++bL)->K (.tuple [bB .u64 (s.dv h7 a).1,int (s.dv h7 a).2.1].toArray) E):aG P 48 [ad l 0,int h7,int a] H K:=by refine agB.1 ?_;unfold dU.dv at c;refine cy (fun e E=>e=[ad l 0,int h7,int a,.bool (decide (a<0\/2<=a\/h7<1))]/\E=H) ?_ ?_;refine Z cV (ay (fun h=>Z (dT h) (Z ja ⟨by simp[h],rfl⟩)) (fun h=>?_));refine Z go (Z (dl h) (ay (fun d=>Z (dT d) ⟨by simp;omega,rfl⟩) (fun d=>?_)));refine Z cV (Z (dl d) ⟨?_,rfl⟩);rw[decide_eq_decide.2 (show(h7<1)↔(a<0\/2<=a\/h7<1) by omega)];rintro e E ⟨rfl,rfl⟩;refine ay (fun h=>?_) (fun h=>?_);rw[if_pos h]at c;exact c _ b;rw[if_neg h]at c;refine ai (aD b rfl (ay (fun d=>?_) (fun d=>?_)));rw[if_pos d]at c;exact c _ b;rw[if_neg d]at c;refine ai (aD b rfl (Z (v:=bB .u64 (s.c4+1)) ?_ ?_));show some (bB .u64 ((s.c4+1)%18446744073709551616))=_;rw[mod_eq_of_lt U];exact ai (hc b 0 rfl rfl (show 0+3<7 by omega) rfl (fun H b=>ai (hc b 0 rfl rfl (show 0+4<7 by omega) rfl (fun H b=>ai (hc b 0 rfl rfl (show 0+5<7 by omega) rfl (fun H b=>ai (hc b 0 rfl rfl (show 0+6<7 by omega) rfl (fun H b=>ai (dk b 0 rfl rfl (c H b))))))))))
theorem F3(h:0<=a/\a<2):(gJ s p)[0+1+a.toNat*1]?=some (int (s.part a)):=by
 by_cases b:a=0;rw[b];rfl;have:a=1:=U
 rw[this];rfl
theorem gX.dt(h:gX M m)(n:Int):gX M {m with dt:=n}:=⟨h.r,h.o,h.s⟩
theorem F5(a:ac H ((ab++cW M m).set (ab.length+0) (aa M.bn ((XY M m).set (0+2) (int n))))):ac H (ab++cW M {m with dt:=n}):=by rw[Go.Ab.bp]at a;exact a
theorem at7(ah:s.br)(j:s.qh)(k:m.br)(e:m.eV 1000000)(g:gX M m)(a:ac H (ab++cW M m))(b:ab[i]?=some (aa l (gJ s M.bn)))
  (c:∀E cL,ac E (ab++cW cL (s.as m bH (·.fH (s.part s.b4) bb)).1)->M.Eq cL->gX cL (s.as m bH (·.fH (s.part s.b4) bb)).1->K (int (s.as m bH (·.fH (s.part s.b4) bb)).2) E):aG P 220 [ad l 0,bB .u64 bH,int bb] H K:=by
 refine ajz.1 ?_;unfold dU.as at c;refine F2 j a (ak b) (Z fX ?_);by_cases d:s.mX bH;simp[if_pos d]at c;refine cT (by simp[d]) (ai (bk a i (ak b) rfl (ai (aD a rfl (ai (bk a i (ak b) rfl (ai (bk a i (ak b) rfl (ai (cQ a (ab.length+0) (al rfl) rfl (show 0+2<4 by omega) rfl ?_))))))))));intro H a
 replace a:=F5 a
 refine ai (bk a i (ak b) rfl (ai (bk a i (ak b) rfl (ai (Z (eo ah.md.1 ah.md.2) (bk a i (ak b) (F3 ah.md) (atZ (m:={m with dt:=s.h7}) (w4 k) e (g.dt _) a fun H cL a h f=>ai (bk a i (ak b) rfl ?_))))))));rw[<- h.m];exact ai (cQ a (ab.length+0) (al rfl) rfl (show 0+2<4 by omega) rfl (fun H a=>c H cL (F5 a) h (f.dt _)));simp[if_neg d]at c;exact dz (by simp[d]) (c H M a lA.Eq.eu g)
theorem at8(ah:s.br)(k:s.qh)(n:m.br)(g:x.length=64)(e:m.eV 1000000)(h:gX M m)(a:ac H (ab++cW M m))(b:ab[i]?=some (aa l (gJ s M.bn)))
  (c:∀E cL,ac E (ab++cW cL (s.as m bH (·.fh (s.part s.b4) bb x)).1)->M.Eq cL->gX cL (s.as m bH (·.fh (s.part s.b4) bb x)).1->K (int (s.as m bH (·.fh (s.part s.b4) bb x)).2) E):aG P 171 [ad l 0,bB .u64 bH,int bb,jt x] H K:=by
 refine aiU.1 ?_;unfold dU.as at c;apply b0 a;intro q H a
 replace a:ac H ((ab++[aa q (aN x)])++cW M m):=ac.je a
 refine F2 k a (ak (ak b)) (Z fX ?_);by_cases d:s.mX bH;simp[if_pos d]at c;refine cT (by simp[d]) (ai (bk a i (ak (ak b)) rfl (ai (aD a rfl (ai (bk a i (ak (ak b)) rfl (ai (bk a i (ak (ak b)) rfl (ai (cQ a ((ab++[aa q (aN x)]).length+0) (al rfl) rfl (show 0+2<4 by omega) rfl ?_))))))))));intro H a
 replace a:=F5 a
 refine ai (bk a i (ak (ak b)) rfl (ai (bk a i (ak (ak b)) rfl (ai (Z (eo ah.md.1 ah.md.2) (bk a i (ak (ak b)) (F3 ah.md) (bK a (by rw[dp];exact g) U (X4 (m:={m with dt:=s.h7}) (w4 n) g e (h.dt _) a fun H cL a j o f=>ai (bk a i (ak (ak b)) rfl ?_)))))))));rw[<- j];exact ai (cQ a ((ab++[aa q (aN x)]).length+0) (al rfl) rfl (show 0+2<4 by omega) rfl (fun H a=>c H cL (ac.bR (F5 a)) ⟨j,o⟩ (f.dt _)));simp[if_neg d]at c;exact dz (by simp[d]) (c H M (ac.bR a) lA.Eq.eu h)
theorem at9(j:s.qh)(k:m.br)(f:m.eV 1000000)(c:gX M m)(a:ac H (ab++cW M m))(g:ab[i]?=some (aa l (gJ s M.bn)))
  (b:∀E cL,ac E (ab++cW cL (s.as m bH (·.gR)).1)->M.Eq cL->gX cL (s.as m bH (·.gR)).1->K (int (s.as m bH (·.gR)).2) E):aG P 170 [ad l 0,bB .u64 bH] H K:=by
 refine aiT.1 ?_;unfold dU.as at b;refine F2 j a (ak g) (Z fX ?_);by_cases e:s.mX bH;simp[if_pos e]at b;exact cT (by simp[e]) (ai (bk a i (ak g) rfl (ai (aD a rfl (Ya k.d f.1 c.r (cW.pY a) fun H n a h ar=>b H {M with r:=n} (cW.rQ h a) ⟨rfl,h⟩ ⟨ar,c.o,c.s⟩)))));simp[if_neg e]at b;exact dz (by simp[e]) (b H M a lA.Eq.eu c)
theorem aua(c:0<=a/\a<2)(e:m.br)(d:m.eV 1000000)(k:gX M m)(b:ac H (ab++cW M m))(f:ab[i]?=some (aa l (gJ s M.bn)))
  (n:∀E,ac E (ab++cW M m)->K (.tuple [jt (m.fg (s.part a) bb).1,int (m.fg (s.part a) bb).2].toArray) E):aG P 219 [ad l 0,int a,int bb] H K:=by
 refine ajy.1 ?_;rw[tN];apply b0 b;intro q H b
 replace b:=ac.je b
 refine cy (fun g E=>g=[ad l 0,int a,int bb,ad q 0,.bool false]/\E=H) ?_ ?_;refine Z cV (ay (fun h=>absurd h U) (fun h=>(Z go (Z (dl h) ⟨?_,rfl⟩))));rw[decide_eq_false U];rintro g E ⟨rfl,rfl⟩;refine cT rfl (ai (bk b i (ak (ak f)) rfl (ai (Z (eo c.1 c.2) (bk b i (ak (ak f)) (F3 c) (X0 e d k b fun H b=>Z f5 (Z f6 ?_)))))));have j:(m.fg (s.part a) bb).1.length=64:=bh.pl e;apply dn b (ab.length+0) (ak (al rfl)) (by rw[dp];rfl) (by rw[dp];exact j) (ge _);intro H b;rw[set_append_left _ _ aW,Go.Ab.bp]at b;exact gQ b (ab.length+0) (ak (al rfl)) (by rw[dp];exact j) U (n H (ac.bR b))
theorem LW(b:0<=a/\a<2)(g:m.br)(c:m.eV 1000000)(j:gX M m)(d:ac H (ab++cW M m))(e:ab[i]?=some (aa l (gJ s M.bn)))
  (k:∀E v ag,ac E ((ab++cW M m)++aw v ag)->dm v (m.all (s.part a)) ag->K v E):aG P 101 [ad l 0,int a] H K:=by
 refine ahD.1 ?_;refine cy (fun f E=>f=[ad l 0,int a]/\E=H) ?_ ?_;exact Z cV (ay (fun h=>absurd h U) (fun h=>(Z go (Z (dl h) (ay (fun h=>absurd h U) (fun h=>⟨rfl,rfl⟩))))));rintro f E ⟨rfl,rfl⟩;exact ai (bk d i (ak e) rfl (ai (Z (eo b.1 b.2) (bk d i (ak e) (F3 b) (X5 g c j d k)))))
end
section
variable{F H K eE S a ag b3 aK fv gs dg n c9 b9 ov eM v w ab α}
abbrev rj(R:kD):kD:=R.map fun o=>(gu o.1,o.2)
theorem aub(a:Option Addr)(n c:Nat):(eg P 118).f [(1,.slice a n c)]=some (agg [aA,.slice a n c,int 0]):=by kernel_rfl
theorem auc(l:List UInt8)(a:Option Addr)(n c:Nat)(H:an):(gY P 23 1).f [(0,agg [a6 l,.slice a n c])] H=some (am H.next 0 1 5,H.push [a6 l,.slice a n c]):=by kernel_rfl
theorem Yf(h:dK 2 v n ag):j3 2 (ab++aw v ag) v n ag:=by
 rcases h with⟨b,c,d⟩|⟨p,h|h,a⟩
 exact .inl ⟨b,c,d⟩;subst h;exact .inr ⟨p,_,ab.length+0,true,rfl,al rfl,a⟩;subst h;exact .inr ⟨p,_,ab.length+0,true,rfl,al rfl,a⟩
theorem Yg{Q:α->aj->Prop}{x:α}:∀ {l:List α} {a:List aj},Al Q l a->Q x b3->Al Q (l++[x]) (a++[b3])
 | [],_,.nil,h=>.cons h .nil
 | _::_,_,.cons b c,h=>.cons b (Yg c h)
theorem Yh(c:ac H (ab++aw v (ee aK)))(f:dK 3 v aK.length (ee aK))(d:f8 ab w gs)(k:aK.length+gs.length<=1000000)
  (g:∀E ap,ac E (ab++aw ap (ee (aK++gs)))->dK 3 ap (aK++gs).length (ee (aK++gs))->K ap E):a7 (dj 3 24 v w H) K:=by
 by_cases h:gs=[];subst h;rw[append_nil]at g;refine bg ?_ (g H v c f);have i:=d.kr;have j:=d.app.l9 c;rcases f with⟨rfl,_,_⟩|⟨p,rfl|rfl,_⟩<;>(unfold dj;simp only[i,j];rfl)
 apply ww c f U d.kr (d.app.l9 c) (length_pos_iff.2 h) U U (Wn gs) (BM gs);intro p E b a;rw[<- Wo]at b a;have e:aK.length+gs.length=(aK++gs).length:=aW
 rw[e]at a⊢;exact g E _ b a
theorem aud(gA:∀o∈b9,o.1.length<=1000/\o.2.length<=10000)(eZ:b9.length<=1000)(gH:lS S ov b9)(hf:f8 S fv aK)(wi:aK.length<=100000)
  (b:ac H (S++F)) (fD:∀E eM J v eE X,lS (S++X) J eE->dK 3 v aK.length (ee aK)->rj eE=w7 b9->(∀o∈eE,o∈b9)->eE.length<=b9.length->ac E (((S++X)++F)++([aa eM [J,v,int 0]]++aw v (ee aK)))->K (ad eM 0) E):aG P 43 [ov,fv] H K:=by
 refine agw.1 ?_;refine el b (K4 _) ?_;intro q H b;refine Yh (aK:=[]) b (.inr ⟨q,.inr rfl,rfl⟩) hf.app (by simp;omega) ?_;intro H v b L;obtain⟨g,fn,l,rfl⟩:=L.ha;refine Z (aub _ _ _) ?_;refine b0 b ?_;intro eM H b;refine bg gH.aZ ?_;obtain⟨X,oN⟩:∃X:LB,X=[]:=⟨_,rfl⟩;obtain⟨m,M⟩:∃m:LB,m=F++aw (.slice g fn l) (ee aK):=⟨_,rfl⟩
 replace b:ac H (((S++X)++m)++([aa eM [aA,.slice g fn l,int 0]]++aw aA [])):=by rw[oN,M,append_nil];show ac H ((S++(F++aw (.slice g fn l) (ee aK)))++([aa eM [aA,.slice g fn l,int 0]]++[]));rw[append_nil,<- append_assoc S];exact b
 refine agv (fun k N E=>∃(y:Nat) (ap:Value) (eE:kD) (d:List aj),y<=b9.length/\k=b9.length-y/\N=[.pointer none,ad eM 0,ov,int b9.length,int y]/\dK 2 ap eE.length d.flatten/\Al (rh (S++X)) eE d/\rj eE=(b9.take y).foldl pA []/\(∀o∈eE,o∈b9)/\eE.length<=y/\ac E (((S++X)++m)++([aa eM [ap,.slice g fn l,int 0]]++aw ap d.flatten))) _ _ ?_ b9.length _ _ ⟨0,aA,[],[],zero_le _,rfl,rfl,.inl ⟨rfl,rfl,rfl⟩,.nil,rfl,aW,Nat.le_refl _,b⟩;clear b;rintro k N H ⟨y,ap,eE,d,fS,rfl,rfl,s,w,ar,t,V,b⟩;unfold Re;refine ul ?_
 try simp only[c1,c2]
 refine Z cV ?_;refine ay (fun h=>?_) (fun h=>?_);have u:y<b9.length:=U
 have W:(cz P .add 3 true).f (int y) (int 1)=some (int ((y+1:Nat):Int)):=by rw[f2 U U];rfl
 have tK:(b9.take (y+1)).foldl pA []=pA (rj eE) b9[y]:=by rw[zm u,foldl_append,ar];rfl
 obtain⟨p,c,j,wT,ag,x,rfl,jI,F6,z,rW⟩:=gH.get u;have eA:=gA _ (getElem_mem u);refine Z (ez U U) ?_;rw[Int.toNat_natCast];refine fe b j (ak (ak (ak jI))) F6 rfl U ?_;rw[arH];refine b0 b ?_;clear b;intro eU H b;refine dn b (_+0) (al rfl) rfl rfl (by rw[all_cons,all_cons,BQ z];rfl) ?_;clear b;intro H b
 replace b:=b.bp
 replace b:ac H ((((S++X)++m)++([aa eM [ap,.slice g fn l,int 0]]++aw ap d.flatten))++[aa eU [a6 b9[y].1,x]]):=b
 replace b:ac H ((((S++X)++m)++[aa eU [a6 b9[y].1,x]])++([aa eM [ap,.slice g fn l,int 0]]++aw ap d.flatten)):=
  b.cf (cO fun p=>by simp only[countP_append,countP_cons,countP_nil];omega)
 have t7:∀ {bL},((((S++X)++m)++[aa eU [a6 b9[y].1,x]])++bL)[((S++X)++m).length+0]?=some (aa eU [a6 b9[y].1,x]):=ak (al rfl);have Eo:(∀E,ac E ((((S++X)++m)++[aa eU [a6 b9[y].1,x]])++([aa eM [ap,.slice g fn l,int 0]]++aw ap d.flatten))->pA (rj eE) b9[y]=rj eE->∃eF,eF<b9.length-y/\∃(dN:Nat) (ap:Value) (eE:kD) (d:List aj),dN<=b9.length/\eF=b9.length-dN/\[.pointer none,ad eM 0,am p 0 b9.length c,int b9.length,int ((y+1:Nat):Int)]=[.pointer none,ad eM 0,am p 0 b9.length c,int b9.length,int dN]/\dK 2 ap eE.length d.flatten/\Al (rh (S++X)) eE d/\rj eE=(b9.take dN).foldl pA []/\(∀o∈eE,o∈b9)/\eE.length<=dN/\ac E (((S++X)++m)++([aa eM [ap,.slice g fn l,int 0]]++aw ap d.flatten))):=by intro E w8 he;refine⟨_,U,y+1,ap,eE,d,u,rfl,rfl,s,w,by rw[tK,he],t,le_succ_of_le V,?_⟩;refine w8.sub ?_;exact List.Sublist.append_right (sublist_append_left _ _) _
 refine cy (fun N E=>N=[.pointer none,ad eM 0,ad eU 0,am p 0 b9.length c,int b9.length,int y,.bool (decide (nX b9[y].1=0/\qa (rj eE) (gu b9[y].1)=none))]/\ac E ((((S++X)++m)++[aa eU [a6 b9[y].1,x]])++([aa eM [ap,.slice g fn l,int 0]]++aw ap d.flatten))) ?_ ?_;refine Z bj ?_;refine aD b rfl ?_;refine Ul U b ?_;clear b;intro H b;refine Z cN ?_;refine ay (fun h1=>?_) (fun h1=>?_);refine Z bj ?_;refine aD b rfl ?_;have m2:ac H (((((S++X)++m)++[aa eU [a6 b9[y].1,x]])++[aa eM [ap,.slice g fn l,int 0]])++aw ap d.flatten):=by rw[append_assoc];exact b
 refine Xy (fun o gH=>(gA o (t o gH)).1) U U ⟨d,Yf s,w.imp fun _ _ h=>h.app.app.app.app⟩ m2 (ak (al (k:=0) rfl)) ?_;clear b m2;intro H b;rw[append_assoc]at b;refine Z cV ?_;refine Z (dT h1) ?_;refine⟨?_,b⟩;have e:decide (s6 eE (gu b9[y].1) 0<0)=decide (nX b9[y].1=0/\qa (rj eE) (gu b9[y].1)=none):=by
  refine decide_eq_decide.2 ?_;rcases FT eE (gu b9[y].1) 0 with⟨cU,dw⟩|⟨i,aB,cU,dw⟩
  rw[dw,cU];simp[h1];rw[cU,dw];simp
 rw[e];refine Z (dl h1) ?_;refine⟨?_,b⟩;rw[decide_eq_false (fun h=>h1 h.1)];clear b;rintro N H ⟨rfl,b⟩
 try simp only[c1,c2]
 refine ay (fun h2=>?_) (fun h2=>?_);have Ar:((((S++X)++m)++[aa eU [a6 b9[y].1,x]])++([aa eM [ap,.slice g fn l,int 0]]++aw ap d.flatten))[(((S++X)++m)++[aa eU [a6 b9[y].1,x]]).length+0]?=some (aa eM [ap,.slice g fn l,int 0]):=al (ak rfl);refine ai ?_;refine aD b rfl ?_;refine bK b rfl U ?_;obtain⟨n,ic,r,rfl⟩:=z.ha;refine el b (auc _ _ _ _ _) ?_;clear b;intro B H b
 replace b:ac H ((((((S++X)++m)++[aa eU [a6 b9[y].1,.slice n ic r]])++[aa eM [ap,.slice g fn l,int 0]])++[aa B [a6 b9[y].1,.slice n ic r]])++aw ap d.flatten):=
  b.cf (cO fun p=>by simp only[countP_append,countP_cons,countP_nil];omega)
 have tC:m5 H 2 1 (am B 0 1 5)=some [a6 b9[y].1,.slice n ic r]:=by have iM:((((((S++X)++m)++[aa eU [a6 b9[y].1,.slice n ic r]])++[aa eM [ap,.slice g fn l,int 0]])++[aa B [a6 b9[y].1,.slice n ic r]])++aw ap d.flatten)[((((S++X)++m)++[aa eU [a6 b9[y].1,.slice n ic r]])++[aa eM [ap,.slice g fn l,int 0]]).length+0]?=some (aa B [a6 b9[y].1,.slice n ic r]):=ak (al rfl);rw[tA (b.at _ iM (.inr aW)) aW];rfl
 refine ww b s U rfl tC U U U rfl rfl ?_;clear b tC;intro I H b C;refine ai ?_
 replace b:ac H (((((((S++X)++m)++[aa eU [a6 b9[y].1,.slice n ic r]])++[aa B [a6 b9[y].1,.slice n ic r]])++[aa I (d.flatten++[a6 b9[y].1,.slice n ic r])]))++[aa eM [ap,.slice g fn l,int 0]]):=
  b.cf (cO fun p=>by simp only[countP_append,countP_cons,countP_nil];omega)
 refine cQ b (_+0) (al rfl) rfl (show 0<3 by omega) rfl ?_;clear b;intro H b
 replace b:=b.bp
 replace b:ac H (((((((S++X)++m)++[aa eU [a6 b9[y].1,.slice n ic r]])++[aa B [a6 b9[y].1,.slice n ic r]])++[aa I (d.flatten++[a6 b9[y].1,.slice n ic r])]))++[aa eM [am I 0 _ (2*2),.slice g fn l,int 0]]):=b
 refine Z W ?_;refine⟨_,U,y+1,am I 0 (eE.length+1) (2*2),eE++[b9[y]],d++[[a6 b9[y].1,.slice n ic r]],u,rfl,rfl,?_,Yg w ⟨_,rfl,z.app,rW⟩,?_,?_,by rw[length_append];simp;omega,?_⟩;rw[flatten_append,length_append];simpa using C;rw[tK];unfold pA;rw[if_pos ⟨h2.2,h2.1⟩];simp[rj];intro o aue;rcases mem_append.1 aue with h|h
 exact t o h;rcases mem_singleton.1 h with rfl;exact getElem_mem u;have e:(d++[[a6 b9[y].1,.slice n ic r]]).flatten=d.flatten++[a6 b9[y].1,.slice n ic r]:=aW
 rw[e];refine(b.cf (bL:=(((S++X)++m)++([aa eM [am I 0 (eE.length+1) (2*2),.slice g fn l,int 0]]++[aa I (d.flatten++[a6 b9[y].1,.slice n ic r])]))++[aa eU [a6 b9[y].1,.slice n ic r],aa B [a6 b9[y].1,.slice n ic r]]) (cO fun p=>by simp only[countP_append,countP_cons,countP_nil];omega)).left;refine Z W ?_;refine Eo H b ?_;unfold pA;rw[if_neg (fun h=>h2 ⟨h.2,h.1⟩)];have e:y=b9.length:=U
 subst e;rw[take_length]at ar;refine fD H eM ap (.slice g fn l) eE (X++aw ap d.flatten) ?_ L ar t V ?_;rw[<- append_assoc];exact⟨d,Yf s,w.imp fun _ _ h=>h.app⟩;rw[<- append_assoc];rw[M]at b;exact b.cf (cO fun p=>by simp only[countP_append,countP_cons,countP_nil];omega)
theorem auf{az:hS}(gA:∀o∈eE,o.1.length<=1000/\o.2.length<=10000)(eZ:eE.length<=1000)(xD:c9.length<=1000000)(gH:lS ab ov eE)(B:rj eE=az.off)(C:dK 3 fv az.aK.length (ee az.aK))(I:az.aK.length<=1000000)(J:∀f∈az.aK,f.v<256)(fR:az.bU<=1000000)(hm:dg<=1000000)
  (b:ac H (ab++([aa eM [ov,fv,int az.bU]]++aw fv (ee az.aK)))) (V:∀E ap X g,bx X ap (az.hD c9 a dg).1.1->((az.hD c9 a dg).1.1≠[]->kV X ap)->dK 3 g (az.hD c9 a dg).2.aK.length (ee (az.hD c9 a dg).2.aK)->
   ac E ((ab++X)++([aa eM [ov,g,int (az.hD c9 a dg).2.bU]]++aw g (ee (az.hD c9 a dg).2.aK)))->K (.tuple [ap,int (az.hD c9 a dg).1.2].toArray) E):aG P 92 [ad eM 0,a6 c9,int a,int dg] H K:=by
 refine ahr.1 ?_;have s2:ac H ((ab++aw fv (ee az.aK))++[aa eM [ov,fv,int az.bU]]):=b.cf (cO fun p=>by simp only[countP_append,countP_cons,countP_nil];omega);refine Xy (fun o gH=>(gA o gH).1) eZ xD gH.app.app s2 (al (k:=0) rfl) ?_;clear b s2;intro H b;rcases FT eE (gu c9) 0 with⟨cU,dw⟩|⟨i,aB,cU,dw⟩
 have cU:qa az.off (gu c9)=none:=by rw[<- B];exact cU
 have gO:az.hD c9 a dg=(([],182),az):=by unfold hS.hD;rw[cU]
 rw[gO]at V;rw[dw];refine Z cV ?_;refine kf bT ?_;exact V H aA [] fv .nil (fun h=>absurd rfl h) C (by rw[append_nil];exact b.cf (cO fun p=>by simp only[countP_append,countP_cons,countP_nil];omega));have gO:az.hD c9 a dg=(n6 eE[i].2 a dg az.next.1,{az with aK:=az.next.2,bU:=az.bU+1}):=by unfold hS.hD;rw[<- B,show qa (rj eE) (gu c9)=_ from dw]
 rw[gO]at V;rw[cU,Nat.zero_add];refine Z cV ?_;refine ix U ?_;refine ai ?_;refine aD b rfl ?_;refine Z (v:=int ((az.bU+1:Nat):Int)) (by rw[f2 U U];rfl) ?_;refine ai ?_;refine cQ b (_+0) (al rfl) rfl (show 2<3 by omega) rfl ?_;clear b;intro H b
 replace b:=b.bp
 refine Z Wt ?_;rw[Ws];refine b0 b ?_;clear b;intro o H b;refine dn b (_+0) (al rfl) rfl rfl rfl ?_;clear b;intro H b
 replace b:=b.bp
 replace b:ac H (((ab++aw fv (ee az.aK))++[aa eM [ov,fv,int ((az.bU+1:Nat):Int)]])++[aa o (kX ⟨0,0,0⟩)]):=b
 have Ar:∀ {bL},(((ab++aw fv (ee az.aK))++[aa eM [ov,fv,int ((az.bU+1:Nat):Int)]])++bL)[(ab++aw fv (ee az.aK)).length+0]?=some (aa eM [ov,fv,int ((az.bU+1:Nat):Int)]):=ak (al rfl);refine cy (fun bN E=>∃(g:Value),bN=[ad eM 0,int a,int dg,int (i:Int),ad o 0]/\dK 3 g az.next.2.length (ee az.next.2)/\az.next.1.v<256/\ac E (((ab++aw g (ee az.next.2))++[aa o (kX az.next.1)])++[aa eM [ov,g,int ((az.bU+1:Nat):Int)]])) ?_ ?_;refine ai ?_;refine aD b rfl ?_;refine bg C.aZ ?_;refine Z go ?_;unfold hS.next;generalize az.aK=aK at*
 match aK,C,I,J with
 | [],C,_,_=>refine ix aW ?_;exact⟨fv,rfl,C,aW,b.cf (cO fun p=>by simp only[countP_append,countP_cons,countP_nil];omega)⟩
 | f::r,C,I,J=>
  obtain⟨p,c,rfl,tk,w⟩:=dK.am C;rw[w]at b Ar;have L:∀ {bL BZ},(((ab++[aa p (ee (f::r))])++bL)++BZ)[ab.length+0]?=some (aa p (ee (f::r))):=ak (ak (al rfl));refine kf aW ?_;refine ai ?_;refine aD b rfl ?_;refine Z (ez U U) ?_;refine mg b rfl rfl U ?_;refine dn b (_+0) (al rfl) rfl rfl rfl ?_;clear b;intro H b
  replace b:=b.bp
  replace b:ac H (((ab++[aa p (ee (f::r))])++[aa eM [ov,am p 0 (r.length+1) c,int ((az.bU+1:Nat):Int)]])++[aa o (kX f)]):=b
  refine el b (K4 _) ?_;clear b;intro vy H b;refine ai ?_;refine aD b rfl ?_;obtain⟨bC,rT⟩:=BW (H:=H) U tk;refine Z rT ?_;have aug:(ee (f::r)).length=(r.length+1)*3:=BM _;have LY:(ee (f::r)).drop 3=ee r:=rfl;have auh:r.length+1<=1000000:=I;refine BV b L aug (Wn _) U U U ?_;clear b;intro fs H b M;rw[LY]at b M;refine ai ?_;have s:ac H ((((ab++aw fs (ee r))++[aa o (kX f)])++[aa eM [ov,am p 0 (r.length+1) c,int ((az.bU+1:Nat):Int)]])++[aa p (ee (f::r))]):=
   b.cf (cO fun p=>by simp only[countP_append,countP_cons,countP_nil];omega)
  replace s:=s.left
  refine cQ s (_+0) (al rfl) (dK.kk M) (show 1<3 by omega) rfl ?_;clear b s;intro H b
  replace b:=b.bp
  exact⟨fs,rfl,M,J f aW,b⟩
 clear b C Ar;rintro bN H ⟨g,rfl,x,pM,b⟩
 try simp only[c1,c2]
 generalize az.next=b6 at*;obtain⟨f,mQ⟩:=b6;simp only at V x pM b;generalize oN:aw g (ee mQ)=X at b;have Pz:lS ((((ab++X)++[aa o (kX f)])++[aa eM [ov,g,int ((az.bU+1:Nat):Int)]])) ov eE:=gH.app.app.app;have axW:∀ {bL},((((ab++X)++[aa o (kX f)])++[aa eM [ov,g,int ((az.bU+1:Nat):Int)]])++bL)[(ab++X).length+0]?=some (aa o (kX f)):=ak (ak (al rfl));obtain⟨WL,ch,aui,mY,axX,cp,auj,L,auk,Yi,rW⟩:=Pz.get aB;have eA:=gA _ (getElem_mem aB);refine ai ?_;refine aD b rfl ?_;rw[auj];refine Z (ez U U) ?_;refine Z bj ?_;refine bk b aui L (by rw[Int.toNat_natCast];have:=congrArg (fun l:aj=>l[1]?) auk;simp at this;rw[<- this,show 0+i*2+1=i*2+1 by omega]) ?_;generalize hall:eE[i].2=all at*;refine Xx b Yi U hm ?_;have aul:bM (hC all a dg):=rW.cut;have zg:=b;clear b;intro H fs u b d;have q:∀ {E:an} {bL:LB} {ap:Value} {ae:LI} {e:Int},n6 all a dg f=(ae,e)->bx bL ap ae->(ae≠[]->kV bL ap)->ac E ((((ab++X)++[aa o (kX f)])++[aa eM [ov,g,int ((az.bU+1:Nat):Int)]])++bL)->K (.tuple [ap,int e].toArray) E:=by intro E bL ap ae e he h1 lm N;rw[he]at V;refine V E ap bL g h1 lm x ?_;subst oN;exact(N.cf (bL:=((ab++bL)++([aa eM [ov,g,int ((az.bU+1:Nat):Int)]]++aw g (ee mQ)))++[aa o (kX f)]) (cO fun p=>by simp only[countP_append,countP_cons,countP_nil];omega)).left
 refine Z bj ?_;refine aD b (v:=int f.d6) rfl ?_;refine Z cN ?_;refine ay (fun h=>?_) (fun h=>?_);exact q (ae:=[]) (e:=181) (by unfold n6;rw[if_pos h]) .nil (fun h=>absurd rfl h) b;refine Z cN ?_;refine ay (fun N=>?_) (fun N=>?_);have m:n6 all a dg f=(ze (hC all a dg) f,0):=by unfold n6;rw[if_neg h,if_pos N]
 refine bg d.aZ ?_;refine Z go ?_;by_cases ey:hC all a dg=[];refine ix (by rw[ey];simp) ?_;unfold ze at m;rw[if_pos ey]at m;exact q m d.gd (fun _=>dm.fz d) b;unfold ze at m;rw[if_neg ey]at m;have c8:0<(hC all a dg).length:=length_pos_iff.2 ey;refine kf U ?_;generalize aq7:hC all a dg=cx at*;obtain⟨p,c,rfl,tk,w⟩:=dm.ad d ey;have z:(max f.js 0).toNat%cx.length<cx.length:=mod_lt _ c8;refine cy (fun bN E=>bN=[ad o 0,am p 0 cx.length c,int (((max f.js 0).toNat%cx.length:Nat):Int)]/\E=H) ?_ ?_;refine Z bj ?_;refine aD b (v:=int f.js) rfl ?_;refine Z go ?_;refine ay (fun W=>?_) (fun W=>?_);refine Z bj ?_;refine aD b (v:=int f.js) rfl ?_;refine bg d.aZ ?_;obtain⟨j,S⟩:=Int.eq_ofNat_of_zero_le (show 0<=f.js by omega);have S:f.js=(j:Int):=S;rw[show(max f.js 0).toNat=j by omega,S];refine Z (v:=int ((j%cx.length:Nat):Int)) (p5 c8) ?_;exact⟨rfl,rfl⟩;refine⟨?_,rfl⟩;rw[show max f.js 0=0 by omega];simp;rintro bN E ⟨rfl,rfl⟩
 try simp only[c1,c2]
 generalize (max f.js 0).toNat%cx.length=j at*;refine Z (ez U U) ?_;rw[w]at b;have r4:=dm.at d z;have axY:=aul _ (getElem_mem z);have zh:cx[j]=((cx[j].toNat:Nat):Int):=U
 refine aD b (v:=bB .u8 (cx[j].toNat)) (by show u[0+((j:Nat):Int).toNat*1]?=some (Value.int .u8 ((cx[j].toNat:Nat):Int));rw[<- zh,<- r4,Int.toNat_natCast,Nat.zero_add,Nat.mul_one]) ?_;refine Z bj ?_;refine aD b (v:=bB .u8 f.v) rfl ?_;refine Z (lc rfl (show _<256 by omega) (show _<256 from pM)) ?_;refine Z (ez U U) ?_;rw[getD_eq_getElem?_getD,getElem?_eq_getElem z,Option.getD_some]at m;have ah:=dm.set d (y:=((cx[j].toNat ^^^ f.v:Nat):Int)) z;have aq9:j<u.length:=(List.getElem?_eq_some_iff.1 r4).1;refine cQ b (_+0) (al rfl) rfl (show 0+((j:Nat):Int).toNat*1<u.length by rw[Int.toNat_natCast];omega) (bI:=u.set j (.int .u8 ((cx[j].toNat ^^^ f.v:Nat):Int))) (by rw[Int.toNat_natCast,Nat.zero_add,Nat.mul_one]) ?_;intro E w8;rw[Go.Ab.bp]at w8;exact q m ah.gd (fun _=>dm.fz ah) (bL:=aw (am p 0 cx.length c) (u.set j (.int .u8 ((cx[j].toNat ^^^ f.v:Nat):Int)))) (by have e:aw (am p 0 cx.length c) (u.set j (.int .u8 ((cx[j].toNat ^^^ f.v:Nat):Int)))=[aa p (u.set j (.int .u8 ((cx[j].toNat ^^^ f.v:Nat):Int)))]:=rfl;rw[e];exact w8);refine Z cN ?_;refine ay (fun W=>?_) (fun W=>?_);have m:n6 all a dg f=((hC all a dg).take (max 0 (min f.js (hC all a dg).length)).toNat,0):=by unfold n6;rw[if_neg h,if_neg N,if_pos W]
 refine Z bj ?_;refine aD b (v:=int f.js) rfl ?_;refine Z cV ?_;refine ay (fun g0=>?_) (fun g0=>?_);rw[show(max 0 (min f.js ((hC all a dg).length:Int))).toNat=0 by omega,take_zero]at m;exact q m .nil (fun h=>absurd rfl h) b;refine Z bj ?_;refine aD b (v:=int f.js) rfl ?_;refine bg d.aZ ?_;refine Z cV ?_;refine ay (fun iL=>?_) (fun iL=>?_);obtain⟨t,ht⟩:=Int.eq_ofNat_of_zero_le (show 0<=f.js by omega);have ht:f.js=(t:Int):=ht;refine Z bj ?_;refine aD b (v:=int f.js) rfl ?_;rw[ht]at iL⊢;obtain⟨cF,Yj,kA⟩:=qP d.gd (n:=t) U;refine Z Yj ?_;rw[ht,show(max 0 (min (t:Int) ((hC all a dg).length:Int))).toNat=t by omega]at m;exact q m (kA _ d.gd) (fun _=>(dm.fz d).slice Yj) b;rw[show(max 0 (min f.js ((hC all a dg).length:Int))).toNat=(hC all a dg).length by omega,take_length]at m;exact q m d.gd (fun _=>dm.fz d) b;refine Z cN ?_;refine ay (fun g0=>?_) (fun g0=>?_);have m:n6 all a dg f=(hC all f.js dg,0):=by unfold n6;rw[if_neg h,if_neg N,if_neg W,if_pos g0]
 refine Z bj ?_;refine aD b (v:=int f.js) rfl ?_;refine Xx b Yi.app U hm ?_;intro e1 cF sx s F;rw[append_assoc]at s;exact q m F.gd.app' (fun _=>(dm.fz F).app') s;have m:n6 all a dg f=(hC all a dg,0):=by unfold n6;rw[if_neg h,if_neg N,if_neg W,if_neg g0]
 exact q m d.gd (fun _=>dm.fz d) b
end
section
variable{A B F H K S X a b c b3 bc l m jr c3 n aC ov p dC v cF x ab}{aF:hn}
section
theorem jm(a2:m.bw.length=32)(a:A.length=n)(k:Nat):(A++(aR m v++B))[0+(n+37+k)]?=B[k]?:=by
 rw[Nat.zero_add,getElem?_append_right U,a,getElem?_append_right (by rw[b7 a2];omega),b7 a2]
 congr 1;omega
theorem mn(a2:m.bw.length=32)(a:A.length=n)(k:Nat):(A++(aR m v++B)).set (0+(n+37+k)) x=A++(aR m v++B.set k x):=by
 rw[Nat.zero_add,set_append_right _ _ U,a,set_append_right _ _ (by rw[b7 a2];omega),b7 a2]
 congr 3;omega
theorem F7(a:m.bw.length=32)(b:A.length=n):(A++(aR m v++B))[0+n+36]?=some v:=by grind[lv]
theorem F8(a:m.bw.length=32)(b:A.length=n):((A++(aR m v++B)).drop (0+n)).take 37=aR m v:=by rw[Nat.zero_add,drop_left' b,take_left' (b7 a)]
theorem Yk(a2:m.bw.length=32)(b:jr.bw.length=32)(a:A.length=n):(A++(aR m v++B)).take (0+n)++(aR jr cF++(A++(aR m v++B)).drop (0+n+37))=A++(aR jr cF++B):=by
 have e:(A++(aR m v++B)).drop (n+37)=B:=by rw[<- append_assoc];exact drop_left' (by rw[length_append,b7 a2];omega)
 rw[Nat.zero_add,take_left' a,e]
theorem F9(a2:m.bw.length=32):(A++(aR m v++B)).length=A.length+37+B.length:=by rw[length_append,length_append,b7 a2];omega
end
def iu(l:dL):Int×fi:=l.dS.getD (0,cJ)
def fq(aC:Nat)(l:dL)(ov bc c3:Value)(dC:Nat):aj:=[ad aC 0,a6 l.c9,int l.left,ov,int dC,bc,.bool l.dS.isSome,int (iu l).1]++(aR (iu l).2 c3++[int l.cu,int l.aX])
structure zw (S:LB) (c3:Value) (l:dL):Prop where
 h:df S c3 (iu l).2.aU
 ok:(iu l).2.br
theorem zw.app(h:zw S c3 l):zw (S++X) c3 l:=⟨h.h.app,h.ok⟩
theorem qi(a:(iu l).2.bw.length=32):(fq aC l ov bc c3 dC).length=47:=F9 a
theorem Yl(a2:(iu l).2.bw.length=32)(a:ac H (ab++[aa p (fq aC l ov bc c3 dC)]))(c:l.left<=1000)(b:∀E,ac E (ab++[aa p (fq aC l.try.2 ov bc c3 dC)])->K (.tuple [].toArray) E):aG P 163 [ad p 0] H K:=by refine aiL.1 ?_;unfold dL.try at b;refine ai (aD a rfl (Z cN (ay (fun h=>?_) (fun h=>?_))));rw[if_pos U]at b;exact ai (cQ a (_+0) (al rfl) rfl (by rw[qi a2];omega) (mn a2 rfl 1) (fun H a=>b H a.bp));rw[if_neg U]at b;exact ai (aD a rfl (Z (v:=int ((l.left-1:Nat):Int)) (by rw[iS U U];congr 2;omega) (ai (cQ a (_+0) (al rfl) rfl (by rw[qi a2];omega) rfl (fun H a=>b H a.bp)))))
theorem xc(h:c=.bool true):jP c a b=some a:=by subst h;rfl
theorem s7(h:c=.bool false):jP c a b=some b:=by subst h;rfl
theorem Ym(h:aF.d6=1):aF=.kl aF.e8:=by cases aF<;>first|rfl|(simp[hn.d6]at h)
theorem Ga(h:aF.d6=2):aF=.jj aF.a2 aF.hi:=by cases aF<;>first|rfl|(simp[hn.d6]at h)
theorem LZ{l:dL}:l.follow (.jj n m)=if l.dS.isSome=true\/¬dy m\/n<0\/n>2304 then {l with aX:=192}else {l with dS:=some (n,m),cu:=0}:=rfl
theorem aum(c8:l.aX=0)(gA:l.left<=1000)(t:zw S c3 l)(kc:lg S aF b3)(d:ac H ((S++F)++[aa p (fq aC l ov bc c3 dC)]))
  (u:∀E J,zw S J (l.follow aF)->ac E ((S++F)++[aa p (fq aC (l.follow aF) ov bc J dC)])->K (.tuple [].toArray) E):aG P 162 [ad p 0,agg b3] H K:=by
 refine aiK.1 ?_;obtain⟨r,x,rfl,y,z,C,aun⟩:=XK kc;have a2:=t.ok.bi;have o:=z.bi;rw[n1];refine b0 d ?_;clear d;intro q H d;have N:∀ {l:dL} {c3:Value} {bL},(((S++F)++[aa p (fq aC l ov bc c3 dC)])++bL)[(S++F).length+0]?=some (aa p (fq aC l ov bc c3 dC)):=ak (al rfl);have iM:∀ {l:dL} {c3:Value},(((S++F)++[aa p (fq aC l ov bc c3 dC)])++[aa q (int aF.d6::int aF.e8::int aF.a2::(aR aF.hi r++[x]))])[((S++F)++[aa p (fq aC l ov bc c3 dC)]).length+0]?=some (aa q (int aF.d6::int aF.e8::int aF.a2::(aR aF.hi r++[x]))):=al rfl;have V:∀ {H},ac H (((S++F)++[aa p (fq aC l ov bc c3 dC)])++[aa q (int aF.d6::int aF.e8::int aF.a2::(aR aF.hi r++[x]))])->l.follow aF={l with aX:=192}->bD (hI (ad p 0)) fun g=>bD (gh 46 g) fun h=>a7 (d9 1 h (.int .i64 192) H) fun i j=>K (.tuple [].toArray) j:=by intro H d he;rw[he]at u;refine ai (cQ d _ N rfl (by rw[qi a2];omega) (mn a2 rfl 1) ?_);intro H d;rw[set_append_left _ _ aW,Go.Ab.bp]at d;exact u H c3 ⟨t.h,t.ok⟩ d.left
 refine cy (fun L E=>L=[ad p 0,ad q 0,.bool (decide (aF.d6=1/\l.rc aF.e8=true))]/\E=H) ?_ ?_
 ·refine Z bj (aD d rfl (Z cN (ay (fun h=>?_) (fun h=>?_))))
  ·refine ai (aD d rfl (Z fX ?_));rcases sZ l with C|⟨g,m,C⟩
   ·have w:l.dS.isSome=false:=by rw[C];rfl
    rw[Wz C,w];refine dz rfl (Z bj (aD d rfl (Z cN (Z (xc rfl) (ay (fun f=>?_) (fun f=>?_))))))
    ·refine Z (dT f) (Z (dT h) ⟨?_,rfl⟩);rw[decide_eq_true (⟨h,by simpa using f⟩)]
    ·refine ai (aD d rfl ?_);rw[w];refine cT rfl (Z (s7 rfl) (Z (s7 rfl) (Z (dl f) (Z (dT h) ⟨?_,rfl⟩))));rw[decide_eq_false (fun e=>f (by simpa using e.2))]
   ·have w:l.dS.isSome=true:=by rw[C];rfl
    have W:iu l=(g,m):=by unfold iu;rw[C];rfl
    rw[K7 C,w];refine cT rfl (Z (s7 rfl) ?_);refine ai (aD d rfl ?_);rw[w];refine dz rfl (Z bj (aD d rfl (Z kM (Z (xc rfl) (ay (fun f=>?_) (fun f=>?_))))))
    ·refine Z bj (aD d rfl (ai (Z bj (aD d (F7 a2 rfl) (bg t.h.aZ (Z cV ?_))))));refine Z (dT f) (Z (s7 rfl) (Z (dT h) ⟨?_,rfl⟩));rw[W];rw[decide_eq_decide.2 (show(aF.e8<(m.aU.length:Int))↔(aF.d6=1/\decide (0<=aF.e8/\aF.e8<(m.aU.length:Int))=true)from⟨fun e=>⟨h,by simp;omega⟩,fun e=>by have:=e.2;simp at this;omega⟩)]
    ·refine Z (dl f) (Z (s7 rfl) (Z (dT h) ⟨?_,rfl⟩));rw[decide_eq_false (fun e=>by have:=e.2;simp at this;omega)]
  ·refine Z (dl h) ⟨?_,rfl⟩;rw[decide_eq_false (fun e=>h e.1)]
 rintro L E ⟨rfl,rfl⟩
 try simp only[c1,c2]
 refine ay (fun h=>?_) (fun h=>?_)
 ·have ah:=Ym h.1;have M:ac E (((S++F)++[aa q (int aF.d6::int aF.e8::int aF.a2::(aR aF.hi r++[x]))])++[aa p (fq aC l ov bc c3 dC)]):=d.cf (cO fun p=>by simp only[countP_append,countP_cons,countP_nil];omega);refine Yl a2 M gA ?_;clear d M;intro H d;have d:ac H (((S++F)++[aa p (fq aC l.try.2 ov bc c3 dC)])++[aa q (int aF.d6::int aF.e8::int aF.a2::(aR aF.hi r++[x]))]):=d.cf (cO fun p=>by simp only[countP_append,countP_cons,countP_nil];omega);have s:iu l.try.2=iu l:=by unfold dL.try;split<;>rfl
  have I:(iu l.try.2).2.bw.length=32:=by rw[s];exact a2
  refine ai (aD d (jm I rfl 1) (Z cN (ay (fun f=>?_) (fun f=>?_))))
  ·refine Z bj (aD d rfl (ai (cQ d _ N rfl (by rw[qi I];omega) (mn I rfl 0) ?_)));intro H d;rw[set_append_left _ _ aW,Go.Ab.bp]at d;have e:l.follow aF={l.try.2 with cu:=aF.e8}:=by
    rw[ah];unfold dL.follow dL.try at*;simp only[h.2];by_cases n:l.left=0
    ·rw[if_pos n]at f;exact absurd f aW
    ·simp[n,hn.e8]
   rw[e]at u;exact u H c3 ⟨by rw[show iu {l.try.2 with cu:=aF.e8}=iu l from s];exact t.h,by rw[show iu {l.try.2 with cu:=aF.e8}=iu l from s];exact t.ok⟩ d.left
  ·have e:l.follow aF=l.try.2:=by
    rw[ah];unfold dL.follow dL.try at*;simp only[h.2];by_cases n:l.left=0
    ·simp[n]
    ·rw[if_neg n]at f;exact absurd c8 (by simpa using f)
   rw[e]at u;exact u H c3 ⟨by rw[s];exact t.h,by rw[s];exact t.ok⟩ d.left
 have X:aF.d6=1->l.follow aF={l with aX:=192}:=by
  intro f;have n:l.rc aF.e8=false:=by cases n:l.rc aF.e8 with|false=>rfl|true=>exact absurd ⟨f,n⟩ h
  rw[Ym f];unfold dL.follow;simp[n]
 have auo:aF.d6≠2->l.follow aF={l with aX:=192}:=by
  intro n;by_cases f:aF.d6=1
  ·exact X f
  ·cases aF with
   | kl a=>exact absurd rfl f
   | jj a b=>exact absurd rfl n
   | body a b=>rfl
   | gD=>rfl
 refine cy (fun L E=>L=[ad p 0,ad q 0,.bool (decide (aF.d6≠2\/l.dS.isSome=true\/¬dy aF.hi\/aF.a2<0\/aF.a2>2304))]/\ac E (((S++F)++[aa p (fq aC l ov bc c3 dC)])++[aa q (int aF.d6::int aF.e8::int aF.a2::(aR aF.hi r++[x]))])) ?_ ?_
 ·refine Z bj (aD d rfl (Z dX (ay (fun f=>?_) (fun f=>?_))))
  ·exact Z (dT f) (Z ja (Z ja (Z ja ⟨by simp[f],d⟩)))
  refine ai (aD d rfl (Z (dl f) ?_));cases w:l.dS.isSome with
  | true=>exact dz rfl (Z (xc rfl) (Z (xc rfl) (Z (xc rfl) ⟨aW,d⟩)))
  | false=>
  refine cT rfl (Z bj (mg d (F8 (A:=[int aF.d6,int aF.e8,int aF.a2]) o rfl) (b7 o) U ?_));refine wS z y.app.app.app d ?_;clear d;intro H d;refine Z fX (Z (s7 rfl) ?_);by_cases s:dy aF.hi
  ·rw[decide_eq_true s];refine cT rfl (Z bj (aD d rfl (Z cV (Z (s7 rfl) (ay (fun n=>?_) (fun n=>?_))))))
   ·exact Z (dT n) ⟨by simp[n],d⟩
   ·refine Z bj (aD d rfl (Z go (Z (dl n) ⟨?_,d⟩)));rw[decide_eq_decide.2 (show(aF.a2>2304)↔(aF.d6≠2\/false=true\/¬dy aF.hi\/aF.a2<0\/aF.a2>2304) by simp[f,s,n])]
  ·rw[decide_eq_false s];exact dz rfl (Z (xc rfl) (Z (xc rfl) ⟨by simp[s],d⟩))
 clear d;rintro L H ⟨rfl,d⟩
 try simp only[c1,c2]
 refine ay (fun f=>?_) (fun f=>?_)
 ·refine V d ?_;by_cases n:aF.d6=2
  ·rw[Ga n,LZ,if_pos (f.resolve_left fun e=>e n)]
  ·exact auo n
 ·have n:=Classical.byContradiction fun e=>f (.inl e)
  have e:l.follow aF={l with dS:=some (aF.a2,aF.hi),cu:=0}:=by rw[Ga n,LZ,if_neg (fun e=>f (.inr e))];rfl
  rw[e]at u;have M0:l.dS.isSome=false:=by
   cases w:l.dS.isSome with
   | false=>rfl
   | true=>exact absurd (.inr (.inl w)) f
  refine ai (cQ d _ N rfl (by rw[qi a2];omega) rfl ?_);clear d;intro H d;rw[set_append_left _ _ aW,Go.Ab.bp]at d;have v7:∀ {c:aj},(((S++F)++[aa p c])++[aa q (int aF.d6::int aF.e8::int aF.a2::(aR aF.hi r++[x]))])[((S++F)++[aa p c]).length+0]?=some (aa q (int aF.d6::int aF.e8::int aF.a2::(aR aF.hi r++[x]))):=al rfl;refine Z bj (mg d (F8 (A:=[int aF.d6,int aF.e8,int aF.a2]) o rfl) (b7 o) U ?_);have aup:=Yk (A:=[ad aC 0,a6 l.c9,int l.left,ov,int dC,bc,.bool true,int (iu l).1]) (v:=c3) (cF:=r) (B:=[int l.cu,int l.aX]) a2 o rfl;refine ai (kx d _ (ak (al (k:=0) rfl)) (b7 o) (by rw[length_set,qi a2];omega) (hB y.du) ?_);clear d;intro H d;rw[set_append_left _ _ aW,Go.Ab.bp]at d
  replace d:ac H (((S++F)++[aa p ([ad aC 0,a6 l.c9,int l.left,ov,int dC,bc,.bool true,int (iu l).1]++(aR aF.hi r++[int l.cu,int l.aX]))])++[aa q (int aF.d6::int aF.e8::int aF.a2::(aR aF.hi r++[x]))]):=by rw[<- aup];exact d
  refine Z bj (aD d rfl ?_);refine ai (cQ d _ (ak (al (k:=0) rfl)) rfl (by rw[F9 o];simp) (bI:=[ad aC 0,a6 l.c9,int l.left,ov,int dC,bc,.bool true,int aF.a2]++(aR aF.hi r++[int l.cu,int l.aX])) rfl ?_);clear d;intro H d;rw[set_append_left _ _ aW,Go.Ab.bp]at d;refine ai (cQ d _ (ak (al (k:=0) rfl)) rfl (by rw[F9 o];simp) (mn o rfl 0) ?_);clear d;intro H d;rw[set_append_left _ _ aW,Go.Ab.bp]at d;exact u H r ⟨y,z⟩ d.left
end
section
variable{F H K eE S X a all ac1 bytes ag f fv bZ bc dg c3 n aC c9 az rk dq fL ov p bv q dC size aF v w ae ab}{l:dL}
theorem auq(l:0<size)(b:ac H (ab++[aa q []]))(h:j3 size ab v n ag)(r:ag.all cS=true)(z:n<=1000000)(s:n*bytes<=140737488355328)(m:∀d E,ac E (ab++aw d ag)->dK size d n ag->K d E):a7 (dj size bytes (am q 0 0 (2*size+1)) v H) K:=by
 have nil:v=v->ag=[]->n=0->dj size bytes (am q 0 0 (2*size+1)) v H=some (am q 0 0 (2*size+1),H)->a7 (dj size bytes (am q 0 0 (2*size+1)) v H) K:=by intro _ t f g;subst t;subst f;exact bg g (m _ H b (.inr ⟨q,.inr rfl,aW⟩))
 rcases h with⟨rfl,rfl,rfl⟩|⟨p,c,j,w,rfl,u,a⟩
 exact nil rfl rfl rfl rfl;by_cases x:n=0;subst x;exact nil rfl (length_eq_zero_iff.1 U) rfl rfl;have o:0<n*size:=Nat.mul_pos U l;have y:=b.at j (ak u) (.inr fun e=>by have e:ag=[]:=e;rw[e]at a;simp at a;omega);have g:m5 H size n (am p 0 n c)=some ag:=by rw[tA y (by show 0+n*size<=ag.length;omega)];show some ((ag.drop 0).take (n*size))=_;rw[drop_zero,take_of_length_le U]
 have i:=b;apply ww i (.inr ⟨q,.inr rfl,aW⟩) l rfl g U (by rw[Nat.zero_add];exact s) U r a;intro ax E k _;rw[Nat.zero_add];exact m (am ax 0 n (2*size)) E k (.inr ⟨ax,.inl rfl,a⟩)
theorem aur(h:bM all)(i:f.v<256):bM (n6 all a dg f).1/\(n6 all a dg f).1.length<=all.length:=by
 have c:∀ {b:Int},bM (hC all b dg)/\(hC all b dg).length<=all.length:=fun {b}=>⟨h.cut,K6⟩
 unfold n6;split;exact⟨(fun x g=>by cases g),aW⟩;split;unfold ze;split;exact c;rename_i g;refine⟨fun y d=>?_,by rw[length_set];exact c.2⟩;rcases mem_or_eq_of_mem_set d with d|rfl
 exact c.1 y d;have j:=length_pos_iff.2 g;have e:(max f.js 0).toNat%(hC all a dg).length<(hC all a dg).length:=mod_lt _ j;have k:=c.1 _ (getElem_mem e);rw[getD_eq_getElem?_getD,getElem?_eq_getElem e,Option.getD_some];have:((hC all a dg)[(max f.js 0).toNat%(hC all a dg).length].toNat ^^^ f.v)<2^8:=xor_lt_two_pow U i;omega;split;exact⟨fun y d=>c.1 y (mem_of_mem_take d),by have:=(c (b:=a)).2;simp;omega⟩;split;exact c;exact c
def rl(p aC:Nat)(l:dL)(ov bc c3 fL fv:Value)(dC:Nat)(dq bZ:aj)(az:hS):LB:=
 [aa p (fq aC l ov bc c3 dC),aa aC [fL,fv,int az.bU]]++(aw ov dq++(aw bc bZ++aw fv (ee az.aK)))
structure qj (S:LB) (fL fv:Value) (eE:kD) (az:hS):Prop where
 of:lS S fL eE
 off:rj eE=az.off
 uE:∀o∈eE,o.1.length<=1000/\o.2.length<=10000
 on:eE.length<=1000
 f:dK 3 fv az.aK.length (ee az.aK)
 qe:∀f∈az.aK,f.v<256
 cj:az.aK.length<=100000
theorem qj.app(h:qj S fL fv eE az):qj (S++X) fL fv eE az:=⟨h.of.app,h.off,h.uE,h.on,h.f,h.qe,h.cj⟩
structure zx (S:LB) (l:dL) (bv:List (Int×LI)) (ac1:List hn) (ov bc c3:Value) (dC:Nat) (dq bZ:aj):Prop where
 o:mm 2 (n2 S) ov bv dq
 i:mm 41 (lg S) bc ac1 bZ
 m:zw S c3 l
 ok:l.br
 vz:l.dS.isSome=true->l.cu≠-1
 n:bv.length<=dC/\dC<=1000/\ac1.length<=1000
 mL:∀p∈bv,p.2.length<=1000000
theorem zx.app(h:zx S l bv ac1 ov bc c3 dC dq bZ):zx (S++X) l bv ac1 ov bc c3 dC dq bZ:=
 ⟨h.o.imp fun _ _=>n2.app,h.i.imp fun _ _=>lg.app,h.m.app,h.ok,h.vz,h.n,h.mL⟩
theorem Yn(az:hS):(∀f∈az.next.2,f∈az.aK)/\az.next.2.length<=az.aK.length/\(az.next.1=⟨0,0,0⟩\/az.next.1∈az.aK):=by unfold hS.next;cases az.aK<;>simp+contextual
theorem aus(h:qj S fL fv eE az)(e:rk=(az.hD c9 a dg).2)(c:dK 3 w rk.aK.length (ee rk.aK)):qj S fL w eE rk:=by
 have b:=Yn az;have:rk.off=az.off/\(∀f∈rk.aK,f∈az.aK)/\rk.aK.length<=az.aK.length:=by subst e;unfold hS.hD;split;exact⟨rfl,fun _ h=>h,Nat.le_refl _⟩;exact⟨rfl,b.1,b.2.1⟩
 exact⟨h.of,by rw[this.1];exact h.off,h.uE,h.on,c,fun f d=>h.qe f (this.2.1 f d),Nat.le_trans this.2.2 h.cj⟩
theorem aut(h:qj S fL fv eE az):bM (az.hD c9 a dg).1.1/\(az.hD c9 a dg).1.1.length<=1000000:=by
 unfold hS.hD;split;exact⟨(fun x g=>by cases g),aW⟩;rename_i all b;rw[<- h.off]at b;rcases FT eE (gu c9) 0 with⟨j,_⟩|⟨i,f,_,k⟩
 rw[j]at b;cases b;rw[k]at b;cases b;have⟨_,_,_,_,_,_,_,_,_,_,c⟩:=h.of.get f;have d:az.next.1.v<256:=by
  rcases(Yn az).2.2 with e|e
  rw[e];decide;exact h.qe _ e
 have:=aur (a:=a) (dg:=dg) c d;have l:=(h.uE _ (getElem_mem f)).2;exact⟨this.1,Nat.le_trans this.2 U⟩
theorem L0(m:fi)(i:Int):(gl m i).2<=1024:=by
 unfold gl;split;simp;rename_i h;have a:=Classical.not_not.1 fun aH=>h (.inl aH)
 have:=a.2.2.2.2.2.2.1;simp only;omega
theorem Yo(h:n2 S (a,ae) [int a,v]):[int a,v].all cS=true:=by have⟨w,e,b,_⟩:=h;cases e;show(cS (int a)&&(cS v&&true))=true;rw[BQ b];rfl
theorem auu(h:l.dS.isSome=true->l.cu≠-1)(b:l.cu≠-2)(c:l.br):l.on.dS.isSome=true->l.on.cu≠-1:=by
 rcases sZ l with a|⟨g,m,a⟩
 rw[FB a];intro h;rw[show({l with cu:=-2}:dL).dS=none from a]at h;cases h;rw[BN a];intro _ e;simp only at e;split at e<;>omega
theorem auv(h:l.dS.isSome=true->l.cu≠-1):(l.follow aF).dS.isSome=true->(l.follow aF).cu≠-1:=by
 cases aF with
 | kl a=>
  unfold dL.follow;simp only;split;exact h;split;exact h;rename_i d _;intro f e;subst e;rcases sZ l with c|⟨g,m,c⟩
  rw[c]at f;cases f;rw[K7 c]at d;simp at d
 | jj n m=>rw[LZ];split;exact h;intro _ e;have e:(0:Int)=-1:=e;omega
 | body a b=>exact h
 | gD=>exact h
theorem auw(k:zx S l bv ac1 ov bc c3 dC dq bZ)(eZ:qj S fL fv eE az)(fR:az.bU<=1000000)(d:ac H ((S++F)++rl p aC l ov bc c3 fL fv dC dq bZ az))
  (C:∀E X zy B0 vA vB Yp B1,zx (S++X) (hd dC l bv ac1 az).2.1 (hd dC l bv ac1 az).2.2.1 (hd dC l bv ac1 az).2.2.2.1 zy B0 vA dC Yp B1->qj (S++X) fL vB eE (hd dC l bv ac1 az).2.2.2.2->
   ac E (((S++X)++F)++rl p aC (hd dC l bv ac1 az).2.1 zy B0 vA fL vB dC Yp B1 (hd dC l bv ac1 az).2.2.2.2)->K (.bool (hd dC l bv ac1 az).1) E):aG P 109 [ad p 0] H K:=by
 refine ahL.1 ?_;have a2:=k.m.ok.bi;have jJ:∀ {ab bL:LB} {l:dL} {ov bc c3:Value},(ab++([aa p (fq aC l ov bc c3 dC),aa aC [fL,fv,int az.bU]]++bL))[ab.length+0]?=some (aa p (fq aC l ov bc c3 dC)):=al rfl;have fz:∀ {r},hd dC l bv ac1 az=r->r=(false,l,bv,ac1,az)->K (.bool false) H:=by intro r cU dw;rw[cU,dw]at C;exact C H [] ov bc c3 fv dq bZ k.app eZ.app (by rw[append_nil];exact d)
 refine ai (bk d _ jJ (v:=int l.aX) (jm (n:=8) a2 rfl 1) (Z dX (ay (fun h=>?_) (fun h=>?_))))
 ·exact fz rfl (by unfold hd;rw[if_pos h])
 have c8:l.aX=0:=Classical.not_not.1 h;unfold hd at C fz;rw[if_neg h]at C fz;refine ai (bk d _ jJ (v:=bc) rfl (bg k.i.own.aZ (Z go ?_)));cases ac1 with
 | cons aF r=>
  simp only at C;refine kf aW ?_;obtain⟨b3,tC,ht,BX⟩:=k.i.head (fun a b3 h=>h.row.1);have hlen:=k.i.own.len;have V:=k.i.du;obtain⟨j4,m9,rfl,qD,LL⟩:=k.i.own.am;obtain⟨xd,L1⟩:=tC.row;unfold rl at d;rw[LL]at d;generalize q4:(aa aC [fL,fv,int az.bU])::(aw ov dq++aw fv (ee az.aK))=N at*
  replace d:ac H (((S++(F++N))++[aa j4 bZ])++[aa p (fq aC l ov (am j4 0 (r.length+1) m9) c3 dC)]):=d.cf (cO fun p=>by simp only[<- q4,countP_append,countP_cons,countP_nil];omega)
  have u:∀ {ab bL:LB} {l:dL} {ov bc c3:Value},((ab++[aa p (fq aC l ov bc c3 dC)])++bL)[ab.length+0]?=some (aa p (fq aC l ov bc c3 dC)):=ak (al rfl);have v7:∀ {ab bL BZ:LB},(((ab++[aa j4 bZ])++bL)++BZ)[ab.length+0]?=some (aa j4 bZ):=ak (ak (al rfl));refine ai (aD d (v:=am j4 0 (r.length+1) m9) rfl (Z (ez U U) ?_));refine mg d (ag:=b3) (by simpa using ht) xd U ?_;rw[XH];refine b0 d ?_;clear d;intro t H d;refine dn d (_+0) (al rfl) XI.1 xd L1 ?_;clear d;intro H d
  replace d:=d.bp
  replace d:ac H ((((S++(F++N))++[aa j4 bZ])++[aa p (fq aC l ov (am j4 0 (r.length+1) m9) c3 dC)])++[aa t b3]):=d
  refine el d (KF _) ?_;clear d;intro vy H d;refine ai (aD d (v:=am j4 0 (r.length+1) m9) rfl ?_);obtain⟨bC,rT⟩:=BW (size:=41) (p:=j4) (n:=r.length) (c:=m9) (H:=H) U qD;refine Z rT ?_;have z:r.length+1<=1000:=k.n.2.2;refine BV (n:=r.length) d v7 hlen V U U U ?_;clear d;intro fs H d L;have L2:=BX fs L
  replace d:ac H (((S++((F++N)++aw fs (bZ.drop 41)))++[aa p (fq aC l ov (am j4 0 (r.length+1) m9) c3 dC)])++([aa t b3]++[aa j4 bZ])):=d.cf (cO fun p=>by simp only[countP_append,countP_cons,countP_nil];omega)
  refine ai (cQ d _ u L.kk (by rw[qi a2];omega) (bI:=fq aC l ov fs c3 dC) rfl ?_);clear d;intro H d;rw[set_append_left _ _ aW,Go.Ab.bp]at d
  replace d:ac H (((S++((F++N)++aw fs (bZ.drop 41)))++[aa p (fq aC l ov fs c3 dC)])++[aa t b3]):=(d.cf (bL:=(((S++((F++N)++aw fs (bZ.drop 41)))++[aa p (fq aC l ov fs c3 dC)])++[aa t b3])++[aa j4 bZ]) (cO fun p=>by simp only[set_cons_zero,countP_append,countP_cons,countP_nil];omega)).left
  refine bK d xd U ?_
  replace d:=d.left
  refine aum c8 (by have:=k.ok.left;omega) k.m tC d ?_;clear d;intro H vA Ou d;refine C H [] ov fs vA fv dq (bZ.drop 41) ?_ eZ.app ?_
  ·rw[append_nil];exact⟨k.o,L2,Ou,k.ok.follow _,auv k.vz,⟨k.n.1,k.n.2.1,U⟩,k.mL⟩
  ·rw[append_nil];unfold rl;exact d.cf (cO fun p=>by simp only[<- q4,countP_append,countP_cons,countP_nil];omega)
 | nil=>
 simp only at C fz;refine ix aW ?_;have zg:=d;refine cy (fun bN E=>bN=[ad p 0]/\H=E/\¬(l.cu=-2\/bv.length=dC)) ?_ ?_
 ·refine ai (bk d _ jJ (v:=int l.cu) (jm (n:=8) a2 rfl 0) (Z cN (ay (fun V=>?_) (fun V=>?_))))
  ·exact Z (dT V) (dz rfl (fz rfl (by rw[if_pos (.inl V)])))
  ·refine ai (bk d _ jJ (v:=ov) rfl (bg k.o.own.aZ (ai (bk d _ jJ (v:=int dC) rfl (Z kM (Z (dl V) (ay (fun h2=>?_) (fun h2=>?_))))))))
   ·exact fz rfl (by rw[if_pos (.inr (by have:=k.n.1;omega))])
   ·exact⟨rfl,rfl,by rintro(e|e);exact V e;omega⟩
 rintro bN E ⟨rfl,rfl,zz⟩
 try simp only[c1,c2]
 rw[if_neg zz]at C;have pw:l.cu≠-2:=fun e=>zz (.inl e)
 have axZ:=k.ok.w;refine cy (fun bN E=>bN=[ad p 0,int l.hT.1,int l.hT.2]/\ac E ((S++F)++rl p aC l ov bc c3 fL fv dC dq bZ az)) ?_ ?_
 ·refine ai (bk d _ jJ (v:=int l.cu) (jm (n:=8) a2 rfl 0) (Z kM (ay (fun V=>?_) (fun V=>?_))))
  ·rcases sZ l with s|⟨g,m,s⟩
   ·exfalso;have:=k.ok.jp s;omega
   ·have z:iu l=(g,m):=by unfold iu;rw[s];rfl
    have ax0:=k.ok.jQ g m s;refine ai (fe d _ jJ (ag:=aR (iu l).2 c3) (F8 (n:=8) a2 rfl) (b7 a2) U ?_);refine ai (bk d _ jJ (v:=int l.cu) (jm (n:=8) a2 rfl 0) ?_);refine Kr k.m.ok k.m.h.app.app d ?_;clear d;intro H d;have DN:=Wv m l.cu;refine Z f5 (Z f6 (ai (bk d _ jJ (v:=int (iu l).1) rfl (Z (f2 ?_ ?_) ⟨?_,d⟩))))
    ·rw[z];simp only;omega
    ·rw[z];simp only;omega
    ·unfold dL.hT;rw[if_neg U,s,z];simp only;rw[Int.add_comm]
  ·refine⟨?_,d⟩;unfold dL.hT;rw[if_pos U]
 clear d zg fz;rintro bN H ⟨rfl,d⟩
 try simp only[c1,c2]
 refine ai (bk d _ jJ (v:=ad aC 0) rfl (ai (bk d _ jJ (v:=a6 l.c9) rfl ?_)));have auy:l.hT.2<=1000000:=by
  unfold dL.hT;split
  ·simp
  ·split
   ·simp
   ·rename_i g m _;have:=L0 m l.cu;simp only;omega
 have Yq:ac H (((S++F)++([aa p (fq aC l ov bc c3 dC)]++(aw ov dq++aw bc bZ)))++([aa aC [fL,fv,int az.bU]]++aw fv (ee az.aK))):=d.cf (cO fun p=>by unfold rl;simp only[countP_append,countP_cons,countP_nil];omega);refine auf (az:=az) eZ.uE eZ.on k.ok.c9 eZ.of.app.app eZ.off eZ.f (by have:=eZ.cj;omega) eZ.qe fR auy Yq ?_;clear d Yq;intro H ap X B L3 xQ GT d;have rW:=aut eZ (c9:=l.c9) (a:=l.hT.1) (dg:=l.hT.2);have vx:=aus eZ (c9:=l.c9) (a:=l.hT.1) (dg:=l.hT.2) rfl GT;generalize az.hD l.c9 l.hT.1 l.hT.2=gg at*;obtain⟨⟨b,e⟩,W⟩:=gg;simp only at C L3 xQ GT d rW vx;refine Z f5 (Z f6 ?_);simp only;have M:ac H ((((S++X)++F)++[aa p (fq aC l ov bc c3 dC)])++((aw ov dq++aw bc bZ)++([aa aC [fL,B,int W.bU]]++aw B (ee W.aK)))):=d.cf (cO fun p=>by simp only[countP_append,countP_cons,countP_nil];omega);clear d;have u:∀ {ab bL:LB} {l:dL} {ov bc c3:Value},((ab++[aa p (fq aC l ov bc c3 dC)])++bL)[ab.length+0]?=some (aa p (fq aC l ov bc c3 dC)):=ak (al rfl);have q:=k.app (X:=X);refine Z cN (ay (fun V=>?_) (fun V=>?_))
 ·rw[if_neg (show¬e=0 by omega),if_pos V]at C;have m2:ac H ((((S++X)++F)++((aw ov dq++aw bc bZ)++([aa aC [fL,B,int W.bU]]++aw B (ee W.aK))))++[aa p (fq aC l ov bc c3 dC)]):=M.cf (cO fun p=>by simp only[countP_append,countP_cons,countP_nil];omega);refine Yl a2 m2 (by have:=k.ok.left;omega) ?_;clear M m2;intro H d;have wz:iu l.try.2=iu l:=by unfold dL.try;split<;>rfl
  refine C H X ov bc c3 B dq bZ ⟨q.o,q.i,⟨by rw[wz];exact q.m.h,by rw[wz];exact q.m.ok⟩,q.ok.try,?_,q.n,q.mL⟩ vx.app ?_
  ·have:l.try.2.dS=l.dS/\l.try.2.cu=l.cu:=by unfold dL.try;split<;>exact⟨rfl,rfl⟩
   rw[this.1,this.2];exact k.vz
  ·unfold rl;exact d.cf (cO fun p=>by simp only[countP_append,countP_cons,countP_nil];omega)
 refine Z dX (ay (fun h2=>?_) (fun h2=>?_))
 ·rw[if_neg h2,if_neg V]at C;refine ai (cQ M _ u rfl (by rw[qi a2];omega) (bI:=fq aC {l with aX:=e} ov bc c3 dC) (mn a2 rfl 1) ?_);clear M;intro H d;rw[set_append_left _ _ aW,Go.Ab.bp]at d;refine C H X ov bc c3 B dq bZ ⟨q.o,q.i,⟨q.m.h,q.m.ok⟩,q.ok.aX _,k.vz,q.n,q.mL⟩ vx.app ?_;unfold rl;exact d.cf (cO fun p=>by simp only[set_cons_zero,countP_append,countP_cons,countP_nil];omega)
 have vw:e=0:=Classical.not_not.1 h2;rw[if_pos vw]at C;subst vw;have L4:n2 (S++X) (l.cu,b) [int l.cu,ap]:=⟨ap,rfl,L3.app',rW.1,fun h=>(xQ h).app'⟩;generalize q4:([aa aC [fL,B,int W.bU]]++aw B (ee W.aK))=N at*;have zA:=M;refine el M (XE _) ?_;clear M;intro vy e1 d;have iM:vy≠p:=J.ac.ve d (i:=((((S++X)++F)++[aa p (fq aC l ov bc c3 dC)])++((aw ov dq++aw bc bZ)++N)).length+0) (j:=((S++X)++F).length+0) (al rfl) (ak u) aW;have Gb:∀x∈dM [ov],x≠p:=by
  intro x s e;subst e;rcases k.o.own with⟨rfl,_⟩|⟨uT,L,xS⟩
  ·cases s
  ·have uJ:x=uT:=by rcases L with rfl|rfl<;>simpa [dM,vV,am]using s
   subst uJ;have wl:(aa x dq)∈aw ov dq:=by rcases L with rfl|rfl<;>exact .head _
   obtain⟨auz,auA⟩:=mem_iff_getElem?.1 wl;exact J.ac.ve d (i:=((((S++X)++F)++[aa x (fq aC l ov bc c3 dC)]).length+auz)) (j:=((S++X)++F).length+0) (ak (al (ak (ak auA)))) (ak u) (by simp;omega) rfl
 refine ai (aD d (v:=ov) rfl ⟨t1 (E:=H) zA u _,?_⟩);have wz:j3 2 ((((S++X)++F)++[aa p (fq aC l ov bc c3 dC)])++((aw ov dq++aw bc bZ)++N)) ov bv.length dq:=k.o.own.XA.mono (by intro x s;simp[s]);have vn:=k.n.1;have ax1:=k.n.2.1;have auB:=d;refine auq (size:=2) U d wz k.o.du U U ?_;clear d;intro fs yF d L;refine ai (aD d (v:=int l.cu) (jm (n:=8) a2 rfl 0) ⟨?_,t1 (E:=H) auB (ak u) _,t1 (E:=H) zA u _,?_⟩)
 ·rcases k.o.own with⟨rfl,_⟩|⟨uT,uJ,_⟩
  ·exact KE iM
  ·have:=Gb uT (by rcases uJ with rfl|rfl<;>exact .head _);rcases uJ with rfl|rfl<;>exact VC iM this
 obtain⟨va,B2,px,rfl⟩:=L3.ha;refine Z (WA _ _ _ _) ?_;refine el d (show _=some (am yF.next 0 1 5,yF.push [int l.cu,.slice va B2 px])from rfl) ?_;clear d;intro ann H d;refine qQ d L rfl U (Yo L4) U U ?_;clear d;intro cF H d Iz;refine ai (cQ d _ (ak u) Iz.kk (by rw[qi a2];omega) (bI:=fq aC l cF bc c3 dC) rfl ?_);clear d;intro H d;rw[set_append_left _ _ aW,set_append_left _ _ aW,Go.Ab.bp]at d
 replace d:ac H ((((S++X)++F)++[aa p (fq aC l cF bc c3 dC)])++((aw cF (dq++[int l.cu,.slice va B2 px])++aw bc bZ)++N)):=(d.cf (bL:=((((S++X)++F)++[aa p (fq aC l cF bc c3 dC)])++((aw cF (dq++[int l.cu,.slice va B2 px])++aw bc bZ)++N))++aw ov dq) (cO fun p=>by simp only[set_cons_zero,countP_append,countP_cons,countP_nil];omega)).left
 have L2:mm 2 (n2 (S++X)) cF (bv++[(l.cu,b)]) (dq++[int l.cu,.slice va B2 px]):=q.o.h6 L4 (Yo L4) Iz;have zh:(bv++[(l.cu,b)]).length<=dC:=by
  have:¬bv.length=dC:=fun e=>zz (.inr e)
  simp;omega
 have tp:∀p∈bv++[(l.cu,b)],p.2.length<=1000000:=by
  intro y fS;rcases mem_append.1 fS with fS|fS
  ·exact k.mL y fS
  ·rcases mem_singleton.1 fS with rfl;exact rW.2
 have gD:∀ {H:an} {w:Int},l.on={l with cu:=w}->ac H ((((S++X)++F)++[aa p (fq aC {l with cu:=w} cF bc c3 dC)])++((aw cF (dq++[int l.cu,.slice va B2 px])++aw bc bZ)++N))->K (.bool true) H:=by intro H w he d;have Yr:=auu k.vz pw k.ok;have Ys:=k.ok.on;rw[he]at C Yr Ys;refine C H X cF bc c3 B _ bZ ⟨L2,q.i,⟨q.m.h,q.m.ok⟩,Ys,Yr,⟨zh,k.n.2.1,k.n.2.2⟩,tp⟩ vx.app ?_;unfold rl;exact d.cf (cO fun p=>by simp only[<- q4,countP_append,countP_cons,countP_nil];omega)
 have qM:(iu l).2.aU.length<=64:=by
  rcases sZ l with s|⟨g,m,s⟩
  ·unfold iu;rw[s];decide
  ·have z:iu l=(g,m):=by unfold iu;rw[s];rfl
   rw[z];exact FA (k.ok.jQ g m s).1
 refine cy (fun bN E=>bN=[ad p 0,.bool (decide (l.cu=-1\/l.cu=((iu l).2.aU.length:Int)-1))]/\E=H) ?_ ?_
 ·refine ai (aD d (v:=int l.cu) (jm (n:=8) a2 rfl 0) (Z cN (ay (fun I=>?_) (fun I=>?_))))
  ·exact Z (dT I) ⟨by simp[I],rfl⟩
  ·refine ai (aD d (v:=int l.cu) (jm (n:=8) a2 rfl 0) (ai (Z bj (aD d (v:=c3) (F7 (n:=8) a2 rfl) (bg k.m.h.aZ ?_)))));refine Z (iS U U) (Z cN (Z (dl I) ⟨?_,rfl⟩));rw[decide_eq_decide.2 (show(l.cu=((iu l).2.aU.length:Int)-1)↔(l.cu=-1\/l.cu=((iu l).2.aU.length:Int)-1)from⟨.inr,fun e=>e.resolve_left I⟩)]
 rintro bN E ⟨rfl,rfl⟩
 try simp only[c1,c2]
 refine ay (fun I=>?_) (fun I=>?_)
 ·refine ai (cQ d _ u rfl (by rw[qi a2];omega) (bI:=fq aC {l with cu:=-2} cF bc c3 dC) (mn a2 rfl 0) ?_);clear d;intro H d;rw[set_append_left _ _ aW,Go.Ab.bp]at d;refine gD ?_ d;rcases sZ l with s|⟨g,m,s⟩
  ·exact FB s
  ·have z:iu l=(g,m):=by unfold iu;rw[s];rfl
   rw[z]at I;rw[BN s,if_pos (by have:=k.vz (by rw[s];rfl);rcases I with I|I;exact absurd I this;simp only at I;omega)]
 ·refine ai (aD d (v:=int l.cu) (jm (n:=8) a2 rfl 0) (Z (f2 U U) ?_));refine ai (cQ d _ u rfl (by rw[qi a2];omega) (bI:=fq aC {l with cu:=l.cu+1} cF bc c3 dC) (mn a2 rfl 0) ?_);clear d;intro H d;rw[set_append_left _ _ aW,Go.Ab.bp]at d;refine gD ?_ d;rcases sZ l with s|⟨g,m,s⟩
  ·exact absurd (.inl ((k.ok.jp s).resolve_right pw)) I
  ·have z:iu l=(g,m):=by unfold iu;rw[s];rfl
   rw[z]at I;rw[BN s,if_neg (by intro e;exact I (.inr (by simp only;omega)))]
end
section
variable{H K L eR dF a i2 mP bs q v y ab}{vC:LI}{k:Nat}
theorem Yt:(aN L).set (0+((y:Nat):Int).toNat*1) (.int .u8 a)=aN (L.set y a):=by rw[Int.toNat_natCast,Nat.zero_add,Nat.mul_one];unfold aN;rw[map_set]
theorem Yu(b:vC.length=64)(c:y<64):((vC.take y++replicate (64-y) 0).set y a).set y vC[y]=vC.take (y+1)++replicate (64-(y+1)) 0:=by
 apply ext_getElem;simp;omega;intro i d e
 grind
theorem auC(b:vC.length=64)(c:y<64)(h:vC[y]=255):(vC.take y++replicate (64-y) 0).set y 255=vC.take (y+1)++replicate (64-(y+1)) 0:=by have:=Yu b c (a:=255);rw[h,set_set]at this;exact this
theorem auD{bs:LI}(a:y<64):(nu ((bs.drop k).take 64))[y]'(by rw[BA (by simp;omega)];exact a)=if h:k+y<bs.length then bs[k+y]else 255:=by
 unfold nu;rw[getElem_append];split;rename_i h;have h:y<min 64 (bs.length-k):=by simpa using h
 rw[dif_pos U];simp;rename_i h;have h:¬y<min 64 (bs.length-k):=by simpa using h
 rw[dif_neg U,getElem_replicate]
theorem auE(s:bx ab v bs)(F:bs.length<=1000000)(x:k<=1000000)(d:ac H (ab++[aa q (aN ju)]))
  (t:∀E,ac E (ab++[aa q (aN (nu ((bs.drop k).take 64)))])->dF 2 [v,i2,mP,int k,ad q 0] E):i7 P true 40 I0 61 [v,i2,mP,int k,ad q 0,int 0] H dF eR:=by
 have i:(nu ((bs.drop k).take 64)).length=64:=BA (by simp;omega);obtain⟨l,u⟩:∃l,l=nu ((bs.drop k).take 64):=⟨_,rfl⟩;have n:∀y (r:y<64) (h:y<l.length),l[y]=if h:k+y<bs.length then bs[k+y]else 255:=by subst u;intro y r h;exact auD r
 rw[<- u]at t i;refine ajB (fun m w E=>∃y:Nat,y<=64/\m=64-y/\w=[v,i2,mP,int k,ad q 0,int y]/\ac E (ab++[aa q (aN (l.take y++replicate (64-y) 0))])) _ _ ?_ 64 _ _ ⟨0,U,rfl,rfl,d⟩;rintro m w H ⟨y,r,rfl,rfl,d⟩;unfold Si;refine ul ?_
 try simp only[c1,c2]
 refine Z cV (ay (fun h=>?_) (fun h=>?_));have a:y<64:=U
 have g:(aN (l.take y++replicate (64-y) 0)).length=64:=by rw[dp];simp;omega
 refine Z (eo U U) (cQ d _ (al (k:=0) rfl) rfl (by rw[g];omega) Yt ?_);intro H d;rw[Go.Ab.bp]at d;refine Z (f2 U U) (bg s.aZ (Z cV (ay (fun z=>?_) (fun z=>?_))));have p:k+y<bs.length:=U
 have f:=n y a U;rw[dif_pos p]at f;apply Z (f2 U U);obtain⟨I,o,c,j,b,rfl,B,C⟩:=FL s p;refine Z (ez U U) (bk d j (ak B) C (Z (eo U U) (cQ d _ (al (k:=0) rfl) rfl (by rw[dp,length_set,<- dp,g];omega) Yt ?_)));intro H d;rw[Go.Ab.bp]at d;refine Z (by rw[f2 U U];rfl) ⟨_,U,y+1,U,rfl,rfl,?_⟩;rw[<- Yu i a,f];exact d;have f:=n y a U;rw[dif_neg U]at f;refine Z (by rw[f2 U U];rfl) ⟨_,U,y+1,U,rfl,rfl,?_⟩;rw[<- auC i a f];exact d;have e:y=64:=U
 subst e;rw[take_of_length_le U,Nat.sub_self,replicate_zero,append_nil]at d;exact t H d
theorem auF(k:bx ab v bs)(o:bs.length<=1000000)(a:ac H ab)(p:∀E ap,ac E (ab++aw ap (fk (iq bs)))->dK 64 ap (iq bs).length (fk (iq bs))->K ap E):aG P 221 [v] H K:=by
 refine ajC.1 ?_;apply el a (rfl);intro l H a;have i:=Fl bs;refine ajA (fun m n E=>∃(y:Nat) (g:Value),y<=lR bs.length/\m=lR bs.length-y/\n=[v,.slice none 0 0,g,int ((64*y:Nat):Int)]/\dK 64 g y (fk ((iq bs).take y))/\ac E (ab++aw g (fk ((iq bs).take y)))) _ _ ?_ (lR bs.length) _ _ ⟨0,am l 0 0 129,U,rfl,rfl,.inr ⟨l,.inr rfl,rfl⟩,a⟩;rintro m n H ⟨y,g,r,rfl,rfl,d,a⟩;unfold Sh;refine ul ?_;refine bg k.aZ (Z cV (ay (fun h=>?_) (fun h=>?_)));have b:y<lR bs.length:=by unfold lR;omega
 apply Z wK;rw[tN];refine b0 a fun q H a=>dn a (_+0) (al rfl) (by rw[dp];rfl) (by rw[dp];rfl) (ge _) ?_
 intro H a;rw[Go.Ab.bp]at a;apply auE k.app o (by unfold lR at b;omega) a;intro H a;have f:(nu ((bs.drop (64*y)).take 64)).length=64:=BA (by simp;omega);apply iR rfl
 try simp only[c1,c2]
 apply bK a (by rw[dp];exact f) U
 replace a:=a.left
 refine el a (VS f _) fun bO H a=>qQ a d (by rw[dp];exact f) U (ge _) (by unfold lR at b;omega) (by unfold lR at b;omega) ?_
 intro j H a c;have e:fk ((iq bs).take y)++aN (nu ((bs.drop (64*y)).take 64))=fk ((iq bs).take (y+1)):=by rw[VR b];simp[fk]
 rw[e]at a c;refine Z (by rw[f2 (by unfold lR at b;omega) (by unfold lR at b;omega)];congr 2) ⟨_,U,y+1,j,U,rfl,rfl,c,a⟩;have e:y=lR bs.length:=by unfold lR at *;omega
 subst e;rw[take_of_length_le U]at a d;exact(p H g a (by rw[i];exact d))
end
section
variable{F H K M S X bZ bc aL n bq bX aO w dh y}{r6:bh}
theorem auG(c:r6.br)(a:y<r6.size bq):(r6.fg bq y).2=0:=by
 unfold bh.size at a;split at a;rename_i b;have e:=c.s _ (bh.A6 b);have d:r6.gK bq y=(((r6.ky bq).1:Int)+y,0):=by unfold bh.gK;rw[if_neg (not_not_intro b),if_neg U]
 unfold bh.fg;rw[d,if_neg aW];unfold ba.fg;rw[if_pos ⟨by simp only;omega,by simp only;omega⟩];omega
theorem tR(a:r6.br):r6.size bq<=r6.d.cells.length:=by unfold bh.size;split;rename_i b;have:=a.s _ (bh.A6 b);omega;omega
def lV(aL bH:Nat)(b4:Int)(bc:Value)(au:fi)(aO:Value)(b6:Nat)(bX:Value)(wr b8:Nat)(aX:Int):aj:=[ad aL 0,bB .u64 bH,int b4,bc]++(aR au aO++[int b6,bX,int wr,int b8,int aX])
abbrev ka(aL:Nat)(w:bG)(bc aO bX:Value):aj:=lV aL w.bH w.b4 bc w.au aO w.b6 bX w.wr w.b8 w.aX
def iY(dh aL bn:Nat)(w:bG)(bc aO bX:Value)(bZ:aj):LB:=[aa dh (ka aL w bc aO bX),aa aL (gJ w.s bn)]++(aw bc bZ++aw bX (fk w.cM))
structure nG (S:LB) (w:bG) (bc aO bX:Value) (bZ:aj):Prop where
 q:mm 41 (lg S) bc w.q bZ
 au:w.au.br
 aO:df S aO w.au.aU
 cM:dK 64 bX w.cM.length (fk w.cM)
 oc:∀x∈w.cM,x.length=64
 od:w.q.length<=1000
 s:w.s.br
 c4:w.s.qh
 am:0<=w.b4/\w.b4<2
 r:w.b8≠0->dy w.au/\w.b6<=w.au.aU.length
 z:w.b8=0->w.b6=0
 wr:w.wr<=100000
 qk:w.b8<=4
 pD:w.b8≠0->w.au.cY<=64*(w.size:Int)
 aF:w.cM.length<=100000
theorem nG.app(h:nG S w bc aO bX bZ):nG (S++X) w bc aO bX bZ:=⟨h.q.imp fun _ _=>lg.app,h.au,h.aO.app,h.cM,h.oc,h.od,h.s,h.c4,h.am,h.r,h.z,h.wr,h.qk,h.pD,h.aF⟩
theorem oe(a:w.au.bw.length=32):(ka aL w bc aO bX).length=46:=F9 a
theorem Yv(w:bG):w.size=w.m.size (w.s.part w.b4):=rfl
theorem auH{w:bG}(ah:w.s.br)(h:0<=w.b4/\w.b4<2):0<=w.s.part w.b4:=by unfold dU.part;rw[if_neg U];have:=ah.p;split;exact this.1;exact this.2
theorem Yw(h:nG S w bc aO bX bZ)(ok:w.m.br)(c:w.m.eV 1000000)(g:w.size<=100000)(d:gX M w.m)(a:ac H (((S++F)++iY dh aL M.bn w bc aO bX bZ)++cW M w.m))
  (e:∀E,ac E (((S++F)++iY dh aL M.bn w bc aO bX bZ)++cW M w.m)->K (int w.size) E):aG P 218 [ad dh 0] H K:=by
 refine ajx.1 ?_;refine ai (dk a 0 rfl rfl (ai (dk a 0 rfl rfl (LW h.am ok c d a (al (k:=1) rfl) fun H v ag a f=>bg f.aZ (Z ?_ (e H a.left))))));rw[bh.Fr ok,<- Yv];apply(qX (b:=64) U U).trans;rw[Nat.mul_div_cancel_left _ U]
theorem auI(a2:¬q6 w y):w.q7 (n+1) y=w.q7 n (y+1):=by show(if q6 w y then some y else w.q7 n (y+1))=_;rw[if_neg a2]
theorem auJ(h:nG S w bc aO bX bZ)(d:w.m.br)(b:w.m.eV 1000000)(z:w.size<=100000)(i:gX M w.m)(a:ac H (((S++F)++iY dh aL M.bn w bc aO bX bZ)++cW M w.m))
  (j:∀E cL,M.Eq cL->gX cL w.mj.m->ac E (((S++F)++iY dh aL cL.bn w.mj bc aO bX bZ)++cW cL w.mj.m)->K (.tuple [].toArray) E):aG P 169 [ad dh 0] H K:=by
 refine aiS.1 ?_;have a2:=h.au.bi;refine aiR (fun k v E=>∃y:Nat,y<=w.size/\k=w.size-y/\v=[ad dh 0,int y]/\w.q7 (w.size-y) y=w.q7 w.size 0/\ac E (((S++F)++iY dh aL M.bn w bc aO bX bZ)++cW M w.m)) _ _ ?_ w.size _ _ ⟨0,U,rfl,rfl,rfl,a⟩;rintro k v H ⟨y,B,rfl,rfl,l,a⟩;unfold R0;refine ul ?_
 try simp only[c1,c2]
 refine Yw h d b z i a fun H a=>Z cV (ay (fun n=>?_) (fun n=>?_))
 have o:y<w.size:=U
 refine ai (dk a 0 rfl rfl (ai (dk a 0 rfl rfl (aua h.am d b i a (al (k:=1) rfl) fun H a=>Z f5 (Z f6 ?_)))));have c:(w.m.fg (w.s.part w.b4) (y:Int)).1.length=64:=bh.pl d;have p:=auG d (by rw[<- Yv];exact o);have f:q6 w y↔(w.m.fg (w.s.part w.b4) (y:Int)).1≠iz:=by unfold q6 dU.fg;rw[if_neg (by have:=auH h.s h.am;omega)];exact⟨fun e=>e.2,fun e=>⟨p,e⟩⟩
 generalize (w.m.fg (w.s.part w.b4) (y:Int)).1=gd at*;rw[tN];refine b0 a fun q H a=>dn a (_+0) (al rfl) (by rw[dp];rfl) (by rw[dp];exact c) (ge _) ?_
 intro H a;rw[Go.Ab.bp]at a;refine gQ a (_+0) (al rfl) (by rw[dp];exact c) U (FY a fun C g=>⟨gw a (_+0) (al rfl) g (_+0) (al rfl) (sD gd),?_⟩);have a:=g.left;refine Z (EC _ c ao) (ay (fun r=>?_) (fun r=>?_));have t:w.mj=w.KP y:=by
  have e:w.q7 w.size 0=some y:=by rw[<- l,show w.size-y=(w.size-y-1)+1 by omega];show(if q6 w y then some y else _)=_;rw[if_pos (f.2 r)]
  unfold bG.mj;rw[e]
 refine ai (dk a 0 rfl rfl (ai (dk a 0 rfl rfl (at7 h.s h.c4 d b i a (al (k:=1) rfl) ?_))));intro H cL a x u;rw[t]at j;refine ai (hc a 0 rfl rfl (by rw[oe a2];omega) (mn a2 rfl 4) (fun H a=>j H cL x u ?_));rw[x.m];exact a;refine Z (by rw[f2 U U];rfl) ⟨_,U,y+1,U,rfl,rfl,?_,a⟩;rw[<- l,show w.size-y=(w.size-(y+1))+1 by omega,auI (fun e=>r (f.1 e))];have e:y=w.size:=U
 subst e;rw[Nat.sub_self]at l;have t:w.mj={w with b8:=2}:=by unfold bG.mj;rw[<- l];rfl
 rw[t]at j;exact(ai (hc a 0 rfl rfl (by rw[oe a2];omega) (mn a2 rfl 3) (fun H a=>j H M ⟨rfl,rfl⟩ i a)))
end
end J
