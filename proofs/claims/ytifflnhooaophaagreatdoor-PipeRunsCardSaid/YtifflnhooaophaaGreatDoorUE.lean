/- texts of the kp, du behind the jV -/
import Derived.Test.YtifflnhooaophaaGreatDoorUD
set_option linter.unusedVariables false
set_option linter.unusedSimpArgs false
set_option linter.unusedSectionVars false
set_option maxHeartbeats 8000000
set_option maxRecDepth 100000
open List Nat
namespace J
open Go Go.Ab
section
variable[c0:cH]
variable{H:an}{ab:LB}{K:VH}{v w x:Value}{ae bl:LI}{j p:Nat}{e:Int}
abbrev agg(l:aj):Value:=.agg l.toArray
theorem gQ{p n:Nat}{ag:aj}{w:Bool}{K:VH}(h:ac H ab)(i:Nat)(aB:ab[i]?=some (p,⟨ag,w⟩))(a:ag.length=n)(b:0<n)(c:K (agg ag) H):a7 (jo n (ad p 0) H) K:=by
 refine fe h i aB (?_) a b c
 grind
theorem dn{p n:Nat}{ag ci:aj}{K:VH}(h:ac H ab)(i:Nat)(aB:ab[i]?=some (aa p ag))(f:ag.length=n)(b:ci.length=n)(c:ci.all cS=true)
  (d:∀E,ac E (ab.set i (aa p ci))->K undef E):a7 (d9 n (ad p 0) (agg ci) H) K:=by
 refine kx h i aB b U c fun E a=>d E ?_
 have e:ag.take 0++(es (agg ci)++ag.drop (0+n))=ci:=by rw[drop_of_length_le U];show []++(ci++[])=ci;simp
 rw[e]at a;exact a
theorem f5{a b:Value}:la 0 (.tuple [a,b].toArray)=some a:=rfl
theorem f6{a b:Value}:la 1 (.tuple [a,b].toArray)=some b:=rfl
theorem ac.bR{L R:LB}(h:ac H ((ab++L)++R)):ac H (ab++R):=h.sub (List.Sublist.append (sublist_append_left ab L) (List.Sublist.refl R))
abbrev tM(ab:LB)(K:VH)(ae:LI):Prop:=∀(E:an) (ap:Value) (a:aj),ac E (ab++aw ap a)->dm ap ae a->K ap E
theorem tM.none(h:tM ab K [])(a:ac H ab):K aA H:=h H aA [] (by show ac H (ab++[]);rw[append_nil];exact a) dm.nil
theorem SN:P.underlying 22=some (.slice 5):=ao
theorem rO(H:an):(gY P 22 0).f [] H=some (am H.next 0 0 3,H.push []):=ao
theorem AZ(k:IntKind)(n:Int)(H:an):(gY P 22 1).f [(0,.int k n)] H=some (am H.next 0 1 3,H.push [.int k n]):=ao
theorem akQ(k eF:IntKind)(m n:Int)(H:an):(gY P 22 2).f [(0,.int k m),(1,.int eF n)] H=some (am H.next 0 2 3,H.push [.int k m,.int eF n]):=ao
theorem SO(a:Option Addr)(n c:Nat)(H:an):(gY P 369 1).f [(0,.slice a n c)] H=some (am H.next 0 1 3,H.push [.slice a n c]):=ao
theorem akR(a dP:Option Addr)(n b c bC:Nat)(H:an):(gY P 369 2).f [(0,.slice a n c),(1,.slice dP b bC)] H=some (am H.next 0 2 3,H.push [.slice a n c,.slice dP b bC]):=ao
theorem Ey(a:ac H ab)(d:bx ab v ae)(f:ae.length<=100000000)(e:tM ab K ae):aG P 124 [v] H K:=by
 refine ah1.1 ?_;have b:=d;rcases d with⟨rfl,rfl⟩|⟨p,o,c,rfl,_⟩
 exact Z (DZ SN) (dz rfl (e.none a));exact Z (DZ SN) (cT rfl (el a (rO _) (fun q H a=>oL (ae:=[]) a (.inr ⟨q,.inr ⟨rfl,rfl⟩,rfl,Nat.le_refl _,rfl⟩) b aT e)))
theorem akS{n:Nat}(b:n<=8)(a:K (int n) H):aG P 273 [int n] H K:=by
 refine akB.1 ?_
 repeat refine lL ?_
 rw[show max (0:Int) (min (n:Int) 8)=n by omega];exact a
theorem akT{a:List LI}{y:Nat}(h:y<a.length):(a.take (y+1)).flatten=(a.take y).flatten++a[y]:=by grind[take_succ_eq_append_getElem]
def iT(y n:Nat):LI:=(range y).map fun i=>((n/256^i%256:Nat):Int)
theorem pX(y n:Nat):(iT y n).length=y:=by simp[iT]
theorem akU(y n:Nat):iT (y+1) n=iT y n++[((n/256^y%256:Nat):Int)]:=by simp[iT,range_succ]
def hl(ae:LI)(e:Int)(n:Nat):LI:=if e=0/\n<=ae.length then ae.take n else []
def ki(ae:LI)(e:Int)(n:Nat):LI:=if e=0/\n<=ae.length then ae.drop n else []
def hw(ae:LI)(e:Int)(n:Nat):Int:=if e=0/\n<=ae.length then 0 else if e=0 then 51 else e
abbrev eC(v:Value)(e:Int):ef:=⟨[v,int e],true⟩
theorem yC{bA y:Nat×ef}(h:ab[j]?=some bA):(ab.set j y)[j]?=some y:=getElem?_set_self (List.getElem?_eq_some_iff.1 h).1
theorem yD{cA:ef}{s:Value}{d7:Nat}(h:bx ab v ae)(m:ab[j]?=some (p,eC s e))(ah:∃a n c,s=.slice a n c):bx (ab.set j (d7,cA)) v ae:=by
 rcases h with h|⟨ax,o,c,g,i,f|⟨l,b,f,d⟩⟩
 exact .inl h;exact .inr ⟨ax,o,c,g,i,.inl f⟩;by_cases k:l=j;subst k;rw[m]at f;cases f;obtain⟨a,n,bC,rfl⟩:=ah;refine .inr ⟨_,o,c,g,i,.inl ?_⟩
 match ae,o,d with
 | [],_,_=>rfl
 | y::r,0,d=>simp at d
 | y::r,1,d=>simp at d
 | y::r,o+2,d=>simp at d
 exact .inr ⟨ax,o,c,g,i,.inr ⟨l,b,aT,d⟩⟩
theorem akV(a:Option Addr)(n c:Nat):(eg P 419).f [(0,.slice a n c)]=some (agg [.slice a n c,int 0]):=ao
theorem SP(b:ac H ab)(d:bx ab v ae)(e:∀E p,ac E (ab++[(p,eC v 0)])->K (ad p 0) E):aG P 253 [v] H K:=by refine aka.1 ?_;obtain⟨a,n,c,rfl⟩:=bx.ha d;exact Z (akV _ _ _) (b0 b (fun p H b=>e _ _ b))
theorem SQ{x:Int}(a:ac H ab)(b:ab[j]?=some (p,eC v e))(c:∀E,ac E (ab.set j (p,eC aA (if e=0 then x else e)))->K (.tuple [].toArray) E):aG P 274 [ad p 0,int x] H K:=by refine akC.1 ?_;refine ai (bk a j b rfl (Z cN (ay (fun h=>?_) (fun h=>?_))));rw[if_pos h]at c;refine ai (cQ a j b rfl (show 1<2 by omega) (rfl) (fun H a=>ai (cQ a j (yC b) rfl (show 0<2 by omega) (rfl) ?_)));intro H a;rw[set_set]at a;exact c _ a;rw[if_neg h]at c;exact ai (cQ a j b rfl (show 0<2 by omega) (rfl) (fun H a=>c _ a))
abbrev lN(v:Value)(ae:LI)(ap:Value)(bl:LI):Prop:=∀ a:LB,bx a v ae->bx a ap bl
theorem lN.none{v:Value}{ae:LI}:lN v ae aA []:=fun _ _=>.nil
theorem qP(h:bx ab v ae){n:Nat}(e:n<=ae.length):∃ap,hX 1 v none (some (int n)) none=some ap/\lN v ae ap (ae.take n):=by
 rcases h with⟨rfl,rfl⟩|⟨p,o,c,rfl,f,_⟩
 have:n=0:=a1
 subst this;exact⟨aA,rfl,.none⟩;obtain⟨bC,a,g⟩:=ads (n:=ae.length) (h:=(n:Int)) U U f;refine⟨_,g,fun i h=>?_⟩;rcases h with⟨h,_⟩|⟨q,r,k,d,_,h⟩
 cases h;cases d;refine .inr ⟨p,o,bC,a1,a,?_⟩;rcases h with rfl|⟨j,b,l,m⟩
 simp_all
 refine .inr ⟨j,b,l,?_⟩;have:=congrArg (take n) m;rw[take_take,Nat.min_eq_left e]at this
 simp_all
theorem A0(h:bx ab v ae){n:Nat}(m:n<=ae.length):∃ap,hX 1 v (some (int n)) none none=some ap/\lN v ae ap (ae.drop n):=by
 rcases h with⟨rfl,rfl⟩|⟨p,o,c,rfl,f,_⟩
 have:n=0:=a1
 subst this;exact⟨aA,rfl,.none⟩;have q:mo ae.length (some (int (n:Int)))=some n:=by
  show(match hq 0 (n:Int)with|true=>(match ble (n:Int).toNat ae.length with|true=>some (n:Int).toNat|false=>none)|false=>none)=_
  simp_all[i0,ble_eq_true_of_le]
 have a:∃bC,(bC=2\/bC=3)/\hX 1 (am p o ae.length c) (some (int n)) none none=some (am p (o+n) (ae.length-n) bC):=by
  rcases f with rfl|rfl
  simp_all[hX,lC,nK,nL]
  simp_all[hX,lC,nK,nL]
 have⟨bC,d,a⟩:=a;refine⟨_,a,fun g h=>?_⟩;rcases h with⟨h,_⟩|⟨r,s,i,e,_,h⟩
 cases h;cases e;refine .inr ⟨p,o+n,bC,a1,d,?_⟩;rcases h with rfl|⟨j,b,k,l⟩
 simp_all
 refine .inr ⟨j,b,k,?_⟩;have:=congrArg (drop n) l;rw[drop_take,drop_drop]at this
 simp_all
theorem Ez{n:Nat}(a:ac H ab)(b:ab[j]?=some (p,eC v e))(d:bx ab v ae)(o:n<=1000000)
  (c:∀E f cF,ac E (ab.set j (p,eC cF (hw ae e n)))->lN v ae f (hl ae e n)->lN v ae cF (ki ae e n)->K f E):aG P 272 [ad p 0,int n] H K:=by
 refine akA.1 ?_
 repeat refine lL ?_
 refine cy (fun g E=>g=[ad p 0,int n,.bool (decide (¬(e=0/\n<=ae.length)))]/\ac E ab) ?_ ?_;refine ai (bk a j b rfl (Z dX (ay (fun h=>?_) (fun h=>?_))))
 repeat refine aQ ?_
 exact⟨a1,a⟩;refine ai (bk a j b rfl (bg d.aZ ?_))
 repeat refine aQ ?_
 refine⟨?_,a⟩
 simp_all
 rintro g H ⟨rfl,a⟩;refine ay (fun h=>?_) (fun h=>?_);unfold hl ki hw at c;rw[if_neg h,if_neg h,if_neg h]at c;exact SQ a b fun H a=>c _ aA aA a .none .none
 have h:=Decidable.not_not.1 h;unfold hl ki hw at c;rw[if_pos h,if_pos h,if_pos h]at c;have⟨f,k,l⟩:=qP d h.2;have⟨cF,m,i⟩:=A0 d h.2;refine ai (bk a j b rfl (Z k (ai (bk a j b rfl (Z m (ai ?_))))));obtain⟨q,r,s,rfl⟩:=bx.ha (i _ d);apply cQ a j b rfl (show 0<2 by omega) (rfl);intro H a;rw[h.1]at a;exact c _ f _ a l i
theorem SR{t:vS}{K a:VH}(h:tv P t K)(b:∀v H,K v H->a v H):tv P t a:=by have⟨n,cG,v,E,c,d⟩:=h;exact⟨n,cG,v,E,c,b _ _ d⟩
theorem akW[L:cH]{l q EA:Nat}{G:Nat->LB}(e:∀k,(G k)[EA]?=some (aa q [v]))(f:∀k,bx (G k) v ae)(s:ae.length<=1000000)
  (j:∀k (h:k<ae.length) H,ac H (G (k+1))->tv P (.round l [int k,.int .u8 ae[k]] H) fun b E=>b=.bool true/\ac E (G k)) (a:ac H (G ae.length)) (m:∀E,ac E (G 0)->K (.tuple [].toArray) E):aG P 281 [te l,ad q 0] H K:=by
 refine akO.1 ?_;refine bk a EA (e _) rfl (bg (f ae.length).aZ ?_)
 repeat refine aQ ?_
 refine akN (fun k g E=>∃y:Nat,y<=ae.length/\k=y/\g=[te l,ad q 0,int ((y:Int)-1)]/\ac E (G y)) _ _ ?_ ae.length _ _ ⟨ae.length,U,rfl,rfl,a⟩;rintro k g E ⟨y,t,rfl,rfl,a⟩
 repeat refine aQ ?_
 refine ay (fun h=>?_) (fun h=>?_);obtain⟨z,rfl⟩:∃z:Nat,k=z+1:=⟨k-1,U⟩;have i:z<ae.length:=U
 have n:((z+1:Nat):Int)-1=z:=U
 rw[n]at*;apply bk a EA (e _) rfl;obtain⟨ax,o,c,p,b,rfl,r,u⟩:=(f (z+1)).at i
 repeat refine aQ ?_
 refine bk a p r a1 (PR (SR (j z i _ a) ?_));rintro w x ⟨rfl,d⟩
 repeat (first|refine aQ ?_|refine rJ ?_)
 exact⟨_,U,z,U,rfl,rfl,d⟩;have:k=0:=U
 subst this
 repeat refine qJ ?_
 exact m _ a
def er:LI->Nat
 | []=>0
 | x::r=>x.toNat+256*er r
theorem A1:∀(ae:LI),(∀x∈ae,0<=x/\x<=255)->er ae<256^ae.length
 | [],_=>by simp[er]
 | x::r,h=>by
  have b:=A1 r fun y a=>h y (mem_cons_of_mem _ a)
  have c:=h x mem_cons_self;simp[er,Nat.pow_succ];omega
theorem akX{k:Nat}(h:k<ae.length):er (ae.drop k)=ae[k].toNat+256*er (ae.drop (k+1)):=by rw[drop_eq_getElem_cons h];rfl
theorem akY{a b:Nat}(c:b<256):(a*2^8)|||b=b+256*a:=by rw[Nat.mul_comm,<- two_pow_add_eq_or_of_lt c];omega
theorem bx.bytes(a:∀x∈ae,0<=x/\x<=255)(n:Nat)(e:Int):∀x∈hl ae e n,0<=x/\x<=255:=by grind[hl]
theorem yE(ae:LI)(e:Int)(n:Nat):(hl ae e n).length<=n:=by grind[hl]
theorem akZ[L:cH]{a m:Nat}{b:Int}{y:Nat×ef}{X:an->Prop}(c:ac H (ab++[aa a [bB .u64 m],y]))(q:m<256^7)(i:0<=b/\b<=255)(j:∀E,ac E (ab++[aa a [bB .u64 (b.toNat+256*m)],y])->X E):
  a7 (db (ad a 0) H) fun d k=>bD ((cz P .shl 27 true).f d (.int .u64 8)) fun e=>a7 (fd .u64 (.int .u8 b) k) fun g l=>bD ((cz P .or 27 false).f e g) fun h=>a7 (d9 1 (ad a 0) h l) fun u n=>X n:=by
 refine bk c (ab.length+0) (al rfl) rfl (Z (yb rfl bT) ?_);rw[ye i.1];apply bg (qI rfl);have o:m*2^8%fw .u64=m*2^8:=mod_eq_of_lt (show m*2^8<2^64 by omega);have p:b.toNat%fw .u64=b.toNat:=mod_eq_of_lt (show b.toNat<2^64 by omega);rw[o,p];apply Z (wC rfl (show m*2^8<2^64 by omega) (show b.toNat<2^64 by omega));rw[akY U];exact cQ c (ab.length+0) (al rfl) rfl (show 0<1 by omega) (rfl) fun H c=>j _ c.bp
theorem A2{k:Nat}(n:k<=8)(a:ac H ab)(o:ab[j]?=some (p,eC v e))(r:bx ab v ae)(N:∀x∈ae,0<=x/\x<=255)
  (s:∀E cF,ac E (ab.set j (p,eC cF (hw ae e k)))->lN v ae cF (ki ae e k)->K (bB .u64 (er (hl ae e k))) E):aG P 254 [ad p 0,int k] H K:=by
 apply akc;unfold Sz;apply b0 a;intro F H a;have t:=(List.getElem?_eq_some_iff.1 o).1;apply cQ a (ab.length+0) (al rfl) rfl (show 0<1 by omega) (rfl);intro H a
 replace a:=a.bp
 refine akS n (Ez a (ak o) r.app U ?_);intro H f cF a l S;rw[set_append_left _ _ t]at a;have g:=bx.bytes N k e;have V:=yE ae e k;have s:=s (cF:=cF);have l:=l _ (yD (cA:=eC cF (hw ae e k)) (d7:=p) r o (bx.ha r));generalize ab.set j (p,eC cF (hw ae e k))=b at*;generalize hl ae e k=bs at*;apply akz;apply b0 a;intro q I a;have⟨i2,f1,nP,W⟩:=bx.ha l;have u:es f=[f]:=by rw[W];rfl
 rw[u,append_assoc]at a;have X:∀m:Nat,bx (b++[aa F [bB .u64 m],aa q [f]]) f bs:=fun m=>l.app
 apply PQ a rfl;intro T gC w H0 h;generalize J:gP (succ I.next) _ c0=L at h;refine akW (EA:=b.length+1) (G:=fun m=>b++[aa F [bB .u64 (er (bs.drop m))],aa q [f]]) (fun m=>al rfl) (fun m=>X _) U ?_ (by rw[drop_of_length_le (Nat.le_refl _)];exact h) ?_;intro m M H i;subst J;refine PN i gC w rfl bT (PL i ?_);intro e1 d;have ey:=g _ (getElem_mem M);have z:=A1 (bs.drop (m+1)) fun y fS=>g y (mem_of_mem_drop fS)
 have B:256^(bs.drop (m+1)).length<=256^7:=Nat.pow_le_pow_right U aT;refine akZ (L:=gP (succ I.next) _ c0) d (Nat.lt_of_lt_of_le z B) ey fun oA c=>PM c fun yF C=>⟨rfl,?_⟩
 rw[akX M];exact C;intro e1 d;subst J;refine⟨.ready,_,aW,d,?_⟩;intro oA c;exact bk c (b.length+0) (al rfl) rfl (s _ c.left S)
abbrev yG(ab:LB)(j p:Nat)(ae:LI)(e:Int)(n:Nat)(cF:Value):LB:=ab.set j (p,eC cF (hw ae e n))
theorem ak0{n:Nat}(a:ac H ab)(f:ab[j]?=some (p,eC v e))(b:bx ab v ae)(g:n<=1000000)(l:ae.length<=1000000)
  (h:∀E cF ap bI,ac E (yG ab j p ae e n cF++aw ap bI)->lN v ae cF (ki ae e n)->dm ap (hl ae e n) bI->K ap E):aG P 275 [ad p 0,int n] H K:=by
 refine akD.1 ?_;apply Ez a f b g;intro H m cF a i k;have o:=yE ae e n;exact Ey a (i _ (yD b f (bx.ha b))) U fun E ap bI c d=>h E cF ap bI c k d
end
section
class yH (ab:LB) (p:Nat) (b:outParam ef):Prop where
 x:∃i:Nat,ab[i]?=some (p,b)
instance {p b l}:yH ((p,b)::l) p b:=⟨0,rfl⟩
instance {p b a l} [h:yH l p b]:yH (a::l) p b:=⟨h.x.elim fun i aB=>⟨i+1,aB⟩⟩
instance {p b l m} [h:yH l p b]:yH (l++m) p b:=⟨h.x.elim fun i aB=>⟨i,ak aB⟩⟩
instance {p b l m} [h:yH m p b]:yH (l++m) p b:=⟨h.x.elim fun i aB=>⟨l.length+i,al aB⟩⟩
variable{H E ab bL K o p n ag v b}
variable[c0:cH]
theorem aD[h:yH ab p b](a:ac H ab)(c:b.cells[o]?=some v)(d:K v H):a7 (db (ad p o) H) K:=h.x.elim fun i e=>bk a i e c d
theorem mg[h:yH ab p b](a:ac H ab)(c:(b.cells.drop o).take n=ag)(d:ag.length=n)(e:0<n)(f:K (.agg ag.toArray) H):a7 (jo n (ad p o) H) K:=h.x.elim fun i g=>fe a i g c d e f
end
section
theorem bK[c0:cH]{H ab n p ag w K}[h:yH ab p ⟨ag,w⟩](a:ac H ab)(b:ag.length=n)(c:0<n)(d:K (agg ag) H):a7 (jo n (ad p 0) H) K:=h.x.elim fun i e=>gQ a i e b c d
theorem jf[c0:cH]{H E ab bL p o b}[h:yH ab p b][c:yH bL p b](d:ac H ab)(a:ac E bL)(ah:b.cells.all dx=true)(e:b.wr=true\/b.cells≠[]:=by exact .inl rfl):iP (ik H E) (dM [ad p o]):=h.x.elim fun i f=>c.x.elim fun j g=>gw d i f a j g ah e
end
section
variable[c0:cH]
variable{A B H K a b bytes c ag i m n ci o q s size v y ab}{α:Type}{f:α->aj}{l:List α}
section
theorem A3(b:∀x∈l,(f x).length=n):(l.flatMap f).length=l.length*n:=by
 induction l with
 | nil=>simp
 | cons a l c=>grind
theorem I9(a:∀x∈l,(f x).length=n)(h:i<l.length):∃A B,l.flatMap f=A++(f l[i]++B)/\A.length=i*n/\∀y,(l.set i y).flatMap f=A++(f y++B):=by
 refine⟨(l.take i).flatMap f,(l.drop (i+1)).flatMap f,?_,?_,fun y=>?_⟩
 grind[take_append_drop,drop_eq_getElem_cons]
 grind[A3,length_take]
 simp_all[set_eq_take_append_cons_drop]
theorem u6(a:∀x∈l,(f x).length=n)(h:i<l.length)(c:o+m<=n):((l.flatMap f).drop (i*n+o)).take m=((f l[i]).drop o).take m:=by have⟨A,B,e,b,_⟩:=I9 a h;have d:=a _ (getElem_mem h);rw[e,<- drop_drop,<- b,drop_left,drop_append_of_le_length U,take_append_of_le_length aT]
theorem yI{y:α}(a:∀x∈l,(f x).length=n)(h:i<l.length)(b:o+ci.length<=n)(c:f y=(f l[i]).take o++(ci++(f l[i]).drop (o+ci.length))):
  (l.flatMap f).take (i*n+o)++(ci++(l.flatMap f).drop (i*n+o+ci.length))=(l.set i y).flatMap f:=by
 have⟨A,B,e,d,ah⟩:=I9 a h;have g:(A++(f l[i]++B)).take (A.length+o)=A++(f l[i]).take o:=by grind[take_length_add_append]
 grind[drop_length_add_append]
theorem Ja(a:∀x∈l,(f x).length=n)(h:i<l.length)(b:o<n):(l.flatMap f)[i*n+o]?=(f l[i])[o]?:=by
 have⟨A,B,e,c,_⟩:=I9 a h
 grind
end
theorem _root_.Go.Ab.ac.je(h:ac H ((ab++A)++B)):ac H ((ab++B)++A):=h.cf (by rw[append_assoc,append_assoc];exact List.Perm.append_left ab perm_append_comm)
theorem SS(g:ac H ((ab++aw v ag)++[(q,⟨ci,b⟩)]))(h:dK size v n ag)(ah:ci.length=size)(i:0<size)(j:ci.all cS=true)
  (k:(n+1)*bytes<=140737488355328) (a:n+1<=9223372036854775807)
  (l:∀d7 E,ac E (ab++[aa d7 (ag++ci)])->dK size (am d7 0 (n+1) (2*size)) (n+1) (ag++ci)->K (am d7 0 (n+1) (2*size)) E):a7 (dj size bytes v (am q 0 1 c) H) K:=by
 have d:=g.je;refine ww d h i rfl ?_ U k a j U ?_;have m:=g.at ((ab++aw v ag).length+0) (al rfl) (.inr aT)
 simp_all[tA,take_of_length_le]
 intro d7 E e f;refine l _ _ ?_ f;exact ac.sub e (List.Sublist.append (sublist_append_left _ _) (List.Sublist.refl _))
theorem qQ(e:ac H ((ab++aw v ag)++[(q,⟨ci,b⟩)]))(f:dK size v n ag)(ah:ci.length=size)(g:0<size)(a:ci.all cS=true)
  (h:(n+1)*bytes<=140737488355328) (d:n+1<=9223372036854775807)
  (i:∀ap E,ac E (ab++aw ap (ag++ci))->dK size ap (n+1) (ag++ci)->K ap E):a7 (dj size bytes v (am q 0 1 c) H) K:=
 SS e f ah g a h d fun k E a j=>i _ _ a j
abbrev jt(s:LI):Value:=agg (aN s)
def iz:LI:=replicate 64 255
def ju:LI:=replicate 64 0
theorem dp(s:LI):(aN s).length=s.length:=by simp[aN]
theorem ge(s:LI):(aN s).all cS=true:=by simp[cS]
theorem sD(ae:LI):(aN ae).all dx=true:=by simp[dx,nj]
theorem tN:fF P 102=aN ju:=ao
theorem wK:(eg P 102).f []=some (jt ju):=ao
def SU:List oJ:=replicate 64 (.i .u8)
theorem ak1:nk P 100 102=some SU:=ao
theorem Jb:∀(s:LI),h4 (replicate s.length (.i .u8)) (aN s)
 | []=>trivial
 | _::s=>⟨rfl,Jb s⟩
theorem SV(h:s.length=64):h4 SU (aN s):=by have:=Jb s;rw[h]at this;exact this
theorem EB:∀(a b:LI),ls (aN a) (aN b)=decide (a=b)
 | [],[]=>rfl
 | [],_::_=>rfl
 | _::_,[]=>rfl
 | x::a,y::b=>by
  show(decide (x=y)&&ls (aN a) (aN b))=_
  simp_all[EB]
theorem EC(c:Bool)(d:a.length=64)(e:b.length=64):(cz P .neq 102 c).f (jt a) (jt b)=some (.bool (decide (a≠b))):=by rw[H9 ak1 ao ao (SV d) (SV e),EB];simp
theorem SW(h:y<64):(aN (replicate y 255++replicate (64-y) 0)).set (0+((y:Int)).toNat*1) (.int .u8 255)=aN (replicate (y+1) 255++replicate (64-(y+1)) 0):=by
 have e:0+((y:Int)).toNat*1=y:=U
 rw[e,show 64-y=(64-(y+1))+1 by omega,replicate_succ]
 simp_all[replicate_succ']
theorem yJ(a:ac H ab)(f:∀E,ac E ab->K (jt iz) E):aG P 116 [] H K:=by
 refine ahU.1 ?_;refine b0 a fun c H a=>b0 a ?_
 intro b5 H a;rw[append_assoc]at a;refine ahT (fun k d E=>∃y:Nat,y<=64/\k=64-y/\d=[ad c 0,ad b5 0,int y]/\ac E (ab++[aa c (aN ju),aa b5 (aN (replicate y 255++replicate (64-y) 0))])) _ _ ?_ 64 _ _ ⟨0,U,rfl,rfl,by exact a⟩;rintro k d E ⟨y,g,rfl,rfl,a⟩;unfold RG;refine ul ?_
 repeat refine aQ ?_
 refine ay (fun h=>?_) (fun h=>?_);have b:y<64:=U
 refine Z (eo U U) (cQ a (ab.length+1) (al rfl) rfl a1 (SW b) ?_);intro H a
 repeat refine aQ ?_
 exact⟨_,U,y+1,U,rfl,rfl,a.bp⟩;have e:y=64:=U
 subst e
 repeat refine qJ ?_
 exact bK a ao U (dn a (ab.length+0) (al rfl) ao ao (ge _) (fun H a=>gQ a (ab.length+0) (by rw[Go.Ab.bp];exact al rfl) ao U (f _ (a.bp).left)))
end
section
variable[c0:cH]
variable{H K a c l ch aS ck ab}{j:Nat}
structure Cell where
 iA:LI
 cb:LI
 eD:Int
structure ba where
 cells:List Cell
 done:List (Nat×LI)
 hx:Int
 ei:Int
 ff:Bool
variable{d:ba}
def kO(c:Cell):aj:=aN c.iA++(aN c.cb++[int c.eD])
def ie(l:List Cell):aj:=l.flatMap kO
def lO(c:Nat×LI):aj:=int c.1::aN c.2
def ip(l:List (Nat×LI)):aj:=l.flatMap lO
structure Cell.br (c:Cell):Prop where
 k:c.iA.length=64
 s:c.cb.length=64
 w:0<=c.eD/\c.eD<=100000
structure ba.br (d:ba):Prop where
 c:∀c∈d.cells,c.br
 n:d.cells.length<=4096
 ds:∀x∈d.done,x.1<d.cells.length/\x.2.length=64
 m:d.hx<=100000
 b:-1<=d.ei/\d.ei<=9223372036854775807
theorem sE(h:c.br):(kO c).length=129:=by simp[kO,h.k,h.s]
theorem u7(h:c.2.length=64):(lO c).length=65:=by simp_all[lO]
theorem ak2(c:Cell):(kO c).all dx=true:=by simp[kO,dx,nj]
theorem ak3(c:Cell):(kO c).all cS=true:=by simp[kO,cS]
theorem Jc(c:Nat×LI):(lO c).all cS=true:=by simp[lO,cS]
theorem ak4(l:List Cell):(ie l).all dx=true:=by simp_all[ie,ak2]
theorem SX(h:∀c∈l,c.br):(ie l).length=l.length*129:=A3 fun c a=>sE (h c a)
def hy(ch:Nat)(ck:Value)(d:ba):aj:=[am ch 0 d.cells.length 259,ck,int d.hx,int d.ei,.bool d.ff]
abbrev gr(aS ch:Nat)(ck:Value)(d:ba):LB:=[aa aS (hy ch ck d),aa ch (ie d.cells)]++aw ck (ip d.done)
abbrev qR(ck:Value)(d:ba):Prop:=dK 65 ck d.done.length (ip d.done)
def ba.ek(d:ba)(e8:Int):Prop:=0<=e8/\e8<d.cells.length
instance (d:ba) (e8:Int):Decidable (d.ek e8):=by unfold ba.ek;infer_instance
theorem ak5(a:ac H ab)(b:ab[j]?=some (aa aS (hy ch ck d)))(c:K (int d.cells.length) H):aG P 115 [ad aS 0] H K:=by
 refine ahS.1 ?_
 repeat refine aQ ?_
 apply bk a j b rfl
 repeat refine lL ?_
 exact c
theorem Jd(e:ac H ab)(f:ab[j]?=some (aa aS (hy ch ck d)))(c:d.ek a->K (ad ch (a.toNat*129)) H)(b:¬d.ek a->K (.pointer none) H):aG P 174 [ad aS 0,int a] H K:=by
 refine aiX.1 ?_;refine cy (fun g E=>g=[ad aS 0,int a]/\E=H/\d.ek a) ?_ ?_
 repeat refine aQ ?_
 refine ay (fun h=>?_) (fun h=>?_)
 repeat (first|refine aQ ?_|refine hK ?_)
 exact b fun aH=>by have:=aH.1;omega
 repeat refine aQ ?_
 apply bk e j f rfl
 repeat (first|refine aQ ?_|refine lL ?_)
 refine ay (fun i=>b fun aH=>by have:=aH.2;omega) (fun i=>?_);exact⟨rfl,rfl,U,U⟩;rintro g E ⟨rfl,rfl,h⟩
 repeat refine aQ ?_
 refine bk e j f rfl (Z (ez h.1 h.2) ?_);rw[Nat.zero_add];exact c h
def fY:Cell:=⟨ju,ju,0⟩
def ba.cell(d:ba)(a:Int):Cell:=d.cells.getD a.toNat fY
theorem ba.get(h:d.ek a):∃aB:a.toNat<d.cells.length,d.cells[a.toNat]=d.cell a:=by
 have aB:a.toNat<d.cells.length:=by have:=h.1;have:=h.2;omega
 simp_all[ba.cell]
theorem ba.mf(f:∀c∈d.cells,c.br)(h:d.ek a):(d.cell a).br:=by have⟨aB,e⟩:=ba.get h;rw[<- e];exact f _ (getElem_mem aB)
theorem SY(f:∀c∈d.cells,c.br)(h:d.ek a):((ie d.cells).drop (a.toNat*129+64)).take 64=aN (d.cell a).cb:=by have⟨aB,e⟩:=ba.get h;unfold ie;rw[u6 (fun c i=>sE (f c i)) aB U,e];have g:=(ba.mf f h);unfold kO;rw[drop_left' (by rw[dp];exact g.k),take_left' (by rw[dp];exact g.s)]
theorem SZ(f:∀c∈d.cells,c.br)(h:d.ek a):(ie d.cells)[a.toNat*129+128]?=some (int (d.cell a).eD):=by have⟨aB,e⟩:=ba.get h;unfold ie;rw[Ja (fun c i=>sE (f c i)) aB U,e];have g:=(ba.mf f h);unfold kO;simp[g.k,g.s]
def ba.fg(d:ba)(a:Int):LI×Int:=if d.ek a then((d.cell a).cb,0)else(ju,61)
theorem ak6(f:∀c∈d.cells,c.br)(b:ac H (ab++gr aS ch ck d))(e:∀E,ac E (ab++gr aS ch ck d)->K (.tuple [jt (d.fg a).1,int (d.fg a).2].toArray) E):aG P 150 [ad aS 0,int a] H K:=by
 refine aix.1 ?_;refine b0 b fun i H b=>Jd b (ak (al (k:=0) rfl)) ?_ ?_
 intro h;unfold ba.fg at e;rw[if_pos h]at e;apply Z (rfl)
 repeat (first|refine aQ ?_|refine rJ ?_)
 refine mg b (SY f h) (by rw[dp];exact(ba.mf f h).s) U (dn b ((ab++gr aS ch ck d).length+0) (al rfl) ao (by rw[dp];exact(ba.mf f h).s) (ge _) ?_);intro H b
 replace b:=b.bp
 exact gQ b ((ab++gr aS ch ck d).length+0) (al rfl) (by rw[dp];exact(ba.mf f h).s) U (e _ b.left);intro h;unfold ba.fg at e;rw[if_neg h]at e;apply Z (rfl)
 repeat refine hK ?_
 refine Z wK (dn b ((ab++gr aS ch ck d).length+0) (al rfl) ao ao (ge _) ?_);intro H b
 replace b:=b.bp
 exact gQ b ((ab++gr aS ch ck d).length+0) (al rfl) ao U (e _ b.left)
def ba.step(d:ba):ba:={d with ff:=d.ff||decide (d.ei=0),ei:=if¬(d.ff=true\/d.ei=0)/\0<d.ei then d.ei-1 else d.ei}
theorem ak7(k:-1<=d.ei/\d.ei<=9223372036854775807)(a:ac H ab)(f:ab[j]?=some (aa aS (hy ch ck d)))(i:∀E,ac E (ab.set j (aa aS (hy ch ck d.step)))->K (.bool !d.step.ff) E):aG P 175 [ad aS 0] H K:=by
 refine aiY.1 ?_;have g:=(List.getElem?_eq_some_iff.1 f).1;refine cy (fun c E=>c=[ad aS 0]/\ac E (ab.set j (aa aS (hy ch ck {d with ff:=d.ff||decide (d.ei=0)})))) ?_ ?_
 repeat refine aQ ?_
 refine bk a j f rfl ?_;cases a2:d.ff with
 | true=>
  repeat (first|refine aQ ?_|refine hK ?_)
  refine cQ a j f rfl (show 4<5 by omega) rfl ?_;intro H a;refine⟨rfl,?_⟩;simp only[Bool.true_or];exact a
 | false=>
  repeat (first|refine aQ ?_|refine rJ ?_)
  refine bk a j f rfl ?_
  repeat refine aQ ?_
  refine cQ a j f rfl (show 4<5 by omega) rfl ?_;intro H a;refine⟨rfl,?_⟩;simp only[Bool.false_or];exact a
 rintro c H ⟨rfl,a⟩
 try simp only[c1,c2]
 have b:(ab.set j (aa aS (hy ch ck {d with ff:=d.ff||decide (d.ei=0)})))[j]?=some (aa aS (hy ch ck {d with ff:=d.ff||decide (d.ei=0)})):=getElem?_set_self g;refine cy (fun c E=>c=[ad aS 0]/\ac E (ab.set j (aa aS (hy ch ck d.step)))) ?_ ?_;refine cy (fun c E=>c=[ad aS 0,.bool (decide (¬(d.ff=true\/d.ei=0)/\0<d.ei))]/\E=H) ?_ ?_
 repeat refine aQ ?_
 refine bk a j b rfl (Z fX ?_);by_cases a2:d.ff=true\/d.ei=0;have e:(d.ff||decide (d.ei=0))=true:=a1
 rw[show(!({d with ff:=d.ff||decide (d.ei=0)}:ba).ff)=false by grind]
 repeat (first|refine aQ ?_|refine rJ ?_)
 exact⟨a1,rfl⟩;have e:(d.ff||decide (d.ei=0))=false:=a1
 rw[show(!({d with ff:=d.ff||decide (d.ei=0)}:ba).ff)=true by simp_all]
 repeat (first|refine aQ ?_|refine hK ?_)
 refine bk a j b rfl ?_
 repeat refine aQ ?_
 refine⟨?_,rfl⟩
 simp_all
 rintro c E ⟨rfl,rfl⟩
 try simp only[c1,c2]
 refine ay (fun h=>?_) (fun h=>?_)
 repeat refine aQ ?_
 refine bk a j b rfl (Z (iS aT aT) ?_)
 repeat refine aQ ?_
 refine cQ a j b rfl (show 3<5 by omega) rfl ?_;intro H a;rw[set_set]at a;refine⟨trivial,?_⟩;have e:d.step={d with ff:=d.ff||decide (d.ei=0),ei:=d.ei-1}:=by simp_all[ba.step]
 rw[e];exact a
 simp_all[ba.step,if_neg]
 rintro c H ⟨rfl,a⟩
 try simp only[c1,c2]
 repeat refine aQ ?_
 refine bk a j (getElem?_set_self g) rfl ?_
 repeat refine aQ ?_
 exact i _ a
end
section
variable[c0:cH]
variable{H K a c ch aS s bJ ck ab}{d:ba}
theorem yK(h:s.length=64):∃g:Nat->Int,s=(range 64).map g:=⟨fun i=>s.getD i 0,by
 apply ext_getElem?
 grind⟩
theorem ak8(a:Int)(g:Nat->Int):(eg P 300).f [(0,int a),(1,jt ((range 64).map g))]=some (agg (int a::aN ((range 64).map g))):=ao
theorem ak9(a:Int)(h:s.length=64):(eg P 300).f [(0,int a),(1,jt s)]=some (agg (int a::aN s)):=by grind[yK,ak8]
theorem ala(a:Int)(g:Nat->Int)(H:an):(gY P 170 1).f [(0,agg (int a::aN ((range 64).map g)))] H=some (am H.next 0 1 131,H.push (int a::aN ((range 64).map g))):=ao
theorem alb(a:Int)(h:s.length=64)(H:an):(gY P 170 1).f [(0,agg (int a::aN s))] H=some (am H.next 0 1 131,H.push (int a::aN s)):=by grind[yK,ala]
theorem alc(g a:Nat->Int):(eg P 234).f [(0,jt ((range 64).map g)),(1,jt ((range 64).map a))]=some (agg (kO ⟨(range 64).map g,(range 64).map a,0⟩)):=by kernel_rfl
theorem ald(h:s.length=64)(aH:bJ.length=64):(eg P 234).f [(0,jt s),(1,jt bJ)]=some (agg (kO ⟨s,bJ,0⟩)):=by grind[yK,alc]
theorem ale:fF P 300=int 0::aN ju:=ao
def ba.fo(d:ba)(a:Int)(c:Cell):ba:={d with cells:=d.cells.set a.toNat c}
def ba.put(d:ba)(a:Int)(s:LI):ba:={d with cells:=d.cells.set a.toNat {d.cell a with cb:=s},done:=d.done++[(a.toNat,s)]}
theorem alf(a:c.br)(h:s.length=64):kO {c with cb:=s}=(kO c).take 64++(aN s++(kO c).drop (64+(aN s).length)):=by unfold kO;rw[take_left' (by rw[dp];exact a.k),<- drop_drop,drop_left' (by rw[dp];exact a.k),drop_left' (by rw[dp,dp,a.s,h])]
theorem alg(a:c.br)(h:s.length=64):kO {c with iA:=s}=(kO c).take 0++(aN s++(kO c).drop (0+(aN s).length)):=by unfold kO;rw[take_zero,nil_append,Nat.zero_add,drop_left' (by rw[dp,dp,a.k,h])]
theorem alh(a:c.br)(n:Int):kO {c with eD:=n}=(kO c).take 128++([int n]++(kO c).drop (128+[int n].length)):=by
 have l:(aN c.iA++aN c.cb).length=128:=by simp[a.k,a.s]
 grind[kO]
theorem ali(f:∀c∈d.cells,c.br)(h:d.ek a)(ah:s.length=64):(ie d.cells).take (a.toNat*129+64)++(aN s++(ie d.cells).drop (a.toNat*129+64+(aN s).length))=ie (d.cells.set a.toNat {d.cell a with cb:=s}):=by have⟨aB,e⟩:=ba.get h;have g:=ba.mf f h;exact yI (fun c i=>sE (f c i)) aB a1 (by simp_all[alf])
theorem alj(f:∀c∈d.cells,c.br)(h:d.ek a)(ah:s.length=64):(ie d.cells).take (a.toNat*129+0)++(aN s++(ie d.cells).drop (a.toNat*129+0+(aN s).length))=ie (d.cells.set a.toNat {d.cell a with iA:=s}):=by have⟨aB,e⟩:=ba.get h;have g:=ba.mf f h;exact yI (fun c i=>sE (f c i)) aB a1 (by simp_all[alg])
theorem alk(f:∀c∈d.cells,c.br)(h:d.ek a)(n:Int):(ie d.cells).take (a.toNat*129+128)++([int n]++(ie d.cells).drop (a.toNat*129+128+1))=ie (d.cells.set a.toNat {d.cell a with eD:=n}):=by have⟨aB,e⟩:=ba.get h;have g:=ba.mf f h;exact yI (fun c i=>sE (f c i)) aB aW (by simp_all[alh])
theorem Je(ok:∀c∈d.cells,c.br)(h:d.ek a):a.toNat*129+129<=(ie d.cells).length:=by rw[SX ok];have:=h.1;have:=h.2;omega
theorem S0(n:d.br)(h:d.ek a)(ah:s.length=64)(B:d.done.length<=1000000)(b:ac H (ab++gr aS ch ck d))(v:qR ck d)
  (w:∀E mh,ac E (ab++gr aS ch mh (d.put a s))->qR mh (d.put a s)->K (.tuple [].toArray) E):aG P 176 [ad aS 0,int a,jt s] H K:=by
 refine aiZ.1 ?_;refine b0 b ?_;intro f H b
 replace b:ac H ((ab++[aa f (aN s)])++gr aS ch ck d):=ac.je b
 have j:(ab++[aa f (aN s)])[ab.length+0]?=some (aa f (aN s)):=al rfl;have g:∀ {H:an} {o:LB},ac H ((ab++[aa f (aN s)])++o)->ac H (ab++o):=fun h=>ac.bR h
 generalize ab++[aa f (aN s)]=mS at b j g
 repeat refine aQ ?_
 refine aD b rfl (gQ b _ (ak j) a1 U (Z (ez h.1 h.2) ?_))
 repeat refine aQ ?_
 rw[Nat.zero_add];refine kx b (mS.length+1) (al rfl) (show(aN s).length=64 by simp_all) (by have:=Je n.c h;omega) (ge s) ?_;intro H b;have k:(ie d.cells).take (a.toNat*129+64)++(aN s++(ie d.cells).drop (a.toNat*129+64+64))=ie (d.fo a {d.cell a with cb:=s}).cells:=by have:=ali n.c h ah;rw[dp,ah]at this;exact this
 have pg:(d.fo a {d.cell a with cb:=s}).cells.length=d.cells.length:=length_set
 replace b:ac H (mS++gr aS ch ck (d.fo a {d.cell a with cb:=s})):=by
  have i:ac H (mS++([aa aS (hy ch ck d),aa ch ((ie d.cells).take (a.toNat*129+64)++(aN s++(ie d.cells).drop (a.toNat*129+64+64)))]++aw ck (ip d.done))):=b.bp;have x:hy ch ck d=hy ch ck (d.fo a {d.cell a with cb:=s}):=by unfold hy;rw[pg];rfl
  rw[k,x]at i;exact i
 repeat refine aQ ?_
 refine aD b rfl (gQ b _ (ak j) a1 U (Z (ak9 a ah) ?_));have l:ac H ((mS++[aa aS (hy ch ck (d.fo a {d.cell a with cb:=s})),aa ch (ie (d.fo a {d.cell a with cb:=s}).cells)])++aw ck (ip d.done)):=by rw[append_assoc];exact b
 refine el l (alb a ah _) ?_;intro q H b;have y:a=((a.toNat:Nat):Int):=by have:=h.1;omega
 refine qQ b v aT U (by simp[aN,cS]) U U ?_;intro mh H b e;rw[append_assoc]at b
 repeat refine aQ ?_
 obtain⟨r,t,u,k⟩:∃r t u,mh=.slice r t u:=by rcases e with⟨_,h,_⟩|⟨p,rfl|rfl,_⟩;omega;exact⟨_,_,_,rfl⟩;grind
 refine cQ b (mS.length+0) (al rfl) (by rw[k];rfl) (show 1<5 by omega) rfl ?_;intro H b;have z:ip d.done++(int a::aN s)=ip (d.put a s).done:=by show _=(d.done++[(a.toNat,s)]).flatMap lO;rw[flatMap_append];show _=d.done.flatMap lO++(int ((a.toNat:Nat):Int)::aN s++[]);rw[<- y,append_nil];rfl
 have i:=g b.bp;rw[z]at i e;refine w _ mh i ?_;show dK 65 mh (d.done++[(a.toNat,s)]).length _;rw[length_append];exact e
end
section
variable[c0:cH]
variable{H K a c i n ch aS s ck ab}{d:ba}
theorem ba.pO(a:d.br):d.step.br:=⟨a.c,a.n,a.ds,a.m,by
 have:=a.b;unfold ba.step
 grind⟩
theorem Jf{l:List Cell}(h:∀c∈l,c.br)(a:c.br):∀x∈l.set i c,x.br:=by
 intro x b;rcases mem_or_eq_of_mem_set b with aH|aH
 exact h x aH;rw[aH];exact a
theorem ba.Ag(e:d.br)(f:c.br):(d.fo a c).br:=⟨Jf e.c f,by show(d.cells.set _ _).length<=_;rw[length_set];exact e.n,by intro x g;show x.1<(d.cells.set _ _).length/\_;rw[length_set];exact e.ds x g,e.m,e.b⟩
theorem ba.sl(e:d.br)(h:d.ek a)(ah:s.length=64):(d.put a s).br:=by
 have g:=ba.mf e.c h;refine⟨Jf e.c ⟨g.k,ah,g.w⟩,by show(d.cells.set _ _).length<=_;rw[length_set];exact e.n,?_,e.m,e.b⟩;intro x f;show x.1<(d.cells.set _ _).length/\_;rw[length_set];rcases mem_append.1 f with f|f
 exact e.ds x f;have:x=(a.toNat,s):=a1
 subst this;exact⟨by have:=h.1;have:=h.2;omega,ah⟩
def ba.fH(d:ba)(a:Int):ba×Int:=
 if¬d.ek a then(d,61)else if d.ff=true then(d,62)else if d.hx<=(d.cell a).eD then(d,64)else if d.step.ff=true then(d.step,62)
 else((d.step.fo a {d.cell a with eD:=(d.cell a).eD+1}).put a iz,0)
def ba.fh(d:ba)(a:Int)(s:LI):ba×Int:=
 if¬d.ek a then(d,61)else if d.ff=true then(d,62)else if(d.cell a).cb≠iz then(d,63)else if d.step.ff=true then(d.step,62)
 else(d.step.put a s,0)
theorem Jg:iz.length=64:=rfl
theorem ba.Jh:(d.fo a c).ek a↔d.ek a:=by grind[ba.ek,ba.fo]
theorem ba.Ji(b:d.br):(d.fH a).1.br:=by
 unfold ba.fH;by_cases h:d.ek a;rw[if_neg (fun aH=>aH h)];split;exact b;split;exact b;split;exact ba.pO b;have e:=ba.mf b.c h;have f:=e.w;have g:=b.m;refine ba.sl (ba.Ag (ba.pO b) ⟨e.k,e.s,?_⟩) (ba.Jh.2 h) rfl
 grind
 rw[if_pos h];exact b
theorem ba.Jj(b:d.br)(ah:s.length=64):(d.fh a s).1.br:=by unfold ba.fh;by_cases h:d.ek a;rw[if_neg (fun aH=>aH h)];split;exact b;split;exact b;split;exact ba.pO b;exact ba.sl (ba.pO b) h ah;rw[if_pos h];exact b
theorem Jk(a:d.br)(c:ac H (ab++gr aS ch ck d))(e:∀E,ac E (ab++gr aS ch ck d.step)->K (.bool !d.step.ff) E):aG P 175 [ad aS 0] H K:=ak7 a.b c (j:=ab.length+0) (al rfl) fun E h=>e E h.bp
theorem alm(g:d.br)(t:d.done.length<=1000000)(b:ac H (ab++gr aS ch ck d))(i:qR ck d)
  (e:∀E mh,ac E (ab++gr aS ch mh (d.fH a).1)->qR mh (d.fH a).1->K (int (d.fH a).2) E):aG P 262 [ad aS 0,int a] H K:=by
 refine akn.1 ?_;unfold ba.fH at e;refine Jd b (al (k:=0) rfl) ?_ ?_
 ·intro h;rw[if_neg (fun aH=>aH h)]at e;refine Z (rfl) ?_
  repeat (first|refine aQ ?_|refine rJ ?_)
  refine aD b rfl (lr (fun o=>?_) (fun o=>?_))
  ·rw[if_pos o]at e;exact e _ _ b i
  rw[if_neg aT]at e
  repeat refine aQ ?_
  refine aD b (SZ g.c h) ?_
  repeat refine aQ ?_
  refine aD b rfl (Z kM (ay (fun j=>?_) (fun j=>?_)))
  ·rw[if_pos j]at e;exact e _ _ b i
  rw[if_neg j]at e;refine Jk g b ?_;intro H b;refine Z fX ?_;rw[Bool.not_not];refine lr (fun p=>?_) (fun p=>?_)
  ·rw[if_pos p]at e;exact e _ _ b i
  rw[if_neg aT]at e;have f:=ba.pO g;have x:=(ba.mf g.c h).w
  repeat refine aQ ?_
  refine aD b (SZ f.c h) (Z (f2 (by show _<=(d.cell a).eD+1;omega) (by show(d.cell a).eD+1<=_;omega)) ?_)
  repeat refine aQ ?_
  refine kx b (ab.length+1) (al rfl) (rfl) (by have:=Je f.c h;omega) rfl ?_;intro H b;have u:=alk f.c h ((d.cell a).eD+1)
  replace b:ac H (ab++gr aS ch ck (d.step.fo a {d.cell a with eD:=(d.cell a).eD+1})):=by
   have q:ac H (ab++([aa aS (hy ch ck d.step),aa ch ((ie d.step.cells).take (a.toNat*129+128)++([int ((d.cell a).eD+1)]++(ie d.step.cells).drop (a.toNat*129+128+1)))]++aw ck (ip d.done))):=b.bp;have v:hy ch ck d.step=hy ch ck (d.step.fo a {d.cell a with eD:=(d.cell a).eD+1}):=by unfold hy;rw[show(d.step.fo a {d.cell a with eD:=(d.cell a).eD+1}).cells.length=d.step.cells.length from length_set];rfl
   rw[u,v]at q;exact q
  have l:(d.step.fo a {d.cell a with eD:=(d.cell a).eD+1}).br:=by
   have r:=ba.mf g.c h;have y:=g.m;refine ba.Ag f ⟨r.k,r.s,?_⟩
   grind
  refine yJ b ?_;intro H b;refine S0 l (ba.Jh.2 h) rfl t b i ?_;intro H mh b n;exact e _ _ b n
 ·intro h;rw[if_pos h]at e;refine Z (rfl) ?_
  repeat refine hK ?_
  exact e _ _ b i
theorem aln(i:d.br)(ah:s.length=64)(r:d.done.length<=1000000)(b:ac H (ab++gr aS ch ck d))(j:qR ck d)
  (e:∀E mh,ac E (ab++gr aS ch mh (d.fh a s).1)->qR mh (d.fh a s).1->K (int (d.fh a s).2) E):aG P 119 [ad aS 0,int a,jt s] H K:=by
 refine ahX.1 ?_;unfold ba.fh at e;apply b0 b;intro l H b
 replace b:ac H ((ab++[aa l (aN s)])++gr aS ch ck d):=ac.je b
 have t:(ab++[aa l (aN s)])[ab.length+0]?=some (aa l (aN s)):=al rfl;have f:∀ {H:an} {o:LB},ac H ((ab++[aa l (aN s)])++o)->ac H (ab++o):=fun h=>ac.bR h
 refine Jd b (al (k:=0) rfl) ?_ ?_
 ·intro h;rw[if_neg (fun aH=>aH h)]at e;apply Z (rfl)
  repeat (first|refine aQ ?_|refine rJ ?_)
  refine aD b rfl (lr (fun p=>?_) (fun p=>?_))
  ·rw[if_pos p]at e;exact e _ _ (f b) j
  rw[if_neg aT]at e
  repeat refine aQ ?_
  refine mg b (SY i.c h) (by rw[dp];exact(ba.mf i.c h).s) U (yJ b (fun u g=>⟨jf b g (ak4 _),?_⟩));refine Z (EC _ (ba.mf i.c h).s rfl) (ay (fun m=>?_) (fun m=>?_))
  ·rw[if_pos m]at e;exact e _ _ (f g) j
  rw[if_neg m]at e;refine Jk i g fun H b=>Z fX ?_
  rw[Bool.not_not];refine lr (fun q=>?_) (fun q=>?_)
  ·rw[if_pos q]at e;exact e _ _ (f b) j
  rw[if_neg aT]at e;exact gQ b _ (ak t) a1 U (S0 (ba.pO i) h ah r b j (fun H mh b n=>e _ _ (f b) n))
 ·intro h;rw[if_pos h]at e;apply Z (rfl)
  repeat refine hK ?_
  exact e _ _ (f b) j
def ba.sF(d:ba)(n:Int):ba:={d with ei:=max n (-1)}
theorem alo(a:ac H (ab++gr aS ch ck d))(b:∀E,ac E (ab++gr aS ch ck (d.sF n))->K (.tuple [].toArray) E):aG P 33 [ad aS 0,int n] H K:=by
 refine agb.1 ?_
 repeat (first|refine aQ ?_|refine lL ?_)
 exact cQ a (ab.length+0) (al rfl) rfl (show 3<5 by omega) rfl fun H a=>b _ a.bp
end
section
variable[c0:cH]
variable{H K ag l ch aS ck x y ab}{d:ba}
def sG(ag:List Cell)(x:Nat×LI):List Cell:=ag.set x.1 {ag.getD x.1 fY with iA:=x.2}
def gt(ag:List Cell)(l:List (Nat×LI)):List Cell:=l.foldl sG ag
theorem alp(h:∀c∈ag,c.br)(b:x.2.length=64)(a:x.1<ag.length):∀c∈sG ag x,c.br:=by
 apply Jf h;have:(ag.getD x.1 fY).br:=by rw[getD_eq_getElem?_getD,getElem?_eq_getElem a];exact h _ (getElem_mem a)
 exact⟨b,this.s,this.w⟩
theorem u9:∀(l:List (Nat×LI)) (ag:List Cell),(gt ag l).length=ag.length
 | [],_=>rfl
 | x::l,ag=>by show(gt (sG ag x) l).length=_;rw[u9 l];exact length_set
theorem ED:∀(l:List (Nat×LI)) (ag:List Cell),(∀c∈ag,c.br)->(∀x∈l,x.1<ag.length/\x.2.length=64)->∀c∈gt ag l,c.br
 | [],_,h,_=>h
 | x::l,ag,h,b=>by
  have a:=b x mem_cons_self;apply ED l (sG ag x) (alp h a.2 a.1);intro y d;show y.1<(ag.set _ _).length/\_
  grind
theorem Ta:gt ag (l++[x])=sG (gt ag l) x:=by simp[gt]
def ba.gR(d:ba):ba×Int:=if d.ff=true then(d,62)else if d.step.ff=true then(d.step,62)else({d.step with cells:=gt d.cells d.done,done:=[]},0)
theorem ba.Jl(a:d.br):d.gR.1.br:=by
 unfold ba.gR;split;exact a;split;exact ba.pO a;have e:=ba.pO a;refine⟨ED _ _ a.c a.ds,by show(gt _ _).length<=_;rw[u9];exact a.n,?_,e.m,e.b⟩
 simp_all
theorem Jm(a:dK 65 ck l.length (ip l))(h:y<l.length):∃p c,ck=am p 0 l.length c/\aw ck (ip l)=[aa p (ip l)]:=by
 rcases a with⟨rfl,b,_⟩|⟨p,rfl|rfl,_⟩
 omega;exact⟨p,_,rfl,rfl⟩;exact⟨p,_,rfl,rfl⟩
theorem Jn(a:∀x∈l,x.2.length=64)(h:y<l.length):((ip l).drop (y*65)).take 65=lO l[y]:=by
 have:=u6 (o:=0) (m:=65) (fun c b=>u7 (a c b)) h U;unfold ip
 grind[u7]
theorem alq{i:Nat}:l.getD i fY=({d with cells:=l}:ba).cell (i:Int):=ao
theorem alr(g:d.br)(J:d.done.length<=1000000)(a:ac H (ab++gr aS ch ck d))(n:qR ck d)
  (b:∀E mh,ac E (ab++gr aS ch mh d.gR.1)->qR mh d.gR.1->K (int d.gR.2) E):aG P 120 [ad aS 0] H K:=by
 refine ahZ.1 ?_;unfold ba.gR at b;refine cy (fun i E=>i=[ad aS 0,int 0]/\d.ff=false/\d.step.ff=false/\ac E (ab++gr aS ch ck d.step)) ?_ ?_
 ·repeat refine aQ ?_
  refine aD a rfl ?_;cases t:d.ff with
  | true=>
   rw[if_pos t]at b
   repeat (first|refine aQ ?_|refine hK ?_)
   exact b _ _ a n
  | false=>
   rw[if_neg aT]at b;refine cT rfl (Jk g a ?_);intro H a;refine Z fX (Z lb ?_);rw[Bool.not_not];refine lr (fun o=>?_) (fun o=>?_)
   ·rw[if_pos o]at b;exact b _ _ a n
   ·exact⟨rfl,rfl,o,a⟩
 rintro i H ⟨rfl,t,o,a⟩;rw[if_neg aT,if_neg aT]at b
 try simp only[c1,c2]
 repeat refine aQ ?_
 refine aD a rfl (bg n.aZ ?_);have B:=ba.pO g;have s:=fun x e=>(g.ds x e).2
 refine ahY (fun k i E=>∃y:Nat,y<=d.done.length/\k=d.done.length-y/\i=[ad aS 0,int 0,ck,int d.done.length,int y]/\ac E (ab++gr aS ch ck {d.step with cells:=gt d.cells (d.done.take y)})) _ _ ?_ d.done.length _ _ ⟨0,U,rfl,rfl,a⟩;rintro k i E ⟨y,L,rfl,rfl,a⟩;unfold RI;refine ul ?_
 try simp only[c1,c2]
 repeat refine aQ ?_
 refine ay (fun h=>?_) (fun h=>?_)
 ·have f:y<d.done.length:=U
  obtain⟨p,c,u,M⟩:=Jm n f;have e:=g.ds _ (getElem_mem f);have C:(gr aS ch ck {d.step with cells:=gt d.cells (d.done.take y)})[2]?=some (aa p (ip d.done)):=by
   show([_,_]++aw ck (ip d.done))[2]?=_
   grind
  rw[u];refine Z (ez U U) ?_;rw[show 0+((y:Nat):Int).toNat*65=y*65 by omega];rw[<- u];refine fe a (ab.length+2) (al C) (Jn s f) (u7 e.2) U ?_;rw[ale];refine b0 a ?_;intro j H a;refine dn a ((ab++gr aS ch ck {d.step with cells:=gt d.cells (d.done.take y)}).length+0) (al rfl) ao (u7 e.2) (Jc _) ?_;intro H a
  replace a:=ac.je a.bp
  replace a:ac H ((ab++[aa j (lO d.done[y])])++gr aS ch ck {d.step with cells:=gt d.cells (d.done.take y)}):=a
  have i4:(ab++[aa j (lO d.done[y])])[ab.length+0]?=some (aa j (lO d.done[y])):=al rfl;have l:∀ {H:an} {v:LB},ac H ((ab++[aa j (lO d.done[y])])++v)->ac H (ab++v):=fun h=>ac.bR h
  generalize ab++[aa j (lO d.done[y])]=mS at a i4 l
  repeat refine aQ ?_
  refine aD a rfl ?_
  repeat refine aQ ?_
  refine bk a (ab.length+0) (ak i4) rfl ?_
  repeat refine aQ ?_
  refine fe a (ab.length+0) (ak i4) (show((lO d.done[y]).drop 1).take 64=aN d.done[y].2 from ?_) a1 U ?_
  ·show(aN d.done[y].2).take 64=_
   simp_all[take_of_length_le]
  have q:({d.step with cells:=gt d.cells (d.done.take y)}:ba).ek (d.done[y].1:Int):=⟨U,by grind[u9]⟩;have m:∀c∈gt d.cells (d.done.take y),c.br:=ED _ _ g.c (fun x e=>g.ds x (mem_of_mem_take e));refine Z (ez q.1 q.2) ?_
  repeat refine aQ ?_
  rw[Nat.zero_add];refine kx a (mS.length+1) (al rfl) (show(aN d.done[y].2).length=64 by simp_all) (by have:=Je m q;omega) (ge _) ?_;intro H a;have w:=alj m q e.2;rw[dp,e.2]at w
  replace a:ac H (mS++gr aS ch ck {d.step with cells:=gt d.cells (d.done.take (y+1))}):=by
   have r:ac H (mS++([aa aS (hy ch ck {d.step with cells:=gt d.cells (d.done.take y)}),aa ch ((ie (gt d.cells (d.done.take y))).take ((d.done[y].1:Int).toNat*129+0)++(aN d.done[y].2++(ie (gt d.cells (d.done.take y))).drop ((d.done[y].1:Int).toNat*129+0+64)))]++aw ck (ip d.done))):=a.bp;rw[w]at r;have F:gt d.cells (d.done.take (y+1))=(gt d.cells (d.done.take y)).set (d.done[y].1:Int).toNat {({d.step with cells:=gt d.cells (d.done.take y)}:ba).cell (d.done[y].1:Int)with iA:=d.done[y].2}:=by grind[take_succ_eq_append_getElem,Ta,sG,alq,Int.toNat_natCast]
   show ac H (mS++([aa aS [am ch 0 (gt d.cells (d.done.take (y+1))).length 259,ck,int d.step.hx,int d.step.ei,.bool d.step.ff],aa ch (ie (gt d.cells (d.done.take (y+1))))]++aw ck (ip d.done)));rw[u9,F];have z:ac H (mS++([aa aS [am ch 0 (gt d.cells (d.done.take y)).length 259,ck,int d.step.hx,int d.step.ei,.bool d.step.ff],aa ch (ie ((gt d.cells (d.done.take y)).set (d.done[y].1:Int).toNat {({d.step with cells:=gt d.cells (d.done.take y)}:ba).cell (d.done[y].1:Int)with iA:=d.done[y].2}))]++aw ck (ip d.done))):=r;rw[u9]at z;exact z
  repeat refine aQ ?_
  exact⟨_,U,y+1,U,rfl,rfl,l a⟩
 ·have I:y=d.done.length:=U
  subst I
  repeat refine aQ ?_
  refine cQ a (ab.length+0) (al rfl) rfl (show 1<5 by omega) rfl ?_;intro H a;rw[take_length]at a;refine b _ aA ?_ (.inl ⟨rfl,rfl,rfl⟩);have r:ac H (ab++([aa aS (hy ch aA {d.step with cells:=gt d.cells d.done,done:=[]}),aa ch (ie (gt d.cells d.done))]++aw ck (ip d.done))):=a.bp;exact r.sub (List.Sublist.append (List.Sublist.refl _) (List.Sublist.append (List.Sublist.refl _) (nil_sublist _)))
end
section
variable[c0:cH]
variable{H K b c ag d dr i k n o p ch aS q v ck x bl ab mS}
theorem als(b:ac H ab)(aB:ab[i]?=some (aa q ag))(d:bx ab v bl)(e:bl.length<=n)(k:o+n<=ag.length)
  (a:∀E,ac E (ab.set i (aa q (ag.take o++(aN bl++ag.drop (o+bl.length)))))->K (int bl.length) E):a7 (nJ 1 (am q o n c) v H) K:=by
 have⟨E,f,ah⟩:=AF b (o:=o) (vs:=aN bl) aB aT (by simp[cS]);unfold nJ;simp only[d.kr];have g:Nat.min bl.length n=bl.length:=Nat.min_eq_left e;rw[g];by_cases h:bl.length=0;have:bl=[]:=length_eq_zero_iff.1 h;subst this;apply bg (rfl);have a:=a H;rw[show ag.take o++(aN []++ag.drop (o+([]:LI).length))=ag by simp[aN],x7 aB]at a;exact a b;have j:beq bl.length 0=false:=by grind[eq_of_beq_eq_true]
 rw[j];rw[d.l9 b];simp only;rw[f];apply bg (rfl);rw[length_map]at ah;exact a _ ah
theorem alu{ag:List Cell}(h:∀c∈ag,c.br)(a:n<ag.length):(ag.getD n fY).br:=by rw[getD_eq_getElem?_getD,getElem?_eq_getElem a];exact h _ (getElem_mem a)
theorem alv(b:ac H ((mS++gr aS ch ck d).set (mS.length+1) (aa ch ag)))(c:ag=ie dr.cells)(g:dr.cells.length=d.cells.length)(f:dr.done=d.done)(h:dr.hx=d.hx)(i:dr.ei=d.ei)(j:dr.ff=d.ff):ac H (mS++gr aS ch ck dr):=by
 have a:ac H (mS++([aa aS (hy ch ck d),aa ch ag]++aw ck (ip d.done))):=b.bp;have e:hy ch ck d=hy ch ck dr:=by simp_all[hy]
 rw[c,e,<- f]at a;exact a
end
section
variable[c0:cH]
variable{H K n w ab}
theorem alw:lD P 169=⟨o4 129 136 (kO fY)⟩:=ao
theorem A4{α:Type}(f:α->aj)(z:α):∀n:Nat,fr n (f z)=(replicate n z).flatMap f
 | 0=>rfl
 | n+1=>by show gx (f z) (fr n (f z))=_;rw[gM,A4 f z n,replicate_succ,flatMap_cons]
theorem alx(n:Nat)(ch:Nat)(w:Int):(eg P 172).f [(0,am ch 0 n 259),(2,int w),(3,.int .i64 (-1))]=some (agg [am ch 0 n 259,aA,int w,int (-1),.bool false]):=ao
def pk:Cell:=⟨iz,iz,0⟩
def ba.ci(n:Nat)(w:Int):ba:=⟨replicate n pk,[],w,-1,false⟩
theorem aly:fY.br:=⟨rfl,rfl,bT⟩
theorem A5:pk.br:=⟨rfl,rfl,bT⟩
theorem ba.Jo(e:n<=4096)(a:w<=100000):(ba.ci n w).br:=by refine⟨fun c b=>?_,by show(replicate n _).length<=_;simp_all,fun x d=>(by cases d),a,by show-1<=(-1:Int)/\(-1:Int)<=_;omega⟩;rw[(List.mem_replicate.1 b).2];exact A5
end
section
variable[c0:cH]
variable{H K L a e o part bb ab}
structure Op where
 dW:Int
 part:Int
 bb:Int
 dt:Int
structure bh where
 d:ba
 e3:List (Nat×Nat)
 dt:Int
 bm:List Op
variable{m:bh}
def hJ(o:Op):aj:=[int o.dW,int o.part,int o.bb,int o.dt]
def hM(l:List Op):aj:=l.flatMap hJ
def rP(l:List (Nat×Nat)):aj:=l.flatMap fun x=>[int x.1,int x.2]
structure no where
 bn:Nat
 aS:Nat
 ch:Nat
 bv:Nat
 ck:Value
 e0:Value
def c3(L:no)(m:bh):aj:=[ad L.aS 0,am L.bv 0 m.e3.length 4,int m.dt,L.e0]
abbrev vb(L:no)(m:bh):LB:=[aa L.bn (c3 L m),aa L.bv (rP m.e3)]
abbrev cR(L:no)(m:bh):LB:=vb L m++(aw L.e0 (hM m.bm)++gr L.aS L.ch L.ck m.d)
structure jg (L:no) (m:bh):Prop where
 d:qR L.ck m.d
 o:dK 4 L.e0 m.bm.length (hM m.bm)
structure no.Eq (L bW:no):Prop where
 m:bW.bn=L.bn
 d:bW.aS=L.aS
 c:bW.ch=L.ch
 s:bW.bv=L.bv
structure bh.br (m:bh):Prop where
 d:m.d.br
 s:∀x∈m.e3,x.1+x.2<=m.d.cells.length
 n:m.e3.length<=16
def bh.eV(m:bh)(N:Nat):Prop:=m.d.done.length<=N/\m.bm.length<=N
theorem cR.pY(h:ac H (ab++cR L m)):ac H (((ab++vb L m)++aw L.e0 (hM m.bm))++gr L.aS L.ch L.ck m.d):=by rw[append_assoc,append_assoc];exact h
theorem cR.yL(h:ac H (((ab++vb L m)++aw L.e0 (hM m.bm))++gr L.aS L.ch L.ck m.d)):ac H (ab++cR L m):=by rw[append_assoc,append_assoc]at h;exact h
def bh.ek(m:bh)(part:Int):Prop:=0<=part/\part<m.e3.length
variable{part:Int} in
instance:Decidable (m.ek part):=by unfold bh.ek;infer_instance
def bh.ky(m:bh)(part:Int):Nat×Nat:=m.e3.getD part.toNat (0,0)
def bh.size(m:bh)(part:Int):Nat:=if m.ek part then(m.ky part).2 else 0
theorem bh.A6(h:m.ek part):m.ky part∈m.e3:=by
 unfold bh.ky;have:part.toNat<m.e3.length:=by have:=h.1;have:=h.2;omega
 simp_all
theorem Jp(h:m.ek part):(rP m.e3)[part.toNat*2+0]?=some (int (m.ky part).1)/\(rP m.e3)[part.toNat*2+1]?=some (int (m.ky part).2):=by
 have a:part.toNat<m.e3.length:=by have:=h.1;have:=h.2;omega
 have e:m.ky part=m.e3[part.toNat]:=by simp_all[bh.ky]
 unfold rP;rw[Ja (n:=2) (fun _ _=>rfl) a U,Ja (n:=2) (fun _ _=>rfl) a U,e]
 simp_all
theorem alz(a:ac H (ab++cR L m))(b:K (ad L.aS 0) H):aG P 22 [ad L.bn 0] H K:=by
 refine af1.1 ?_
 repeat refine aQ ?_
 exact aD a rfl b
theorem Tb(c:ac H (ab++cR L m))(b:K (.bool (decide (m.ek part))) H):aG P 149 [ad L.bn 0,int part] H K:=by
 refine aiw.1 ?_
 repeat refine aQ ?_
 refine ay (fun h=>?_) (fun h=>?_)
 repeat refine aQ ?_
 apply aD c rfl
 repeat (first|refine aQ ?_|refine lL ?_)
 rw[decide_eq_decide.2 (show part<(m.e3.length:Int)↔m.ek part from⟨fun a=>⟨h,a⟩,fun a=>a.2⟩)];exact b
 repeat refine aQ ?_
 rw[decide_eq_false (fun a=>h a.1)]at b;exact b
theorem Tc(b:ac H (ab++cR L m))(a:K (int (m.size part)) H):aG P 72 [ad L.bn 0,int part] H K:=by
 refine ag6.1 ?_;apply Tb b;unfold bh.size at a;apply Z fX;by_cases h:m.ek part;rw[if_pos h]at a;rw[decide_eq_true h];apply cT rfl
 repeat refine aQ ?_
 refine aD b rfl (Z (ez h.1 h.2) ?_)
 repeat refine aQ ?_
 rw[Nat.zero_add];exact aD b (Jp h).2 a;rw[if_neg h]at a;rw[decide_eq_false h];exact dz rfl a
def bh.gK(m:bh)(part bb:Int):Int×Int:=if¬m.ek part then(0,71)else if bb<0\/(m.ky part).2<=bb then(0,61)else((m.ky part).1+bb,0)
theorem Jq(e:m.br)(b:ac H (ab++cR L m))(a:K (.tuple [int (m.gK part bb).1,int (m.gK part bb).2].toArray) H):aG P 117 [ad L.bn 0,int part,int bb] H K:=by
 refine ahV.1 ?_;apply Tb b;unfold bh.gK at a;apply Z fX;by_cases h:m.ek part;rw[if_neg (fun aH=>aH h)]at a;rw[decide_eq_true h];refine cT rfl (cy (fun f E=>f=[ad L.bn 0,int part,int bb,.bool (decide (bb<0\/(m.ky part).2<=bb))]/\E=H) ?_ ?_)
 repeat refine aQ ?_
 refine ay (fun c=>?_) (fun c=>?_)
 repeat refine aQ ?_
 exact⟨a1,rfl⟩
 repeat refine aQ ?_
 refine aD b rfl (Z (ez h.1 h.2) ?_)
 repeat refine aQ ?_
 rw[Nat.zero_add];apply aD b (Jp h).2
 repeat refine aQ ?_
 exact⟨aT,rfl⟩;rintro f E ⟨rfl,rfl⟩;refine ay (fun c=>?_) (fun c=>?_);rw[if_pos c]at a;exact a;rw[if_neg c]at a
 repeat refine aQ ?_
 refine aD b rfl (Z (ez h.1 h.2) ?_)
 repeat refine aQ ?_
 rw[Nat.zero_add];apply aD b (Jp h).1;have:=e.s _ (bh.A6 h);have:=e.d.n
 repeat refine aQ ?_
 exact a;rw[if_pos h]at a;rw[decide_eq_false h];exact dz rfl a
def bh.fg(m:bh)(part bb:Int):LI×Int:=if(m.gK part bb).2≠0 then(ju,(m.gK part bb).2)else m.d.fg (m.gK part bb).1
theorem ba.pl{d:ba}(b:d.br):(d.fg a).1.length=64:=by unfold ba.fg;by_cases h:d.ek a;rw[if_pos h];exact(ba.mf b.c h).s;rw[if_neg h];rfl
theorem bh.pl(a:m.br):(m.fg part bb).1.length=64:=by unfold bh.fg;split;rfl;exact ba.pl a.d
theorem Td(f:m.br)(b:ac H (ab++cR L m))(e:∀E,ac E (ab++cR L m)->K (.tuple [jt (m.fg part bb).1,int (m.fg part bb).2].toArray) E):aG P 73 [ad L.bn 0,int part,int bb] H K:=by
 refine ag7.1 ?_;apply b0 b;intro g H b
 replace b:=b.je
 have i:(ab++[aa g (aN ju)])[ab.length+0]?=some (aa g (aN ju)):=al rfl;refine Jq f b (Z f5 (Z f6 (Z dX ?_)));unfold bh.fg at e;refine ay (fun h=>?_) (fun h=>?_);rw[if_pos h]at e;refine Z wK (dn b _ (ak i) ao ao (ge _) ?_);intro H b;rw[set_append_left _ _ aW,Go.Ab.bp]at b;exact gQ b (ab.length+0) (ak (al rfl)) ao U (e _ (ac.bR b));rw[if_neg h]at e
 repeat refine aQ ?_
 refine aD b rfl (ak6 f.d.c (cR.pY b) ?_);intro H b
 replace b:=cR.yL b
 refine Z f5 (Z f6 ?_);have j:=ba.pl f.d (a:=(m.gK part bb).1);apply dn b _ (ak i) ao a1 (ge _);intro H b;rw[set_append_left _ _ aW,Go.Ab.bp]at b;exact gQ b (ab.length+0) (ak (al rfl)) a1 U (e _ (ac.bR b))
def bh.mi(m:bh)(o:Op)(e:Int):bh:=if e=0 then {m with bm:=m.bm++[{o with dt:=m.dt}]}else m
theorem Jr(o:Op)(H:an):(gY P 80 1).f [(0,agg (hJ o))] H=some (am H.next 0 1 9,H.push (hJ o)):=ao
theorem Te(a b c:Int):(eg P 86).f [(0,int a),(1,int b),(2,int c)]=some (agg (hJ ⟨a,b,c,0⟩)):=ao
theorem Tf(l:List Op)(o:Op):hM l++hJ o=hM (l++[o]):=by simp[hM]
theorem Tg(ah:m.bm.length<=1000000000)(a:ac H (ab++cR L m))(j:jg L m)
  (f:∀E bW,L.Eq bW->ac E (ab++cR bW (m.mi o e))->jg bW (m.mi o e)->K (int e) E):aG P 118 [ad L.bn 0,agg (hJ o),int e] H K:=by
 refine ahW.1 ?_;apply b0 a;intro b H a
 replace a:=a.je
 have i4:(ab++[aa b (hJ o)])[ab.length+0]?=some (aa b (hJ o)):=al rfl;apply Z cN;unfold bh.mi at f;refine ay (fun h=>?_) (fun h=>?_);rw[if_pos h]at f
 repeat refine aQ ?_
 apply aD a rfl
 repeat refine aQ ?_
 apply cQ a _ (ak i4) rfl (show 3<4 by omega) (rfl);intro H a;rw[set_append_left _ _ aW,Go.Ab.bp]at a
 replace a:ac H ((ab++[aa b (hJ {o with dt:=m.dt})])++cR L m):=a
 have i4:(ab++[aa b (hJ {o with dt:=m.dt})])[ab.length+0]?=some (aa b (hJ {o with dt:=m.dt})):=al rfl;have g:∀ {H:an} {n:LB},ac H ((ab++[aa b (hJ {o with dt:=m.dt})])++n)->ac H (ab++n):=fun h=>ac.bR h
 generalize ab++[aa b (hJ {o with dt:=m.dt})]=mS at a i4 g
 repeat refine aQ ?_
 refine aD a rfl (gQ a _ (ak i4) rfl U ?_);have k:=(cR.pY a).je;refine el k (Jr _ _) fun q H a=>qQ a j.o rfl U rfl U U ?_
 intro i H a c
 repeat refine aQ ?_
 obtain⟨r,s,t,u⟩:∃r s t,i=.slice r s t:=by rcases c with⟨_,h,_⟩|⟨p,rfl|rfl,_⟩;omega;exact⟨_,_,_,rfl⟩;simp_all
 apply cQ a (mS.length+0) (ak (ak (al rfl))) (by rw[u];rfl) (show 3<4 by omega) rfl;intro H a;rw[set_append_left _ _ aW,set_append_left _ _ aW,Go.Ab.bp]at a;rw[Tf]at a c;have v:=a;refine f H ⟨L.bn,L.aS,L.ch,L.bv,L.ck,i⟩ ⟨rfl,rfl,rfl,rfl⟩ (g (cR.yL v.je)) ⟨j.d,?_⟩;rw[length_append];exact c;rw[if_neg h]at f;exact f _ L ⟨rfl,rfl,rfl,rfl⟩ (ac.bR a) j
end
section
variable[c0:cH]
variable{H K bW Th M N a dr e n o part bb s mh y ab}{d:ba}{m:bh}{L:no}
def bh.fH(m:bh)(part bb:Int):bh×Int:=if(m.gK part bb).2≠0 then(m,(m.gK part bb).2)else(({m with d:=(m.d.fH (m.gK part bb).1).1}:bh).mi ⟨1,part,bb,0⟩ (m.d.fH (m.gK part bb).1).2,(m.d.fH (m.gK part bb).1).2)
def bh.fh(m:bh)(part bb:Int)(s:LI):bh×Int:=if(m.gK part bb).2≠0 then(m,(m.gK part bb).2)else(({m with d:=(m.d.fh (m.gK part bb).1 s).1}:bh).mi ⟨2,part,bb,0⟩ (m.d.fh (m.gK part bb).1 s).2,(m.d.fh (m.gK part bb).1 s).2)
def bh.gR(m:bh):bh×Int:=({m with d:=m.d.gR.1},m.d.gR.2)
theorem ba.Ti:(d.fH a).1.cells.length=d.cells.length:=by unfold ba.fH;split;rfl;split;rfl;split;rfl;split;rfl;show((d.step.cells.set _ _).set _ _).length=_;rw[length_set,length_set];rfl
theorem ba.Tj:(d.fh a s).1.cells.length=d.cells.length:=by unfold ba.fh;split;rfl;split;rfl;split;rfl;split;rfl;show(d.step.cells.set _ _).length=_;rw[length_set];rfl
theorem ba.Js:d.gR.1.cells.length=d.cells.length:=by unfold ba.gR;split;rfl;split;rfl;exact u9 _ _
theorem ba.alA:(d.fH a).1.done.length<=d.done.length+1:=by
 unfold ba.fH;split
 ·simp_all
 split
 ·simp_all
 split
 ·simp_all
 split
 ·exact le_succ _
 show(d.done++[_]).length<=_;simp
theorem ba.alB:(d.fh a s).1.done.length<=d.done.length+1:=by
 unfold ba.fh;split
 ·simp_all
 split
 ·simp_all
 split
 ·simp_all
 split
 ·exact le_succ _
 show(d.done++[_]).length<=_;simp
theorem ba.alC:d.gR.1.done.length<=d.done.length:=by
 unfold ba.gR;split
 ·simp_all
 split
 ·exact Nat.le_refl _
 simp_all
theorem bh.yM:(m.mi o e).d=m.d:=by grind[bh.mi]
theorem bh.Jt:(m.mi o e).e3=m.e3:=by grind[bh.mi]
theorem bh.Tk:(m.mi o e).bm.length<=m.bm.length+1:=by unfold bh.mi;grind
theorem bh.alD:(m.fh part bb s).1.e3=m.e3:=by grind[bh.fh,bh.Jt]
theorem bh.Tl(a:m.br):(m.mi o e).br:=⟨by rw[bh.yM];exact a.d,by rw[bh.yM,bh.Jt];exact a.s,by rw[bh.Jt];exact a.n⟩
theorem bh.Ji(a:m.br):(m.fH part bb).1.br:=by unfold bh.fH;split;exact a;exact bh.Tl ⟨ba.Ji a.d,by rw[ba.Ti];exact a.s,a.n⟩
theorem bh.Jj(a:m.br)(ah:s.length=64):(m.fh part bb s).1.br:=by unfold bh.fh;split;exact a;exact bh.Tl ⟨ba.Jj a.d ah,by rw[ba.Tj];exact a.s,a.n⟩
theorem bh.Jl(a:m.br):m.gR.1.br:=⟨ba.Jl a.d,by show∀x∈m.e3,_<=m.d.gR.1.cells.length;rw[ba.Js];exact a.s,a.n⟩
theorem bh.eV.mono(h:m.eV N)(a:N<=M):m.eV M:=⟨Nat.le_trans h.1 a,Nat.le_trans h.2 a⟩
theorem bh.alE(h:m.eV N):(m.fH part bb).1.eV (N+1):=by unfold bh.fH;split;exact h.mono (le_succ _);refine⟨?_,Nat.le_trans bh.Tk (succ_le_succ h.2)⟩;rw[bh.yM];exact Nat.le_trans ba.alA (succ_le_succ h.1)
theorem bh.Ju(h:m.eV N):(m.fh part bb s).1.eV (N+1):=by unfold bh.fh;split;exact h.mono (le_succ _);refine⟨?_,Nat.le_trans bh.Tk (succ_le_succ h.2)⟩;rw[bh.yM];exact Nat.le_trans ba.alB (succ_le_succ h.1)
theorem bh.EE(h:m.eV N):m.gR.1.eV N:=⟨Nat.le_trans ba.alC h.1,h.2⟩
theorem no.Eq.eu:L.Eq L:=⟨rfl,rfl,rfl,rfl⟩
theorem no.Eq.trans(h:L.Eq bW)(aH:bW.Eq Th):L.Eq Th:=⟨aH.m.trans h.m,aH.d.trans h.d,aH.c.trans h.c,aH.s.trans h.s⟩
theorem cR.rQ(h:ac H (((ab++vb L m)++aw L.e0 (hM m.bm))++gr L.aS L.ch mh dr)):ac H (ab++cR {L with ck:=mh} {m with d:=dr}):=cR.yL h
theorem alF(k:m.br)(ah:m.eV 1000000)(a:ac H (ab++cR L m))(f:jg L m)
  (b:∀E bW,L.Eq bW->ac E (ab++cR bW (m.fH part bb).1)->jg bW (m.fH part bb).1->K (int (m.fH part bb).2) E):aG P 238 [ad L.bn 0,int part,int bb] H K:=by
 refine ajZ.1 ?_;refine Jq k a (Z f5 (Z f6 (Z dX ?_)));unfold bh.fH at b;refine ay (fun h=>?_) (fun h=>?_);rw[if_pos h]at b;exact b _ L no.Eq.eu a f;rw[if_neg h]at b;apply Z (Te _ _ _)
 repeat refine aQ ?_
 exact aD a rfl (alm k.d ah.1 (cR.pY a) f.d (fun H g a i=>Tg (L:={L with ck:=g}) (by have:=ah.2;grind) (cR.rQ a) ⟨i,f.o⟩ fun H bW e a j=>b _ bW ⟨e.m,e.d,e.c,e.s⟩ a j))
theorem Tm(n:m.br)(q:s.length=64)(ah:m.eV 1000000)(a:ac H (ab++cR L m))(i:jg L m)
  (b:∀E bW,L.Eq bW->ac E (ab++cR bW (m.fh part bb s).1)->jg bW (m.fh part bb s).1->K (int (m.fh part bb s).2) E):aG P 56 [ad L.bn 0,int part,int bb,jt s] H K:=by
 refine agO.1 ?_;apply b0 a;intro f H a
 replace a:=a.je
 replace a:ac H ((ab++[aa f (aN s)])++cR L m):=a
 have r:(ab++[aa f (aN s)])[ab.length+0]?=some (aa f (aN s)):=al rfl;have e:∀ {H:an} {p:LB},ac H ((ab++[aa f (aN s)])++p)->ac H (ab++p):=fun h=>ac.bR h
 refine Jq n a (Z f5 (Z f6 (Z dX ?_)));unfold bh.fh at b;refine ay (fun h=>?_) (fun h=>?_);rw[if_pos h]at b;exact b _ L no.Eq.eu (e a) i;rw[if_neg h]at b;apply Z (Te _ _ _)
 repeat refine aQ ?_
 exact aD a rfl (gQ a _ (ak r) a1 U (aln n.d q ah.1 (cR.pY a) i.d (fun H j a k=>Tg (L:={L with ck:=j}) (by have:=ah.2;grind) (cR.rQ a) ⟨k,i.o⟩ fun H bW g a l=>b _ bW ⟨g.m,g.d,g.c,g.s⟩ (e a) l)))
theorem Tn(f:m.br)(ah:m.eV 1000000)(a:ac H (ab++cR L m))(e:jg L m)
  (g:∀E bW,L.Eq bW->ac E (ab++cR bW m.gR.1)->jg bW m.gR.1->K (int m.gR.2) E):aG P 57 [ad L.bn 0] H K:=by
 refine agP.1 ?_
 repeat refine aQ ?_
 exact aD a rfl (alr f.d ah.1 (cR.pY a) e.d (fun H b a c=>g H {L with ck:=b} ⟨rfl,rfl,rfl,rfl⟩ (cR.rQ a) ⟨c,e.o⟩))
end
section
variable[c0:cH]
variable{H K L b c d m ch aS q hN ck ab}
theorem To(a:ac H (ab++cR L m))(b:jg L m)
  (c:∀E,ac E ((ab++aw L.e0 (hM m.bm))++cR {L with e0:=aA} {m with bm:=[]})->jg {L with e0:=aA} {m with bm:=[]}->K L.e0 E):aG P 30 [ad L.bn 0] H K:=by
 refine af8.1 ?_
 repeat refine aQ ?_
 apply aD a rfl
 repeat refine aQ ?_
 apply cQ a (ab.length+0) (al rfl) rfl (show 3<4 by omega) rfl;intro H a;have e:ac H (ab++(vb {L with e0:=aA} {m with bm:=[]}++(aw L.e0 (hM m.bm)++gr L.aS L.ch L.ck m.d))):=a.bp;refine c H ?_ ⟨b.d,.inl ⟨rfl,rfl,rfl⟩⟩;apply e.cf;show(ab++(vb _ _++(aw L.e0 (hM m.bm)++gr L.aS L.ch L.ck m.d))).Perm ((ab++aw L.e0 (hM m.bm))++(vb _ _++([]++gr L.aS L.ch L.ck m.d)));rw[append_assoc,nil_append,<- append_assoc (vb _ _),<- append_assoc (aw _ _)];exact List.Perm.append_left ab (List.Perm.append_right _ perm_append_comm)
def h5:Nat->List Nat->List (Nat×Nat)
 | _,[]=>[]
 | n,x::l=>(n,x)::h5 (n+x) l
theorem EF:∀(l:List Nat) (n:Nat),(h5 n l).length=l.length
 | [],_=>rfl
 | x::l,n=>by show(h5 (n+x) l).length+1=_;rw[EF l];rfl
theorem Tp:∀(l:List Nat) (n y:Nat) (h:y<l.length),(h5 n l).take (y+1)=(h5 n l).take y++[(n+(l.take y).sum,l[y])]
 | x::l,n,0,_=>by simp[h5]
 | x::l,n,y+1,h=>by have:=Tp l (n+x) y (by simpa using h);show(n,x)::(h5 (n+x) l).take (y+1)=(n,x)::(h5 (n+x) l).take y++[(n+(x+(l.take y).sum),_)];rw[this,Nat.add_assoc];rfl
theorem alG(aS:Nat):(eg P 168).f [(0,ad aS 0)]=some (agg [ad aS 0,aA,int 0,aA]):=ao
theorem alH(a b:Int):(eg P 232).f [(0,int a),(1,int b)]=some (agg [int a,int b]):=ao
theorem alI(a b:Int)(H:an):(gY P 166 1).f [(0,agg [int a,int b])] H=some (am H.next 0 1 5,H.push [int a,int b]):=ao
theorem EG:∀(l:List Nat) (y:Nat),(l.take y).sum<=l.sum
 | [],y=>aW
 | x::l,0=>aW
 | x::l,y+1=>by simp_all[EG]
theorem Tq(l:List Nat)(y:Nat)(h:y<l.length):(l.take (y+1)).sum=(l.take y).sum+l[y]:=by grind[take_succ_eq_append_getElem]
theorem alJ{Jv:Nat}(s:d.br)(a:ac H (ab++gr aS ch ck d))(t:ab[Jv]?=some (q,⟨hN.map fun(n:Nat)=>int n,b⟩))(u:0<hN.length)(w:hN.length<=16)
  (x:∀n∈hN,1<=n) (ah:hN.sum<=d.cells.length) (z:qR ck d)
  (B:∀E e bv,ac E (ab++cR ⟨e,aS,ch,bv,ck,aA⟩ ⟨d,h5 0 hN,0,[]⟩)->jg ⟨e,aS,ch,bv,ck,aA⟩ ⟨d,h5 0 hN,0,[]⟩->K (.tuple [ad e 0,int 0].toArray) E):aG P 54 [ad aS 0,am q 0 hN.length c] H K:=by
 refine agL.1 ?_;refine cy (fun f E=>f=[ad aS 0,am q 0 hN.length c,.pointer none,int 0,.bool false]/\E=H) ?_ ?_
 repeat (first|refine aQ ?_|refine lL ?_|refine nl ?_)
 rw[decide_eq_false U];exact⟨rfl,rfl⟩;rintro f E ⟨rfl,rfl⟩;refine cT rfl (Z (alG aS) (b0 a ?_));intro e H a
 replace a:ac H (((ab++gr aS ch ck d)++[aa e [ad aS 0,aA,int 0,aA]])++aw aA (rP [])):=by show ac H (((ab++gr aS ch ck d)++[aa e [ad aS 0,aA,int 0,aA]])++[]);rw[append_nil];exact a
 repeat refine lL ?_
 have C:=s.n;have i:=EF hN 0;refine agK (fun k f E=>∃(y:Nat) (vs:Value),y<=hN.length/\k=hN.length-y/\f=[ad aS 0,.pointer none,int 0,ad e 0,int ((hN.take y).sum:Nat),am q 0 hN.length c,int hN.length,int y]/\ac E (((ab++gr aS ch ck d)++[aa e [ad aS 0,vs,int 0,aA]])++aw vs (rP ((h5 0 hN).take y)))/\dK 2 vs y (rP ((h5 0 hN).take y))/\(0<y->∃bv,vs=am bv 0 y 4)) _ _ ?_ hN.length _ _ ⟨0,aA,U,rfl,rfl,a,.inl ⟨rfl,rfl,rfl⟩,fun h=>absurd h U⟩;clear a;rintro k f H ⟨y,vs,N,rfl,rfl,a,j,m⟩;unfold Rk;refine ul ?_
 try simp only[c1,c2]
 have F:=EG hN y
 repeat refine aQ ?_
 refine ay (fun h=>?_) (fun h=>?_);have l:y<hN.length:=U
 have S:=x _ (getElem_mem l);have o:=EG hN (y+1);have I:=Tq hN y l;refine Z (ez U U) ?_;refine bk a Jv (ak (ak (ak t))) (v:=int hN[y]) a1 ?_;refine cy (fun f E=>f=[ad aS 0,.pointer none,int 0,ad e 0,int ((hN.take y).sum:Nat),int hN[y],am q 0 hN.length c,int hN.length,int y,.bool false]/\E=H) ?_ ?_;refine Z cV ?_;rw[decide_eq_false U];refine cT rfl (ak5 a (ak (ak (al (k:=0) rfl))) ?_)
 repeat refine aQ ?_
 rw[decide_eq_false U];exact⟨rfl,rfl⟩;rintro f E ⟨rfl,rfl⟩
 try simp only[c1,c2]
 refine cT rfl ?_
 repeat refine aQ ?_
 refine aD a rfl (Z (alH _ _) (el a (alI _ _ _) ?_));clear a;intro q2 H a;refine SS a j rfl U rfl U U ?_;clear a;intro bv H a g;have J:rP ((h5 0 hN).take y)++[int ((hN.take y).sum:Nat),int hN[y]]=rP ((h5 0 hN).take (y+1)):=by simp_all[Tp,rP]
 rw[J]at a g
 repeat refine aQ ?_
 refine cQ a ((ab++gr aS ch ck d).length+0) (ak (al rfl)) rfl (show 1<4 by omega) rfl ?_;clear a;intro H a;rw[set_append_left _ _ aW,Go.Ab.bp]at a
 repeat refine aQ ?_
 refine⟨_,U,y+1,_,U,rfl,?_,a,g,fun _=>⟨bv,rfl⟩⟩
 simp_all
 have L:y=hN.length:=U
 subst L;rw[take_of_length_le (by rw[i];exact Nat.le_refl _)]at a j;obtain⟨bv,rfl⟩:=m u
 repeat refine qJ ?_
 refine B H e bv ?_ ⟨z,.inl ⟨rfl,rfl,rfl⟩⟩;have p:=a;rw[append_assoc]at p;have r:=p.je;rw[append_assoc]at r;have M:c3 ⟨e,aS,ch,bv,ck,aA⟩ ⟨d,h5 0 hN,0,[]⟩=[ad aS 0,am bv 0 hN.length 4,int 0,aA]:=by simp_all[c3]
 show ac H (ab++([aa e (c3 ⟨e,aS,ch,bv,ck,aA⟩ ⟨d,h5 0 hN,0,[]⟩),aa bv (rP (h5 0 hN))]++([]++gr aS ch ck d)));rw[M,nil_append];exact r
end
section
variable[c0:cH]
def jN(x n:Nat):Nat:=x/2^n|||x*2^(32-n)%4294967296
def mz(x:Nat)(l:List Nat):Nat:=l.foldl (fun o n=>o ^^^ jN x n) 0
def vc(b:LI)(t:Nat):Nat:=16777216*(b.getD (4*t) 0).toNat+65536*(b.getD (4*t+1) 0).toNat+256*(b.getD (4*t+2) 0).toNat+(b.getD (4*t+3) 0).toNat
def qS(b:LI)(w:List Nat)(t:Nat):Nat:=if t<16 then vc b t else
 (w.getD (t-16) 0+(mz (w.getD (t-15) 0) [7,18] ^^^ w.getD (t-15) 0/8)+w.getD (t-7) 0+(mz (w.getD (t-2) 0) [17,19] ^^^ w.getD (t-2) 0/1024))%4294967296
def hz(b:LI):Nat->List Nat
 | 0=>[]
 | t+1=>hz b t++[qS b (hz b t) t]
def vd(e f g:Nat):Nat:=(e&&&f) ^^^ ((4294967295-e)&&&g)
def wL(a b c:Nat):Nat:=((a&&&b) ^^^ (a&&&c)) ^^^ (b&&&c)
structure W8 where
 a:Nat
 b:Nat
 c:Nat
 d:Nat
 e:Nat
 f:Nat
 g:Nat
 h:Nat
structure W8.br (x:W8):Prop where
 a:x.a<4294967296
 b:x.b<4294967296
 c:x.c<4294967296
 d:x.d<4294967296
 e:x.e<4294967296
 f:x.f<4294967296
 g:x.g<4294967296
 h:x.h<4294967296
def W8.l(x:W8):List Nat:=[x.a,x.b,x.c,x.d,x.e,x.f,x.g,x.h]
def tO(x:W8)(k w:Nat):Nat:=(x.h+mz x.e [6,11,25]+vd x.e x.f x.g+k+w)%4294967296
def EH(x:W8):Nat:=(mz x.a [2,13,22]+wL x.a x.b x.c)%4294967296
def A7(x:W8)(k w:Nat):W8:=⟨(tO x k w+EH x)%4294967296,x.a,x.b,x.c,(x.d+tO x k w)%4294967296,x.e,x.f,x.g⟩
def iU:List Nat:=[0x428a2f98,0x71374491,0xb5c0fbcf,0xe9b5dba5,0x3956c25b,0x59f111f1,0x923f82a4,0xab1c5ed5,0xd807aa98,0x12835b01,0x243185be,0x550c7dc3,0x72be5d74,0x80deb1fe,0x9bdc06a7,0xc19bf174,
 0xe49b69c1,0xefbe4786,0x0fc19dc6,0x240ca1cc,0x2de92c6f,0x4a7484aa,0x5cb0a9dc,0x76f988da,0x983e5152,0xa831c66d,0xb00327c8,0xbf597fc7,0xc6e00bf3,0xd5a79147,0x06ca6351,0x14292967,
 0x27b70a85,0x2e1b2138,0x4d2c6dfc,0x53380d13,0x650a7354,0x766a0abb,0x81c2c92e,0x92722c85,0xa2bfe8a1,0xa81a664b,0xc24b8b70,0xc76c51a3,0xd192e819,0xd6990624,0xf40e3585,0x106aa070,
 0x19a4c116,0x1e376c08,0x2748774c,0x34b0bcb5,0x391c0cb3,0x4ed8aa4a,0x5b9cca4f,0x682e6ff3,0x748f82ee,0x78a5636f,0x84c87814,0x8cc70208,0x90befffa,0xa4506ceb,0xbef9a3f7,0xc67178f2]
def pm(w:List Nat)(x:W8):Nat->W8
 | 0=>x
 | t+1=>A7 (pm w x t) (iU.getD t 0) (w.getD t 0)
def yN(x y:W8):W8:=⟨(x.a+y.a)%4294967296,(x.b+y.b)%4294967296,(x.c+y.c)%4294967296,(x.d+y.d)%4294967296,(x.e+y.e)%4294967296,(x.f+y.f)%4294967296,(x.g+y.g)%4294967296,(x.h+y.h)%4294967296⟩
def yO(s:W8)(b:LI):W8:=yN s (pm (hz b 64) s 64)
def A8:W8:=⟨0x6a09e667,0xbb67ae85,0x3c6ef372,0xa54ff53a,0x510e527f,0x9b05688c,0x1f83d9ab,0x5be0cd19⟩
def pZ(ae:LI):Nat->W8
 | 0=>A8
 | n+1=>yO (pZ ae n) ((ae.drop (64*n)).take 64)
def mA(ae:LI):W8:=pZ ae (ae.length/64)
def wM(ae:LI):LI:=ae.drop (64*(ae.length/64))
def p0(n:Nat):LI:=(range 8).map fun i=>((n/2^(56-8*i)%256:Nat):Int)
def le(n:Nat):Nat:=(119-n%64)%64
def wN(ae:LI):LI:=ae++[128]++replicate (le ae.length) 0++p0 (8*ae.length)
def yP(w:Nat):LI:=[((w/16777216%256:Nat):Int),((w/65536%256:Nat):Int),((w/256%256:Nat):Int),((w%256:Nat):Int)]
def mB(s:W8):LI:=s.l.flatMap yP
def hP(ae:LI):LI:=mB (mA (wN ae))
theorem qT{x n:Nat}(h:x<4294967296):jN x n<4294967296:=or_lt_two_pow (n:=32) (Nat.lt_of_le_of_lt (div_le_self _ _) h) (mod_lt _ U)
theorem Ts{x:Nat}(h:x<4294967296):∀(l:List Nat) (o:Nat),o<4294967296->l.foldl (fun o n=>o ^^^ jN x n) o<4294967296
 | [],_,a=>a
 | n::l,o,a=>Ts h l _ (xor_lt_two_pow (n:=32) a (qT h))
theorem A9{x:Nat}{l:List Nat}(h:x<4294967296):mz x l<4294967296:=Ts h l 0 U
theorem alK{e f g:Nat}(c:e<4294967296)(a:f<4294967296)(b:g<4294967296):vd e f g<4294967296:=
 xor_lt_two_pow (and_lt_two_pow _ a) (and_lt_two_pow (n:=32) _ b)
theorem alL{a b c:Nat}(e:b<4294967296)(d:c<4294967296):wL a b c<4294967296:=
 xor_lt_two_pow (xor_lt_two_pow (and_lt_two_pow _ e) (and_lt_two_pow _ d)) (and_lt_two_pow (n:=32) _ d)
theorem alM{x:W8}{k w:Nat}(h:x.br):(A7 x k w).br:=⟨mod_lt _ U,h.a,h.b,h.c,mod_lt _ U,h.e,h.f,h.g⟩
theorem EI{x:W8}{w:List Nat}(h:x.br):∀t,(pm w x t).br
 | 0=>h
 | t+1=>alM (EI h t)
theorem alN{x y:W8}:(yN x y).br:=⟨mod_lt _ U,mod_lt _ U,mod_lt _ U,mod_lt _ U,mod_lt _ U,mod_lt _ U,mod_lt _ U,mod_lt _ U⟩
theorem alO:A8.br:=⟨bT,bT,bT,bT,bT,bT,bT,bT⟩
theorem Ba{ae:LI}:∀n,(pZ ae n).br
 | 0=>alO
 | n+1=>alN
theorem Bb{b:LI}:∀t,(hz b t).length=t
 | 0=>rfl
 | t+1=>by show(hz b t++[_]).length=t+1;rw[length_append,Bb t];rfl
theorem qU{b:LI}(h:∀x∈b,0<=x/\x<=255)(i:Nat):(b.getD i 0).toNat<256:=by grind[getElem_mem]
theorem alP{b:LI}(h:∀x∈b,0<=x/\x<=255)(t:Nat):vc b t<4294967296:=by grind[qU,vc]
theorem alQ{b:LI}{w:List Nat}(h:∀x∈b,0<=x/\x<=255)(t:Nat):qS b w t<4294967296:=by grind[qS,alP]
theorem Bd{b:LI}(h:∀x∈b,0<=x/\x<=255):∀t,∀x∈hz b t,x<4294967296
 | 0,x,a=>by cases a
 | t+1,x,a=>by
  rcases mem_append.1 (a)with a|a
  exact Bd h t x a
  simp_all[alQ]
theorem wO{w:List Nat}(h:∀x∈w,x<4294967296)(i:Nat):w.getD i 0<4294967296:=by grind[getElem_mem]
theorem Tt{ae bl:LI}:∀n,64*n<=ae.length->pZ (ae++bl) n=pZ ae n
 | 0,_=>rfl
 | n+1,h=>by show yO (pZ (ae++bl) n) (((ae++bl).drop (64*n)).take 64)=yO (pZ ae n) ((ae.drop (64*n)).take 64);rw[Tt n U,drop_append_of_le_length U,take_append_of_le_length (by rw[length_drop];omega)]
theorem Jw{ae:LI}:(wM ae).length=ae.length%64:=by grind[wM]
theorem EJ{n:Nat}:(p0 n).length=8:=ao
theorem alR{ae:LI}:(wN ae).length%64=0:=by grind[wN,EJ,le]
theorem alS{a b c d:Nat}(h:a<256)(f:b<256)(g:c<256)(i:d<256):((a*2^24%4294967296|||b*2^16%4294967296)|||c*2^8%4294967296)|||d=16777216*a+65536*b+256*c+d:=by
 have e:∀ {x k:Nat},x<2^(32-k)->k<=32->x*2^k%4294967296=2^k*x:=by
  intro x k j l;rw[Nat.mul_comm];apply mod_eq_of_lt;have:2^k*x<2^k*2^(32-k):=Nat.mul_lt_mul_of_pos_left j (Nat.two_pow_pos k)
  rwa [<- Nat.pow_add,show k+(32-k)=32 from Nat.add_sub_cancel' l]at this
 rw[e (Nat.lt_of_lt_of_le h bT) bT,e (Nat.lt_of_lt_of_le f bT) bT,e (Nat.lt_of_lt_of_le g bT) bT];rw[<- two_pow_add_eq_or_of_lt (Nat.lt_of_lt_of_le (Nat.mul_lt_mul_of_pos_left f bT) bT)];have m:2^24*a+2^16*b=2^16*(2^8*a+b):=U
 rw[m,<- two_pow_add_eq_or_of_lt (Nat.lt_of_lt_of_le (Nat.mul_lt_mul_of_pos_left g bT) bT)];have n:2^16*(2^8*a+b)+2^8*c=2^8*(2^8*(2^8*a+b)+c):=U
 rw[n,<- two_pow_add_eq_or_of_lt (Nat.lt_of_lt_of_le i bT)]
end
section
variable[c0:cH]
variable{H K a b c aB i l d3 n o p q v w wr ab}
abbrev u32(n:Nat):Value:=bB .u32 n
theorem p1(h:p<d3):uM (dM [ad p o]) d3 aB:=by
 show uu [p] d3 aB=true
 simp_all[uu,ia]
theorem alT(h:-9223372036854775808<=n)(a:n<0):hk .u64 n=((18446744073709551616-n.natAbs:Nat):Int):=by obtain⟨m,rfl⟩:∃m:Nat,n=Int.negSucc m:=⟨n.natAbs-1,U⟩;show((18446744073709551616-1-m%18446744073709551616:Nat):Int)=_;omega
theorem alU{n:Nat}(b:a<4294967296)(e:0<n)(c:n<32)(d:K (u32 (jN a n)) H):aG P 282 [u32 a,int (-(n:Int))] H K:=by
 refine akP.1 ?_;refine bg (v:=bB .u64 (18446744073709551616-n)) (E:=H) (by
  show some (Value.int .u64 (hk .u64 (-(n:Int))),H)=_
  grind[alT]) ?_
 refine Z (v:=bB .u64 (32-n)) (by
  rw[show(Value.int .u64 31)=bB .u64 31 from rfl,rG rfl ((show _<18446744073709551616 by omega)) bT]
  congr 2
  have:(18446744073709551616-n)&&&31=(18446744073709551616-n)%32:=and_two_pow_sub_one_eq_mod _ 5;omega) ?_
 apply Z (yb rfl (show 32-n<=32 by omega));refine Z (v:=bB .u64 n) (by
  rw[show(Value.int .u64 32)=bB .u64 32 from rfl,Ia rfl U bT]
  grind) ?_
 refine Z (tF rfl (show n<=32 by omega)) (Z (wC rfl (mod_lt _ bT) (Nat.lt_of_le_of_lt (div_le_self _ _) b)) ?_);rw[Nat.or_comm];exact d
theorem EK{j:Nat}(d:a<4294967296)(f:∀n∈l,0<n/\n<32)(s:l.length<=1000)(g:ac H ab)(i:ab[j]?=some (q,(⟨l.map fun(n:Nat)=>int n,wr⟩:ef)))(m:K (u32 (mz a l)) H):
  aG P 278 [u32 a,am q 0 l.length c] H K:=by
 refine akI.1 ?_;refine bg pQ (akH (fun k e E=>E=H/\∃y:Nat,y<=l.length/\k=l.length-y/\e=[u32 a,.int .u32 0,u32 (mz a (l.take y)),am q 0 l.length c,int l.length,int y]) _ _ ?_ l.length _ _ ⟨rfl,0,U,rfl,rfl⟩);rintro k e E ⟨rfl,y,t,rfl,rfl⟩;unfold SJ;refine ul ?_
 try simp only[c1,c2]
 refine Z cV (ay (fun h=>?_) (fun h=>?_));have b:y<l.length:=U
 have⟨o,p⟩:=f _ (getElem_mem b);refine Z (ez U U) (bk g j i (v:=int (l[y]:Nat)) (by simp[b]) ?_);refine Z (v:=int (-(l[y]:Int))) (by
  show some (Value.int .i64 (hk .i64 (0-(l[y]:Int))))=_
  grind[tz]) ?_
 refine alU d o p (Z (lc rfl (A9 d) (qT d)) ?_)
 repeat refine aQ ?_
 refine⟨_,U,ao,y+1,U,rfl,?_⟩
 grind[mz,take_succ_eq_append_getElem]
 have r:y=l.length:=U
 subst r;rw[take_of_length_le (Nat.le_refl _)];exact iR rfl m
def iB(x:W8):aj:=x.l.map fun(n:Nat)=>u32 n
theorem alV:fF P 389=replicate 8 (u32 0):=ao
theorem Tu:fF P 424=replicate 64 (u32 0):=ao
theorem alW(a:ac H ab)(b:∀E p,ac E (ab++[aa p (iU.map fun(n:Nat)=>u32 n)])->K (ad p 0) E):aG P 277 [] H K:=by refine akG.1 ?_;exact Z (v:=agg (iU.map fun(n:Nat)=>u32 n)) ao (b0 a fun p E=>b E p)
theorem alX(a:ac H ab)(b:∀E,ac E ab->K (agg (iB A8)) E):aG P 259 [] H K:=by
 refine aki.1 ?_;refine b0 a fun p H a=>Z ao (dn a (ab.length+0) (al rfl) rfl rfl rfl ?_)
 intro H a
 replace a:=a.bp
 exact gQ a (ab.length+0) (al rfl) rfl U (b _ a.left)
theorem Tv(a b:Int)(H:an):(gY P 48 2).f [(0,.int .i64 a),(1,.int .i64 b)] H=some (am H.next 0 2 3,H.push [int a,int b]):=ao
theorem Tw(a b c:Int)(H:an):(gY P 48 3).f [(0,.int .i64 a),(1,.int .i64 b),(2,.int .i64 c)] H=some (am H.next 0 3 3,H.push [int a,int b,int c]):=ao
def jv(w:List Nat):aj:=(w.map fun(n:Nat)=>u32 n)++replicate (64-w.length) (u32 0)
theorem yQ(h:w.length<=64):(jv w).length=64:=by grind[jv]
theorem Be(h:i<w.length):(jv w)[i]?=some (u32 (w.getD i 0)):=by simp_all[jv,getElem?_append_left]
theorem alY(h:w.length<64):(jv w).set w.length (u32 n)=jv (w++[n]):=by
 unfold jv;simp;obtain⟨m,a⟩:∃m,64-w.length=m+1:=⟨63-w.length,U⟩
 grind
theorem Tx:(jv w).all dx=true:=by simp[jv,dx,nj]
theorem sH{i:Int}{n:Nat}(d:ac H ab)(h:bx ab v b)(f:∀x∈b,0<=x/\x<=255)(g:i=n)(aB:n<b.length)(a:K (bB .u8 (b.getD n 0).toNat) H):bD (vN 1 v (int i)) fun t=>a7 (db t H) K:=by
 obtain⟨p,o,c,j,ic,rfl,k,l⟩:=h.at aB;subst g;apply Z (ez U U);rw[Int.toNat_natCast,Nat.mul_one];apply bk d j k l;have e:b.getD n 0=b[n]:=a1
 rw[e]at a;have:=f _ (getElem_mem aB);have m:(Value.int .u8 b[n])=bB .u8 (b[n]).toNat:=ye this.1;rw[m];exact a
theorem alZ(a:ac H ab)(s:bx ab v b)(g:∀x∈b,0<=x/\x<=255)(gA:b.length=64)(N:∀E,ac E ab->K (agg (jv (hz b 64))) E):aG P 276 [v] H K:=by
 refine akF.1 ?_;rw[Tu];refine b0 a ?_;intro ax H a;refine b0 a ?_;intro c H a;rw[append_assoc]at a
 replace a:ac H (ab++[aa ax (replicate 64 (u32 0)),aa c (jv [])]):=a
 refine akE (fun k F E=>∃(y:Nat) (p:LB),y<=64/\k=64-y/\F=[v,ad ax 0,ad c 0,int y]/\ac E (ab++([aa ax (replicate 64 (u32 0)),aa c (jv (hz b y))]++p))) _ _ ?_ 64 _ _ ⟨0,[],U,rfl,rfl,by rw[append_nil];exact a⟩;rintro k F H ⟨y,p,fS,rfl,rfl,a⟩;unfold SH;refine ul ?_
 try simp only[c1,c2]
 have S:=Bb (b:=b) y;have yR:∀ {w:List Nat} {R R2:LB},((ab++([aa ax (replicate 64 (u32 0)),aa c (jv w)]++R))++R2)[ab.length+1]?=some (aa c (jv w)):=ak (al rfl);have m:∀ {w:List Nat} {R:LB},(ab++([aa ax (replicate 64 (u32 0)),aa c (jv w)]++R))[ab.length+1]?=some (aa c (jv w)):=al rfl;refine Z cV (ay (fun h=>?_) (fun h=>?_));have r:∀ {E:an} {R:LB} {n:Nat},n=qS b (hz b y) y->ac E ((ab++([aa ax (replicate 64 (u32 0)),aa c (jv (hz b y))]++R)).set (ab.length+1) (aa c ((jv (hz b y)).set (0+y*1) (u32 n))))->ac E (ab++([aa ax (replicate 64 (u32 0)),aa c (jv (hz b (y+1)))]++R)):=by
  intro E R n I aH;have J:=aH.bp;subst I;have e:(jv (hz b y)).set (0+y*1) (u32 (qS b (hz b y) y))=jv (hz b (y+1)):=by grind[alY,hz]
  rw[e]at J;exact J
 refine Z cV (ay (fun z=>?_) (fun z=>?_));have L:=qU g (4*y);have V:=qU g (4*y+1);have W:=qU g (4*y+2);have g3:=qU g (4*y+3);have t:(cz P .mul 3 true).f (.int .i64 4) (int y)=some (int ((4*y:Nat):Int)):=by grind[su]
 refine Z t (sH a s.app g rfl U (bg (qI rfl) ?_));rw[show∀n,n<256->n%fw .u32=n from fun n I=>mod_eq_of_lt (show n<4294967296 by omega)]<;>try exact L
 refine Z (yb rfl bT) (Z t (Z (f2 U U) (sH a s.app g (n:=4*y+1) U U (bg (qI (eF:=.u32) rfl) ?_))));rw[mod_eq_of_lt (show(b.getD (4*y+1) 0).toNat<fw .u32 from(show _<4294967296 by omega))];refine Z (yb (k:=.u32) (n:=16) rfl bT) (Z (wC (k:=.u32) rfl (mod_lt _ bT) (mod_lt _ bT)) (Z t (Z (f2 U U) (sH a s.app g (n:=4*y+2) U U (bg (qI (eF:=.u32) rfl) ?_)))));rw[mod_eq_of_lt (show(b.getD (4*y+2) 0).toNat<fw .u32 from(show _<4294967296 by omega))];refine Z (yb (k:=.u32) (n:=8) rfl bT) (Z (wC (k:=.u32) rfl (or_lt_two_pow (n:=32) (mod_lt _ bT) (mod_lt _ bT)) (mod_lt _ bT)) (Z t (Z (f2 U U) (sH a s.app g (n:=4*y+3) U U (bg (qI (eF:=.u32) rfl) ?_)))));rw[mod_eq_of_lt (show(b.getD (4*y+3) 0).toNat<fw .u32 from(show _<4294967296 by omega))];refine Z (wC (k:=.u32) rfl (or_lt_two_pow (n:=32) (or_lt_two_pow (n:=32) (mod_lt _ bT) (mod_lt _ bT)) (mod_lt _ bT)) (show _<4294967296 by omega)) (Z (eo U U) ?_);rw[Int.toNat_natCast];refine cQ a (ab.length+1) m rfl (by grind[yQ]) rfl ?_;intro H a
 replace a:=r (R:=p) (by unfold qS vc;rw[if_pos U];exact alS L V W g3) a
 repeat refine aQ ?_
 exact⟨_,U,y+1,p,U,rfl,rfl,a⟩;have d:∀i,(hz b y).getD i 0<4294967296:=wO (Bd g y);have B:c<H.next:=a.lt (aa c (jv (hz b y))) (mem_of_getElem? m);have u:∀ {C:an} {R:LB} {o:Nat},ac C ((ab++([aa ax (replicate 64 (u32 0)),aa c (jv (hz b y))]++p))++R)->iP (ik C C) (dM [ad c o]):=fun M=>jf M M Tx
 refine Z (iS U U) (Z (eo U U) ?_);rw[show((y:Int)-15).toNat=y-15 by omega];refine aD a (v:=u32 ((hz b y).getD (y-15) 0)) (by grind[Be]) (Z (iS U U) (Z (eo U U) ?_));rw[show((y:Int)-2).toNat=y-2 by omega];refine aD a (v:=u32 ((hz b y).getD (y-2) 0)) (by grind[Be]) (Z (iS U U) (Z (eo U U) ?_));rw[show((y:Int)-16).toNat=y-16 by omega];refine aD a (v:=u32 ((hz b y).getD (y-16) 0)) (by grind[Be]) (el a (Tv _ _ _) ?_);intro q H a;refine EK (l:=[7,18]) (d _) a1 aW a (j:=_+0) (al rfl) (⟨u a,?_⟩);refine Z (tF (k:=.u32) (n:=3) rfl bT) (Z (lc (k:=.u32) rfl (A9 (d _)) (Nat.lt_of_le_of_lt (div_le_self _ _) (d _))) (Z (ph (k:=.u32) rfl) (Z (iS U U) (Z (eo U U) ?_))));rw[show((y:Int)-7).toNat=y-7 by omega];refine aD a (v:=u32 ((hz b y).getD (y-7) 0)) (by grind[Be]) (⟨u a,p1 B,?_⟩);refine Z (ph (k:=.u32) rfl) (el a (Tv _ _ _) ?_);intro q2 H a;refine EK (l:=[17,19]) (d _) a1 aW a (j:=_+0) (al rfl) ?_;rw[append_assoc (ab++_)]at a;refine⟨u a,u a,?_⟩;refine Z (tF (k:=.u32) (n:=10) rfl bT) (Z (lc (k:=.u32) rfl (A9 (d _)) (Nat.lt_of_le_of_lt (div_le_self _ _) (d _))) (Z (ph (k:=.u32) rfl) (Z (eo U U) ?_)))
 rw[Int.toNat_natCast];rw[append_assoc ab,append_assoc [_,_]]at a;refine cQ a (ab.length+1) m rfl (by grind[yQ]) rfl ?_;intro H a
 replace a:=r (R:=_) (by
  unfold qS;rw[if_neg U];generalize mz ((hz b y).getD (y-15) 0) [7,18] ^^^ (hz b y).getD (y-15) 0/2^3=X;generalize mz ((hz b y).getD (y-2) 0) [17,19] ^^^ (hz b y).getD (y-2) 0/2^10=Y;have al0:fw .u32=4294967296:=rfl
  simp_all) a
 repeat refine aQ ?_
 exact⟨_,U,y+1,_,U,rfl,rfl,a⟩;have tP:y=64:=U
 subst tP;refine iR rfl ?_
 try simp only[c1,c2]
 refine bK a (yQ U) U (dn a (ab.length+0) (al rfl) aW (yQ U) (by simp[jv,cS]) ?_);intro H a
 replace a:=a.bp
 exact gQ a (ab.length+0) (al rfl) (yQ U) U (N _ a.left)
end
section
variable[c0:cH]
variable{H K eR dF c mv ag i n gm o cP yS ax jw yT e4 q s gf ab}
theorem al1(b:ac H ab)(aB:ab[i]?=some (aa q ag))(d:gm<=n)(m:0<gm)(p:o+n<=ag.length)(e:cP+gm<=ag.length)(r:ag.all cS=true)
  (f:∀E,ac E (ab.set i (aa q (ag.take o++((ag.drop cP).take gm++ag.drop (o+gm)))))->K (int gm) E):a7 (nJ 1 (am q o n c) (am q cP gm mv) H) K:=by
 have a:((ag.drop cP).take gm).length=gm:=aT
 have⟨E,g,ah⟩:=AF b (o:=o) (vs:=(ag.drop cP).take gm) aB U aT;unfold nJ;simp only[show kr (am q cP gm mv)=some gm from rfl];have h:Nat.min gm n=gm:=Nat.min_eq_left d;rw[h];have j:beq gm 0=false:=by grind[eq_of_beq_eq_true]
 rw[j];have k:=b.at i aB (.inl rfl);have l:m5 H 1 gm (am q cP gm mv)=some ((ag.drop cP).take (gm*1)):=tA k a1;rw[l,Nat.mul_one];simp only;rw[g];apply bg (rfl);rw[a]at ah;exact f _ ah
theorem al2(x:W8):(iB x).all dx=true:=rfl
theorem EL(x:W8):(iB x).all cS=true:=rfl
theorem al3:(iU.map fun(n:Nat)=>u32 n).all dx=true:=ao
theorem al4(h:i<64):(iU.map fun(n:Nat)=>u32 n)[i]?=some (u32 (iU.getD i 0)):=by
 have a:iU.length=64:=rfl
 grind
theorem al5(i:Nat):iU.getD i 0<4294967296:=wO bT i
theorem al6(x:W8)(k w:Nat):
  ((((x.h+mz x.e [6,11,25])%4294967296+vd x.e x.f x.g)%4294967296+k)%4294967296+w)%4294967296=tO x k w:=by
 simp_all[tO]
theorem al7{Ty:Nat}{B:Nat}(ah:s.br)(fp:∀x∈gf,x<4294967296)(axi:gf.length=64)(iL:ab[Ty]?=some (aa yT (jv gf)))(C:ab[B]?=some (aa yS (iU.map fun(n:Nat)=>u32 n)))
  (i:ac H (ab++[aa e4 (iB s)])) (fD:∀E bL,ac E ((ab++[aa e4 (iB (pm gf s 64))])++bL)->dF 0 [ad ax 0,ad jw 0,ad e4 0] E):
  i7 P true 97 I6 148 [ad ax 0,ad jw 0,ad yT 0,ad yS 0,ad e4 0,int 0] H dF eR:=by
 refine akj (fun k bN E=>∃(y:Nat) (bL:LB),y<=64/\k=64-y/\bN=[ad ax 0,ad jw 0,ad yT 0,ad yS 0,ad e4 0,int y]/\ac E ((ab++[aa e4 (iB (pm gf s y))])++bL)) _ _ ?_ 64 _ _ ⟨0,[],U,rfl,rfl,by rw[append_nil];exact i⟩;rintro k bN H ⟨y,bL,fS,rfl,rfl,i⟩;unfold SC;refine ul ?_
 try simp only[c1,c2]
 refine Z cV (ay (fun h=>?_) (fun h=>?_))
 rotate_left
 ·have tP:y=64:=U
  subst tP;exact fD _ _ i
 have m:=EI (w:=gf) ah y;have al8:gf.getD y 0<4294967296:=wO fp y;have aX:pm gf s (y+1)=A7 (pm gf s y) (iU.getD y 0) (gf.getD y 0):=rfl;generalize pm gf s y=x at*;have M:∀ {R:LB},(((ab++[aa e4 (iB x)])++bL)++R)[ab.length+0]?=some (aa e4 (iB x)):=ak (ak (al rfl));have N:((ab++[aa e4 (iB x)])++bL)[ab.length+0]?=some (aa e4 (iB x)):=ak (al rfl);have S:∀ {R:LB},(((ab++[aa e4 (iB x)])++bL)++R)[Ty]?=some (aa yT (jv gf)):=ak (ak (ak iL));have z:∀ {R:LB},(((ab++[aa e4 (iB x)])++bL)++R)[B]?=some (aa yS (iU.map fun(n:Nat)=>u32 n)):=ak (ak (ak C));have F:e4<H.next:=i.lt _ (mem_of_getElem? N);have V:yT<H.next:=i.lt _ (mem_of_getElem? (ak (ak iL)));have I:yS<H.next:=i.lt _ (mem_of_getElem? (ak (ak C)));have p:∀ {t:an} {R:LB} {o:Nat},ac t (((ab++[aa e4 (iB x)])++bL)++R)->iP (ik t t) (dM [ad e4 o]):=fun u=>jf u u (al2 x)
 have W:∀ {t:an} {R:LB} {o:Nat},ac t (((ab++[aa e4 (iB x)])++bL)++R)->iP (ik t t) (dM [ad yT o]):=fun u=>gw u _ S u _ S Tx
 have J:∀ {t:an} {R:LB} {o:Nat},ac t (((ab++[aa e4 (iB x)])++bL)++R)->iP (ik t t) (dM [ad yS o]):=fun u=>gw u _ z u _ z al3
 have K:fw .u32=4294967296:=rfl;refine Z (eo U U) (aD i (v:=u32 x.a) rfl (Z (eo U U) (aD i (v:=u32 x.e) rfl (Z (eo U U) (aD i (v:=u32 x.h) rfl (el i (Tw _ _ _ _) ?_))))));intro q e1 i;refine EK (l:=[6,11,25]) m.e a1 aW i (j:=_+0) (al rfl) (⟨p i,?_⟩);refine Z (ph (k:=.u32) rfl) (Z (eo U U) (aD i (v:=u32 x.f) rfl (⟨p i,p1 F,?_⟩)));refine Z (rG (k:=.u32) rfl m.e m.f) (Z (adn (k:=.u32) rfl m.e) (Z (eo U U) (aD i (v:=u32 x.g) rfl (⟨p i,p1 F,?_⟩))));have X:fw .u32-1-x.e<fw .u32:=U
 refine Z (rG (k:=.u32) rfl X m.g) (Z (lc (k:=.u32) rfl (and_lt_two_pow (n:=32) _ m.f) (and_lt_two_pow (n:=32) _ m.g)) (Z (ph (k:=.u32) rfl) (Z Pn (Z (eo U U) ?_))));rw[Int.toNat_natCast];refine bk i _ z (v:=u32 (iU.getD y 0)) (by grind[al4]) (⟨J i,p1 I,?_⟩);refine Z (ph (k:=.u32) rfl) (Z (eo U U) ?_);rw[Int.toNat_natCast];refine bk i _ S (v:=u32 (gf.getD y 0)) (by grind[Be]) (⟨W i,p1 V,?_⟩);refine Z (ph (k:=.u32) rfl) ?_;have L:=al6 x (iU.getD y 0) (gf.getD y 0);rw[K,show(x.e&&&x.f) ^^^ ((4294967296-1-x.e)&&&x.g)=vd x.e x.f x.g from rfl,L];have r:e4<e1.next:=i.lt _ (mem_of_getElem? M);refine el i (Tw _ _ _ _) ?_;intro q2 oA i;refine EK (l:=[2,13,22]) m.a a1 aW i (j:=_+0) (al rfl) ?_;rw[append_assoc (_++bL)]at i;refine Z (eo U U) (aD i (v:=u32 x.b) rfl (⟨p i,p1 r,?_⟩));refine Z (rG (k:=.u32) rfl m.a m.b) (Z (eo U U) (aD i (v:=u32 x.c) rfl (⟨p i,p1 r,?_⟩)));refine Z (rG (k:=.u32) rfl m.a m.c) (Z (lc (k:=.u32) rfl (and_lt_two_pow (n:=32) _ m.b) (and_lt_two_pow (n:=32) _ m.c)) (Z (eo U U) (aD i (v:=u32 x.b) rfl (⟨p i,p1 r,?_⟩))));refine Z (eo U U) (aD i (v:=u32 x.c) rfl (⟨p i,p1 r,?_⟩))
 refine Z (rG (k:=.u32) rfl m.b m.c) (Z (lc (k:=.u32) rfl (xor_lt_two_pow (n:=32) (and_lt_two_pow (n:=32) _ m.b) (and_lt_two_pow (n:=32) _ m.c)) (and_lt_two_pow (n:=32) _ m.c)) (Z (ph (k:=.u32) rfl) ?_));rw[K,show((x.a&&&x.b) ^^^ (x.a&&&x.c)) ^^^ (x.b&&&x.c)=wL x.a x.b x.c from rfl,show(mz x.a [2,13,22]+wL x.a x.b x.c)%4294967296=EH x from rfl];have hg:=i.at _ M (.inl rfl);refine Z (show qr 8 1 (ad e4 0) (some (int 1)) none none oA=some (am e4 1 7 3) by unfold qr;simp only[hg];rfl) (Z (show qr 8 1 (ad e4 0) none (some (int 7)) none oA=some (am e4 0 7 2) by unfold qr;simp only[hg];rfl) (al1 i M U U (show 1+7<=8 by omega) (show 0+7<=8 by omega) (EL x) ?_));intro yF i;have Jx:∀ {c bC:aj} {R:LB},((((ab++[aa e4 c])++bL)++R).set (ab.length+0) (aa e4 bC))=(((ab++[aa e4 bC])++bL)++R):=a1
 have Tz:∀ {c:aj} {R:LB},(((ab++[aa e4 c])++bL)++R)[ab.length+0]?=some (aa e4 c):=ak (ak (al rfl));rw[Jx]at i;refine Z (eo U U) (aD i (v:=u32 x.d) rfl (Z (ph (k:=.u32) rfl) (Z (eo U U) (cQ i _ Tz rfl (show 4<8 by omega) (show _=[u32 x.a,u32 x.a,u32 x.b,u32 x.c,u32 ((x.d+tO x (iU.getD y 0) (gf.getD y 0))%4294967296),u32 x.e,u32 x.f,u32 x.g]from rfl) ?_))));intro axj i;rw[Jx]at i;refine Z (ph (k:=.u32) rfl) (Z (eo U U) (cQ i _ Tz rfl (show 0<8 by omega) (show _=iB (A7 x (iU.getD y 0) (gf.getD y 0))from rfl) ?_));intro wG i;rw[Jx]at i
 repeat refine aQ ?_
 rw[append_assoc (ab++_),<- aX]at i;exact⟨64-(y+1),U,y+1,_,U,rfl,rfl,i⟩
end
section
variable[c0:cH]
variable{H K eR dF R T a b i ax jw e4 s v y ab}
theorem TA{l:aj}(h:l[i]?=some v):i<l.length:=(List.getElem?_eq_some_iff.1 h).1
def oO(a b:List Nat)(y:Nat):List Nat:=(range a.length).map fun i=>if i<y then(a.getD i 0+b.getD i 0)%4294967296 else a.getD i 0
theorem TB:(oO a b y).length=a.length:=by simp_all[oO]
theorem EM(h:i<a.length):(oO a b y)[i]?=some (if i<y then(a.getD i 0+b.getD i 0)%4294967296 else a.getD i 0):=by simp_all[oO]
theorem TC(h:y<a.length):(oO a b y).set y ((a.getD y 0+b.getD y 0)%4294967296)=oO a b (y+1):=by
 apply ext_getElem?;intro i;rw[getElem?_set];by_cases aB:i<a.length;rw[EM aB,EM aB];by_cases c:y=i
 simp_all[TB]
 grind
 simp_all[TB]
theorem al9:oO s.l R.l 8=(yN s R).l:=rfl
theorem ama(d:T[2]?=some (aa e4 (iB R)))
  (a:ac H (ab++([aa ax (iB s),aa jw (replicate 8 (u32 0))]++T)))
  (e:∀E,ac E (ab++([aa ax (iB (yN s R)),aa jw (replicate 8 (u32 0))]++T))->dF 2 [ad ax 0,ad jw 0] E):
  i7 P true 97 I7 20 [ad ax 0,ad jw 0,ad e4 0,int 0] H dF eR:=by
 refine akk (fun k b E=>∃(y:Nat),y<=8/\k=8-y/\b=[ad ax 0,ad jw 0,ad e4 0,int y]/\ac E (ab++([aa ax ((oO s.l R.l y).map fun(n:Nat)=>u32 n),aa jw (replicate 8 (u32 0))]++T))) _ _ ?_ 8 _ _ ⟨0,U,rfl,rfl,a⟩;rintro k b H ⟨y,q,rfl,rfl,a⟩;unfold SD;refine ul ?_;have f:s.l.length=8:=rfl;have g:R.l.length=8:=rfl;refine Z cV (ay (fun h=>?_) (fun h=>?_));have i:y<8:=U
 have j:fw .u32=4294967296:=rfl;have c:((oO s.l R.l y).map fun(n:Nat)=>u32 n)[0+y*1]?=some (u32 (s.l.getD y 0)):=by simp_all[EM]
 have m:(iB R)[0+y*1]?=some (u32 (R.l.getD y 0)):=by simp_all[iB]
 have o:((oO s.l R.l y).map fun(n:Nat)=>u32 n).set (0+y*1) (u32 ((s.l.getD y 0+R.l.getD y 0)%4294967296))=(oO s.l R.l (y+1)).map fun(n:Nat)=>u32 n:=by grind[TC,map_set]
 refine Z (eo U U) (aD a c (Z (eo U U) (bk a _ (al (al d)) m (Z (ph rfl) (Z (eo U U) (cQ a (ab.length+0) (al rfl) rfl (TA c) o ?_))))));intro H a
 replace a:=a.bp
 repeat refine aQ ?_
 exact⟨_,U,y+1,U,rfl,rfl,a⟩;have p:y=8:=U
 subst p;exact e _ a
theorem amb(ah:s.br)(a:ac H ab)(l:bx ab v b)(f:∀x∈b,0<=x/\x<=255)(m:b.length=64)(o:∀E,ac E ab->K (agg (iB (yO s b))) E):aG P 260 [agg (iB s),v] H K:=by
 refine akl.1 ?_;apply b0 a;intro ax H a;rw[alV];apply b0 a;intro p H a;rw[append_assoc]at a;refine alZ a l.app f m fun H a=>alW a ?_
 intro H c a;rw[Tu];apply b0 a;intro g H a;have d:(hz b 64).length=64:=Bb 64;apply dn a (_+0) (al rfl) aW (yQ U) (by simp[jv,cS]);intro H a
 replace a:=a.bp
 refine bK a rfl U (b0 a (fun e H a=>dn a (_+0) (al rfl) aW rfl (EL s) ?_));intro H a
 replace a:=a.bp
 refine al7 ah (Bd f 64) d (al (k:=0) rfl) (ak (al (k:=0) rfl)) a fun H h a=>iR rfl ?_
 generalize ar:pm (hz b 64) s 64=R at*;have q:yO s b=yN s R:=by simp_all[yO]
 replace a:ac H (ab++([aa ax (iB s),aa p (replicate 8 (u32 0))]++([aa c (iU.map fun(n:Nat)=>u32 n)]++([aa g (jv (hz b 64))]++([aa e (iB R)]++h))))):=by have i:=a;simp[append_assoc]at i;exact i
 obtain⟨T,j⟩:∃T,T=([aa c (iU.map fun(n:Nat)=>u32 n)]++([aa g (jv (hz b 64))]++([aa e (iB R)]++h))):=⟨_,rfl⟩;have r:T[2]?=some (aa e (iB R)):=by rw[j];rfl
 rw[<- j]at a;apply ama r a;intro H a;rw[<- q]at a;refine(bK a rfl U (dn a (ab.length+1) (al rfl) rfl rfl (EL _) ?_));intro H a
 replace a:=a.bp
 exact gQ a (ab.length+1) (al rfl) rfl U (o _ a.left)
end
section
variable[c0:cH]
variable{H:an}{ab:LB}{K:VH}{v w x:Value}{ae bl jx b:LI}{j p aS:Nat}{e:Int}{ag:aj}
def nV(v:Value)(ae:LI)(ag:aj):Prop:=
 (v=aA/\ae=[]/\ag=[])\/∃p o,(v=am p o ae.length 2\/v=am p o ae.length 3)/\(ag.drop o).take ae.length=aN ae/\o+ae.length<=ag.length/\ag.all dx=true
theorem dm.o(h:dm v ae ag):nV v ae ag:=by
 rcases h with h|⟨p,b,c,d,a⟩
 exact .inl h;refine .inr ⟨p,0,?_,a1,U,a⟩
 grind
theorem nV.gd(h:nV v ae ag):bx (aw v ag) v ae:=by
 rcases h with⟨rfl,rfl,_⟩|⟨p,o,a|a,b,c,d⟩
 exact .nil;subst a;exact .inr ⟨p,o,2,rfl,.inl rfl,.inr ⟨0,⟨ag,true⟩,rfl,b⟩⟩;subst a;exact .inr ⟨p,o,3,rfl,.inr rfl,.inr ⟨0,⟨ag,true⟩,rfl,b⟩⟩
theorem amc(a:ac H (ab++aw v ag))(c:nV v ae ag)(i:bx ab x bl)(n:ae.length+bl.length<=1000000000)
  (d:∀E ap bI,ac E (ab++aw ap bI)->nV ap (ae++bl) bI->K ap E):a7 (dj 1 1 v x H) K:=by
 rcases c with⟨rfl,rfl,rfl⟩|⟨p,o,c,j,q,r⟩
 exact oL a .nil i n fun E ap bI k j=>d E ap bI k (dm.o j)
 unfold dj;simp only[i.kr,i.app.l9 a];by_cases s:bl=[];subst s;rw[append_nil]at d;have e:pF 1 1 v ([]:aj) 0 H=some (v,H):=by rcases c with rfl|rfl<;>rfl
 exact bg (e) (d _ _ _ a (.inr ⟨p,o,c,j,q,r⟩));have f:beq bl.length 0=false:=by grind[eq_of_beq_eq_true]
 have k:(aN bl).all cS=true:=by simp[cS]
 have b:∀p,nV (am p 0 (ae.length+bl.length) 2) (ae++bl) (aN ae++aN bl):=fun p=>by
  refine .inr ⟨p,0,.inl a1,?_,aW,by simp[dx,nj]⟩
  grind
 unfold pF;have l:aw v ag=[aa p ag]:=by rcases c with rfl|rfl<;>rfl
 rw[l]at a;have m:(ab++[aa p ag])[ab.length]?=some (aa p ag):=aW
 have g:=a.at _ m (.inl rfl);rcases c with rfl|rfl
 have h:=a.fH m;have t:(ab++[aa p ag]).eraseIdx ab.length=ab:=aT
 rw[t]at h;simp only[f,Bool.false_eq_true,if_false];rw[if_pos (sw U U)];unfold vK;rw[g];have e:(an.lY H p ⟨ag,true⟩&&(ble (o+ae.length*1) (e6 ag)&&hH cS (aN bl)))=true:=by unfold an.lY;rw[a.cj,f0,ia,k,kI,kI,decide_eq_true (by omega:o+ae.length*1<=ag.length)];simp
 simp only[e];have u:gx (nI (m3 ag (o+ae.length*1)) o) (aN bl)=aN ae++aN bl:=by simp_all[gM,lk,kH,drop_take]
 rw[u];exact bg (rfl) (d _ _ _ (h.push _) (b _));simp only[f,Bool.false_eq_true,if_false];rw[if_pos (sw U U)];unfold uo;have w:(if beq ae.length 0=true then some []else o2 H p o (ae.length*1))=some (aN ae):=by simp_all[vY,ta,kH,lk,f0]
 rw[w];simp only[gM];exact bg (rfl) (d _ _ _ (a.left.push _) (b _))
theorem EN{len n:Nat}(h:n<=len):mo len (some (int (n:Int)))=some n:=by
 show(match hq 0 (n:Int)with|true=>(match ble (n:Int).toNat len with|true=>some (n:Int).toNat|false=>none)|false=>none)=_
 simp_all[i0,ble_eq_true_of_le]
theorem amd(h:nV v ae ag){n:Nat}(e:n<=ae.length)(i:0<n):∃ap,hX 1 v (some (int n)) none none=some ap/\nV ap (ae.drop n) ag/\aw ap ag=aw v ag:=by
 rcases h with⟨rfl,rfl,_⟩|⟨p,o,f,g,j,b⟩
 simp_all
 have k:=EN e;have a:∀c,(c=2\/c=3)->hX 1 (am p o ae.length c) (some (int n)) none none=some (am p (o+n) (ae.length-n) c):=by simp_all[hX,lC,nK,nL]
 have d:(ag.drop (o+n)).take (ae.drop n).length=aN (ae.drop n):=by
  have:=congrArg (drop n) g;rw[drop_take,drop_drop]at this
  simp_all
 rcases f with rfl|rfl
 exact⟨_,a 2 (.inl rfl),.inr ⟨p,o+n,.inl a1,d,aT,b⟩,rfl⟩;exact⟨_,a 3 (.inr rfl),.inr ⟨p,o+n,.inr a1,d,aT,b⟩,rfl⟩
def sI(s:W8)(fU:Value)(n:Nat):aj:=iB s++[fU,bB .u64 n]
abbrev lu(aS:Nat)(s:W8)(fU:Value)(n:Nat)(ag:aj):LB:=[aa aS (sI s fU n)]++aw fU ag
theorem Jy(h:nV v ae ag):∃a n c,v=.slice a n c:=by rcases h with⟨rfl,_⟩|⟨p,o,rfl|rfl,_⟩<;>exact⟨_,_,_,rfl⟩
theorem kP{a b:LI}(c:∀x∈a,0<=x/\x<=255)(d:∀x∈b,0<=x/\x<=255):∀x∈a++b,0<=x/\x<=255:=fun x e=>aT
theorem ame{fU:Value}(a:ac H (ab++lu aS (mA ae) fU ae.length ag))(b:nV fU (wM ae) ag)(o:bx ab w bl)(e:∀x∈ae,0<=x/\x<=255)(q:∀x∈bl,0<=x/\x<=255)(V:ae.length<=100000000)(r:bl.length<=100000000)
  (s:∀E d bI,ac E (ab++lu aS (mA (ae++bl)) d (ae++bl).length bI)->nV d (wM (ae++bl)) bI->K (.tuple [].toArray) E):aG P 235 [ad aS 0,w] H K:=by
 refine ajV.1 ?_;rw[<- append_assoc]at a;refine ai (aD a rfl (bg o.aZ (bg (yd U U) ?_)));rw[Int.toNat_natCast];refine Z (ph rfl) ?_;rw[mod_eq_of_lt (show ae.length+bl.length<fw .u64 from(show _<18446744073709551616 by omega))];refine ai (cQ a (ab.length+0) (ak (al rfl)) rfl (show 9<10 by omega) (rfl) ?_);intro H a;rw[set_append_left _ _ aW,Go.Ab.bp]at a
 replace a:ac H ((ab++[aa aS (sI (mA ae) fU _)])++aw fU ag):=a
 refine ai (aD a rfl ?_);have t:=Jw (ae:=ae);refine amc a b o.app U ?_;intro H f g a c;refine ai ?_;obtain⟨u,v,y,i⟩:=Jy c;refine cQ a (ab.length+0) (ak (al rfl)) (by rw[i];rfl) (show 8<10 by omega) (rfl) ?_;intro H a;rw[set_append_left _ _ aW,Go.Ab.bp]at a
 replace a:=a
 have j:(ae++bl).length=ae.length+bl.length:=length_append;have z:=kP e q;have B:mA ae=pZ (ae++bl) (ae.length/64):=(Tt _ U).symm;have C:wM ae++bl=(ae++bl).drop (64*(ae.length/64)):=by grind[wM]
 rw[B]at a;rw[C]at c;rw[<- j]at a;generalize F:ae++bl=jx at*;refine ajU (fun k p E=>∃(m:Nat) (fU:Value) (ag:aj),64*m<=jx.length/\k=jx.length/64-m/\p=[ad aS 0]/\ac E ((ab++[aa aS (sI (pZ jx m) fU jx.length)])++aw fU ag)/\nV fU (jx.drop (64*m)) ag) _ _ ?_ (jx.length/64-ae.length/64) _ _ ⟨ae.length/64,f,g,U,rfl,rfl,a,c⟩;rintro k p H ⟨m,fU,ag,W,rfl,rfl,a,b⟩;unfold Su;refine ul ?_
 try simp only[c1,c2]
 refine ai (aD a rfl (bg b.gd.aZ (Z kM ?_)));rw[length_drop];refine ay (fun h=>?_) (fun h=>?_);refine ai (mg a (rfl) rfl U (ai (aD a rfl ?_)));obtain⟨I,J,L⟩:=qP (n:=64) b.gd aT;refine Z J ?_;have l:bx ((ab++[aa aS (sI (pZ jx m) fU jx.length)])++aw fU ag) I ((jx.drop (64*m)).take 64):=(L _ b.gd).app';refine amb (Ba m) a l (fun x e=>z x (mem_of_mem_drop (mem_of_mem_take e))) aT ?_;intro H a;refine ai (kx a (ab.length+0) (ak (al rfl)) (rfl) (show 0+8<=10 by omega) (EL _) ?_);intro H a;rw[set_append_left _ _ aW,Go.Ab.bp]at a
 replace a:ac H ((ab++[aa aS (sI (pZ jx (m+1)) fU jx.length)])++aw fU ag):=a
 refine ai (aD a rfl ?_);obtain⟨M,N,fN,X⟩:=amd (n:=64) b aT U;refine Z N (ai ?_);obtain⟨u,v,y,i⟩:=Jy fN;refine cQ a (ab.length+0) (ak (al rfl)) (by rw[i];rfl) (show 8<10 by omega) (show _=sI (pZ jx (m+1)) M jx.length from rfl) ?_
 grind[drop_drop]
 have S:m=jx.length/64:=U
 subst S;refine(s H fU ag ?_ b);rw[<- append_assoc];exact a
theorem amf(s:W8)(a:Option Addr)(n c:Nat)(m:Nat):(eg P 391).f [(0,agg (iB s)),(1,.slice a n c),(2,bB .u64 m)]=some (agg (sI s (.slice a n c) m)):=ao
theorem amg(s:W8):(eg P 391).f [(0,agg (iB s))]=some (agg (sI s aA 0)):=ao
theorem EO(a:ac H ab)(b:∀E aS,ac E (ab++lu aS (mA []) aA ([]:LI).length [])->K (ad aS 0) E):aG P 234 [] H K:=by refine ajT.1 ?_;exact alX a fun H a=>Z (amg _) (b0 a (fun aS H a=>b H aS a))
theorem ac.ve{i j p q:Nat}{b cA:ef}(h:ac H ab)(aB:ab[i]?=some (p,b))(g:ab[j]?=some (q,cA))(a:i≠j):p≠q:=by
 intro e;have d:(ab.map (·.1))[i]?=some p:=a1
 have f:(ab.map (·.1))[j]?=some p:=a1
 have c:i<(ab.map (·.1)).length:=aT
 exact a ((getElem?_inj c h.pf).1 (d.trans f.symm))
theorem TD{p o:Nat}{fU:Value}{bA:aj}(c:ac H ((ab++[aa p bA])++aw fU ag))(a:nV fU ae ag):pP (dM [ad p o]) (dM [.slice none 0 0,fU])/\pP (dM [.slice none 0 0,fU]) (dM [ad p o]):=by
 rcases a with⟨rfl,_,_⟩|⟨q,cP,a,_⟩
 exact⟨(by first|rfl|trivial),(by first|rfl|trivial)⟩;have b:aw fU ag=[aa q ag]:=by rcases a with rfl|rfl<;>rfl
 rw[b]at c;have d:=ac.ve c (i:=ab.length+0) (j:=(ab++[aa p bA]).length+0) (ak (al rfl)) (al rfl) aW;have e:beq p q=false:=by grind[eq_of_beq_eq_true]
 have f:beq q p=false:=by grind[eq_of_beq_eq_true]
 rcases a with rfl|rfl
 exact⟨by show lj [p] [q]=true;grind[lj,ia,om],by show lj [q] [p]=true;grind[lj,ia,om]⟩;exact⟨by show lj [p] [q]=true;grind[lj,ia,om],by show lj [q] [p]=true;grind[lj,ia,om]⟩
end
section
variable[c0:cH]
variable{H K bs c ag i m n aS q fU s w x ae ab bL}
theorem amh(a:ac H ((ab++lu aS s fU n ag)++bL))(f:nV fU ae ag)(u:ae.length<=1000000000)
  (v:∀E b c bI,ac E (((ab++lu aS s fU n ag)++bL)++lu b s c n bI)->nV c ae bI->K (ad b 0) E):aG P 251 [ad aS 0] H K:=by
 refine aj8.1 ?_;have q:ac H ((ab++[aa aS (sI s fU n)])++aw fU ag):=by rw[append_assoc];exact a.left
 have d:=TD (o:=9) q f;have e:=TD (o:=0) q f;have g:((ab++lu aS s fU n ag)++bL)[ab.length+0]?=some (aa aS (sI s fU n)):=ak (al rfl);have h:=a.lt _ (mem_of_getElem? g);refine ai (mg a (rfl) rfl U (ai (aD a rfl ?_)));have i:bx ((ab++lu aS s fU n ag)++bL) fU ae:=by
  have w:bx (ab++lu aS s fU n ag) fU ae:=by rw[<- append_assoc];exact f.gd.app'
  exact w.app
 have j:ac H (((ab++lu aS s fU n ag)++bL)++aw aA []):=by rw[show aw aA []=[]from rfl,append_nil];exact a
 refine oL j .nil i (by simpa using u) fun y k l a m=>⟨e.1,?_⟩
 refine ai (aD a rfl (⟨d.2,p1 h,?_⟩));have r:=dm.o m;have⟨a0,iv,x,t⟩:=Jy r;apply Z (by rw[t];exact amf s a0 iv x n);rw[<- t];apply b0 a;intro p H a;exact v H p k l (a.cf (by rw[append_assoc];exact List.Perm.append_left _ perm_append_comm)) r
def np(bs:LI):aj:=aN bs++replicate (32-bs.length) (bB .u8 0)
theorem TE(h:bs.length<=32):(np bs).length=32:=by grind[np]
theorem TF(h:bs.length<32):(np bs).set bs.length (.int .u8 x)=np (bs++[x]):=by
 unfold np;obtain⟨m,a⟩:∃m,32-bs.length=m+1:=⟨31-bs.length,U⟩
 grind
theorem TG:(mB s).length=32:=rfl
theorem TH:∀(l:List Nat) (m i:Nat),m<l.length->i<4->(l.flatMap yP)[4*m+i]?=(yP (l.getD m 0))[i]?
 | [],_,_,h,_=>absurd h (not_lt_zero _)
 | a::l,0,i,_,aB=>by rw[flatMap_cons,Nat.mul_zero,Nat.zero_add,getElem?_append_left (aB)];rfl
 | a::l,m+1,i,h,aB=>by rw[flatMap_cons,getElem?_append_right (by show 4<=_;omega),show 4*(m+1)+i-(yP a).length=4*m+i by show _-4=_;omega,TH l m i aT aB];rfl
theorem ami(h:i<4):(yP w)[i]?=some (((w/2^(24-8*i)%256:Nat):Int)):=by
 rcases i with _|_|_|_|i
 rfl;rfl;rfl;show some ((w%256:Nat):Int)=some (((w/2^0%256:Nat):Int))
 simp_all
 omega
theorem TI(a:m<8)(aB:i<4):(mB s).take (4*m+i)++[((s.l.getD m 0/2^(24-8*i)%256:Nat):Int)]=(mB s).take (4*m+i+1):=by
 have b:=TH s.l m i (a) aB
 simp_all[ami,take_add_one,mB]
theorem TJ(h:i<8):(p0 n)[i]?=some (((n/2^(56-8*i)%256:Nat):Int)):=by simp_all[p0]
theorem TK:∀x∈p0 n,0<=x/\x<=255:=by intro x a;obtain⟨i,_,rfl⟩:=List.mem_map.1 a;omega
theorem yU{x:Int}(h:0<=x/\x<=255):∀y∈ [x],0<=y/\y<=255:=fun y a=>a1
theorem Bf:∀y∈replicate n (0:Int),0<=y/\y<=255:=fun y a=>a1
theorem yV(x:Int)(H:an):(gY P 22 1).f [(0,.int .u8 x)] H=some (am H.next 0 1 3,H.push [.int .u8 x]):=ao
theorem Jz(a:c=2\/c=3):bx (ab++[aa q [.int .u8 x]]) (am q 0 1 c) [x]:=.inr ⟨q,0,c,rfl,a,.inr ⟨ab.length+0,_,al rfl,rfl⟩⟩
theorem Bg:fF P 52=replicate 32 (bB .u8 0):=ao
end
section
variable[c0:cH]
variable{H K L eR dF n ax qV aS s v4 v5 w ae y bl jx ab}{m:Nat}
structure j7 (aS:Nat) (ae:LI) (L:LB):Prop where
 axk::
 cG:∃fU ag,L=lu aS (mA ae) fU ae.length ag/\nV fU (wM ae) ag
theorem tQ(d:ac H (ab++L))(e:j7 aS ae L)(f:bx ab w bl)(g:∀x∈ae,0<=x/\x<=255)(h:∀x∈bl,0<=x/\x<=255)(i:ae.length<=100000000)(a:bl.length<=100000000)
  (j:∀E bW,ac E (ab++bW)->j7 aS (ae++bl) bW->K (.tuple [].toArray) E):aG P 235 [ad aS 0,w] H K:=by
 obtain⟨fU,ag,rfl,k⟩:=e.cG;exact ame d k f g h i a fun E b c l m=>j E _ l ⟨b,c,rfl,m⟩
theorem Bh(a:ac H ((ab++L)++[y])):ac H ((ab++[y])++L):=a.cf (by rw[append_assoc,append_assoc];exact List.Perm.append_left _ perm_append_comm)
theorem EP(a:ac H ((ab++[y])++L)):ac H (ab++L):=a.sub (by rw[append_assoc];exact List.Sublist.append (List.Sublist.refl _) (sublist_append_right _ _))
theorem amj(a:ac H (ab++L))(b:j7 aS (ae++[128]) L)(g:∀x∈ae,0<=x/\x<=255)(o:ae.length<=90000000)
  (i:∀E bW,ac E (ab++bW)->j7 aS (ae++[128]++replicate (le ae.length) 0) bW->dF 0 [ad ax 0,ad aS 0,bB .u64 n] E):
  i7 P true 67 I1 28 [ad ax 0,ad aS 0,bB .u64 n] H dF eR:=by
 refine ajG (fun k e E=>∃(y:Nat) (L:LB),y<=le ae.length/\k=le ae.length-y/\e=[ad ax 0,ad aS 0,bB .u64 n]/\ac E (ab++L)/\j7 aS (ae++[128]++replicate y 0) L) _ _ ?_ (le ae.length) _ _ ⟨0,L,U,rfl,rfl,a,by rw[replicate_zero,append_nil];exact b⟩;rintro k e H ⟨y,L,f,rfl,rfl,a,b⟩;unfold Sj;refine ul ?_
 try simp only[c1,c2]
 obtain⟨fU,ag,rfl,j⟩:=b.cG;have c:(ae++[128]++replicate y (0:Int)).length=ae.length+1+y:=aT
 have l:le ae.length<64:=mod_lt _ bT;refine ai (aD a rfl (bg j.gd.aZ (Z dX ?_)));rw[Jw,c];refine ay (fun h=>?_) (fun h=>?_);have m:y<le ae.length:=by grind[le]
 refine el a (yV 0 _) ?_;intro q H a;have d:=Bh a;refine tQ d b (Jz (.inr rfl)) (kP (kP g (yU bT)) Bf) (yU bT) U aW ?_;intro H L a b;rw[append_assoc _ (replicate y 0),<- replicate_succ']at b
 grind[EP]
 have f:y=le ae.length:=by grind[le]
 subst f;exact i H _ a b
theorem amk(a:ac H (ab++L))(b:j7 aS jx L)(c:∀x∈jx,0<=x/\x<=255)(m:jx.length<=95000000)(o:n<18446744073709551616)
  (i:∀E bW,ac E (ab++bW)->j7 aS (jx++p0 n) bW->dF 2 [ad ax 0,ad aS 0] E):
  i7 P true 67 I2 12 [ad ax 0,ad aS 0,bB .u64 n,int 0] H dF eR:=by
 refine ajH (fun k g E=>∃(y:Nat) (L:LB),y<=8/\k=8-y/\g=[ad ax 0,ad aS 0,bB .u64 n,int y]/\ac E (ab++L)/\j7 aS (jx++(p0 n).take y) L) _ _ ?_ 8 _ _ ⟨0,L,U,rfl,rfl,a,by rw[take_zero,append_nil];exact b⟩;rintro k g H ⟨y,L,j,rfl,rfl,a,b⟩;unfold Sk;refine ul ?_
 try simp only[c1,c2]
 refine Z cV (ay (fun h=>?_) (fun h=>?_));have d:y<8:=U
 refine Z (v:=int ((8*y:Nat):Int)) (by grind[su]) (Z (v:=int ((56-8*y:Nat):Int)) (by grind[iS]) (Z (tF rfl (show 56-8*y<=64 by omega)) (bg (qI rfl) (el a (yV _ _) ?_))));intro q H a;have f:=Bh a;have l:(0:Int)<=((n/2^(56-8*y)%fw .u8:Nat):Int)/\((n/2^(56-8*y)%fw .u8:Nat):Int)<=255:=by have:=mod_lt (n/2^(56-8*y)) (show fw .u8>0 by decide);have e:fw .u8=256:=rfl;omega
 apply tQ f b (Jz (.inr rfl)) (kP c fun x c=>TK x (mem_of_mem_take c)) (yU l) aT aW;intro H L a b;have e:(p0 n).take y++[((n/2^(56-8*y)%fw .u8:Nat):Int)]=(p0 n).take (y+1):=by rw[take_add_one,TJ d];rfl
 rw[append_assoc,e]at b
 repeat refine aQ ?_
 exact⟨8-(y+1),U,y+1,L,U,rfl,rfl,EP a,b⟩;have j:y=8:=U
 rw[take_of_length_le (by rw[EJ];omega)]at b;exact i H L a b
theorem aml(f:m<8)(a:ac H (ab++[aa qV (np ((mB s).take (4*m)))]))
  (g:∀E,ac E (ab++[aa qV (np ((mB s).take (4*(m+1))))])->dF 6 [ad ax 0,ad qV 0,v4,v5] E):
  i7 P true 67 I4 105553116266564 [ad ax 0,ad qV 0,int m,u32 (s.l.getD m 0),v4,v5,int 0] H dF eR:=by
 refine ajJ (fun k d E=>∃(y:Nat),y<=4/\k=4-y/\d=[ad ax 0,ad qV 0,int m,u32 (s.l.getD m 0),v4,v5,int y]/\ac E (ab++[aa qV (np ((mB s).take (4*m+y)))])) _ _ ?_ 4 _ _ ⟨0,U,rfl,rfl,a⟩;rintro k d H ⟨y,e,rfl,rfl,a⟩;unfold Sm;refine ul ?_
 try simp only[c1,c2]
 refine Z cV (ay (fun h=>?_) (fun h=>?_));have c:y<4:=U
 have b:((mB s).take (4*m+y)).length=4*m+y:=by grind[TG]
 refine Z (v:=int ((4*m:Nat):Int)) (by grind[su]) (Z (v:=int ((4*m+y:Nat):Int)) (by grind[f2]) (Z (v:=int ((8*y:Nat):Int)) (by grind[su]) (Z (v:=int ((24-8*y:Nat):Int)) (by grind[iS]) (Z (tF rfl (show 24-8*y<=32 by omega)) (bg (qI rfl) (Z (eo U U) ?_))))));rw[Int.toNat_natCast];refine cQ a (ab.length+0) (al rfl) rfl (by grind[TE]) (show _=np ((mB s).take (4*m+y+1))from ?_) ?_;rw[<- TI f c,<- TF U,b,show 0+(4*m+y)*1=4*m+y by omega];rfl;intro H a
 replace a:=a.bp
 repeat refine aQ ?_
 exact⟨4-(y+1),U,y+1,U,rfl,rfl,a⟩;have e:y=4:=U
 subst e;exact g H a
theorem amm(h:m<8):Cs 8 1 (xo P 338).f (agg (iB s)) (int m)=some (u32 (s.l.getD m 0)):=by
 rcases m with _|_|_|_|_|_|_|_|m
 rfl;rfl;rfl;rfl;rfl;rfl;rfl;rfl;omega
theorem amn(a:ac H (ab++[aa qV (np [])]))
  (e:∀E,ac E (ab++[aa qV (aN (mB s))])->dF 4 [ad ax 0,ad qV 0] E):
  i7 P true 67 I3 68 [ad ax 0,ad qV 0,agg (iB s),int 0] H dF eR:=by
 refine ajI (fun k c E=>∃(y:Nat),y<=8/\k=8-y/\c=[ad ax 0,ad qV 0,agg (iB s),int y]/\ac E (ab++[aa qV (np ((mB s).take (4*y)))])) _ _ ?_ 8 _ _ ⟨0,U,rfl,rfl,a⟩;rintro k c H ⟨y,d,rfl,rfl,a⟩;unfold Sl;refine Z cV (ay (fun h=>?_) (fun h=>?_));have b:y<8:=U
 refine Z (amm b) (aml b a (fun H a=>iR rfl ?_))
 repeat refine aQ ?_
 exact⟨8-(y+1),U,y+1,U,rfl,rfl,a⟩;have d:y=8:=U
 subst d;exact e H a
end
section
variable[c0:cH]
variable{H K L aS q v ae ab}
theorem EQ(a:ac H (ab++L))(j:j7 aS ae L)(f:∀x∈ae,0<=x/\x<=255)(t:ae.length<=80000000)
  (k:∀E,ac E (ab++L)->K (agg (aN (hP ae))) E):aG P 228 [ad aS 0] H K:=by
 obtain⟨fU,ag,rfl,l⟩:=j.cG;refine ajK.1 ?_;apply b0 a;intro ax H a;have m:=Jw (ae:=ae);apply amh a l U;intro H c d e a g;have b:j7 c ae (lu c (mA ae) d ae.length e):=⟨d,e,rfl,g⟩;refine ai (aD a rfl ?_);refine Z (by rw[show(Value.int .u64 8)=bB .u64 8 from rfl,AI rfl,mod_eq_of_lt (show ae.length*8<fw .u64 from(show _<18446744073709551616 by omega)),Nat.mul_comm]) ?_;apply el a (yV 128 _);intro q H a;have h:=Bh a;refine tQ h b (Jz (.inr rfl)) f (yU bT) U aW fun H L a b=>amj (EP a) b f U fun H L a b=>iR rfl ?_
 have n:le ae.length<64:=mod_lt _ bT;have i:∀x∈ae++[128]++replicate (le ae.length) 0,0<=x/\x<=255:=kP (kP f (yU bT)) Bf;refine amk a b i aT U fun H L a b=>iR rfl ?_
 try simp only[c1]
 obtain⟨o,p,rfl,r⟩:=b.cG;refine b0 a fun u H a=>ai (mg a (rfl) rfl U (amn a (fun H a=>(mg a (rfl) rfl U ?_))))
 have s:∀ {R R2:LB},((((ab++lu aS (mA ae) fU ae.length ag)++[aa ax (replicate 32 (bB .u8 0))])++R)++R2)[(ab++lu aS (mA ae) fU ae.length ag).length+0]?=some (aa ax (replicate 32 (bB .u8 0))):=ak (ak (al rfl));refine kx a _ s rfl (show 0+32<=32 by omega) ao ?_;intro H a;rw[set_append_left _ _ aW,set_append_left _ _ aW,Go.Ab.bp]at a;exact fe a ((ab++lu aS (mA ae) fU ae.length ag).length+0) (ak (ak (al rfl))) (rfl) rfl U (k H a.left.left.left)
theorem TL(a:Option Addr)(n c:Nat)(H:an):(gY P 369 1).f [(0,.slice a n c)] H=some (am H.next 0 1 3,H.push [.slice a n c]):=ao
theorem JA{j:Nat}(a:ac H ab)(g:ab[j]?=some (aa q [v]))(i:bx ab v ae)(e:∀x∈ae,0<=x/\x<=255)(l:ae.length<=80000000)
  (m:∀E,ac E ab->K (agg (aN (hP ae))) E):aG P 204 [am q 0 1 3] H K:=by
 refine Sb.1 ?_;refine b0 a fun ax H a=>EO a ?_
 intro H d a;have c:j7 d [] (lu d (mA []) aA ([]:LI).length []):=⟨aA,[],rfl,.inl ⟨rfl,rfl,rfl⟩⟩;apply bg pQ;generalize (lu d (mA []) aA ([]:LI).length [])=L at*;refine Sa (fun k f E=>∃(y:Nat) (L:LB),y<=1/\k=1-y/\f=[ad ax 0,ad d 0,am q 0 1 3,int 1,int y]/\ac E ((ab++[aa ax (replicate 32 (bB .u8 0))])++L)/\j7 d (if y=0 then []else ae) L) _ _ ?_ 1 _ _ ⟨0,L,U,rfl,rfl,a,c⟩;rintro k f H ⟨y,L,n,rfl,rfl,a,c⟩;unfold IY;refine ul ?_;refine Z cV (ay (fun h=>?_) (fun h=>?_));have b:y=0:=U
 subst b;refine Z (ez U U) (bk a j (ak (ak g)) rfl (tQ a c i.app a1 e aW U ?_));intro H L a c
 repeat refine aQ ?_
 exact⟨0,U,1,L,U,rfl,rfl,a,c⟩;have b:y=1:=U
 subst b;refine(EQ a c e l fun H a=>kx a (ab.length+0) (ak (al rfl)) rfl (show 0+32<=32 by omega) ao ?_);intro H a;rw[set_append_left _ _ aW,Go.Ab.bp]at a;exact fe a (ab.length+0) (ak (al rfl)) (rfl) rfl U (m H a.left.left)
end
section
variable[c0:cH]
variable{H K L n part ab}{m:bh}
def bh.pn(m:bh)(part:Int)(n:Nat):LI:=(range n).flatMap fun(i:Nat)=>(m.fg part i).1
def bh.all(m:bh)(part:Int):LI:=m.pn part (m.size part)
theorem bh.TM:m.pn part (n+1)=m.pn part n++(m.fg part n).1:=by simp_all[bh.pn,range_succ]
theorem bh.ER(ok:m.br):∀n,(m.pn part n).length=64*n
 | 0=>rfl
 | n+1=>by rw[bh.TM,length_append,bh.ER ok n,bh.pl ok];omega
theorem bh.tR(a:m.br):m.size part<=4096:=by unfold bh.size;split;rename_i h;have b:=a.s _ (bh.A6 h);have c:=a.d.n;omega;omega
theorem TN(d:m.br)(a:ac H (ab++cR L m))(l:∀E v ag,ac E ((ab++cR L m)++aw v ag)->dm v (m.all part) ag->K v E):aG P 18 [ad L.bn 0,int part] H K:=by
 refine afW.1 ?_;have n:=bh.tR d (part:=part);refine Tc a (afV (fun k i E=>∃(y:Nat) (v:Value) (ag:aj),y<=m.size part/\k=m.size part-y/\i=[ad L.bn 0,int part,aA,v,int (m.size part),int y]/\ac E ((ab++cR L m)++aw v ag)/\dm v (m.pn part y) ag) _ _ ?_ (m.size part) _ _ ⟨0,aA,[],U,rfl,rfl,by rw[show aw aA []=[]from rfl,append_nil];exact a,.nil⟩);rintro k i H ⟨y,v,ag,p,rfl,rfl,a,j⟩;unfold QW;refine ul ?_
 try simp only[c1,c2]
 refine Z cV (ay (fun h=>?_) (fun h=>?_));have b:y<m.size part:=U
 refine Td d a.je ?_;intro H a;have e:=bh.pl d (part:=part) (bb:=y);refine Z f5 (Z f6 ?_);rw[tN];refine b0 a ?_;intro c H a
 replace a:ac H (((ab++cR L m)++[aa c (aN ju)])++aw v ag):=a.cf (by classical exact perm_iff_count.2 fun _=>aT)
 refine dn a ((ab++cR L m).length+0) (ak (al rfl)) ao a1 (ge _) ?_;intro H a;rw[set_append_left _ _ aW,Go.Ab.bp]at a
 replace a:=a
 refine Z (sy a ((ab++cR L m).length+0) (ak (al rfl)) U a1) ?_;have f:bx ((ab++cR L m)++[aa c (aN (m.fg part y).1)]) (am c 0 64 3) (m.fg part y).1:=.inr ⟨c,0,3,by rw[e],.inr rfl,.inr ⟨(ab++cR L m).length+0,_,al rfl,by simp_all[take_of_length_le]⟩⟩;refine oL a j f (by grind[bh.ER]) ?_;intro H q o a g;rw[<- bh.TM]at g
 repeat refine aQ ?_
 grind[ac.bR]
 have b:y=m.size part:=U
 subst b;exact(l H v ag a j)
end
end J
