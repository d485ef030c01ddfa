/- texts of the kp, du behind the jV -/
import Derived.Test.YtifflnhooaophaaGreatDoorVB
set_option linter.unusedVariables false
set_option linter.unusedSimpArgs false
set_option linter.unusedSectionVars false
set_option maxHeartbeats 1000000
set_option maxRecDepth 100000
open List Nat
namespace J
open Go Go.Ab
variable[c0:cH]
section
variable{H K R a i l n s x ab}{d:ba}{m:Nat}
structure pC where
 aS:Nat
 bu:Nat
 mY:Nat
 ck:Value
 pz:Int
def j9(l:List Cell):aj:=l.flatMap fun c=>aN c.iA
def ii(l:List Cell):aj:=l.map fun c=>int c.eD
def mZ(R:pC)(d:ba):aj:=[am R.bu 0 d.cells.length 129,am R.mY 0 d.cells.length 3,int d.hx,R.ck,.bool (decide (0<=d.ei)),int R.pz,.bool d.ff]
abbrev hj(R:pC)(d:ba):LB:=[aa R.aS (mZ R d),aa R.bu (j9 d.cells),aa R.mY (ii d.cells)]++aw R.ck (ip d.done)
def ob(l:List (Nat×LI))(i:Nat)(s:LI):LI:=l.foldl (fun s x=>if x.1=i then x.2 else s) s
theorem XM:ob (l++[x]) i s=if x.1=i then x.2 else ob l i s:=by simp[ob]
structure m1 (R:pC) (d:ba):Prop where
 o:qR R.ck d
 s:∀i,i<d.cells.length->(d.cells.getD i fY).cb=ob d.done i (d.cells.getD i fY).iA
 b:0<=d.ei->R.pz=d.ei
 w:∀c∈d.cells,c.eD<=d.hx
theorem atB(h:∀c∈l,c.br):(j9 l).length=l.length*64:=A3 fun c a=>by rw[dp];exact(h c a).k
theorem atC(R:pC)(d:ba)(h:qR R.ck d):(mZ R d).all dx=true:=by
 rcases h with⟨h,_⟩|⟨p,h|h,_⟩
 simp[mZ,dx,nj,h];simp[mZ,dx,nj,h];simp[mZ,dx,nj,h]
theorem atD(f:∀c∈d.cells,c.br)(h:d.ek a):((j9 d.cells).drop (a.toNat*64)).take 64=aN (d.cell a).iA:=by have⟨aB,e⟩:=ba.get h;have:=u6 (o:=0) (m:=64) (n:=64) (fun c g=>by rw[dp];exact(f c g).k) aB U;unfold j9;rw[Nat.add_zero]at this;rw[this,drop_zero,e];exact take_of_length_le (by rw[dp,(ba.mf f h).k];exact Nat.le_refl _)
theorem XN(h:d.ek a):(ii d.cells)[a.toNat]?=some (int (d.cell a).eD):=by have⟨aB,e⟩:=ba.get h;unfold ii;rw[getElem?_map,getElem?_eq_getElem aB,e];rfl
theorem FY(a:ac H ab)(f:∀E,ac E ab->K (jt iz) E):aG P 95 [] H K:=by
 refine ahv.1 ?_;rw[tN];refine b0 a fun c H a=>Z wK (b0 a ?_)
 intro b5 H a;rw[append_assoc]at a;apply dn a (ab.length+1) (al rfl) (by rw[dp];rfl) (by rw[dp];rfl) (ge ju);intro H a
 replace a:=a.bp
 refine ahu (fun k d E=>∃y:Nat,y<=64/\k=64-y/\d=[ad c 0,ad b5 0,int y]/\ac E (ab++[aa c (aN ju),aa b5 (aN (replicate y 255++replicate (64-y) 0))])) _ _ ?_ 64 _ _ ⟨0,U,rfl,rfl,by exact a⟩;rintro k d E ⟨y,g,rfl,rfl,a⟩;unfold Ry;refine ul ?_
 repeat refine aQ ?_
 refine ay (fun h=>?_) (fun h=>?_);have b:y<64:=U
 refine Z (eo U U) (cQ a (ab.length+1) (al rfl) rfl (by rw[dp];simp;omega) (SW b) ?_);intro H a
 repeat refine aQ ?_
 exact⟨_,U,y+1,U,rfl,rfl,a.bp⟩;have e:y=64:=U
 subst e
 repeat refine qJ ?_
 exact bK a (by rw[dp];rfl) U (dn a (ab.length+0) (al rfl) (by rw[dp];rfl) (by rw[dp];rfl) (ge _) fun H a=>gQ a (ab.length+0) (by rw[Go.Ab.bp];exact al rfl) (by rw[dp];rfl) U (f _ (a.bp).left))
theorem atE(h:n<=m)(a:K (int n) H):aG P 94 [int n,int m] H K:=by refine Rw.1 ?_;refine Z cV (ay (fun h=>?_) (fun h=>?_));omega;refine Z go (ay (fun h=>?_) (fun h=>?_));omega;exact a
theorem atF(a:K (int (max 0 (min x m))) H):aG P 94 [int x,int m] H K:=by refine Rw.1 ?_;refine Z cV (ay (fun h=>?_) (fun h=>?_));rw[show max (0:Int) (min x m)=0 by omega]at a;exact a;refine Z go (ay (fun b=>?_) (fun b=>?_));rw[show max (0:Int) (min x m)=m by omega]at a;exact a;rw[show max (0:Int) (min x m)=x by omega]at a;exact a
theorem atG:lD P 131=⟨o4 64 64 (aN ju)⟩:=by kernel_rfl
theorem atH:lD P 48=⟨o4 1 8 [int 0]⟩:=by kernel_rfl
theorem atI(n bu a:Nat)(w:Int):(eg P 203).f [(0,am bu 0 n 129),(1,am a 0 n 3),(2,int w)]=some (agg [am bu 0 n 129,am a 0 n 3,int w,aA,.bool false,int 0,.bool false]):=by kernel_rfl
theorem XO:fF P 209=int 0::aN ju:=by kernel_rfl
theorem atJ(a:Int)(g:Nat->Int):(eg P 209).f [(0,int a),(1,jt ((range 64).map g))]=some (agg (int a::aN ((range 64).map g))):=by kernel_rfl
theorem XP(a:Int)(h:s.length=64):(eg P 209).f [(0,int a),(1,jt s)]=some (agg (int a::aN s)):=by obtain⟨g,rfl⟩:=yK h;exact atJ a g
theorem atK(a:Int)(g:Nat->Int)(H:an):(gY P 201 1).f [(0,agg (int a::aN ((range 64).map g)))] H=some (am H.next 0 1 131,H.push (int a::aN ((range 64).map g))):=by kernel_rfl
theorem XQ(a:Int)(h:s.length=64)(H:an):(gY P 201 1).f [(0,agg (int a::aN s))] H=some (am H.next 0 1 131,H.push (int a::aN s)):=by obtain⟨g,rfl⟩:=yK h;exact atK a g H
theorem XR{j:Nat}(e:ac H ab)(f:ab[j]?=some (aa R.aS (mZ R d)))(c:K (.bool (decide (d.ek a))) H):aG P 215 [ad R.aS 0,int a] H K:=by refine aju.1 ?_;refine Z kM (ay (fun h=>?_) (fun h=>?_));refine ai (bk e j f rfl (bg pQ (Z cV (Z (dT h) ?_))));rw[decide_eq_decide.2 (show a<(d.cells.length:Int)↔d.ek a from⟨fun b=>⟨h,b⟩,fun b=>b.2⟩)];exact c;apply Z (dl h);rw[decide_eq_false (fun b=>h b.1)]at c;exact c
theorem XS(r:d.br)(V:d.done.length<=1000000)(ar:m1 R d)(b:ac H (ab++hj R d))(m:∀E,ac E (ab++hj R d)->K (.tuple [jt (d.fg a).1,int (d.fg a).2].toArray) E):aG P 161 [ad R.aS 0,int a] H K:=by
 refine aiJ.1 ?_;rw[tN];refine b0 b ?_;intro t H b;refine XR b (ak (al (k:=0) rfl)) ?_;refine Z fX ?_;unfold ba.fg at m;by_cases h:d.ek a
 rotate_left
 ·rw[if_neg h]at m;rw[decide_eq_false h];refine dz rfl ?_;refine Z wK ?_;refine dn b ((ab++hj R d).length+0) (al rfl) (by rw[dp];rfl) (by rw[dp];rfl) (ge _) ?_;clear b;intro H b
  replace b:=b.bp
  refine gQ b ((ab++hj R d).length+0) (al rfl) (by rw[dp];rfl) U ?_;exact m _ b.left
 rw[if_pos h]at m;rw[decide_eq_true h];refine cT rfl ?_;have n:=fun x e=>(r.ds x e).2
 have j:=(ba.mf r.c h).k;obtain⟨C,W⟩:=ba.get h;refine ai ?_;refine aD b rfl ?_;refine Z (ez h.1 h.2) ?_;rw[Nat.zero_add];refine mg b (atD r.c h) (by rw[dp];exact j) U ?_;refine b0 b ?_;clear b;intro v H b;refine dn b (_+0) (al rfl) (by rw[dp];rfl) (by rw[dp];exact j) (ge _) ?_;clear b;intro H b
 replace b:=b.bp
 refine ai ?_;refine aD b rfl ?_;refine bg ar.o.aZ ?_;have q:∀y,(ob (d.done.take y) a.toNat (d.cell a).iA).length=64:=by
  intro y;have F:∀(l:List (Nat×LI)) (s:LI),s.length=64->(∀x∈l,x.2.length=64)->(ob l a.toNat s).length=64:=by
   intro l;induction l with
   | nil=>exact fun s h _=>h
   | cons x l I=>
    intro s ah e;refine I _ ?_ (fun y w=>e y (mem_cons_of_mem _ w));show(if x.1=a.toNat then x.2 else s).length=64;split
    ·exact e x mem_cons_self
    ·exact ah
  exact F _ _ j (fun x e=>n x (mem_of_mem_take e))
 refine aiI (fun k z E=>∃y:Nat,y<=d.done.length/\k=d.done.length-y/\z=[int a,ad t 0,int 0,ad v 0,R.ck,int d.done.length,int y]/\ac E (((ab++hj R d)++[aa t (aN ju)])++[aa v (aN (ob (d.done.take y) a.toNat (d.cell a).iA))])) _ _ ?_ d.done.length _ _ ⟨0,U,rfl,rfl,b⟩;clear b;rintro k z E ⟨y,w,rfl,rfl,b⟩;unfold RY;refine ul ?_
 try simp only[c1,c2]
 refine Z cV ?_;refine ay (fun J=>?_) (fun J=>?_)
 ·have g:y<d.done.length:=U
  obtain⟨p,c,B,L⟩:=Jm ar.o g;have e:=r.ds _ (getElem_mem g);have M:(hj R d)[3]?=some (aa p (ip d.done)):=by show([_,_,_]++aw R.ck (ip d.done))[3]?=_;rw[L];rfl
  rw[B];refine Z (ez U U) ?_;rw[show 0+((y:Nat):Int).toNat*65=y*65 by rw[Int.toNat_natCast];omega];rw[<- B];refine fe b _ (ak (ak (al M))) (Jn n g) (u7 e.2) U ?_;rw[XO];refine b0 b ?_;clear b;intro X H b;refine dn b (_+0) (al rfl) (by simp[dp,ju]) (u7 e.2) (Jc _) ?_;clear b;intro H b
  replace b:=b.bp
  have aI:=XM (l:=d.done.take y) (i:=a.toNat) (s:=(d.cell a).iA) (x:=d.done[y]);rw[<- take_succ_eq_append_getElem g]at aI;refine Z bj ?_;refine bk b (_+0) (al rfl) rfl ?_;refine Z cN ?_;refine ay (fun N=>?_) (fun N=>?_)
  ·rw[if_pos (by have:=h.1;omega)]at aI;refine Z bj ?_;refine fe b (_+0) (al rfl) (?_) (by rw[dp];exact e.2) U ?_
   ·show(aN d.done[y].2).take 64=_;exact take_of_length_le (by rw[dp,e.2];exact Nat.le_refl _)
   refine dn b (((ab++hj R d)++[aa t (aN ju)]).length+0) (ak (al rfl)) (by rw[dp];exact q y) (by rw[dp];exact e.2) (ge _) ?_;clear b;intro H b;rw[set_append_left _ _ aW,Go.Ab.bp]at b
   repeat refine aQ ?_
   refine⟨_,U,y+1,U,rfl,rfl,?_⟩;rw[aI];exact b.left
  ·rw[if_neg (by have:=h.1;omega)]at aI
   repeat refine aQ ?_
   refine⟨_,U,y+1,U,rfl,rfl,?_⟩;rw[aI];exact b.left
 ·have S:y=d.done.length:=U
  subst S;rw[take_length]at b;have u:(d.cell a).cb=ob d.done a.toNat (d.cell a).iA:=ar.s _ C;have f:=q d.done.length;rw[take_length]at f;rw[<- u]at b f;refine iR rfl ?_
  try simp only[c1,c2]
  refine bK b (by rw[dp];exact f) U ?_;refine dn b ((ab++hj R d).length+0) (ak (al rfl)) (by rw[dp];rfl) (by rw[dp];exact f) (ge _) ?_;clear b;intro H b;rw[set_append_left _ _ aW,Go.Ab.bp]at b;refine gQ b ((ab++hj R d).length+0) (ak (al rfl)) (by rw[dp];exact f) U ?_;exact m _ b.left.left
end
section
variable{H K R a n q s BS ab}{d:ba}
theorem XT(h:d.ek a):j9 (d.cells.set a.toNat {d.cell a with cb:=s})=j9 d.cells:=by
 have⟨aB,e⟩:=ba.get h;have b:∀(l:List Cell) (f:Cell->aj),l.flatMap f=(l.map f).flatten:=fun l f=>flatMap_def ..
 unfold j9;rw[b,b,map_set]
 congr 1
 apply ext_getElem?;intro i;rw[getElem?_set];split;rename_i c;subst c;rw[if_pos (by simpa using aB),getElem?_map,getElem?_eq_getElem aB,e];rfl;rfl
theorem XU(h:d.ek a):ii (d.cells.set a.toNat {d.cell a with cb:=s})=ii d.cells:=by have⟨aB,e⟩:=ba.get h;unfold ii;rw[map_set];apply ext_getElem?;intro i;rw[getElem?_set];split;rename_i b;subst b;rw[if_pos (by simpa using aB),getElem?_map,getElem?_eq_getElem aB,e];rfl;rfl
def pC.kZ(R:pC)(d:ba):pC:={R with pz:=if 0<d.ei then d.ei-1 else R.pz}
theorem m1.step(h:m1 R d)(a2:d.ff=false):m1 (R.kZ d) d.step:=by refine⟨h.o,h.s,?_,h.w⟩;intro c;have e:=h.b;unfold ba.step at c⊢;unfold pC.kZ;simp[a2,false_or]at c⊢;by_cases a:0<d.ei;rw[if_pos a,if_pos ⟨U,a⟩];rw[if_neg a,if_neg (fun h=>a h.2)];rw[if_neg (fun h=>a h.2)]at c;exact e c
theorem LR(g:d.ff=false)(m:-1<=d.ei/\d.ei<=9223372036854775807)(ar:m1 R d)(a:ac H (ab++hj R d))(f:∀E,ac E (ab++hj (R.kZ d) d.step)->K (.bool !d.step.ff) E):aG P 98 [ad R.aS 0] H K:=by
 refine ahz.1 ?_;have e:=ar.b;have⟨cells,done,hx,ei,ff⟩:=d;subst g;refine cy (fun i E=>i=[ad R.aS 0,.bool (decide (ei=0))]/\E=H) ?_ ?_
 ·refine ai (aD a (v:=.bool (decide (0<=ei))) rfl (ay (fun h=>?_) (fun h=>?_)))
  ·refine ai (aD a rfl (Z cN (Z (dT h) ?_)));rw[e h];exact⟨rfl,rfl⟩
  ·apply Z (dl h);rw[decide_eq_false U];exact⟨rfl,rfl⟩
 rintro i E ⟨rfl,rfl⟩;refine ay (fun h=>?_) (fun h=>?_)
 ·subst h;refine ai (cQ a (ab.length+0) (al rfl) rfl (show 6<7 by omega) rfl ?_);intro H a
  replace a:=a.bp
  exact f H a
 ·refine ai (aD a (v:=.bool (decide (0<=ei))) rfl ?_);have k:(ba.step ⟨cells,done,hx,ei,false⟩)=⟨cells,done,hx,if 0<ei then ei-1 else ei,false⟩:=by
   unfold ba.step;simp only[Bool.false_or,Bool.false_eq_true,false_or];rw[decide_eq_false h];by_cases c:0<ei
   ·rw[if_pos c,if_pos ⟨h,c⟩]
   ·rw[if_neg c,if_neg (fun h=>c h.2)]
  rw[k]at f;refine ay (fun j=>?_) (fun j=>?_)
  ·have c:0<ei:=U
   rw[if_pos c]at f;refine ai (aD a rfl ?_);rw[e j];refine Z (iS U U) (ai (cQ a (ab.length+0) (al rfl) rfl (show 5<7 by omega) rfl ?_));intro H a
   replace a:=a.bp
   have:=f H;apply this;have l:mZ (R.kZ ⟨cells,done,hx,ei,false⟩) ⟨cells,done,hx,ei-1,false⟩=[am R.bu 0 cells.length 129,am R.mY 0 cells.length 3,int hx,R.ck,.bool (decide (0<=ei)),int (ei-1),.bool false]:=by unfold mZ pC.kZ;rw[if_pos c,decide_eq_decide.2 (show(0:Int)<=ei-1↔0<=ei by omega)]
   show ac H (ab++([aa R.aS (mZ (R.kZ ⟨cells,done,hx,ei,false⟩) ⟨cells,done,hx,ei-1,false⟩),_,_]++_));rw[l];exact a
  ·have c:¬ 0<ei:=U
   rw[if_neg c]at f;have:=f E;apply this;unfold pC.kZ;rw[if_neg c];exact a
theorem XV(h:d.ek a)(ah:∀i,i<d.cells.length->(d.cells.getD i fY).cb=ob d.done i (d.cells.getD i fY).iA):
  ∀i,i<(d.put a s).cells.length->((d.put a s).cells.getD i fY).cb=ob (d.put a s).done i ((d.put a s).cells.getD i fY).iA:=by
 have⟨aB,e⟩:=ba.get h;intro i c;have f:i<d.cells.length:=by simpa [ba.put]using c
 show((d.cells.set a.toNat {d.cell a with cb:=s}).getD i fY).cb=ob (d.done++[(a.toNat,s)]) i _;rw[XM];rw[getD_eq_getElem?_getD,getElem?_set];by_cases b:a.toNat=i
 ·rw[if_pos b,if_pos aB,if_pos b];rfl
 ·rw[if_neg b,if_neg b];rw[<- getD_eq_getElem?_getD,ah i f];show _=ob d.done i ((d.cells.set a.toNat {d.cell a with cb:=s}).getD i fY).iA;rw[getD_eq_getElem?_getD (l:=d.cells.set _ _),getElem?_set,if_neg b,<- getD_eq_getElem?_getD]
theorem XW(g:∀c∈d.cells,c.eD<=d.hx)(h:d.ek a):∀c∈(d.put a s).cells,c.eD<=(d.put a s).hx:=by
 have⟨aB,e⟩:=ba.get h;intro c f;rcases mem_or_eq_of_mem_set f with f|rfl
 exact g c f;show(d.cell a).eD<=d.hx;rw[<- e];exact g _ (getElem_mem aB)
theorem XX(h:d.ek a)(ah:s.length=64)(r:d.done.length<=1000000)(ar:m1 R d)(e:ac H (ab++hj R d))
  (f:ac H ((ab++hj R d)++[aa q (int a::aN s)]))
  (j:∀E b,dK 65 b (d.put a s).done.length (ip (d.put a s).done)->(∃k l m,b=.slice k l m)->
   ac E (ab++([aa R.aS (mZ R d),aa R.bu (j9 d.cells),aa R.mY (ii d.cells)]++aw b (ip (d.put a s).done)))->K b E):a7 (dj 65 72 R.ck (am q 0 1 131) H) K:=by
 have g:ac H (((ab++[aa R.aS (mZ R d),aa R.bu (j9 d.cells),aa R.mY (ii d.cells)])++aw R.ck (ip d.done))++[aa q (int a::aN s)]):=by rw[append_assoc ab];exact f
 have n:a=((a.toNat:Nat):Int):=by have:=h.1;omega
 have i:ip d.done++(int a::aN s)=ip (d.put a s).done:=by show _=(d.done++[(a.toNat,s)]).flatMap lO;rw[flatMap_append];show _=d.done.flatMap lO++(int ((a.toNat:Nat):Int)::aN s++[]);rw[<- n,append_nil];rfl
 apply qQ g ar.o (by simp[ah]) U (by simp[cS]) U U;intro b H e c;rw[append_assoc,i]at e;rw[i]at c;refine j H b ?_ ?_ e
 ·show dK 65 b (d.done++[(a.toNat,s)]).length _;rw[length_append];exact c
 ·rcases c with⟨_,h,_⟩|⟨p,rfl|rfl,_⟩
  ·omega
  ·exact⟨_,_,_,rfl⟩
  ·exact⟨_,_,_,rfl⟩
theorem atL(p:d.br)(ah:s.length=64)(x:d.done.length<=1000000)(ar:m1 R d)(e:ac H (ab++hj R d))
  (f:∀E jk,ac E (ab++hj jk (d.fh a s).1)->jk.aS=R.aS->m1 jk (d.fh a s).1->K (int (d.fh a s).2) E):aG P 97 [ad R.aS 0,int a,jt s] H K:=by
 refine ahy.1 ?_;unfold ba.fh at f;apply b0 e;intro m H e
 replace e:ac H ((ab++[aa m (aN s)])++hj R d):=ac.je e
 have y:(ab++[aa m (aN s)])[ab.length+0]?=some (aa m (aN s)):=al rfl;have g:∀ {H:an} {z:LB},ac H ((ab++[aa m (aN s)])++z)->ac H (ab++z):=fun h=>ac.bR h
 generalize ab++[aa m (aN s)]=n at e y g;refine XS p x ar e fun H e=>Z f5 (Z f6 ?_)
 have k:=ba.pl p (a:=a);rw[tN];refine b0 e fun J H e=>dn e (_+0) (al rfl) (by rw[dp];rfl) (by rw[dp];exact k) (ge _) ?_
 intro H e
 replace e:=e.bp
 apply Z dX;by_cases h:d.ek a
 rotate_left
 ·have r:(d.fg a).2=61:=by unfold ba.fg;rw[if_neg h]
  rw[if_pos h]at f;rw[r];exact dz rfl (f _ R (g e.left) rfl ar)
 have r:d.fg a=((d.cell a).cb,0):=by unfold ba.fg;rw[if_pos h]
 rw[if_neg (fun aH=>aH h)]at f;rw[r]at e k⊢;refine cT rfl (ai (aD e rfl (lr (fun o=>?_) (fun o=>?_))))
 ·rw[if_pos o]at f;exact f _ R (g e.left) rfl ar
 rw[if_neg (by rw[o];simp)]at f;refine gQ e (_+0) (al rfl) (by rw[dp];exact k) U (FY e fun L l=>⟨gw e (_+0) (al rfl) l (_+0) (al rfl) (sD _),?_⟩);refine Z (EC _ (ba.mf p.c h).s rfl) (ay (fun t=>?_) (fun t=>?_))
 ·rw[if_pos t]at f;exact f _ R (g l.left) rfl ar
 rw[if_neg t]at f;have e:=l.left;refine LR o p.b ar e fun H e=>Z fX ?_
 rw[Bool.not_not];have i:=ar.step o;refine lr (fun u=>?_) (fun u=>?_)
 ·rw[if_pos u]at f;exact f _ _ (g e) rfl i
 rw[if_neg (by rw[u];simp)]at f;refine ai (bk e (n.length+0) (al rfl) rfl (gQ e _ (ak y) (by rw[dp];exact ah) U (Z (XP a ah) (el e (XQ a ah _) fun q H e=>XX (d:=d.step) h ah x i e.left e ?_))));rintro H j v ⟨M,N,S,B⟩ e;refine ai (cQ e (n.length+0) (al rfl) (by rw[B];rfl) (show 3<7 by omega) rfl ?_);intro H e
 replace e:=e.bp
 refine f H {R.kZ d with ck:=j} ?_ rfl ⟨v,XV h i.s,i.b,XW i.w h⟩;have C:j9 (d.step.put a s).cells=j9 d.step.cells:=XT h;have F:ii (d.step.put a s).cells=ii d.step.cells:=XU h;have I:mZ {R.kZ d with ck:=j} (d.step.put a s)=[am R.bu 0 d.cells.length 129,am R.mY 0 d.cells.length 3,int d.hx,j,.bool (decide (0<=d.step.ei)),int (R.kZ d).pz,.bool d.step.ff]:=by show [am R.bu 0 (d.step.cells.set _ _).length 129,am R.mY 0 (d.step.cells.set _ _).length 3,_,_,_,_,_]=_;rw[length_set];rfl
 show ac H (ab++([aa R.aS (mZ {R.kZ d with ck:=j} (d.step.put a s)),aa R.bu (j9 (d.step.put a s).cells),aa R.mY (ii (d.step.put a s).cells)]++aw j (ip (d.step.put a s).done)));rw[C,F,I];exact g e
theorem atM{w:Nat}(u:n<=4096)(I:w<=100000)(j:max 0 (min BS ((100000:Nat):Int))=w)(a:ac H ab)(v:∀E R,ac E (ab++hj R (ba.ci n w))->m1 R (ba.ci n w)->K (ad R.aS 0) E):aG P 39 [int n,int BS] H K:=by
 apply agq;unfold Ra;refine atE u ?_;rw[atG,atH];refine uR (k:=.i64) (eF:=.i64) a U U ?_;intro bu H a;refine uR (k:=.i64) (eF:=.i64) a U U ?_;intro b H a;refine atF ?_;rw[j];refine⟨beq_refl _,?_⟩;refine Z (atI n bu b w) ?_;refine b0 a ?_;intro d H a;refine ai ?_;refine aD a rfl ?_;refine bg pQ ?_;have x:=A4 aN ju n;have z:fr n [int 0]=replicate n (int 0):=by rw[tq]
 rw[x,z]at a
 replace a:ac H ((ab++[aa d [am bu 0 n 129,am b 0 n 3,int w,aA,.bool false,int 0,.bool false],aa b (replicate n (int 0))])++[aa bu ((replicate n ju).flatMap aN)]):=a.cf (by rw[append_assoc,append_assoc,append_assoc];refine List.Perm.append_left ab ?_;refine List.Perm.trans perm_append_comm ?_;exact List.Perm.append_right _ (List.Perm.swap _ _ _))
 refine agp (fun k t E=>∃y:Nat,y<=n/\k=n-y/\t=[.pointer none,ad d 0,int n,int y]/\ac E ((ab++[aa d [am bu 0 n 129,am b 0 n 3,int w,aA,.bool false,int 0,.bool false],aa b (replicate n (int 0))])++[aa bu ((replicate y iz++replicate (n-y) ju).flatMap aN)])) _ _ ?_ n _ _ ⟨0,U,rfl,rfl,a⟩;rintro k t E ⟨y,J,rfl,rfl,a⟩;unfold Q9;refine ul ?_;refine Z cV ?_;refine ay (fun h=>?_) (fun h=>?_)
 ·generalize l:replicate y iz++replicate (n-y) ju=C at*;have m:C.length=n:=by rw[<- l];simp;omega
  have f:∀c∈C,(aN c).length=64:=by
   intro c e;rw[<- l]at e;rcases mem_append.1 e with e|e
   ·rw[(List.mem_replicate.1 e).2];rfl
   ·rw[(List.mem_replicate.1 e).2];rfl
  refine ai ?_;refine aD a rfl ?_;refine FY a ?_;intro L g;refine⟨jf a g rfl,?_⟩;refine Z (ez U U) ?_;have p:(C.flatMap aN).length=n*64:=by rw[A3 f,m]
  have q:=yI (i:=y) (o:=0) (y:=iz) (ci:=aN iz) f U (by rw[dp];decide) (by rw[drop_of_length_le (by rw[f _ (getElem_mem _)];decide)];simp);refine kx g (_+0) (al rfl) (show(aN iz).length=64 by rw[dp];rfl) (by rw[p,Int.toNat_natCast];omega) (ge _) ?_;intro H a
  replace a:=a.bp
  repeat refine aQ ?_
  refine⟨_,U,y+1,U,rfl,rfl,?_⟩;have r:0+(y:Int).toNat*64=y*64+0:=by rw[Int.toNat_natCast];omega
  have s:C.set y iz=replicate (y+1) iz++replicate (n-(y+1)) ju:=by rw[<- l,set_append_right _ _ aW,length_replicate,Nat.sub_self,show n-y=(n-(y+1))+1 by omega,replicate_succ,set_cons_zero,replicate_succ'];simp
  rw[r]at a;rw[<- s,<- q];exact a
 ·have B:y=n:=U
  subst B;rw[Nat.sub_self,replicate_zero,append_nil]at a;refine iR rfl ?_;have r:=(A4 aN iz y).symm.trans (A4 (fun c:Cell=>aN c.iA) pk y);have s:replicate y (int 0)=ii (ba.ci y w).cells:=by show _=(replicate y pk).map _;rw[map_replicate];rfl
  rw[r,s]at a;refine v _ ⟨d,bu,b,aA,0⟩ ?_ ?_
  ·have F:mZ ⟨d,bu,b,aA,0⟩ (ba.ci y w)=[am bu 0 y 129,am b 0 y 3,int w,aA,.bool false,int 0,.bool false]:=by show [am bu 0 (replicate y pk).length 129,am b 0 (replicate y pk).length 3,_,_,_,_,_]=_;rw[length_replicate];rfl
   show ac _ (ab++([aa d (mZ ⟨d,bu,b,aA,0⟩ (ba.ci y w)),aa bu (j9 (ba.ci y w).cells),aa b (ii (ba.ci y w).cells)]++[]));rw[F,append_nil];exact a.cf (by rw[append_assoc];exact List.Perm.append_left ab (List.Perm.cons _ (List.Perm.swap _ _ _)))
  ·refine⟨.inl ⟨rfl,rfl,rfl⟩,?_,fun h=>absurd h (show¬(0:Int)<=-1 by omega),?_⟩
   ·intro i aB;have aB:i<y:=by simpa [ba.ci]using aB
    show((replicate y pk).getD i fY).cb=((replicate y pk).getD i fY).iA;rw[getD_eq_getElem?_getD,getElem?_replicate,if_pos aB];rfl
   ·intro c e;rw[(List.mem_replicate.1 e).2];show(0:Int)<=w;omega
end
section
variable{H K M m part bb ab}
structure lA where
 bn:Nat
 bv:Nat
 e0:Value
 r:pC
def FZ(m:bh):aj:=m.e3.map fun x=>int x.2
def XY(M:lA)(m:bh):aj:=[ad M.r.aS 0,am M.bv 0 m.e3.length 3,int m.dt,M.e0]
abbrev uj(M:lA)(m:bh):LB:=[aa M.bn (XY M m),aa M.bv (FZ m)]
abbrev cW(M:lA)(m:bh):LB:=uj M m++(aw M.e0 (hM m.bm)++hj M.r m.d)
structure gX (M:lA) (m:bh):Prop where
 r:m1 M.r m.d
 o:dK 4 M.e0 m.bm.length (hM m.bm)
 s:m.e3=h5 0 (m.e3.map (·.2))
theorem cW.pY(h:ac H (ab++cW M m)):ac H (((ab++uj M m)++aw M.e0 (hM m.bm))++hj M.r m.d):=by rw[append_assoc,append_assoc];exact h
theorem cW.yL(h:ac H (((ab++uj M m)++aw M.e0 (hM m.bm))++hj M.r m.d)):ac H (ab++cW M m):=by rw[append_assoc,append_assoc]at h;exact h
theorem LS(h:m.ek part):(FZ m)[part.toNat]?=some (int (m.ky part).2):=by
 have aB:part.toNat<m.e3.length:=by have:=h.1;have:=h.2;omega
 unfold FZ bh.ky;rw[getElem?_map,getD_eq_getElem?_getD,getElem?_eq_getElem aB];rfl
theorem XZ:∀(l:List Nat) (n i:Nat),i<l.length->((h5 n l).getD i (0,0)).1=n+(l.take i).sum
 | [],_,_,h=>absurd h (not_lt_zero _)
 | x::l,n,0,_=>rfl
 | x::l,n,i+1,h=>by have:=XZ l (n+x) i (by simpa using h);show((h5 (n+x) l).getD i (0,0)).1=n+(x+(l.take i).sum);rw[this];omega
theorem atN{m:bh}(ah:m.e3=h5 0 (m.e3.map (·.2)))(h:m.ek part):(m.ky part).1=((m.e3.map (·.2)).take part.toNat).sum:=by
 have b:part.toNat<m.e3.length:=by have:=h.1;have:=h.2;omega
 have a:=XZ (m.e3.map (·.2)) 0 part.toNat (by rw[length_map];exact b);rw[<- ah,Nat.zero_add]at a;exact a
theorem LU(l:m.br)(v:gX M m)(i:ac H (ab++cW M m))(c:K (.tuple [int (m.gK part bb).1,int (m.gK part bb).2].toArray) H):aG P 96 [ad M.bn 0,int part,int bb] H K:=by
 refine ahx.1 ?_;unfold bh.gK at c;refine cy (fun e E=>e=[ad M.bn 0,int part,int bb,int 0,int 0,.bool (decide (¬m.ek part))]/\E=H) ?_ ?_
 ·refine Z cV (ay (fun h=>?_) (fun h=>?_))
  ·apply Z (dT h);rw[decide_eq_true (show¬m.ek part from fun b=>by have:=b.1;omega)];exact⟨rfl,rfl⟩
  ·refine ai (aD i rfl (bg pQ (Z kM (Z (dl h) ?_))));rw[decide_eq_decide.2 (show(m.e3.length:Int)<=part↔¬m.ek part from⟨fun b w=>by have:=w.2;omega,fun b=>by
    by_cases x:part<(m.e3.length:Int)
    ·exact absurd ⟨U,x⟩ b
    ·omega⟩)]
   exact⟨rfl,rfl⟩
 rintro e E ⟨rfl,rfl⟩;by_cases h:m.ek part
 rotate_left
 ·rw[decide_eq_true h];rw[if_pos h]at c;exact dz rfl c
 rw[decide_eq_false (fun b=>b h)];rw[if_neg (fun b=>b h)]at c;refine cT rfl (cy (fun e f=>e=[ad M.bn 0,int part,int bb,int 0,int 0,.bool (decide (bb<0\/((m.ky part).2:Int)<=bb))]/\f=E) ?_ ?_)
 ·refine Z cV (ay (fun j=>?_) (fun j=>?_))
  ·apply Z (dT j);rw[decide_eq_true (.inl j)];exact⟨rfl,rfl⟩
  ·refine ai (aD i rfl (Z (ez h.1 h.2) (aD i (by rw[Nat.zero_add,Nat.mul_one];exact LS h) (Z kM (Z (dl j) ?_)))));rw[decide_eq_decide.2 (show((m.ky part).2:Int)<=bb↔(bb<0\/((m.ky part).2:Int)<=bb) by omega)];exact⟨rfl,rfl⟩
 rintro e f ⟨rfl,rfl⟩
 try simp only[c1,c2]
 refine ay (fun o=>?_) (fun o=>?_)
 ·rw[if_pos o]at c;exact c
 rw[if_neg o]at c;have z:=l.s _ (bh.A6 h);have I:=l.d.n;have p:=atN v.s h;refine ahw (fun k e t=>∃y:Nat,y<=part.toNat/\k=part.toNat-y/\e=[ad M.bn 0,int part,int 0,int 0,int (bb+(((m.e3.map (·.2)).take y).sum:Nat)),int y]/\t=f) _ _ ?_ part.toNat _ _ ⟨0,U,rfl,aW,rfl⟩;rintro k e t ⟨y,J,rfl,rfl,rfl⟩;unfold RA;refine ul ?_;refine Z cV (ay (fun b=>?_) (fun b=>?_))
 ·have B:=h.2;have u:=l.n;have g:m.ek (y:Int):=⟨U,by have:=h.2;omega⟩;have a:y<m.e3.length:=by have:=h.2;omega
  have q:=Tq (m.e3.map (·.2)) y (by simpa using a);have C:((m.e3.map (·.2)).take (y+1)).sum<=((m.e3.map (·.2)).take part.toNat).sum:=by have:=EG ((m.e3.map (·.2)).take part.toNat) (y+1);rw[take_take,Nat.min_eq_left U]at this;exact this
  have r:(m.ky (y:Int)).2=(m.e3.map (·.2))[y]'(by simpa using a):=by unfold bh.ky;rw[Int.toNat_natCast,getD_eq_getElem?_getD,getElem?_eq_getElem a];simp
  refine ai (aD i rfl (Z (ez g.1 g.2) (aD i (by rw[Nat.zero_add,Nat.mul_one];exact LS g) ?_)));rw[r];apply Z (f2 U U)
  repeat refine aQ ?_
  refine⟨_,U,y+1,U,rfl,?_,rfl⟩;rw[q,Int.natCast_add,<- Int.add_assoc];rfl
 ·have F:y=part.toNat:=U
  subst F;apply iR rfl;rw[p]at c;rw[Int.add_comm bb];exact c
theorem X0(e:m.br)(k:m.eV 1000000)(f:gX M m)(b:ac H (ab++cW M m))(c:∀E,ac E (ab++cW M m)->K (.tuple [jt (m.fg part bb).1,int (m.fg part bb).2].toArray) E):aG P 114 [ad M.bn 0,int part,int bb] H K:=by
 refine ahR.1 ?_;apply b0 b;intro g H b
 replace b:=b.je
 have i:(ab++[aa g (aN ju)])[ab.length+0]?=some (aa g (aN ju)):=al rfl;refine LU e f b (Z f5 (Z f6 (Z dX ?_)));unfold bh.fg at c;refine ay (fun h=>?_) (fun h=>?_);rw[if_pos h]at c;refine Z wK (dn b _ (ak i) (by rw[dp];rfl) (by rw[dp];rfl) (ge _) ?_);intro H b;rw[set_append_left _ _ aW,Go.Ab.bp]at b;exact gQ b (ab.length+0) (ak (al rfl)) (by rw[dp];rfl) U (c _ (ac.bR b));rw[if_neg h]at c;refine ai (aD b rfl (XS e.d k.1 f.r (cW.pY b) ?_));intro H b
 replace b:=cW.yL b
 refine Z f5 (Z f6 ?_);have j:=ba.pl e.d (a:=(m.gK part bb).1);apply dn b _ (ak i) (by rw[dp];rfl) (by rw[dp];exact j) (ge _);intro H b;rw[set_append_left _ _ aW,Go.Ab.bp]at b;exact gQ b (ab.length+0) (ak (al rfl)) (by rw[dp];exact j) U (c _ (ac.bR b))
end
section
variable{H K M jk ag dr m n o part bb q s size v zv ab}
theorem X1(a b c w:Int):(eg P 86).f [(0,int a),(1,int b),(2,int c),(3,int w)]=some (agg (hJ ⟨a,b,c,w⟩)):=by kernel_rfl
theorem X2(h:dK size v n ag):∃a b c,v=.slice a b c:=by
 rcases h with⟨h,_⟩|⟨p,rfl|rfl,_⟩
 exact⟨_,_,_,h⟩;exact⟨_,_,_,rfl⟩;exact⟨_,_,_,rfl⟩
theorem X3(ah:m.bm.length<=1000000000)(e:gX M m)(a:ac H ((ab++cW M m)++[aa q (hJ o)]))
  (f:∀E zv,dK 4 zv (m.bm++[o]).length (hM (m.bm++[o]))->ac E (ab++(uj M m++(aw zv (hM (m.bm++[o]))++hj M.r m.d)))->K zv E):a7 (dj 4 32 M.e0 (am q 0 1 9) H) K:=by
 have b:ac H ((((ab++uj M m)++hj M.r m.d)++aw M.e0 (hM m.bm))++[aa q (hJ o)]):=a.cf (by classical exact perm_iff_count.2 fun _=>by simp only[count_append,set_cons_zero];omega);apply qQ b e.o rfl U rfl U U;intro zv E a c;rw[Tf]at a c;refine f E zv (by rw[length_append];exact c) (a.cf (by classical exact perm_iff_count.2 fun _=>by simp only[count_append,set_cons_zero];omega))
theorem cW.rQ(b:jk.aS=M.r.aS)(a:ac H (((ab++uj M m)++aw M.e0 (hM m.bm))++hj jk dr)):ac H (ab++cW {M with r:=jk} {m with d:=dr}):=by rw[append_assoc,append_assoc]at a;show ac H (ab++([aa M.bn [ad jk.aS 0,am M.bv 0 m.e3.length 3,int m.dt,M.e0],aa M.bv (FZ m)]++(aw M.e0 (hM m.bm)++hj jk dr)));rw[b];exact a
theorem X4(t:m.br)(u:s.length=64)(ah:m.eV 1000000)(j:gX M m)(a:ac H (ab++cW M m))
  (b:∀E cL,ac E (ab++cW cL (m.fh part bb s).1)->cL.bn=M.bn->cL.r.aS=M.r.aS->gX cL (m.fh part bb s).1->K (int (m.fh part bb s).2) E):aG P 40 [ad M.bn 0,int part,int bb,jt s] H K:=by
 refine agr.1 ?_;apply b0 a;intro k H a
 replace a:ac H ((ab++[aa k (aN s)])++cW M m):=ac.je a
 have v:(ab++[aa k (aN s)])[ab.length+0]?=some (aa k (aN s)):=al rfl;have f:∀ {H:an} {w:LB},ac H ((ab++[aa k (aN s)])++w)->ac H (ab++w):=fun h=>ac.bR h
 generalize ab++[aa k (aN s)]=l at a v f;refine LU t j a (Z f5 (Z f6 ?_));unfold bh.fh at b;refine cy (fun x E=>∃(cL:lA) (dr:ba) (n:Int),x=[ad M.bn 0,int part,int bb,int n]/\ac E (l++cW cL {m with d:=dr})/\cL.bn=M.bn/\cL.r.aS=M.r.aS/\gX cL {m with d:=dr}/\((m.gK part bb).2≠0/\dr=m.d/\n=(m.gK part bb).2\/(m.gK part bb).2=0/\dr=(m.d.fh (m.gK part bb).1 s).1/\n=(m.d.fh (m.gK part bb).1 s).2)) ?_ ?_;refine Z cN (ay (fun h=>?_) (fun h=>?_));exact ai (aD a rfl (gQ a _ (ak v) (by rw[dp];exact u) U (atL t.d u ah.1 j.r (cW.pY a) fun H B a e ar=>⟨{M with r:=B},_,_,rfl,cW.rQ e a,rfl,e,⟨ar,j.o,j.s⟩,.inr ⟨h,rfl,rfl⟩⟩)));exact⟨M,m.d,_,rfl,a,rfl,rfl,j,.inl ⟨h,rfl,rfl⟩⟩;rintro x H ⟨cL,dr,n,rfl,a,g,i,c,y⟩;apply Z cN;rw[<- g];refine ay (fun h=>?_) (fun h=>?_);rcases y with⟨e,rfl,rfl⟩|⟨e,rfl,rfl⟩
 exact absurd h e;rw[if_neg (by rw[e];simp)]at b;unfold bh.mi at b;simp[if_pos h]at b;refine ai (aD a rfl (ai (aD a rfl (Z (X1 _ _ _ _) (el a (Jr _ _) fun q H a=>X3 (by exact Nat.le_trans ah.2 U) c a ?_)))));intro H p z a;have⟨F,f1,I,C⟩:=X2 z;refine ai (cQ a (l.length+0) (al rfl) (by rw[C];rfl) (show 3<4 by omega) rfl ?_);intro H a
 replace a:=a.bp
 exact b H {cL with e0:=p} (f a) g i ⟨c.r,z,c.s⟩;rcases y with⟨e,rfl,rfl⟩|⟨e,rfl,rfl⟩
 rw[if_pos e]at b;exact b H cL (f a) g i c;rw[if_neg (by rw[e];simp)]at b;unfold bh.mi at b;simp[if_neg h]at b;exact b H cL (f a) g i c
theorem X5(g:m.br)(ah:m.eV 1000000)(o:gX M m)(a:ac H (ab++cW M m))(j:∀E v ag,ac E ((ab++cW M m)++aw v ag)->dm v (m.all part) ag->K v E):aG P 53 [ad M.bn 0,int part] H K:=by
 refine agJ.1 ?_;refine el a (rO _) fun q H a=>cy (fun d E=>d=[ad M.bn 0,int part,aA,am q 0 0 3,.bool (decide (¬m.ek part))]/\E=H) ?_ ?_
 ·refine Z cV (ay (fun h=>?_) (fun h=>?_))
  ·apply Z (dT h);rw[decide_eq_true (show¬m.ek part from fun b=>by have:=b.1;omega)];exact⟨rfl,rfl⟩
  ·refine ai (aD a rfl (bg pQ (Z kM (Z (dl h) ?_))));rw[decide_eq_decide.2 (show(m.e3.length:Int)<=part↔¬m.ek part from⟨fun b p=>by have:=p.2;omega,fun b=>by
    by_cases r:part<(m.e3.length:Int)
    ·exact absurd ⟨U,r⟩ b
    ·omega⟩)]
   exact⟨rfl,rfl⟩
 rintro d E ⟨rfl,rfl⟩;have e:=a;have f:dm (am q 0 0 3) [] []:=.inr ⟨q,.inr ⟨rfl,rfl⟩,rfl,Nat.le_refl _,rfl⟩;by_cases h:m.ek part
 rotate_left
 ·rw[decide_eq_true h];apply dz rfl;have s:m.all part=[]:=by unfold bh.all bh.size;rw[if_neg h];rfl
  rw[s]at j;exact j _ _ _ e f
 rw[decide_eq_false (fun b=>b h)];apply cT rfl;have t:m.size part=(m.ky part).2:=by unfold bh.size;rw[if_pos h]
 refine agI (fun k d E=>∃(y:Nat) (v:Value) (ag:aj),y<=m.size part/\k=m.size part-y/\d=[ad M.bn 0,int part,aA,v,int y]/\ac E ((ab++cW M m)++aw v ag)/\dm v (m.pn part y) ag) _ _ ?_ (m.size part) _ _ ⟨0,_,_,U,rfl,rfl,e,f⟩;rintro k d H ⟨y,v,ag,z,rfl,rfl,a,i⟩;unfold Ri;refine ul ?_;refine ai (aD a rfl (Z (ez h.1 h.2) (aD a (by rw[Nat.zero_add,Nat.mul_one];exact LS h) (Z cV (ay (fun b=>?_) (fun b=>?_))))))
 ·have n:=bh.tR g (part:=part);have u:=bh.ER g (part:=part) y;refine X0 g ah o a.je fun H a=>Z f5 (Z f6 ?_)
  have c:=bh.pl g (part:=part) (bb:=(y:Int));rw[tN];have l:=a.je;refine b0 l fun B H a=>dn a (_+0) (al rfl) (by rw[dp];rfl) (by rw[dp];exact c) (ge _) ?_
  intro H a
  replace a:=a.bp
  refine Z (sy a (_+0) (al rfl) U (by show _<=(aN _).length;rw[dp,c];omega)) (rI a i U c.symm (.inr rfl) ?_);intro H v ag a i
  repeat refine aQ ?_
  refine⟨_,U,y+1,v,ag,U,rfl,rfl,a,?_⟩;have w:m.pn part (y+1)=m.pn part y++(m.fg part y).1:=by unfold bh.pn;rw[range_succ,flatMap_append];simp
  rw[w];exact i
 ·have x:y=m.size part:=U
  subst x;exact(j _ _ _ a i)
end
section
variable{H K R a n ab}{d:ba}
theorem atO(h:d.ek a):j9 (d.fo a {d.cell a with eD:=n}).cells=j9 d.cells:=by
 have⟨aB,e⟩:=ba.get h;have b:∀(l:List Cell) (f:Cell->aj),l.flatMap f=(l.map f).flatten:=fun l f=>flatMap_def ..
 unfold j9 ba.fo;rw[b,b,map_set]
 congr 1
 apply ext_getElem?;intro i;rw[getElem?_set];split;rename_i c;subst c;rw[if_pos (by simpa using aB),getElem?_map,getElem?_eq_getElem aB,e];rfl;rfl
theorem atP:(ii d.cells).set a.toNat (int n)=ii (d.fo a {d.cell a with eD:=n}).cells:=by unfold ii ba.fo;rw[map_set]
theorem atQ(h:d.ek a)(ah:∀i,i<d.cells.length->(d.cells.getD i fY).cb=ob d.done i (d.cells.getD i fY).iA):
  ∀i,i<(d.fo a {d.cell a with eD:=n}).cells.length->((d.fo a {d.cell a with eD:=n}).cells.getD i fY).cb=ob (d.fo a {d.cell a with eD:=n}).done i ((d.fo a {d.cell a with eD:=n}).cells.getD i fY).iA:=by
 have⟨aB,e⟩:=ba.get h;intro i c;have g:i<d.cells.length:=by simpa [ba.fo]using c
 have f:=ah i g;show((d.cells.set a.toNat {d.cell a with eD:=n}).getD i fY).cb=ob d.done i ((d.cells.set a.toNat {d.cell a with eD:=n}).getD i fY).iA;rw[getD_eq_getElem?_getD,getElem?_set];by_cases b:a.toNat=i
 ·rw[if_pos b,if_pos aB];unfold ba.cell;rw[b];exact f
 ·rw[if_neg b,<- getD_eq_getElem?_getD];exact f
theorem atS(t:d.br)(F:d.done.length<=1000000)(ar:m1 R d)(e:ac H (ab++hj R d))
  (f:∀E jk,ac E (ab++hj jk (d.fH a).1)->jk.aS=R.aS->m1 jk (d.fH a).1->K (int (d.fH a).2) E):aG P 269 [ad R.aS 0,int a] H K:=by
 refine akw.1 ?_;unfold ba.fH at f;refine XR e (al (k:=0) rfl) ?_;refine Z fX ?_;by_cases h:d.ek a
 rotate_left
 ·rw[decide_eq_false h];rw[if_pos h]at f;refine dz rfl ?_;exact f _ R e rfl ar
 rw[if_neg (fun aH=>aH h)]at f;rw[decide_eq_true h];refine cT rfl ?_
 repeat refine aQ ?_
 refine aD e rfl ?_;refine lr (fun u=>?_) (fun u=>?_)
 ·rw[if_pos u]at f;exact f _ R e rfl ar
 rw[if_neg (by rw[u];simp)]at f
 repeat refine aQ ?_
 refine aD e rfl ?_;refine Z (ez h.1 h.2) ?_;refine aD e (by rw[Nat.zero_add,Nat.mul_one];exact XN h) ?_
 repeat refine aQ ?_
 refine aD e rfl ?_;refine Z cN ?_;obtain⟨I,J⟩:=ba.get h;have L:(d.cell a).eD<=d.hx:=by rw[<- J];exact ar.w _ (getElem_mem I)
 refine ay (fun M=>?_) (fun M=>?_)
 ·rw[if_pos U]at f;exact f _ R e rfl ar
 rw[if_neg U]at f;refine LR u t.b ar e ?_;intro H e;refine Z fX ?_;rw[Bool.not_not];have g:=ar.step u;refine lr (fun x=>?_) (fun x=>?_)
 ·rw[if_pos x]at f;exact f _ _ e rfl g
 rw[if_neg (by rw[x];simp)]at f;have fp:=(ba.mf t.c h).w
 repeat refine aQ ?_
 refine bk e (ab.length+0) (al rfl) rfl ?_;refine Z (ez h.1 h.2) ?_;refine bk e (ab.length+2) (al rfl) (v:=int (d.cell a).eD) (by rw[Nat.zero_add,Nat.mul_one];exact XN h) ?_;refine Z (f2 U U) ?_;refine Z (ez h.1 h.2) ?_;refine cQ e (ab.length+2) (al rfl) rfl (by unfold ii;rw[length_map];show _<d.cells.length;omega) (show _=ii (d.step.fo a {d.step.cell a with eD:=(d.cell a).eD+1}).cells from by rw[Nat.zero_add,Nat.mul_one];exact atP) ?_;intro H e
 replace e:=e.bp
 have y:=atO (d:=d.step) (n:=(d.cell a).eD+1) h;have N:(d.step.fo a {d.cell a with eD:=(d.cell a).eD+1}).cells.length=d.cells.length:=length_set;have e:ac H (ab++hj (R.kZ d) (d.step.fo a {d.cell a with eD:=(d.cell a).eD+1})):=by show ac H (ab++([aa R.aS [am R.bu 0 (d.step.fo a {d.cell a with eD:=(d.cell a).eD+1}).cells.length 129,am R.mY 0 (d.step.fo a {d.cell a with eD:=(d.cell a).eD+1}).cells.length 3,int d.hx,R.ck,.bool (decide (0<=d.step.ei)),int (R.kZ d).pz,.bool d.step.ff],aa R.bu (j9 (d.step.fo a {d.step.cell a with eD:=(d.cell a).eD+1}).cells),aa R.mY (ii (d.step.fo a {d.step.cell a with eD:=(d.cell a).eD+1}).cells)]++aw R.ck (ip d.done)));rw[y,N];exact e
 generalize i3:d.step.fo a {d.cell a with eD:=(d.cell a).eD+1}=D at e f;have i:D.ek a:=by rw[<- i3];exact ba.Jh.2 h
 have S:D.br:=by rw[<- i3];have z:=ba.pO t;have r:=ba.mf t.c h;have hm:=t.m;refine ba.Ag z ⟨r.k,r.s,?_⟩;show 0<=(d.cell a).eD+1/\(d.cell a).eD+1<=100000;omega
 have B:D.done=d.done:=by rw[<- i3];rfl
 have j:m1 (R.kZ d) D:=by
  rw[<- i3];refine⟨g.o,atQ h g.s,g.b,?_⟩;intro c r;rcases mem_or_eq_of_mem_set r with r|rfl
  ·exact g.w c r
  ·show(d.cell a).eD+1<=d.hx;omega
 repeat refine aQ ?_
 refine bk e (ab.length+0) (al rfl) rfl ?_;refine FY e ?_;intro e1 p;refine⟨gw e (ab.length+0) (al rfl) p (ab.length+0) (al rfl) (atC _ _ j.o),?_⟩;clear e;refine Z (XP a Jg) ?_;refine el p (XQ a Jg _) ?_;clear p;intro q H e;refine XX i Jg (by rw[B];exact F) j e.left e ?_;clear e;rintro H l C ⟨i2,f1,nP,V⟩ e
 repeat refine aQ ?_
 refine cQ e (ab.length+0) (al rfl) (by rw[V];rfl) (show 3<7 by omega) rfl ?_;clear e;intro H e
 replace e:=e.bp
 refine f H {R.kZ d with ck:=l} ?_ rfl ⟨C,XV i j.s,j.b,XW j.w i⟩;have W:j9 (D.put a iz).cells=j9 D.cells:=XT i;have X:ii (D.put a iz).cells=ii D.cells:=XU i;have m7:mZ {R.kZ d with ck:=l} (D.put a iz)=[am R.bu 0 D.cells.length 129,am R.mY 0 D.cells.length 3,int D.hx,l,.bool (decide (0<=D.ei)),int (R.kZ d).pz,.bool D.ff]:=by unfold mZ;show [am R.bu 0 (D.cells.set _ _).length 129,am R.mY 0 (D.cells.set _ _).length 3,_,_,_,_,_]=_;rw[length_set];rfl
 show ac H (ab++([aa R.aS (mZ {R.kZ d with ck:=l} (D.put a iz)),aa R.bu (j9 (D.put a iz).cells),aa R.mY (ii (D.put a iz).cells)]++aw l (ip (D.put a iz).done)));rw[W,X,m7];exact e
def pC.eX(R:pC)(n:Int):pC:={R with pz:=n}
theorem atT(ar:m1 R d)(a:ac H (ab++hj R d))(b:∀E,ac E (ab++hj (R.eX n) (d.sF n))->m1 (R.eX n) (d.sF n)->K (.tuple [].toArray) E):aG P 47 [ad R.aS 0,int n] H K:=by
 refine agA.1 ?_
 repeat refine aQ ?_
 apply cQ a (ab.length+0) (al rfl) rfl (show 4<7 by omega) rfl;intro H a
 replace a:=a.bp
 repeat refine aQ ?_
 apply cQ a (ab.length+0) (al rfl) rfl (show 5<7 by omega) rfl;intro H a
 replace a:=a.bp
 refine b H ?_ ⟨ar.o,ar.s,fun h=>?_,ar.w⟩
 ·have c:decide ((0:Int)<=max n (-1))=decide (0<=n):=decide_eq_decide.2 U;show ac H (ab++([aa R.aS [am R.bu 0 d.cells.length 129,am R.mY 0 d.cells.length 3,int d.hx,R.ck,.bool (decide (0<=max n (-1))),int n,.bool d.ff],aa R.bu (j9 d.cells),aa R.mY (ii d.cells)]++aw R.ck (ip d.done)));rw[c];exact a
 ·have h:0<=max n (-1):=h;show n=max n (-1);omega
end
section
variable{C jR H K R ag d i j n ci o bu s x ab}
def mc(ag:List Cell)(i:Nat)(s:LI):List Cell:=ag.set i {ag.getD i fY with iA:=s}
theorem atU:(mc ag i s).length=ag.length:=length_set
theorem atV(aB:i<ag.length):((mc ag i s).getD j fY).iA=(if i=j then s else(ag.getD j fY).iA)/\((mc ag i s).getD j fY).cb=(ag.getD j fY).cb/\((mc ag i s).getD j fY).eD=(ag.getD j fY).eD:=by unfold mc;rw[getD_eq_getElem?_getD,getElem?_set];by_cases h:i=j;subst h;rw[if_pos rfl,if_pos aB,if_pos rfl];exact⟨rfl,rfl,rfl⟩;rw[if_neg h,if_neg h,<- getD_eq_getElem?_getD];exact⟨rfl,rfl,rfl⟩
theorem X6:ii (mc ag i s)=ii ag:=by unfold ii mc;rw[map_set];apply ext_getElem?;intro k;rw[getElem?_set];split;rename_i h;subst h;rw[getElem?_map];by_cases aB:i<ag.length;rw[if_pos (by simpa using aB),getElem?_eq_getElem aB,getD_eq_getElem?_getD,getElem?_eq_getElem aB];rfl;rw[if_neg (by simpa using aB),getElem?_eq_none U];rfl;rfl
theorem atW(b:∀c∈ag,c.br)(aB:i<ag.length)(d:o+ci.length<=64)(ah:s=(ag.getD i fY).iA.take o++(ci++(ag.getD i fY).iA.drop (o+ci.length))):
  (j9 ag).take (i*64+o)++(aN ci++(j9 ag).drop (i*64+o+ci.length))=j9 (mc ag i s):=by
 have e:ag.getD i fY=ag[i]:=by rw[getD_eq_getElem?_getD,getElem?_eq_getElem aB];rfl
 have a:=yI (n:=64) (y:={ag.getD i fY with iA:=s}) (fun c f=>by rw[dp];exact(b c f).k) aB (by rw[dp];exact d) (by rw[ah,e,dp];simp[map_drop]);rw[dp]at a;exact a
theorem atX{d:ba}(a:bu=R.bu)(b:ac H (ab++(hj R {d with cells:=C}).set 1 (aa bu ag)))(c:ag=j9 jR)(e:ii jR=ii C)(f:jR.length=C.length):ac H (ab++hj R {d with cells:=jR}):=by subst a;subst c;show ac H (ab++([aa R.aS [am R.bu 0 jR.length 129,am R.mY 0 jR.length 3,int d.hx,R.ck,.bool (decide (0<=d.ei)),int R.pz,.bool d.ff],aa R.bu (j9 jR),aa R.mY (ii jR)]++aw R.ck (ip d.done)));rw[e,f];exact b
theorem X7:sG ag x=mc ag x.1 x.2:=rfl
theorem X8:∀(l:List (Nat×LI)) (ag:List Cell) (i:Nat),(∀x∈l,x.1<ag.length)->((gt ag l).getD i fY).iA=ob l i (ag.getD i fY).iA/\((gt ag l).getD i fY).cb=(ag.getD i fY).cb
 | [],_,_,_=>⟨rfl,rfl⟩
 | x::l,ag,i,h=>by have a:=X8 l (sG ag x) i (fun y c=>by show y.1<(ag.set _ _).length;rw[length_set];exact h y (mem_cons_of_mem _ c));have b:=atV (j:=i) (s:=x.2) (h x mem_cons_self);rw[X7,b.1,b.2.1]at a;exact a
theorem X9:∀(l:List (Nat×LI)) (ag:List Cell),ii (gt ag l)=ii ag
 | [],_=>rfl
 | x::l,ag=>by show ii (gt (sG ag x) l)=_;rw[X9 l,X7,X6]
theorem atY(h:ii jR=ii C)(b:∀c∈C,c.eD<=n):∀c∈jR,c.eD<=n:=by
 have d:jR.map (·.eD)=C.map (·.eD):=by have:=congrArg (map fun v:Value=>match v with|.int _ n=>n|_=>0) h;unfold ii at this;rw[map_map,map_map]at this;exact this
 intro c f;have g:c.eD∈C.map (·.eD):=by rw[<- d];exact List.mem_map.2 ⟨c,f,rfl⟩
 have⟨bC,a,e⟩:=List.mem_map.1 g;rw[<- e];exact b bC a
theorem Ya(l:d.br)(a2:d.done.length<=1000000)(ar:m1 R d)(a:ac H (ab++hj R d))
  (j:∀E jk,ac E (ab++hj jk d.gR.1)->jk.aS=R.aS->m1 jk d.gR.1->K (int d.gR.2) E):aG P 41 [ad R.aS 0] H K:=by
 refine agt.1 ?_;unfold ba.gR at j;refine cy (fun q E=>q=[ad R.aS 0,int 0]/\d.ff=false/\d.step.ff=false/\ac E (ab++hj (R.kZ d) d.step)/\m1 (R.kZ d) d.step) ?_ ?_
 ·repeat refine aQ ?_
  refine aD a rfl ?_;cases n:d.ff with
  | true=>
   rw[if_pos n]at j
   repeat (first|refine aQ ?_|refine hK ?_)
   exact j _ R a rfl ar
  | false=>
   rw[if_neg (by rw[n];simp)]at j;refine cT rfl ?_;refine LR n l.b ar a ?_;intro H a;have f:=ar.step n;refine Z fX ?_;refine Z lb ?_;rw[Bool.not_not];refine lr (fun r=>?_) (fun r=>?_)
   ·rw[if_pos r]at j;exact j _ _ a rfl f
   ·exact⟨rfl,rfl,r,a,f⟩
 rintro q H ⟨rfl,n,r,a,f⟩;rw[if_neg (by rw[n];simp),if_neg (by rw[r];simp)]at j
 repeat refine aQ ?_
 refine bk a (ab.length+0) (al rfl) rfl ?_;refine bg ar.o.aZ ?_;have X:=ba.pO l;have F:=fun x e=>(l.ds x e).2
 refine ags (fun k q E=>∃y:Nat,y<=d.done.length/\k=d.done.length-y/\q=[ad R.aS 0,int 0,R.ck,int d.done.length,int y]/\ac E (ab++hj (R.kZ d) {d.step with cells:=gt d.cells (d.done.take y)})) _ _ ?_ d.done.length _ _ ⟨0,U,rfl,rfl,a⟩;clear a;rintro k q E ⟨y,fS,rfl,rfl,a⟩;unfold Rc;refine ul ?_
 try simp only[c1,c2]
 refine Z cV ?_;refine ay (fun h=>?_) (fun h=>?_)
 ·have g:y<d.done.length:=U
  obtain⟨p,c,N,dw⟩:=Jm ar.o g;have e:=l.ds _ (getElem_mem g);have kA:(hj (R.kZ d) {d.step with cells:=gt d.cells (d.done.take y)})[3]?=some (aa p (ip d.done)):=by show([_,_,_]++aw R.ck (ip d.done))[3]?=_;rw[dw];rfl
  rw[N];refine Z (ez U U) ?_;rw[show 0+((y:Nat):Int).toNat*65=y*65 by rw[Int.toNat_natCast];omega];rw[<- N];refine fe a _ (al kA) (Jn F g) (u7 e.2) U ?_;rw[XO];refine b0 a ?_;clear a;intro t H a;refine dn a (_+0) (al rfl) (by simp[dp,ju]) (u7 e.2) (Jc _) ?_;clear a;intro H a
  replace a:=ac.je a.bp
  replace a:ac H ((ab++[aa t (lO d.done[y])])++hj (R.kZ d) {d.step with cells:=gt d.cells (d.done.take y)}):=a
  have i4:(ab++[aa t (lO d.done[y])])[ab.length+0]?=some (aa t (lO d.done[y])):=al rfl;have u:∀ {H:an} {S:LB},ac H ((ab++[aa t (lO d.done[y])])++S)->ac H (ab++S):=fun h=>ac.bR h
  generalize ab++[aa t (lO d.done[y])]=z at a i4 u;have I:(gt d.cells (d.done.take y)).length=d.cells.length:=u9 _ _;have m:∀c∈gt d.cells (d.done.take y),c.br:=ED _ _ l.c (fun x e=>l.ds x (mem_of_mem_take e));have B:d.done[y].1<(gt d.cells (d.done.take y)).length:=by rw[I];exact e.1
  repeat refine aQ ?_
  refine bk a (z.length+0) (al rfl) (v:=am R.bu 0 (gt d.cells (d.done.take y)).length 129) rfl ?_
  repeat refine aQ ?_
  refine bk a _ (ak i4) rfl ?_
  repeat refine aQ ?_
  refine fe a _ (ak i4) (?_) (by rw[dp];exact e.2) U ?_
  ·show(aN d.done[y].2).take 64=_;exact take_of_length_le (by rw[dp,e.2];exact Nat.le_refl _)
  refine Z (ez U U) ?_;rw[show 0+((d.done[y].1:Nat):Int).toNat*64=d.done[y].1*64+0 by rw[Int.toNat_natCast];omega];refine kx a (z.length+1) (al rfl) (show(aN d.done[y].2).length=64 by rw[dp];exact e.2) (by show _<=(j9 (gt d.cells (d.done.take y))).length;rw[atB m];omega) (ge _) ?_;clear a;intro H a
  replace a:=a.bp
  have J:=(alu m B).k;have V:=atW (o:=0) m B (by rw[e.2];omega) (by rw[take_zero,nil_append,drop_of_length_le (by rw[J,e.2];omega),append_nil]);rw[e.2]at V;have kt:gt d.cells (d.done.take (y+1))=mc (gt d.cells (d.done.take y)) d.done[y].1 d.done[y].2:=by rw[take_succ_eq_append_getElem g,Ta];rfl
  have C:=atX rfl a V X6 atU;rw[<- kt]at C
  repeat refine aQ ?_
  exact⟨_,U,y+1,U,rfl,rfl,u C⟩
 ·have tP:y=d.done.length:=U
  subst tP;rw[take_length]at a;refine iR rfl ?_
  try simp only[c1,c2]
  repeat refine aQ ?_
  refine cQ a (ab.length+0) (al rfl) rfl (show 3<7 by omega) rfl ?_;clear a;intro H a;have L:=X9 d.done d.cells;refine j _ {R.kZ d with ck:=aA} ?_ rfl ⟨.inl ⟨rfl,rfl,rfl⟩,fun i M=>?_,f.b,atY L ar.w⟩
  ·have eh:=a.bp;exact eh.sub (List.Sublist.append (List.Sublist.refl _) (List.Sublist.append (List.Sublist.refl _) (nil_sublist _)))
  ·have W:=X8 d.done d.cells i (fun x e=>(l.ds x e).1);have M:i<d.cells.length:=by have:i<(gt d.cells d.done).length:=M;rw[u9]at this;exact this
   show((gt d.cells d.done).getD i fY).cb=((gt d.cells d.done).getD i fY).iA;rw[W.1,W.2];exact ar.s i M
end
section
variable{H K M cL M2 l m part bb v w ab}
structure lA.Eq (M cL:lA):Prop where
 m:cL.bn=M.bn
 d:cL.r.aS=M.r.aS
theorem lA.Eq.eu:lA.Eq M M:=⟨rfl,rfl⟩
theorem lA.Eq.trans(h:lA.Eq M cL)(a:lA.Eq cL M2):lA.Eq M M2:=⟨a.m.trans h.m,a.d.trans h.d⟩
theorem atZ(k:m.br)(ah:m.eV 1000000)(f:gX M m)(a:ac H (ab++cW M m))
  (b:∀E cL,ac E (ab++cW cL (m.fH part bb).1)->M.Eq cL->gX cL (m.fH part bb).1->K (int (m.fH part bb).2) E):aG P 247 [ad M.bn 0,int part,int bb] H K:=by
 refine aj7.1 ?_;refine LU k f a (Z f5 (Z f6 ?_));unfold bh.fH at b;refine cy (fun l E=>∃(cL:lA) (dr:ba) (i:Int),l=[ad M.bn 0,int part,int bb,int i]/\ac E (ab++cW cL {m with d:=dr})/\M.Eq cL/\gX cL {m with d:=dr}/\((m.gK part bb).2≠0/\dr=m.d/\i=(m.gK part bb).2\/(m.gK part bb).2=0/\dr=(m.d.fH (m.gK part bb).1).1/\i=(m.d.fH (m.gK part bb).1).2)) ?_ ?_;refine Z cN (ay (fun h=>?_) (fun h=>?_));exact ai (aD a rfl (atS k.d ah.1 f.r (cW.pY a) fun H t a e ar=>⟨{M with r:=t},_,_,rfl,cW.rQ e a,⟨rfl,e⟩,⟨ar,f.o,f.s⟩,.inr ⟨h,rfl,rfl⟩⟩));exact⟨M,m.d,_,rfl,a,lA.Eq.eu,f,.inl ⟨h,rfl,rfl⟩⟩;rintro l H ⟨cL,dr,i,rfl,a,g,c,n⟩;apply Z cN;rw[<- g.m];refine ay (fun h=>?_) (fun h=>?_);rcases n with⟨e,rfl,rfl⟩|⟨e,rfl,rfl⟩
 exact absurd h e;rw[if_neg (by rw[e];simp)]at b;unfold bh.mi at b;simp[if_pos h]at b;refine ai (aD a rfl (ai (aD a rfl (Z (X1 _ _ _ _) (el a (Jr _ _) fun q H a=>X3 (by exact Nat.le_trans ah.2 U) c a ?_)))));intro H j p a;have⟨v,f1,w,u⟩:=X2 p;refine ai (cQ a (ab.length+0) (al rfl) (by rw[u];rfl) (show 3<4 by omega) rfl ?_);intro H a
 replace a:=a.bp
 exact b H {cL with e0:=j} a ⟨g.m,g.d⟩ ⟨c.r,p,c.s⟩;rcases n with⟨e,rfl,rfl⟩|⟨e,rfl,rfl⟩
 rw[if_pos e]at b;exact b H cL a g c;rw[if_neg (by rw[e];simp)]at b;unfold bh.mi at b;simp[if_neg h]at b;exact b H cL a g c
theorem at0{m:bh}:(m.fH part bb).1.e3=m.e3:=by unfold bh.fH;split;rfl;unfold bh.mi;split<;>rfl
theorem Yb(b:gX M m)(a:ac H (ab++cW M m))
  (c:∀E,ac E ((ab++aw M.e0 (hM m.bm))++cW {M with e0:=aA} {m with bm:=[]})->gX {M with e0:=aA} {m with bm:=[]}->K M.e0 E):aG P 42 [ad M.bn 0] H K:=by
 refine agu.1 ?_;refine ai (aD a rfl (ai (cQ a (ab.length+0) (al rfl) rfl (show 3<4 by omega) rfl ?_)));intro H a
 replace a:=a.bp
 refine c H ?_ ⟨b.r,.inl ⟨rfl,rfl,rfl⟩,b.s⟩;have e:ac H (ab++(uj {M with e0:=aA} {m with bm:=[]}++(aw M.e0 (hM m.bm)++hj M.r m.d))):=a;apply e.cf;show(ab++(uj _ _++(aw M.e0 (hM m.bm)++hj M.r m.d))).Perm ((ab++aw M.e0 (hM m.bm))++(uj _ _++([]++hj M.r m.d)));exact(by classical exact perm_iff_count.2 fun _=>by simp only[count_append,count_nil];omega)
def Yc:List oJ:=[.i .i64,.i .i64,.i .i64,.i .i64]
theorem at1:nk P 100 86=some Yc:=by kernel_rfl
theorem LV(o:Op):h4 Yc (hJ o):=⟨rfl,rfl,rfl,rfl,trivial⟩
theorem at5(o:Op)(c:Bool):(cz P .neq 86 c).f (agg (hJ o)) (agg (hJ o))=some (.bool false):=by rw[H9 at1 (by kernel_rfl) (by kernel_rfl) (LV o) (LV o),PI (LV o)];rfl
theorem at6{i1:Nat}{kA:Nat}(e:ac H ab)(g:dK 4 v l.length (hM l))(j:dK 4 w l.length (hM l))(r:l≠[]->∃p c,v=am p 0 l.length c/\ab[i1]?=some (aa p (hM l)))(s:l≠[]->∃p c,w=am p 0 l.length c/\ab[kA]?=some (aa p (hM l)))(z:l.length<=1000000000)(t:K (.bool true) H):aG P 52 [v,w] H K:=by
 refine agH.1 ?_;refine bg g.aZ (bg j.aZ (Z dX (ix aW (bg g.aZ (agG (fun k i E=>∃y:Nat,y<=l.length/\k=l.length-y/\i=[v,w,.bool false,int l.length,int y]/\E=H) _ _ ?_ l.length _ _ ⟨0,U,rfl,rfl,rfl⟩)))));rintro k i E ⟨y,B,rfl,rfl,rfl⟩;refine Z cV (ay (fun h=>?_) (fun h=>?_));have a:y<l.length:=U
 have b:l≠[]:=fun h=>by rw[h]at a;cases a
 obtain⟨p,c,rfl,u⟩:=r b;obtain⟨q,bC,rfl,x⟩:=s b;have d:((hM l).drop (0+((y:Nat):Int).toNat*4)).take 4=hJ l[y]:=by have:=u6 (f:=hJ) (o:=0) (m:=4) (n:=4) (fun _ _=>rfl) a U;rw[show 0+((y:Nat):Int).toNat*4=y*4+0 by omega];unfold hM;rw[this];rfl
 refine Z (ez U U) (fe e i1 u d rfl U (Z (ez U U) (fe e kA x d rfl U (Z (at5 _ _) (cT rfl ?_)))))
 repeat refine aQ ?_
 exact⟨_,U,y+1,U,rfl,rfl,by first|rfl|trivial⟩;have C:y=l.length:=U
 exact t
end
end J
