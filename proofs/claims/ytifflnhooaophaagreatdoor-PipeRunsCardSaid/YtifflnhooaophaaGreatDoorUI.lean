/- texts of the kp, du behind the jV -/
import Derived.Test.YtifflnhooaophaaGreatDoorUH
set_option linter.unusedVariables false
set_option linter.unusedSimpArgs false
set_option linter.unusedSectionVars false
set_option maxHeartbeats 4000000
set_option maxRecDepth 100000
open List Nat
namespace J
open Go Go.Ab
variable[c0:cH]
section
variable{H K L a c b3 aI f k n q r v eW z ab}{j i:Nat}{ag:aj}
def cw(q n eW f k:Nat):aj:=[am q 0 n (2*eW+1),int f,int k,.bool false]
structure gU (eW n f:Nat) (aI:List aj) (ag:aj):Prop where
 f1:1<=n
 sQ:n<=16
 cj:f<n
 jy:aI.length<=n
 len:ag.length=n*eW
 w0:∀e∈aI,e.length=eW
 e8:∀j (h:j<aI.length),(ag.drop (((f+j)%n)*eW)).take eW=aI[j]
theorem y7(a:1<=n)(j:Nat):(f+j)%n<n:=mod_lt _ U
theorem Va(a:f<n)(b:j<n):(f+j)%n=if f+j<n then f+j else f+j-n:=by
 split
 simp_all[mod_eq_of_lt]
 rw[mod_eq_sub_mod U,mod_eq_of_lt U]
theorem Vb{k:Nat}(a:f<n)(c:j<k)(b:k<n):(f+j)%n≠(f+k)%n:=by
 rw[Va a b,Va a U]
 grind
theorem Vc(h:a<n)(b:ag.length=n*eW)(c:b3.length=eW):(ag.take (a*eW)++(b3++ag.drop (a*eW+eW))).length=n*eW:=by
 have:a*eW+eW<=n*eW:=by rw[<- succ_mul];exact mul_le_mul_right _ h
 grind
theorem aoo(h:a<n)(b:ag.length=n*eW)(c:b3.length=eW):((ag.take (a*eW)++(b3++ag.drop (a*eW+eW))).drop (a*eW)).take eW=b3:=by grind[mul_le_mul_right]
theorem Vd(h:a<n)(e:c<n)(b:a≠c)(g:ag.length=n*eW)(i:b3.length=eW):((ag.take (a*eW)++(b3++ag.drop (a*eW+eW))).drop (c*eW)).take eW=(ag.drop (c*eW)).take eW:=by
 have j:c*eW+eW<=n*eW:=by rw[<- succ_mul];exact mul_le_mul_right _ e
 apply ext_getElem?;intro y;rw[getElem?_take,getElem?_take];split;rw[getElem?_drop,getElem?_drop];rcases Nat.lt_or_gt_of_ne b with d|d
 have f:a*eW+eW<=c*eW:=by rw[<- succ_mul];exact mul_le_mul_right _ d
 grind
 have f:c*eW+eW<=a*eW:=by rw[<- succ_mul];exact mul_le_mul_right _ d
 grind
 rfl
theorem gU.Ve(h:gU eW n f aI ag)(d:aI.length<n)(c:b3.length=eW):gU eW n f (aI++[b3]) (ag.take (((f+aI.length)%n)*eW)++(b3++ag.drop (((f+aI.length)%n)*eW+eW))):=by
 have b:=y7 (f:=f) h.f1 aI.length;refine⟨h.f1,h.sQ,h.cj,aT,Vc b h.len c,?_,?_⟩;intro e b;rcases mem_append.1 b with a|a
 exact h.w0 e a
 simp_all
 intro j g;by_cases a:j<aI.length;rw[Vd b (y7 h.f1 j) (Vb h.cj a d).symm h.len c,getElem_append_left a];exact h.e8 j a;have:j=aI.length:=aT
 subst this;rw[aoo b h.len c];simp
theorem gU.Vf(h:gU eW n f (b3::aI) ag)(a:z.length=eW):gU eW n ((f+1)%n) aI (ag.take (f*eW)++(z++ag.drop (f*eW+eW))):=by
 have b:=h.jy;rw[length_cons]at b;refine⟨h.f1,h.sQ,y7 h.f1 1,U,Vc h.cj h.len a,fun e c=>h.w0 e (mem_cons_of_mem _ c),?_⟩;intro j i;have d:((f+1)%n+j)%n=(f+(j+1))%n:=by grind[mod_add_mod]
 have g:f≠(f+(j+1))%n:=by have:=Vb (j:=0) (k:=j+1) h.cj U U;rw[Nat.add_zero,mod_eq_of_lt h.cj]at this;exact this
 rw[d,Vd h.cj (y7 h.f1 (j+1)) g h.len a];exact h.e8 (j+1) aT
theorem gU.head(h:gU eW n f (b3::aI) ag):(ag.drop (f*eW)).take eW=b3:=by have:=h.e8 0 aW;rw[Nat.add_zero,mod_eq_of_lt h.cj]at this;exact this
theorem Vg(a:ac H (ab++L))(b:L[i]?=some (aa r (cw q n 2 f k)))(c:k<=n)(d:n<=16)(j6:K (int ((n-k:Nat):Int)) H):aG P 128 [ad r 0] H K:=by refine ah6.1 ?_;refine ai (bY a i b rfl (cT rfl (ai (bY a i b rfl (bg pQ (ai (bY a i b rfl (Z (iS U U) ?_))))))));rw[show((n-k:Nat):Int)=(n:Int)-k by omega]at j6;exact j6
theorem Vh(a:ac H (ab++L))(b:L[i]?=some (aa r (cw q n 2 f k)))(c:f<n)(d:n<=16)(e:j<=16)(j6:K (int (((f+j)%n:Nat):Int)) H):aG P 189 [ad r 0,int j] H K:=by refine ai6.1 ?_;exact ai (bY a i b rfl (Z (n0 U) (ai (bY a i b rfl (bg pQ (Z (p5 U) j6))))))
theorem aop(a:ac H (ab++L))(b:L[i]?=some (aa r (cw q n 2 f k)))(j6:K (int k) H):aG P 136 [ad r 0] H K:=by refine aid.1 ?_;exact ai (bY a i b rfl j6)
theorem n1(l:aj):es (agg l)=l:=rfl
theorem aoq(c:ac H (ab++L))(o:L[i]?=some (aa r (cw q n 2 f aI.length)))(z:L[j]?=some (aa q ag))(C:i≠j)(h:gU 2 n f aI ag)(F:dx v=true)(p:cS v=true)
  (s:aI.length=n->∀E,ac E (ab++L)->K (.bool false) E)
  (e:aI.length<n->∀E bI,gU 2 n f (aI++[[int a,v]]) bI->ac E (ab++((L.set j (aa q bI)).set i (aa r (cw q n 2 f (aI.length+1)))))->K (.bool true) E):
  aG P 130 [ad r 0,agg [int a,v]] H K:=by
 refine ah8.1 ?_;have t:=h.jy;have g:=h.sQ;have I:=(List.getElem?_eq_some_iff.1 o).1;have u:=(List.getElem?_eq_some_iff.1 z).1;rw[n1];apply dA c;intro w H c;have d:=ak (L:=[aa w [int a,v]]) o;have x:=ak (L:=[aa w [int a,v]]) z;refine Vg c d t g (Z cN (ay (fun J=>s U H (tT c)) (fun J=>?_)));have k:aI.length<n:=U
 have M:=y7 (f:=f) h.f1 aI.length;refine ai (bY c i d rfl (ai (bY c i d rfl (Vh c d h.cj g U (⟨gw c _ (al d) c _ (al d) rfl,?_⟩)))));refine bK c rfl U (⟨jf c c (by simp[F];rfl),?_⟩);apply Z (ez U U);have l:0+(((f+aI.length)%n:Nat):Int).toNat*2=((f+aI.length)%n)*2:=U
 rw[l];have y:(f+aI.length)%n*2+2<=ag.length:=by rw[h.len];omega
 apply kx c _ (al x) ao y (by simp[n1,p];rfl);intro H c
 replace c:=c.bp
 rw[set_append_left _ _ u]at c;have ah:gU 2 n f (aI++[[int a,v]]) (ag.take (((f+aI.length)%n)*2)++(es (agg [int a,v])++ag.drop (((f+aI.length)%n)*2+2))):=h.Ve k rfl;generalize ag.take (((f+aI.length)%n)*2)++(es (agg [int a,v])++ag.drop (((f+aI.length)%n)*2+2))=B at*;have m:=ak (L:=[aa w [int a,v]]) ((getElem?_set_ne (by omega:j≠i):(L.set j (aa q B))[i]?=L[i]?).trans o);refine ai (bY c i m rfl (Z (n0 (b:=1) U) (ai (cr c i m rfl (by simp[cw]) ?_))));intro H c;rw[set_append_left _ _ a1]at c;exact e k H B ah (tT c)
end
section
variable{H K L ag aI f i j n q r ab}{A:aj}
theorem Vi:fF P 179=[int 0,aA]:=ao
def Kn(z:aj):List aj->aj
 | []=>z
 | b3::_=>b3
def Vj:List aj->Bool
 | []=>false
 | _::_=>true
theorem kk(h:A.length=1):∃a,A=[a]:=by
 match A,h with
 | [a],_=>simp_all
theorem aor{i:Nat}{j:Nat}(a:ac H (ab++L))(m:L[i]?=some (aa r (cw q n 2 f aI.length)))(o:L[j]?=some (aa q ag))(h:gU 2 n f aI ag)(p:∀e∈aI,e.all cS=true)
  (g:∀E,ac E (ab++L)->K (.tuple [agg (Kn [int 0,aA] aI),.bool (Vj aI)].toArray) E):aG P 195 [ad r 0] H K:=by
 refine ajc.1 ?_;refine dA a fun ax H a=>dA a ?_
 intro k H a;rw[append_assoc]at a;have b:=ak (L:=[aa ax [int 0,aA],aa k [int 0,aA]]) m;have c:=ak (L:=[aa ax [int 0,aA],aa k [int 0,aA]]) o;refine ai (bY a i b rfl (Z cN ?_));cases aI with
 | nil=>refine kf rfl (fI a (L.length+1) (al rfl) rfl U (gS a (L.length+0) (al rfl) rfl rfl rfl ?_));intro H a;rw[Go.Ab.bp]at a;exact fI a (L.length+0) (al rfl) rfl U (g H (tT a))
 | cons l aI=>apply ix aT;have d:=h.w0 l aW;have s:=p l aW;have t:=h.cj;refine ai (bY a i b rfl (ai (bY a i b rfl (Z (ez U U) ?_))));rw[show 0+((f:Nat):Int).toNat*2=f*2 by omega];refine fe a _ (al c) h.head d U (gS a (L.length+0) (al rfl) rfl d s ?_);intro H a;rw[Go.Ab.bp]at a;exact fI a (L.length+0) (al rfl) d U (g H (tT a))
theorem aos(a:ac H (ab++L))(p:L[i]?=some (aa r (cw q n 2 f aI.length)))(s:L[j]?=some (aa q ag))(I:i≠j)(h:gU 2 n f aI ag)(z:∀e∈aI,e.all cS=true)
  (t:aI=[]->∀E,ac E (ab++L)->K (.tuple [agg [int 0,aA],.bool false].toArray) E)
  (g:∀b3 aX,aI=b3::aX->∀E bI,gU 2 n ((f+1)%n) aX bI->ac E (ab++((L.set j (aa q bI)).set i (aa r (cw q n 2 ((f+1)%n) aX.length))))->K (.tuple [agg b3,.bool true].toArray) E):
  aG P 138 [ad r 0] H K:=by
 refine aif.1 ?_;have u:=h.sQ;have J:=h.cj;have M:=(List.getElem?_eq_some_iff.1 p).1;have v:=(List.getElem?_eq_some_iff.1 s).1;refine dA a ?_;intro ax H a;refine aor a (ak p) (ak s) h z ?_;intro H a;refine Z rfl (Z rfl (dA a ?_));intro B H a;rw[append_assoc]at a;have b:(Kn [int 0,aA] aI).length=2:=by
  cases aI with
  | nil=>rfl
  | cons b3 aI=>exact h.w0 b3 aW
 have d:(Kn [int 0,aA] aI).all cS=true:=by
  cases aI with
  | nil=>rfl
  | cons b3 aI=>exact z b3 aW
 refine gS a (L.length+1) (al rfl) rfl b d ?_;intro H a;rw[Go.Ab.bp]at a;cases aI with
 | nil=>refine cT rfl (fI a (L.length+1) (al rfl) b U (gS a (L.length+0) (al rfl) rfl b d ?_));intro H a;rw[Go.Ab.bp]at a;exact fI a (L.length+0) (al rfl) b U (t rfl H (tT a))
 | cons b3 aI=>
  have w:=h.jy;rw[length_cons]at w;refine dz rfl (dA a ?_);intro C H a;rw[append_assoc]at a
  replace a:ac H (ab++(L++[aa ax [int 0,aA],aa B b3,aa C [int 0,aA]])):=a
  generalize F:[aa ax [int 0,aA],aa B b3,aa C [int 0,aA]]=T at*;have k:=ak (L:=T) p;have x:=ak (L:=T) s;refine ai (bY a i k rfl (ai (bY a i k rfl (fI a (L.length+2) (al (by rw[<- F];rfl)) rfl U (Z (ez U U) ?_)))));rw[show 0+((f:Nat):Int).toNat*2=f*2 by omega];have y:f*2+2<=ag.length:=by rw[h.len];omega
  refine kx a _ (al x) ao y ao ?_;intro H a
  replace a:=a.bp
  rw[set_append_left _ _ v]at a;have ah:gU 2 n ((f+1)%n) aI (ag.take (f*2)++(es (agg [int 0,aA])++ag.drop (f*2+2))):=h.Vf rfl;generalize ag.take (f*2)++(es (agg [int 0,aA])++ag.drop (f*2+2))=l at*;have m:=ak (L:=T) ((getElem?_set_ne (by omega:j≠i):(L.set j (aa q l))[i]?=L[i]?).trans p);refine Vh (j:=1) a m J u U (ai (cr a i m rfl (by simp[cw]) ?_));intro H a;rw[set_append_left _ _ a1]at a;have o:((L.set j (aa q l)).set i (aa r (cw q n 2 ((f+1)%n) _))++T)[i]?=some (aa r (cw q n 2 ((f+1)%n) (aI.length+1))):=ak (getElem?_set_self a1)
  replace a:=a
  refine ai (bY a i o rfl (Z (iS U U) (ai (cr a i o rfl (by simp[cw]) ?_))));intro H a;rw[set_append_left _ _ a1,set_set]at a
  replace a:ac H (ab++((L.set j (aa q l)).set i (aa r [am q 0 n 5,int ((f+1)%n:Nat),int (((aI.length+1:Nat):Int)-1),.bool false])++T)):=a
  rw[show(((aI.length+1:Nat):Int)-1)=aI.length by omega]at a;have c:((L.set j (aa q l)).set i (aa r [am q 0 n 5,int ((f+1)%n:Nat),int aI.length,.bool false])).length=L.length:=aW
  subst F;refine fI a (L.length+1) (by rw[<- c];exact al rfl) b U (gS a (L.length+0) (by rw[<- c];exact al rfl) rfl b d ?_);intro H a;rw[<- c,Go.Ab.bp]at a;exact fI a (L.length+0) (by rw[<- c];exact al rfl) b U (g b3 aI rfl H l ah (tT a))
end
section
variable{H K L ag aI f k n q r v x z ab}{i j:Nat}
theorem Fe(a:ac H (ab++L))(b:L[i]?=some (aa r (cw q n 1 f k)))(c:k<=n)(d:n<=16)(j6:K (int ((n-k:Nat):Int)) H):aG P 137 [ad r 0] H K:=by refine aie.1 ?_;refine ai (bY a i b rfl (cT rfl (ai (bY a i b rfl (bg pQ (ai (bY a i b rfl (Z (iS U U) ?_))))))));rw[show((n-k:Nat):Int)=(n:Int)-k by omega]at j6;exact j6
theorem Vk(a:ac H (ab++L))(b:L[i]?=some (aa r (cw q n 1 f k)))(c:f<n)(d:n<=16)(e:j<=16)(j6:K (int (((f+j)%n:Nat):Int)) H):aG P 183 [ad r 0,int j] H K:=by refine ai1.1 ?_;exact ai (bY a i b rfl (Z (n0 U) (ai (bY a i b rfl (bg pQ (Z (p5 U) j6))))))
theorem Ko(h:cS v=true):es v=[v]:=by cases v<;>first|rfl|(cases h;done)
theorem y8(a:ac H (ab++L))(c:L[i]?=some (aa r (cw q n 1 f aI.length)))(u:L[j]?=some (aa q ag))(w:i≠j)(h:gU 1 n f aI ag)(m:cS v=true)
  (o:aI.length=n->K (.bool false) H)
  (d:aI.length<n->∀E bI,gU 1 n f (aI++[[v]]) bI->ac E (ab++((L.set j (aa q bI)).set i (aa r (cw q n 1 f (aI.length+1)))))->K (.bool true) E):
  aG P 194 [ad r 0,v] H K:=by
 refine ajb.1 ?_;have p:=h.jy;have e:=h.sQ;refine Fe a c p e (Z cN (ay (fun x=>o U) (fun x=>?_)));have g:aI.length<n:=U
 have y:=y7 (f:=f) h.f1 aI.length;refine ai (bY a i c rfl (ai (bY a i c rfl (Vk a c h.cj e U (⟨gw a _ (al c) a _ (al c) rfl,?_⟩)))));apply Z (ez U U);have k:0+(((f+aI.length)%n:Nat):Int).toNat*1=((f+aI.length)%n)*1:=U
 rw[k];have s:(f+aI.length)%n*1+1<=ag.length:=by rw[h.len];omega
 apply kx a _ (al u) (by grind[Ko]) s (by simp_all[Ko]);intro H a
 replace a:=a.bp
 rw[Ko m]at a;have ah:gU 1 n f (aI++[[v]]) (ag.take (((f+aI.length)%n)*1)++([v]++ag.drop (((f+aI.length)%n)*1+1))):=h.Ve g rfl;generalize ag.take (((f+aI.length)%n)*1)++([v]++ag.drop (((f+aI.length)%n)*1+1))=t at*;have l:(L.set j (aa q t))[i]?=_:=(getElem?_set_ne (by omega:j≠i)).trans c;exact ai (bY a i l rfl (Z (n0 (b:=1) U) (ai (cr a i l rfl (by simp[cw]) (fun H a=>d g H t ah a)))))
noncomputable def aot:List aj->Value
 | []=>.nilIface
 | b3::_=>bS b3 0
theorem aou(b:ac H (ab++L))(c:L[i]?=some (aa r (cw q n 1 f aI.length)))(g:L[j]?=some (aa q ag))(h:gU 1 n f aI ag)
  (d:K (.tuple [aot aI,.bool (Vj aI)].toArray) H):aG P 182 [ad r 0] H K:=by
 refine ai0.1 ?_;refine ai (bY b i c rfl (Z cN ?_));cases aI with
 | nil=>exact kf rfl d
 | cons k aI=>
  apply ix aT;have m:=h.w0 k aW;have s:=h.cj;obtain⟨a,rfl⟩:=kk m;refine ai (bY b i c rfl (ai (bY b i c rfl (Z (ez U U) ?_))));have o:=h.head;have p:ag[0+((f:Nat):Int).toNat*1]?=some a:=by
   have e:=congrArg (fun l=>l[0]?) o
   grind
  exact bY b j g p d
theorem Vl(b:ac H (ab++L))(c:L[i]?=some (aa r (cw q n 1 f aI.length)))(s:L[j]?=some (aa q ag))(t:i≠j)(h:gU 1 n f aI ag)
  (k:aI=[]->K (.tuple [.nilIface,.bool false].toArray) H)
  (d:∀a aX,aI=[a]::aX->∀E bI,gU 1 n ((f+1)%n) aX bI->ac E (ab++((L.set j (aa q bI)).set i (aa r (cw q n 1 ((f+1)%n) aX.length))))->K (.tuple [a,.bool true].toArray) E):
  aG P 126 [ad r 0] H K:=by
 refine ah3.1 ?_;have l:=h.sQ;have u:=h.cj;have v:=(List.getElem?_eq_some_iff.1 c).1;refine aou b c s h (Z rfl (Z rfl ?_));cases aI with
 | nil=>exact cT rfl (k rfl)
 | cons w aI=>
  have m:=h.jy;rw[length_cons]at m;obtain⟨a,rfl⟩:=kk (h.w0 w aW);refine dz rfl (ai (bY b i c rfl (ai (bY b i c rfl (Z (ez U U) ?_)))));rw[show 0+((f:Nat):Int).toNat*1=f*1 by omega];have o:f*1+1<=ag.length:=by rw[h.len];omega
  apply kx b _ (al s) ao o ao;intro H b
  replace b:=b.bp
  have ah:gU 1 n ((f+1)%n) aI (ag.take (f*1)++(es .nilIface++ag.drop (f*1+1))):=h.Vf rfl;generalize ag.take (f*1)++(es .nilIface++ag.drop (f*1+1))=p at*;have e:(L.set j (aa q p))[i]?=_:=(getElem?_set_ne (by omega:j≠i)).trans c;refine Vk (j:=1) b e u l U (ai (cr b i e rfl (by simp[cw]) ?_));intro H b;have g:((L.set j (aa q p)).set i (aa r (cw q n 1 ((f+1)%n) _)))[i]?=some (aa r (cw q n 1 ((f+1)%n) (aI.length+1))):=getElem?_set_self a1;refine ai (bY b i g rfl (Z (iS U U) (ai (cr b i g rfl (by simp[cw]) ?_))));intro H b;rw[set_set]at b;rw[show(((aI.length+1:Nat):Int)-1)=aI.length by omega]at b;exact d a aI rfl H p ah b
def d8(x:Int):Nat:=(max 1 (min x 16)).toNat
theorem Kp(x:Int):1<=d8 x/\d8 x<=16/\((d8 x:Nat):Int)=max 1 (min x 16):=by grind[d8]
theorem Vm(n:Nat)(a:1<=n)(b:n<=16):gU z.length n 0 [] (fr n z):=⟨a,b,U,aW,CL n z,aW,fun j h=>by simp at h⟩
theorem aov(a:ac H (ab++L))(b:∀E q r ag,gU 2 (d8 x) 0 [] ag->ac E (ab++(L++[aa q ag,aa r (cw q (d8 x) 2 0 0)]))->K (ad r 0) E):aG P 77 [int x] H K:=by
 refine ahb.1 ?_;have⟨r1,r2,eK⟩:=Kp x;refine bg rE (bg uQ ?_);rw[<- eK];rw[show(lD P 134).f (int (d8 x:Nat)) (int (d8 x:Nat)) H=o4 2 32 [int 0,aA] (int (d8 x:Nat)) (int (d8 x:Nat)) H from by rfl];refine uR a U U fun q H a=>Z ao (b0 a (fun r H a=>b H q r _ (Vm (z:=[int 0,aA]) _ r1 r2) ?_))
 rw[append_assoc,append_assoc]at a;exact a
theorem Vn(a:ac H (ab++L))(b:∀E q r ag,gU 1 (d8 x) 0 [] ag->ac E (ab++(L++[aa q ag,aa r (cw q (d8 x) 1 0 0)]))->K (ad r 0) E):aG P 78 [int x] H K:=by
 refine ahc.1 ?_;have⟨r1,r2,eK⟩:=Kp x;refine bg rE (bg uQ ?_);rw[<- eK];rw[show(lD P 269).f (int (d8 x:Nat)) (int (d8 x:Nat)) H=o4 1 16 [.nilIface] (int (d8 x:Nat)) (int (d8 x:Nat)) H from by rfl];refine uR a U U fun q H a=>Z ao (b0 a (fun r H a=>b H q r _ (Vm (z:=[.nilIface]) _ r1 r2) ?_))
 rw[append_assoc,append_assoc]at a;exact a
end
section
variable{H K a b c aq i m t ab}
def gl(m:fi)(i:Int):Int×Int:=if¬dy m\/i<0\/i≥m.aU.length then(0,0)else(i*m.bz,min m.bz (m.cY-i*m.bz))
theorem Bw{i:Int}(f:dy m)(e:0<=i)(l:i<m.aU.length):0<=i*m.bz/\i*m.bz<=65536/\(i=(m.aU.length:Int)-1->m.cY-i*m.bz<=m.bz/\0<m.cY-i*m.bz)/\(i≠(m.aU.length:Int)-1->m.bz<=m.cY-i*m.bz):=by
 have⟨_,_,_,cr,ej,n,o,_,g,p⟩:=f;unfold kS at g;have q:=Int.mul_ediv_add_emod (m.cY-1) m.bz;have j:=Int.emod_nonneg (m.cY-1) (show m.bz≠0 by omega);have k:=Int.emod_lt_of_pos (m.cY-1) (show 0<m.bz by omega);generalize (m.cY-1)/m.bz=d at*;have b:∀a c:Int,0<=a->a<=c->a*m.bz<=c*m.bz:=fun a c _ h=>Int.mul_le_mul_of_nonneg_right h U
 have r:m.bz*d=d*m.bz:=Int.mul_comm _ _;have s:=b 0 i U e;have t:=b i d e U;refine⟨U,U,fun h=>?_,fun h=>?_⟩
 grind
 have u:=b (i+1) d U U
 grind
theorem y9(d:-9223372036854775808<=a*b)(e:a*b<=9223372036854775807):(cz P .mul t c).f (int a) (int b)=some (int (a*b)):=by show some (Value.int .i64 (hk .i64 (a*b)))=_;rw[tz d e]
theorem Kq(d:m.br)(g:df ab aq m.aU)(a:ac H ab)(c:∀E,ac E ab->K (.tuple [int (gl m i).1,int (gl m i).2].toArray) E):aG P 188 [agg (aR m aq),int i] H K:=by
 refine ai5.1 ?_;have e:=lv (aq:=aq) d.bi;refine dA a.z fun b5 H a=>cy (fun j E=>j=[int i,ad b5 0,.bool (decide (¬dy m\/i<0\/i≥m.aU.length))]/\ac E (ab++[aa b5 (aR m aq)])) ?_ ?_
 refine fI a 0 rfl (b7 d.bi) U (y0 d g.app a (fun H a=>Z fX ?_));by_cases b:dy m;rw[decide_eq_true b];refine cT rfl (Z cV (Z lb (ay (fun h=>Z (dT h) (⟨by simp[h],a⟩)) (fun h=>?_))));exact Z bj (aD a e (bg g.aZ (Z kM (Z (dl h) (⟨aT,a⟩)))));rw[decide_eq_false b];exact dz rfl (Z ja (Z ja (⟨by simp[b],a⟩)));rintro j H ⟨rfl,a⟩;unfold gl at c;refine ay (fun h=>?_) (fun h=>?_);rw[if_pos h]at c;exact c H a.left;rw[if_neg h]at c;have b:=Classical.byContradiction fun k=>h (.inl k)
 have⟨cr,ej,l,n⟩:=Bw (i:=i) b U U;have f:=b;have⟨_,_,_,o,p,q,r,_⟩:=f;exact Z bj (aD a rfl (Z (y9 U U) (Z bj (aD a rfl (Z bj (aD a rfl (Z (iS U U) (bg rE (c H a.left)))))))))
theorem Kr(e:m.br)(f:df ab aq m.aU)(a:ac H ab)(b:∀E,ac E ab->K (.tuple [int (gl m i).1,int (gl m i).2].toArray) E):aG P 36 [agg (aR m aq),int i] H K:=by
 refine agn.1 ?_;have d:=lv (aq:=aq) e.bi;refine dA a.z fun b5 H a=>cy (fun j E=>j=[int i,ad b5 0,.bool (decide (¬dy m\/i<0\/i≥m.aU.length))]/\ac E (ab++[aa b5 (aR m aq)])) ?_ ?_
 refine fI a 0 rfl (b7 e.bi) U (wS e f.app a (fun H a=>Z fX ?_));by_cases c:dy m;rw[decide_eq_true c];refine cT rfl (Z cV (Z lb (ay (fun h=>Z (dT h) (⟨by simp[h],a⟩)) (fun h=>?_))));exact Z bj (aD a d (bg f.aZ (Z kM (Z (dl h) (⟨aT,a⟩)))));rw[decide_eq_false c];exact dz rfl (Z ja (Z ja (⟨by simp[c],a⟩)));rintro j H ⟨rfl,a⟩;unfold gl at b;refine ay (fun h=>?_) (fun h=>?_);rw[if_pos h]at b;exact b H a.left;rw[if_neg h]at b;have c:=Classical.byContradiction fun k=>h (.inl k)
 have⟨cr,ej,l,n⟩:=Bw (i:=i) c U U;have g:=c;have⟨_,_,_,o,p,q,r,_,_,s⟩:=g;refine Z bj (aD a d (bg f.aZ (Z (iS U U) (Z cN (ay (fun h=>?_) (fun h=>?_))))));have⟨t,u⟩:=l h;refine Z bj (aD a rfl (Z (y9 U U) (Z bj (aD a rfl (Z bj (aD a rfl (Z (y9 U U) (Z (iS U U) ?_))))))));have:=b H a.left;rw[show min m.bz (m.cY-i*m.bz)=m.cY-i*m.bz by omega]at this;exact this;refine Z bj (aD a rfl (Z (y9 U U) (Z bj (aD a rfl ?_))));have:=b H a.left;rw[show min m.bz (m.cY-i*m.bz)=m.bz by omega]at this;exact this
end
section
variable{H K aU aq m aS ab}
theorem aow:(cz P .eql 53 true).f aA (.slice none 0 0)=some (.bool true):=ao
theorem aox(p o n c:Nat):(cz P .eql 53 true).f (am p o n c) (.slice none 0 0)=some (.bool false):=ao
theorem aoy(H:an):(gY P 53 0).f [] H=some (am H.next 0 0 65,H.push []):=ao
theorem Ks(h:∀x∈aU,x.length=32):(ec aU).length=aU.length*32:=by
 induction aU with
 | nil=>rfl
 | cons a aU b=>grind
theorem aoz:(ec aU).all cS=true:=by simp_all[cS]
theorem Vo(i:df ab aq aU)(d:∀x∈aU,x.length=32)(n:aU.length<=10000)(a:ac H ab)
  (f:∀E ap,ac E (ab++aw ap (ec aU))->df (aw ap (ec aU)) ap aU->K ap E):aG P 148 [aq] H K:=by
 refine aiv.1 ?_;have k:=Ks d;rcases i with⟨rfl,rfl⟩|⟨p,c,j,w,rfl,l⟩
 exact Z aow (dz rfl (f H aA a.z df.nil));refine Z (aox _ _ _ _) (cT rfl (el a (aoy _) ?_));intro q H a;by_cases h:aU=[];subst h;exact bg (rfl) (f H (am q 0 0 65) a (.inr ⟨q,65,0,true,rfl,rfl⟩));have b:=length_pos_iff.2 h;have o:=a.at j (ak l) (.inr fun e=>aT);have m:m5 H 32 aU.length (am p 0 aU.length c)=some (ec aU):=by simp_all[tA,take_of_length_le]
 have g:=a;apply ww g (.inr ⟨q,.inr rfl,rfl⟩) U rfl m b U U aoz k;intro q2 H a _;rw[Nat.zero_add];exact f H (am q2 0 aU.length 64) a (.inr ⟨q2,64,0,true,rfl,rfl⟩)
def hR(m:fi)(aq:Value)(aS bF:Nat):aj:=aR m aq++[ad aS 0,int bF]
theorem aoA(b:m.bw.length=32)(a:Option Addr)(n c:Nat):(eg P 357).f [(0,agg (aR m (.slice a n c))),(1,ad aS 0)]=some (agg (hR m (.slice a n c) aS 0)):=by
 have⟨cd,de,cY,bz,bw,aU⟩:=m
 match bw,b with
 | [a0,B,C,a3,a4,a5,F,H,I,a9,d,e,g,h,i,j,k,l,o,p,a20,a21,q,r,s,t,u,v,w,x,y,z],_=>rfl
theorem aoB(c:m.br)(i:df ab aq m.aU)(j:dy m)(a:ac H ab)
  (k:∀E b aS L st,j7 aS [] L->df (aw b (ec m.aU)) b m.aU->ac E ((ab++aw b (ec m.aU))++(L++[aa st (hR m b aS 0)]))->K (.tuple [ad st 0,int 0].toArray) E):aG P 198 [agg (aR m aq)] H K:=by
 refine ajf.1 ?_;have e:=lv (aq:=aq) c.bi;have f:=b7 (aq:=aq) c.bi;rw[vg];refine dA a.z fun b5 H a=>fI a 0 rfl f U (y0 c i.app a ?_)
 intro H a;rw[decide_eq_true j];refine Z fX (cT rfl (Z bj (aD a e (Vo i.app c.dH c.n a (fun H g a d=>Z bj ?_)))));refine cQ a (ab.length+0) (ak (al rfl)) d.du U (bI:=aR m g) (by simp_all[aR]) ?_;intro H a;rw[set_append_left _ _ aW,Go.Ab.bp]at a
 replace a:ac H ((ab++[aa b5 (aR m g)])++aw g (ec m.aU)):=a
 apply bK a (b7 c.bi) U;have h:=a;refine EO a fun l aS a=>⟨jf h a (q3 d.mF),?_⟩
 obtain⟨o,p,q,rfl⟩:=d.ha;refine Z (aoA c.bi _ _ _) (b0 a fun st H a=>k H _ aS (lu aS (mA []) aA ([]:LI).length []) st ⟨_,_,rfl,.inl ⟨rfl,rfl,rfl⟩⟩ d ?_);exact a.sub (by simp only[append_assoc];exact List.Sublist.append (List.Sublist.refl ab) (sublist_append_right [(b5,_)] _))
end
section
variable{H K L ac1 aU aq d3 m p aS st w bF ae bl ab}{i:Nat}
theorem Ff(a:m.bw.length=32):(hR m aq aS bF)[0+38]?=some (int bF):=by simp_all[hR,b7]
theorem Vp(a:m.bw.length=32):(hR m aq aS bF)[0+37]?=some (ad aS 0):=by simp_all[hR,b7]
theorem Vq(a:m.bw.length=32):(hR m aq aS bF)[0+0+36]?=some aq:=by grind[hR,lv]
theorem aoC(a:m.bw.length=32):((hR m aq aS bF).drop (0+0)).take 37=aR m aq:=by simp_all[hR,b7]
theorem aoD(a:m.bw.length=32):((hR m aq aS bF).drop (0+0+4)).take 32=aN m.bw:=by simp_all[hR,drop_append_of_le_length,b7,take_append_of_le_length,Bo]
theorem aoE(a:m.bw.length=32):(hR m aq aS bF).set (0+38) (int ((bF+1:Nat):Int))=hR m aq aS (bF+1):=by simp_all[hR,b7]
theorem aoF(a:m.bw.length=32):(hR m aq aS bF).length=39:=by simp_all[hR,b7]
theorem Vr(a:m.bw.length=32)(h:dx aq=true):(hR m aq aS bF).all dx=true:=by unfold hR;rw[all_append,q3 h];rfl
theorem Vs:(ec aU).all dx=true:=by
 induction aU with
 | nil=>rfl
 | cons a aU b=>grind[sD]
theorem t1{E:an}(a:ac H ab)(b:ab[i]?=some (p,ac1))(n:Nat):uM (dM [ad p d3]) H.next n:=by
 have h:=a.lt (p,ac1) (mem_of_getElem? b);show hH _ [p]=true
 simp_all[ia]
theorem Ku(a:m.bw.length=32)(d:df ab aq m.aU)(b:ac H ab)(c:ab[i]?=some (aa st (hR m aq aS bF)))(e:K (.bool (decide (bF=m.aU.length))) H):aG P 191 [ad st 0] H K:=by refine ai8.1 ?_;refine ai (bk b i c (Ff a) (ai (Z bj (bk b i c (Vq a) (bg d.aZ (Z cN ?_))))));rw[decide_eq_decide.2 (show((bF:Int)=(m.aU.length:Int))↔bF=m.aU.length by omega)];exact e
theorem aoG(a:m.bw.length=32)(b:ac H ab)(c:ab[i]?=some (aa st (hR m aq aS bF)))(d:K (int bF) H):aG P 192 [ad st 0] H K:=by refine ai9.1 ?_;exact ai (bk b i c (Ff a) d)
theorem aoH(b:m.br)(g:df ab aq m.aU)(a:ac H (ab++L))(c:ab[i]?=some (aa st (hR m aq aS bF)))(d:j7 aS ae L)(k:bM ae)(n:ae.length<=1000000)
  (j:∀E,ac E (ab++L)->K (.bool (decide (bF=m.aU.length/\hP ae=m.bw))) E):aG P 193 [ad st 0] H K:=by
 refine aja.1 ?_;refine Ku b.bi g.app a (ak c) (ay (fun h=>?_) (fun h=>?_));refine ai (bk a i (ak c) (Vp b.bi) ?_);have e:=a;refine EQ a d k U fun l a=>ai (Z bj (fe a i (ak c) (aoD b.bi) (by rw[dp];exact b.bi) U (⟨gw e i (ak c) a i (ak c) (Vr b.bi g.mF),?_⟩)))
 refine Z (JT _ lP b.bi) (Z (dT h) ?_);have:=j l a;rw[decide_eq_decide.2 (⟨fun h=>h.2,fun f=>⟨h,f⟩⟩)]at this;exact this;apply Z (dl h);have:=j H a;rw[decide_eq_false (fun f=>h f.1)]at this;exact this
theorem aoI(d:m.br)(W:dy m)(x:df ab aq m.aU)(c:ac H (ab++L))(g:ab[i]?=some (aa st (hR m aq aS bF)))(z:j7 aS ae L)(M:bM ae)(X:ae.length<=1000000)
  (y:bx ab w bl) (I:bM bl) (N:bl.length<=1000000) (f:bF<m.aU.length)
  (o:¬((bl.length:Int)=(gl m bF).2/\hP bl=m.aU[bF])->∀E,ac E (ab++L)->K (int 152) E)
  (p:((bl.length:Int)=(gl m bF).2/\hP bl=m.aU[bF])->∀E bW,j7 aS (ae++bl) bW->ac E (ab.set i (aa st (hR m aq aS (bF+1)))++bW)->K (int 0) E):
  aG P 199 [ad st 0,int bF,w] H K:=by
 refine ajg.1 ?_;have B:=(List.getElem?_eq_some_iff.1 g).1;apply cy (fun r E=>r=[ad st 0,int bF,w]/\H=E) (Ku d.bi x.app c (ak g) (ix U (ai (bk c i (ak g) (Ff d.bi) (Z dX (Z (dl U) (ix (fun h=>h rfl) (⟨rfl,rfl⟩))))))));rintro r E ⟨rfl,rfl⟩;refine cy (fun r E=>r=[ad st 0,w]/\ac E (ab++L)/\((bl.length:Int)=(gl m bF).2/\hP bl=m.aU[bF])) ?_ ?_;refine ai (fe c i (ak g) (aoC d.bi) (b7 d.bi) U (Kq d x.app c (fun H c=>Z rfl (Z rfl (bg y.aZ (Z dX (ay (fun h=>Z (dT h) (dz rfl (o (fun s=>h s.1) H c))) (fun h=>?_))))))));obtain⟨a,k6,bC,rfl⟩:=y.ha;apply el c (TL _ _ _ _);have t:=c;intro q dc c;have u:=c;refine JA c (al (k:=0) rfl) y.app.app I U fun S c=>ai (Z bj (bk c i (ak (ak g)) (Vq d.bi) (⟨gw u i (ak (ak g)) c i (ak (ak g)) (Vr d.bi x.mF),t1 (E:=H) t (ak g) _,?_⟩)))
 obtain⟨ch,cc,C,J,rfl,j⟩:=x.bb U;refine Z (ez U U) (fe c C (ak (ak j)) (Bp d.dH f) (by rw[dp];exact d.dH _ (getElem_mem f)) U ?_);have F:(⟨ec m.aU,J⟩:ef).wr=true\/(⟨ec m.aU,J⟩:ef).cells≠[]:=.inr fun e=>by
  have:=Ks d.dH
  grind
 refine⟨gw u C (ak (ak j)) c C (ak (ak j)) Vs F,t1 (E:=H) t (ak j) _,?_⟩;refine Z (Bq _ lP (d.dH _ (getElem_mem f))) (Z (dl h) (ay (fun s=>o (fun V=>s V.2) S c.left) (fun s=>?_)));exact⟨rfl,c.left,U,Classical.not_not.1 s⟩;rintro r H ⟨rfl,c,l⟩;refine ai (bk c i (ak g) (Vp d.bi) (tQ c z y M I U U (fun H bW c v=>ai (bk c i (ak g) (Ff d.bi) ?_))));have eZ:=d.n;refine Z (n0 (b:=1) U) (ai (cQ c i (ak g) rfl (by rw[aoF d.bi];omega) (aoE d.bi) ?_));intro H c;rw[set_append_left _ _ B]at c;exact p l H bW v c
end
section
variable{H K ep cp ag aq m st v w bF ae bl ab}{i:Nat}
def gV(m:fi)(aq cp:Value)(bF:Nat):aj:=aR m aq++[cp,int bF]
theorem Fg(a:m.bw.length=32):(gV m aq cp bF)[0+38]?=some (int bF):=by simp_all[gV,b7]
theorem Vt(a:m.bw.length=32):(gV m aq cp bF)[0+37]?=some cp:=by simp_all[gV,b7]
theorem Vu(a:m.bw.length=32):(gV m aq cp bF)[0+0+36]?=some aq:=by grind[gV,lv]
theorem aoJ(a:m.bw.length=32):((gV m aq cp bF).drop (0+0)).take 37=aR m aq:=by simp_all[gV,b7]
theorem aoK(a:m.bw.length=32):((gV m aq cp bF).drop (0+0+4)).take 32=aN m.bw:=by simp_all[gV,drop_append_of_le_length,b7,take_append_of_le_length,Bo]
theorem aoL(a:m.bw.length=32):(gV m aq cp bF).set (0+38) (int ((bF+1:Nat):Int))=gV m aq cp (bF+1):=by simp_all[gV,b7]
theorem aoM(a:m.bw.length=32):(gV m aq cp bF).set (0+37) v=gV m aq v bF:=by simp_all[gV,b7]
theorem Kv(a:m.bw.length=32):(gV m aq cp bF).length=39:=by simp_all[gV,b7]
theorem Vv(b:m.bw.length=32)(h:dx aq=true)(a:dx cp=true):(gV m aq cp bF).all dx=true:=by unfold gV;rw[all_append,q3 h];simp[a];rfl
theorem Kw(a:m.bw.length=32)(d:df ab aq m.aU)(b:ac H ab)(c:ab[i]?=some (aa st (gV m aq cp bF)))(e:K (.bool (decide (bF=m.aU.length))) H):aG P 216 [ad st 0] H K:=by refine ajv.1 ?_;refine ai (bk b i c (Fg a) (ai (Z bj (bk b i c (Vu a) (bg d.aZ (Z cN ?_))))));rw[decide_eq_decide.2 (show((bF:Int)=(m.aU.length:Int))↔bF=m.aU.length by omega)];exact e
theorem Kx(h:dm v ae ag):dx v=true/\cS v=true:=by rcases h with⟨rfl,_⟩|⟨p,rfl|⟨rfl,_⟩,_⟩<;>exact⟨rfl,rfl⟩
theorem aoN(b:m.br)(f:df ab aq m.aU)(a:ac H (ab++aw cp ep))(c:ab[i]?=some (aa st (gV m aq cp bF)))(g:dm cp ae ep)(k:bM ae)(n:ae.length<=1000000)
  (j:∀E,ac E (ab++aw cp ep)->K (.bool (decide (bF=m.aU.length/\hP ae=m.bw))) E):aG P 165 [ad st 0] H K:=by
 refine aiN.1 ?_;refine Kw b.bi f.app a (ak c) (ay (fun h=>?_) (fun h=>?_));refine ai (bk a i (ak c) (Vt b.bi) ?_);have d:=a;refine vf a g.gd.app' k U fun l a=>ai (Z bj (fe a i (ak c) (aoK b.bi) (by rw[dp];exact b.bi) U (⟨gw d i (ak c) a i (ak c) (Vv b.bi f.mF (Kx g).1),?_⟩)))
 refine Z (JT _ lP b.bi) (Z (dT h) ?_);have:=j l a;rw[decide_eq_decide.2 (⟨fun h=>h.2,fun e=>⟨h,e⟩⟩)]at this;exact this;apply Z (dl h);have:=j H a;rw[decide_eq_false (fun e=>h e.1)]at this;exact this
theorem aoO(c:m.br)(N:dy m)(x:df ab aq m.aU)(a:ac H (ab++aw cp ep))(j:ab[i]?=some (aa st (gV m aq cp bF)))(C:dm cp ae ep)(S:bM ae)(V:ae.length<=1000000)
  (y:bx ab w bl) (I:bM bl) (J:bl.length<=1000000) (d:bF<m.aU.length)
  (o:¬((bl.length:Int)=(gl m bF).2/\hP bl=m.aU[bF])->∀E,ac E (ab++aw cp ep)->K (int 152) E)
  (p:((bl.length:Int)=(gl m bF).2/\hP bl=m.aU[bF])->∀E f g,dm f (ae++bl) g->ac E (ab.set i (aa st (gV m aq f (bF+1)))++aw f g)->K (int 0) E):
  aG P 168 [ad st 0,int bF,w] H K:=by
 refine aiQ.1 ?_;have q:=(List.getElem?_eq_some_iff.1 j).1;apply cy (fun r E=>r=[ad st 0,int bF,w]/\H=E) (Kw c.bi x.app a (ak j) (ix U (ai (bk a i (ak j) (Fg c.bi) (Z dX (Z (dl U) (ix (fun h=>h rfl) (⟨rfl,rfl⟩))))))));rintro r E ⟨rfl,rfl⟩;refine ai (fe a i (ak j) (aoJ c.bi) (b7 c.bi) U (Kr c x.app a (fun H a=>Z rfl (Z rfl (cy (fun r E=>r=[ad st 0,w]/\ac E (ab++aw cp ep)/\((bl.length:Int)=(gl m bF).2/\hP bl=m.aU[bF])) ?_ ?_)))));refine bg y.aZ (Z dX (ay (fun h=>Z (dT h) (dz rfl (o (fun s=>h s.1) H a))) (fun h=>?_)));have t:=a;refine vf a y.app I U fun L a=>ai (Z bj (bk a i (ak j) (Vu c.bi) (⟨gw t i (ak j) a i (ak j) (Vv c.bi x.mF (Kx C).1),?_⟩)))
 obtain⟨W,cc,z,F,rfl,k⟩:=x.bb U;refine Z (ez U U) (fe a z (ak k) (Bp c.dH d) (by rw[dp];exact c.dH _ (getElem_mem d)) U ?_);have B:(⟨ec m.aU,F⟩:ef).wr=true\/(⟨ec m.aU,F⟩:ef).cells≠[]:=.inr fun e=>by
  have:=Ks c.dH
  grind
 refine⟨gw t z (ak k) a z (ak k) Vs B,?_⟩;refine Z (Bq _ lP (c.dH _ (getElem_mem d))) (Z (dl h) (ay (fun s=>o (fun M=>s M.2) L a) (fun s=>?_)));exact⟨rfl,a,U,Classical.not_not.1 s⟩;rintro r H ⟨rfl,a,l⟩;refine ai (bk a i (ak j) (Vt c.bi) (oL a C y U (fun H f g a u=>ai (cQ a i (ak j) (Kx u).2 (by rw[Kv c.bi];omega) (aoM c.bi) ?_))));intro H a;rw[set_append_left _ _ q]at a;have v:(ab.set i (aa st (gV m aq f bF)))[i]?=some (aa st (gV m aq f bF)):=getElem?_set_self q;refine ai (bk a i (ak v) (Fg c.bi) ?_);have X:=c.n;refine Z (n0 (b:=1) U) (ai (cQ a i (ak v) rfl (by rw[Kv c.bi];omega) (aoL c.bi) ?_));intro H a;rw[set_append_left _ _ a1,set_set]at a;exact p l H f g u a
end
section
variable{A B C H K ev S T c aq cs aX kv m aS r1 r2 eK au cq st aO t bF}
inductive hn where
 | kl (a:Int)
 | jj (n:Int) (m:fi)
 | body (a:Int) (bs:LI)
 | gD
def rV(S:LB):hn->aj->Prop
 | .kl a,b=>b=[.iface 313 (agg [int a])]
 | .jj n m,b=>∃aq,b=[.iface 316 (agg (int n::aR m aq))]/\df S aq m.aU/\m.br
 | .body a bs,b=>∃v,b=[.iface 327 (agg [int a,v])]/\bx S v bs/\bM bs
 | .gD,b=>b=[.iface 320 (agg [])]
def lg(S:LB):hn->aj->Prop
 | .kl a,b=>b=int 1::int a::int 0::(aR cJ aA++[aA])
 | .jj n m,b=>∃aq,b=int 2::int 0::int n::(aR m aq++[aA])/\df S aq m.aU/\m.br
 | .body a bs,b=>∃v,b=int 3::int a::int 0::(aR cJ aA++[v])/\bx S v bs/\bM bs
 | .gD,b=>b=int 4::int 0::int 0::(aR cJ aA++[aA])
def n2(S:LB)(p:Int×LI)(b3:aj):Prop:=∃v,b3=[int p.1,v]/\bx S v p.2/\bM p.2/\(p.2≠[]->kV S v)
structure gI where
 q:Nat
 r:Nat
 n:Nat
 f:Nat
 ag:aj
 aI:List aj 
def ew(kv:Value)(t:rU)(r1 r2 eK:Nat)(au:fi)(aO cq:Value)(cs:Bool)(aX:Int):aj:=
 kv::a6 t.cd::bB .u64 t.cj::int t.dC::ad r1 0::ad r2 0::ad eK 0::(aR au aO++[cq,.bool cs,int aX])
def f7(A B C:gI)(c:Nat)(bz:aj)(T:LB):LB:=
 (aa A.q A.ag)::(aa A.r (cw A.q A.n 2 A.f A.aI.length))::(aa B.q B.ag)::(aa B.r (cw B.q B.n 1 B.f B.aI.length))::(aa C.q C.ag)::(aa C.r (cw C.q C.n 1 C.f C.aI.length))::(aa c bz)::T
theorem Ky(a:au.bw.length=32)(k:Nat):(ew kv t r1 r2 eK au aO cq cs aX)[0+(44+k)]?=[cq,Value.bool cs,int aX][k]?:=by
 rw[show 0+(44+k)=(37+k)+7 by omega];show(aR au aO++[cq,Value.bool cs,int aX])[37+k]?=_
 simp_all[getElem?_append_right,b7]
theorem w1(a:au.bw.length=32):(ew kv t r1 r2 eK au aO cq cs aX)[0+44]?=some cq:=Ky a 0
theorem aoP(a:au.bw.length=32):(ew kv t r1 r2 eK au aO cq cs aX)[0+45]?=some (.bool cs):=Ky a 1
theorem Vw(a:au.bw.length=32):(ew kv t r1 r2 eK au aO cq cs aX)[0+46]?=some (int aX):=Ky a 2
theorem Bx(a:au.bw.length=32):(ew kv t r1 r2 eK au aO cq cs aX).length=47:=by simp_all[ew,b7]
theorem Kz(a:au.bw.length=32)(k:Nat)(v:Value):(ew kv t r1 r2 eK au aO cq cs aX).set (0+(44+k)) v=kv::a6 t.cd::bB .u64 t.cj::int t.dC::ad r1 0::ad r2 0::ad eK 0::(aR au aO++[cq,Value.bool cs,int aX].set k v):=by
 rw[show 0+(44+k)=(37+k)+7 by omega];show kv::a6 t.cd::bB .u64 t.cj::int t.dC::ad r1 0::ad r2 0::ad eK 0::((aR au aO++[cq,Value.bool cs,int aX]).set (37+k) v)=_
 simp_all[b7]
theorem aoQ(a:au.bw.length=32)(v:Value):(ew kv t r1 r2 eK au aO cq cs aX).set (0+44) v=ew kv t r1 r2 eK au aO v cs aX:=Kz a 0 v
theorem aoR(a:au.bw.length=32)(d:Bool):(ew kv t r1 r2 eK au aO cq cs aX).set (0+45) (.bool d)=ew kv t r1 r2 eK au aO cq d aX:=Kz a 1 _
theorem Vx(a:au.bw.length=32)(e:Int):(ew kv t r1 r2 eK au aO cq cs aX).set (0+46) (int e)=ew kv t r1 r2 eK au aO cq cs e:=Kz a 2 _
theorem aoS(a:au.bw.length=32):((ew kv t r1 r2 eK au aO cq cs aX).drop (0+7)).take 37=aR au aO:=by
 show(aR au aO++[cq,Value.bool cs,int aX]).take 37=_
 simp_all[b7]
def sR(st:Nat)(m:fi)(aq:Value)(aS bF:Nat)(ev:LB):LB:=(aa st (hR m aq aS bF))::ev
theorem aoT(c:Bool)(p:Nat):(cz P .eql 251 c).f (ad p 0) (.pointer none)=some (.bool false):=ao
theorem aoU:(cz P .eql 251 true).f (.pointer none) (.pointer none)=some (.bool true):=ao
theorem aoV(a:au.bw.length=32)(b:ac H (S++f7 A B C c (ew kv t r1 r2 eK au aO (.pointer none) cs aX) T))(d:K (int (-1)) H):aG P 134 [ad c 0] H K:=by refine RJ.1 ?_;exact ai (bY b 6 rfl (w1 a) (Z aoU (dz rfl d)))
theorem aoW(d:au.bw.length=32)(e:m.bw.length=32)(g:df S aq m.aU)(a:ac H (S++f7 A B C c (ew kv t r1 r2 eK au aO (ad st 0) cs aX) (sR st m aq aS bF ev)))(b:K (int (if bF=m.aU.length then-2 else(bF:Int))) H):aG P 134 [ad c 0] H K:=by refine RJ.1 ?_;have f:(S++f7 A B C c (ew kv t r1 r2 eK au aO (ad st 0) cs aX) (sR st m aq aS bF ev))[S.length+7]?=some (aa st (hR m aq aS bF)):=al rfl;refine ai (bY a 6 rfl (w1 d) (Z (aoT _ _) (cT rfl (ai (bY a 6 rfl (w1 d) (Ku e g.app a f (ay (fun h=>?_) (fun h=>?_))))))));rw[if_pos h]at b;exact b;rw[if_neg h]at b;exact ai (bY a 6 rfl (w1 d) (aoG e a f b))
end
section
variable{A B C H K ev S T fa c bz bI aq cs b3 aX kv m aS r1 r2 au st aO t w bF ae bl}
def gI.h6(R:gI)(bI:aj)(b3:aj):gI:=⟨R.q,R.r,R.n,R.f,bI,R.aI++[b3]⟩
theorem KA(R:gI):(R.h6 bI b3).aI.length=R.aI.length+1:=by simp[gI.h6]
theorem KB(h:ac H (S++((f7 A B C c bz T).set 4 (aa C.q bI)).set 5 (aa C.r (cw C.q C.n 1 C.f (C.aI.length+1))))):ac H (S++f7 A B (C.h6 bI b3) c bz T):=by unfold f7;rw[KA];exact h
theorem KC(h:ac H (S++((f7 A B C c bz T).set 2 (aa B.q bI)).set 3 (aa B.r (cw B.q B.n 1 B.f (B.aI.length+1))))):ac H (S++f7 A (B.h6 bI b3) C c bz T):=by unfold f7;rw[KA];exact h
theorem By(h:ac H (S++f7 A B C c bz T))(ah:fa.Sublist T):ac H (S++f7 A B C c bz fa):=
 h.sub (List.Sublist.append (List.Sublist.refl _) ((((((((ah.cons_cons _).cons_cons _).cons_cons _).cons_cons _).cons_cons _).cons_cons _).cons_cons _)))
theorem Bz:S++f7 A B C c bz (T++fa)=(S++f7 A B C c bz T)++fa:=by rw[append_assoc];rfl
theorem aoX:(eg P 320).f []=some (agg []):=ao
theorem Vy(a:Int):(eg P 313).f [(0,int a)]=some (agg [int a]):=ao
theorem aoY(e:Int)(a:Option Addr)(n c:Nat):(eg P 327).f [(0,int e),(1,.slice a n c)]=some (agg [int e,.slice a n c]):=ao
theorem aoZ(a2:au.bw.length=32)(u:m.br)(v:df S aq m.aU)(a:ac H (S++f7 A B C c (ew kv t r1 r2 C.r au aO (ad st 0) cs aX) (sR st m aq aS bF ev)))(k:gU 1 C.n C.f C.aI C.ag)(l:j7 aS ae ev)(w:bM ae)(x:ae.length<=1000000)
  (b:C.aI.length=C.n->K (.bool false) H)
  (d:C.aI.length<C.n->¬(bF=m.aU.length/\hP ae=m.bw)->∀E,ac E (S++f7 A B C c (ew kv t r1 r2 C.r au aO (ad st 0) cs 153) (sR st m aq aS bF ev))->K (.bool true) E)
  (o:C.aI.length<C.n->(bF=m.aU.length/\hP ae=m.bw)->∀E bI,gU 1 C.n C.f (C.aI++[[.iface 320 (agg [])]]) bI->ac E (S++f7 A B (C.h6 bI [.iface 320 (agg [])]) c (ew kv t r1 r2 C.r au aO (ad st 0) true aX) (sR st m aq aS bF ev))->K (.bool true) E):
  aG P 135 [ad c 0] H K:=by
 refine aic.1 ?_;have y:=k.jy;refine ai (bY a 6 rfl rfl (Fe (i:=5) a rfl k.jy k.sQ (Z cN (ay (fun h=>b U) (fun h=>?_)))));have e:C.aI.length<C.n:=U
 refine ai (bY a 6 rfl (w1 a2) ?_);have p:ac H ((S++f7 A B C c (ew kv t r1 r2 C.r au aO (ad st 0) cs aX) [aa st (hR m aq aS bF)])++ev):=by rw[<- Bz];exact a
 apply aoH (i:=S.length+7) u v.app p (al rfl) l w x;intro H a;rw[<- Bz]at a;refine Z fX (lr (fun g=>?_) (fun g=>?_));have g:¬(bF=m.aU.length/\hP ae=m.bw):=fun q=>a1
 refine ai (cr a 6 rfl rfl (by grind[Bx]) ?_);intro H a;rw[Vx a2]at a;exact d e g H a;have g:bF=m.aU.length/\hP ae=m.bw:=Classical.byContradiction fun q=>a1
 refine ai (bY a 6 rfl rfl (Z aoX (y8 (i:=5) (j:=4) a rfl rfl U k rfl (fun q=>absurd q U) ?_)));intro _ H bI s a
 replace a:=KB (b3:=[.iface 320 (agg [])]) a
 refine ai (cr a 6 rfl rfl (by grind[Bx]) ?_);intro H a;rw[aoR a2]at a;exact o e g H bI s a
theorem ao0(I:au.bw.length=32)(J:m.br)(L:dy m)(M:df S aq m.aU)(a:ac H (S++f7 A B C c (ew kv t r1 B.r C.r au aO (ad st 0) cs aX) (sR st m aq aS bF ev)))(c7:gU 1 B.n B.f B.aI B.ag)(N:gU 1 C.n C.f C.aI C.ag)(p:j7 aS ae ev)(V:bM ae)(W:ae.length<=1000000)
  (F:bx S w bl) (X:bM bl) (q:bl.length<=1000000) (d:bF<m.aU.length) (me:B.aI.length<B.n) (uC:C.aI.length<C.n)
  (s:¬((bl.length:Int)=(gl m bF).2/\hP bl=m.aU[bF])->∀E bI,gU 1 B.n B.f (B.aI++[[.iface 313 (agg [int bF])]]) bI->ac E (S++f7 A (B.h6 bI [.iface 313 (agg [int bF])]) C c (ew kv t r1 B.r C.r au aO (ad st 0) cs aX) (sR st m aq aS bF ev))->K (.tuple [].toArray) E)
  (k:((bl.length:Int)=(gl m bF).2/\hP bl=m.aU[bF])->∀E bI bW,j7 aS (ae++bl) bW->gU 1 C.n C.f (C.aI++[[.iface 327 (agg [int bF,w])]]) bI->ac E (S++f7 A B (C.h6 bI [.iface 327 (agg [int bF,w])]) c (ew kv t r1 B.r C.r au aO (ad st 0) cs aX) (sR st m aq aS (bF+1) bW))->K (.tuple [].toArray) E):
  aG P 140 [ad c 0,agg [int bF,w]] H K:=by
 refine aii.1 ?_;obtain⟨e,b,g,rfl⟩:=F.ha;rw[n1];refine b0 a ?_;intro l H a;have u:ac H (((S++f7 A B C c (ew kv t r1 B.r C.r au aO (ad st 0) cs aX) [aa st (hR m aq aS bF)])++[aa l [int bF,.slice e b g]])++ev):=by refine Bh ?_;rw[<- Bz];exact a
 have a:=u;have aB:((S++f7 A B C c (ew kv t r1 B.r C.r au aO (ad st 0) cs aX) [aa st (hR m aq aS bF)])++[aa l [int bF,.slice e b g]])[S.length+7]?=some (aa st (hR m aq aS bF)):=ak (al rfl);refine ai (bk a (S.length+6) (ak (ak (al rfl))) (w1 I) (Z bj (aD a rfl (Z bj (aD a rfl (aoI J L M.app.app a aB p V W F.app.app X q d ?_ ?_))))));clear a;intro v H a;rw[append_assoc,<- Bz]at a
 replace a:ac H (S++f7 A B C c (ew kv t r1 B.r C.r au aO (ad st 0) cs aX) ((aa st (hR m aq aS bF))::(aa l [int bF,.slice e b g])::ev)):=a
 refine Z dX (kf bT (ai (bY a 6 rfl rfl (Z bj (bY a 8 rfl rfl (Z (Vy _) (y8 (i:=3) (j:=2) a rfl rfl U c7 rfl (fun x=>absurd x U) ?_)))))));intro _ H bI y a
 replace a:=KC (b3:=[.iface 313 (agg [int bF])]) a
 exact s v H bI y (By a ((sublist_cons_self _ _).cons_cons _));clear a;intro v H bW o a;rw[set_append_left _ _ (by simp[f7]),Go.Ab.bp,append_assoc]at a
 replace a:ac H ((S++f7 A B C c (ew kv t r1 B.r C.r au aO (ad st 0) cs aX) [aa st (hR m aq aS (bF+1))])++([aa l [int bF,.slice e b g]]++bW)):=a
 rw[<- Bz]at a
 replace a:ac H (S++f7 A B C c (ew kv t r1 B.r C.r au aO (ad st 0) cs aX) ((aa st (hR m aq aS (bF+1)))::(aa l [int bF,.slice e b g])::bW)):=a
 refine Z dX (ix (fun h=>h rfl) (ai (bY a 6 rfl rfl (Z bj (bY a 8 rfl rfl (Z bj (bY a 8 rfl rfl (Z (aoY _ _ _ _) (y8 (i:=5) (j:=4) a rfl rfl U N rfl (fun x=>absurd x U) ?_)))))))));intro _ H bI z a
 replace a:=KB (b3:=[.iface 327 (agg [int bF,.slice e b g])]) a
 exact k v H bI bW o z (By a ((sublist_cons_self _ _).cons_cons _))
end
section
variable{H M S X aq cs aX kv m r1 r2 eK au cq aO t}
theorem Vz(h:ac H ((S++M)++X)):ac H ((S++X)++M):=h.cf (by rw[append_assoc,append_assoc];exact List.Perm.append_left S perm_append_comm)
theorem ao1(a:au.bw.length=32):((ew kv t r1 r2 eK au aO cq cs aX).drop (0+1)).take 3=lf t:=rfl
theorem ao2(a:au.bw.length=32)(b:m.bw.length=32):(ew kv t r1 r2 eK au aO cq cs aX).take (0+7)++(aR m aq++(ew kv t r1 r2 eK au aO cq cs aX).drop (0+7+37))=ew kv t r1 r2 eK m aq cq cs aX:=by
 unfold ew;have e:(kv::a6 t.cd::bB .u64 t.cj::int t.dC::ad r1 0::ad r2 0::ad eK 0::(aR au aO++[cq,Value.bool cs,int aX])).drop (0+7+37)=[cq,Value.bool cs,int aX]:=by simp_all[b7]
 rw[e];rfl
theorem VA(b:m.bw.length=32)(n:Int)(a:Option Addr)(k c:Nat):(eg P 316).f [(0,int n),(1,agg (aR m (.slice a k c)))]=some (agg (int n::aR m (.slice a k c))):=by
 have⟨cd,de,cY,bz,bw,aU⟩:=m
 match bw,b with
 | [a0,C,F,a3,a4,a5,H,I,J,a9,d,e,g,h,i,j,l,o,p,q,a20,a21,r,s,t,u,v,w,x,y,z,B],_=>rfl
end
section
variable{A B C H K S b c cs aX key kv m r1 au aO t w}
theorem VB:oT m t=0↔dy m/\gu m.cd=gu t.cd/\¬m.de<t.cj/\¬m.cY>t.dC:=by
 unfold oT
 grind
theorem ao3(a2:au.bw.length=32)(a:ac H (S++f7 A B C c (ew kv t r1 B.r C.r au aO (.pointer none) cs aX) []))(c7:gU 1 B.n B.f B.aI B.ag)(lM:gU 1 C.n C.f C.aI C.ag)
  (I:bx S kv key) (d5:bM key) (J:key.length<=1000000) (fp:bx S w b) (l:bM b) (o:b.length<=1000000) (ht:t.cd.length<=1000000) (me:B.aI.length<B.n) (uC:C.aI.length<C.n)
  (u:(eQ key b).2.2≠0->∀E bI,gU 1 B.n B.f (B.aI++[[.iface 313 (agg [int (-1)])]]) bI->ac E (S++f7 A (B.h6 bI [.iface 313 (agg [int (-1)])]) C c (ew kv t r1 B.r C.r au aO (.pointer none) cs aX) [])->K (.tuple [].toArray) E)
  (x:(eQ key b).2.2=0->oT (eQ key b).1 t≠0->∀E,ac E (S++f7 A B C c (ew kv t r1 B.r C.r au aO (.pointer none) cs (oT (eQ key b).1 t)) [])->K (.tuple [].toArray) E)
  (L:(eQ key b).2.2=0->oT (eQ key b).1 t=0->dy (eQ key b).1->∀E X aq d st aS ev g h,j7 aS [] ev->df X aq (eQ key b).1.aU->df X d (eQ key b).1.aU->
   gU 1 B.n B.f (B.aI++[[.iface 316 (agg (int (eQ key b).2.1::aR (eQ key b).1 aq))]]) g->gU 1 C.n C.f (C.aI++[[.iface 316 (agg (int (eQ key b).2.1::aR (eQ key b).1 aq))]]) h->
   ac E ((S++X)++f7 A (B.h6 g [.iface 316 (agg (int (eQ key b).2.1::aR (eQ key b).1 aq))]) (C.h6 h [.iface 316 (agg (int (eQ key b).2.1::aR (eQ key b).1 aq))]) c (ew kv t r1 B.r C.r (eQ key b).1 aq (ad st 0) cs aX) (sR st (eQ key b).1 d aS 0 ev))->K (.tuple [].toArray) E):
  aG P 139 [ad c 0,w] H K:=by
 refine aih.1 ?_;have e:=Ki (key:=key) l o;have M:=UP (key:=key) l o;refine ai (bY a 6 rfl rfl (an6 a I.app fp.app d5 l J o ?_));intro H aq a y;generalize eQ key b=fN at*;obtain⟨m,xF,gO⟩:=fN;simp only at*;have a:=Vz a;have z:df (S++aw aq (ec m.aU)) aq m.aU:=y.app';generalize oN:aw aq (ec m.aU)=X at*;refine Z UQ (Z UR (Z US ?_));rw[wW];refine dA a ?_;intro k H a
 replace a:ac H ((S++X)++f7 A B C c (ew kv t r1 B.r C.r au aO (.pointer none) cs aX) [aa k (aR cJ aA)]):=a
 refine gS a 7 rfl rfl (b7 e.bi) (hB y.du) ?_;intro H a
 replace a:ac H ((S++X)++f7 A B C c (ew kv t r1 B.r C.r au aO (.pointer none) cs aX) [aa k (aR m aq)]):=a
 refine Z dX (ay (fun q=>?_) (fun q=>?_));refine ai (bY a 6 rfl rfl (Z (Vy _) (y8 (i:=3) (j:=2) a rfl rfl U c7 rfl (fun F=>absurd F U) ?_)));intro _ H bI p a
 replace a:=By (KC (b3:=[.iface 313 (agg [int (-1)])]) a) (nil_sublist _)
 refine u q H bI p ?_;rw[append_assoc]at a;exact sK a;have q:gO=0:=Classical.not_not.1 q;refine fI a 7 rfl (b7 e.bi) U (ai (fe a ((S++X).length+6) (al rfl) (ao1 a2) rfl U (aol e z.app ht a ?_)));intro H a;refine Z dX (ay (fun s=>?_) (fun s=>?_));refine ai (cr a 6 rfl rfl (by grind[Bx]) ?_);intro H a;rw[Vx a2]at a
 replace a:ac H ((S++X)++f7 A B C c (ew kv t r1 B.r C.r au aO (.pointer none) cs (oT m t)) [aa k (aR m aq)]):=a
 refine x q s H ?_;have a:=By a (nil_sublist _);rw[append_assoc]at a;exact sK a;have s:oT m t=0:=Classical.not_not.1 s;have g9:dy m:=(VB.1 s).1;refine fI a 7 rfl (b7 e.bi) U (ai (kx a ((S++X).length+6) (al rfl) (b7 e.bi) (by grind[Bx]) (hB y.du) ?_));intro H a
 replace a:=a.bp
 rw[n1,ao2 a2 e.bi]at a
 replace a:ac H ((S++X)++f7 A B C c (ew kv t r1 B.r C.r m aq (.pointer none) cs aX) [aa k (aR m aq)]):=a
 refine fI a 7 rfl (b7 e.bi) U (aoB e z.app g9 a ?_);intro H d aS ev st N h2 a;generalize axu:aw d (ec m.aU)=Y at*
 replace a:ac H ((((S++X)++(f7 A B C c (ew kv t r1 B.r C.r m aq (.pointer none) cs aX) []++[aa k (aR m aq)]))++Y)++(ev++[aa st (hR m d aS 0)])):=a
 have V:ac H ((S++(X++Y))++(f7 A B C c (ew kv t r1 B.r C.r m aq (.pointer none) cs aX) []++([aa st (hR m d aS 0)]++([aa k (aR m aq)]++ev)))):=a.cf (by classical exact perm_iff_count.2 fun _=>aT);have a:ac H ((S++(X++Y))++f7 A B C c (ew kv t r1 B.r C.r m aq (.pointer none) cs aX) ((aa st (hR m d aS 0))::(aa k (aR m aq))::ev)):=V;refine Z rfl (Z rfl (ai (cr a 6 rfl rfl (by rw[Bx e.bi];omega) ?_)));intro H a;rw[aoQ e.bi]at a
 replace a:ac H ((S++(X++Y))++f7 A B C c (ew kv t r1 B.r C.r m aq (ad st 0) cs aX) ((aa st (hR m d aS 0))::(aa k (aR m aq))::ev)):=a
 refine ai (bY a 6 rfl (v:=ad B.r 0) rfl (fI a 8 rfl (b7 e.bi) U ?_));obtain⟨Fh,h0,cc,rfl⟩:=y.ha;refine Z (VA e.bi _ _ _ _) (y8 (i:=3) (j:=2) a rfl rfl U c7 rfl (fun F=>absurd F U) ?_);intro _ H g p a
 replace a:=KC (b3:=[.iface 316 (agg (int xF::aR m (.slice Fh h0 cc)))]) a
 refine ai (bY a 6 rfl (v:=ad C.r 0) rfl (fI a 8 rfl (b7 e.bi) U (Z (VA e.bi _ _ _ _) (y8 (i:=5) (j:=4) a rfl rfl U lM rfl (fun F=>absurd F U) ?_))));intro _ H h W a
 replace a:=KB (b3:=[.iface 316 (agg (int xF::aR m (.slice Fh h0 cc)))]) a
 refine L q s g9 H (X++Y) _ d st aS ev g h N ?_ ?_ p W (By a ((sublist_cons_self _ _).cons_cons _));exact y.app;exact h2.app'
end
section
variable{A B C H K S T c bz bI cs b3 aX aI key kv r1 r2 eK au cq aO t v ab}
def gI.di(R:gI)(bI:aj)(a:List aj):gI:=⟨R.q,R.r,R.n,(R.f+1)%R.n,bI,a⟩
theorem ao4(h:ac H (S++((f7 A B C c bz T).set 0 (aa A.q bI)).set 1 (aa A.r (cw A.q A.n 2 ((A.f+1)%A.n) aI.length)))):ac H (S++f7 (A.di bI aI) B C c bz T):=h
theorem ao5(kv:Value)(t:rU)(r1 r2 eK:Nat)(a:Option Addr)(n c:Nat)(b:kv=.slice a n c):(eg P 253).f [(0,kv),(1,agg (lf t)),(2,ad r1 0),(3,ad r2 0),(4,ad eK 0)]=some (agg (ew kv t r1 r2 eK cJ aA (.pointer none) false 0)):=by subst b;rfl
theorem ao6(b:ac H ab)(g:bx ab v key)(i:key.length<=1000000)
  (j:∀E kv f c,ac E ((ab++aw kv f)++[aa c (ew kv t r1 r2 eK cJ aA (.pointer none) false 0)])->dm kv key f->K (ad c 0) E):aG P 81 [v,agg (lf t),ad r1 0,ad r2 0,ad eK 0] H K:=by
 refine ahf.1 ?_;apply dA b.z;intro k H b;have h:=b;refine Ey b g.app U fun l kv f b d=>bK b rfl U (⟨jf h b rfl,?_⟩)
 have⟨a,n,bC,e⟩:=d.gd.ha;refine Z (ao5 kv t r1 r2 eK a n bC e) (b0 b fun c H b=>j H kv f c (b.sub ?_) d);simp only[append_assoc];exact List.Sublist.append (List.Sublist.refl ab) (sublist_append_right [(k,_)] _)
end
end J
