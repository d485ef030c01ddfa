/- texts of the kp, du behind the jV -/
import Derived.Lib.RuneBytes
import Derived.Shelf.Unicode.CaseLaid
import Derived.Test.YtifflnhooaophaaGreatDoorUG
set_option linter.unusedVariables false
set_option linter.unusedSimpArgs false
set_option linter.unusedSectionVars false
set_option maxHeartbeats 4000000
set_option maxRecDepth 100000
open List Nat
namespace J
open Go Go.Ab
variable[c0:cH]
section
variable{H K b aq key m v w ab}{n:Nat}
theorem Kf(b:LI):iE b=(0,141)\/∃n:Nat,iE b=((n:Int),0)/\36<=n/\n<=2304/\4<=b.length/\b.take 2=[66,85]/\n=er ((b.take 4).drop 2)+36:=by
 unfold iE
 grind
def eQ(key b:LI):fi×Int×Int:=
 if(iE b).2≠0\/(b.length:Int)<(iE b).1 then(cJ,0,141)
 else if ns key (b.take ((iE b).1.toNat-32))≠(b.take (iE b).1.toNat).drop ((iE b).1.toNat-32)then(cJ,0,142)
 else if(kz ((b.take ((iE b).1.toNat-32)).drop 4)).2≠0 then(cJ,0,(kz ((b.take ((iE b).1.toNat-32)).drop 4)).2)
 else((kz ((b.take ((iE b).1.toNat-32)).drop 4)).1,(iE b).1,0)
theorem an4(h:iE b=(0,141)):eQ key b=(cJ,0,141):=by simp_all[eQ]
theorem an5(h:iE b=((n:Int),0))(a:b.length<n):eQ key b=(cJ,0,141):=by simp_all[eQ]
theorem Kg(h:iE b=((n:Int),0))(a:n<=b.length):eQ key b=if ns key (b.take (n-32))≠(b.take n).drop (n-32)then(cJ,0,142)
 else if(kz ((b.take (n-32)).drop 4)).2≠0 then(cJ,0,(kz ((b.take (n-32)).drop 4)).2)
 else((kz ((b.take (n-32)).drop 4)).1,(n:Int),0):=by
 simp_all[eQ,if_neg]
theorem df.nil:df ab aA []:=.inl ⟨rfl,rfl⟩
theorem bM.take(h:bM b):bM (b.take n):=fun x a=>h x (mem_of_mem_take a)
theorem bM.drop(h:bM b):bM (b.drop n):=fun x a=>h x (mem_of_mem_drop a)
theorem Kh(c:bM b)(d:b.length<=9000):(kz b).1.br:=by
 unfold kz wV;split;have f:∀(ae:LI) (e:Int) (n:Nat),(hl ae e n).length<=ae.length:=fun ae e n=>by grind[hl]
 have a:bM (mG b 0 96,nY b 0 96).1:=by unfold mG hG;split;intro x h;cases h;exact sM (sM c _ _) _ _
 have g:kT (gk (rS b 0 96) (mG b 0 96,nY b 0 96))<=65:=by grind[kT]
 refine JV a ?_ U (iD (iD (iD (iD a))))
 grind[rS,iW,vi]
 exact p4
theorem an6(a:ac H ab)(hv:bx ab v key)(p:bx ab w b)(d5:bM key)(d:bM b)(gA:key.length<=1000000)(I:b.length<=1000000)
  (c:∀E aq,ac E (ab++aw aq (ec (eQ key b).1.aU))->df (aw aq (ec (eQ key b).1.aU)) aq (eQ key b).1.aU->K (.tuple [agg (aR (eQ key b).1 aq),int (eQ key b).2.1,int (eQ key b).2.2].toArray) E):aG P 196 [v,w] H K:=by
 refine ajd.1 ?_;rw[wW];refine dA a.z ?_;intro X H a
 replace a:=a
 refine anY a p.app d I ?_;intro H a;refine Z f5 (Z f6 (cy (fun bN E=>bN=[v,w,ad X 0,int (iE b).1,.bool (decide ((iE b).2≠0\/(b.length:Int)<(iE b).1))]/\H=E) ?_ ?_));refine Z dX (ay (fun h=>?_) (fun h=>?_));exact Z (dT h) (⟨by rw[decide_eq_true (show(iE b).2≠0\/(b.length:Int)<(iE b).1 from .inl h)],rfl⟩);exact bg p.aZ (Z cV (Z (dl h) (⟨by rw[decide_eq_decide.2 (show(b.length:Int)<(iE b).1↔((iE b).2≠0\/(b.length:Int)<(iE b).1)from⟨.inr,fun h2=>h2.resolve_left h⟩)],rfl⟩)));rintro bN E ⟨rfl,rfl⟩
 try simp only[c1,c2]
 refine ay (fun h=>?_) (fun h=>?_);have gH:eQ key b=(cJ,0,141):=if_pos h;rw[gH]at c;refine Z tZ (gS a 0 rfl ao ao (hB rfl) ?_);intro H a;exact fI a 0 rfl ao U (c H aA a.left.z df.nil);rcases Kf b with q|⟨N,q,eA,fC,g3,g4,g5⟩
 exact absurd (.inl (by rw[q];simp)) h;have q4:N<=b.length:=by
  have:¬(b.length:Int)<(iE b).1:=fun aH=>h (.inr aH)
  rw[q]at this;simpa using this
 rw[Kg q q4]at c;rw[q];have r:((N:Int)-32)=((N-32:Nat):Int):=U
 refine Z (v:=int ((N-32:Nat):Int)) (by rw[<- r];exact iS U U) ?_;obtain⟨fs,cU,i1⟩:=qP p (n:=N-32) U;refine Z cU (Z (v:=int ((N-32:Nat):Int)) (by rw[<- r];exact iS U U) ?_);obtain⟨cF,dw,kA⟩:=E7 p (i:=N-32) U q4;refine Z dw ?_;rw[anv];refine dA a ?_;intro s H a
 replace a:=a
 refine Z (Bj a 1 rfl (by simp[gj]) U) ?_;have e:((b.take N).drop (N-32)).length=32:=by rw[length_drop,length_take];omega
 refine JF a (i:=ab.length+1) (al rfl) ((kA _ p).app) U (by simp[gj]) ?_;intro H a
 replace a:=a.bp
 rw[show(aN gj).take 0++(aN ((b.take N).drop (N-32))++(aN gj).drop (0+((b.take N).drop (N-32)).length))=aN ((b.take N).drop (N-32)) by rw[drop_of_length_le (l:=aN gj) (by rw[e];simp[gj])];simp]at a
 replace a:ac H (ab++[aa X (aR cJ aA),aa s (aN ((b.take N).drop (N-32)))]):=a
 have f:=i1 _ p;have t:=a.lt (aa s (aN ((b.take N).drop (N-32)))) aW;obtain⟨i2,f1,i5,u⟩:=f.ha;have J:bM ((b.take N).drop (N-32)):=bM.drop (bM.take d);have x:bM ((b.take (N-32)).drop 4):=bM.drop (bM.take d);have y:((b.take (N-32)).drop 4).length<=9000:=by rw[length_drop,length_take];omega
 have rT:(b.take (N-32)).length=N-32:=by rw[length_take];omega
 have L:bM (b.take (N-32)):=bM.take d;obtain⟨v3,gO,S⟩:=A0 f (n:=4) U
 replace S:=S _ f
 generalize (b.take N).drop (N-32)=tail at*;generalize (b.take (N-32)).drop 4=inner at*;generalize b.take (N-32)=said at*;refine el a (by rw[u];exact SO _ _ _ _) ?_;rw[<- u];intro q2 e1 B;refine amQ B (hv.app.app) (al (k:=0) rfl) (f.app.app) d5 L U U ?_;intro oA m;refine mg m (show _=aN tail from by rw[drop_zero];exact take_of_length_le (by simp[e])) (by simp[e]) U (⟨jf B m (sD _),p1 t,?_⟩);refine amT E8 e Ke J m ?_;intro H a
 replace a:=a.left
 refine Z fX ?_;by_cases F:ns key said=tail;rw[decide_eq_true F];refine cT rfl ?_;rw[if_neg (fun h=>h F)]at c;refine Z gO (anB a S.app x y ?_);intro H y5 a g;refine Z f5 (Z f6 ?_);have V:=Kh x y;have j:=V.bi;rcases Kc inner with o|o
 rw[if_neg (fun h=>h o)]at c;simp only at c;rw[o];generalize (kz inner).1=M at*;have C:cS y5=true:=g.du;refine b0 a ?_;intro W H a;refine dn a (_+0) (al rfl) ao (b7 j) (hB C) ?_;intro H a
 replace a:=a.bp
 refine Z dX (ix U (gQ a (_+0) (al rfl) (b7 j) U (dn a (ab.length+0) (ak (ak (al rfl))) ao (b7 j) (hB C) ?_)));intro H a;rw[set_append_left _ _ aW,set_append_left _ _ aW,Go.Ab.bp]at a;exact gQ a (ab.length+0) (ak (ak (al rfl))) (b7 j) U (c H y5 (ac.bR a.left) g);rw[o,if_pos aW]at c;rw[o]at a;rw[o];refine b0 a ?_;intro W H a;refine dn a (_+0) (al rfl) ao ao (hB (by rw[o]at g;exact g.du)) ?_;intro H a;refine Z dX (kf bT (Z tZ ?_))
 replace a:=a.bp.left.left
 refine gS a 0 rfl ao ao (hB rfl) ?_;intro H a;exact fI a 0 rfl ao U (c H aA a.left.z df.nil);rw[decide_eq_false F];refine dz rfl ?_;rw[if_pos F]at c;refine Z tZ (gS a 0 rfl ao ao (hB rfl) ?_);intro H a;exact fI a 0 rfl ao U (c H aA a.left.z df.nil)
theorem an7(a:ac H ab)(hv:bx ab v key)(k:bx ab w b)(B:b≠[]->kV ab w)(d5:bM key)(e:bM b)(gA:key.length<=1000000)(C:b.length<=1000000)
  (c:∀E aq,ac E (ab++aw aq (ec (eQ key b).1.aU))->df (aw aq (ec (eQ key b).1.aU)) aq (eQ key b).1.aU->K (.tuple [agg (aR (eQ key b).1 aq),int (eQ key b).2.1,int (eQ key b).2.2].toArray) E):aG P 217 [v,w] H K:=by
 refine ajw.1 ?_;rw[wW];refine dA a.z ?_;intro V H a
 replace a:ac H (ab++[aa V (aR cJ aA)]):=a
 refine an2 a k.app e C (Z f5 (Z f6 (cy (fun W E=>W=[v,w,ad V 0,int (iE b).1,.bool (decide ((iE b).2≠0\/(b.length:Int)<(iE b).1))]/\H=E) ?_ ?_)));refine Z dX (ay (fun h=>?_) (fun h=>?_));exact Z (dT h) (⟨a1,rfl⟩);exact bg k.aZ (Z go (Z (dl h) (⟨a1,rfl⟩)));rintro W E ⟨rfl,rfl⟩
 try simp only[c1,c2]
 refine ay (fun h=>?_) (fun h=>?_);have gH:eQ key b=(cJ,0,141):=if_pos h;rw[gH]at c;refine Z tZ (gS a 0 rfl ao ao (hB rfl) ?_);intro H a;exact fI a 0 rfl ao U (c H aA a.left.z df.nil);rcases Kf b with F|⟨N,F,eA,fC,g3,g4,g5⟩
 exact absurd (.inl aT) h;have X:N<=b.length:=aT
 have m:=B aT;rw[Kg F X]at c;rw[F];have al0:((N:Int)-32)=((N-32:Nat):Int):=U
 refine Z (v:=int ((N-32:Nat):Int)) (by grind[iS]) ?_;obtain⟨fs,cU,i1⟩:=qP k (n:=N-32) U;have I:=m.slice cU;refine Z cU ?_;have J:=i1 _ k;have rT:(b.take (N-32)).length=N-32:=aT
 have p:bM (b.take (N-32)):=bM.take e;have GH:((b.take N).drop (N-32)).length=32:=aT
 have x:b.take N=b.take (N-32)++(b.take N).drop (N-32):=by
  conv=>lhs;rw[<- take_append_drop (N-32) (b.take N)]
  grind
 refine UN a hv.app J.app I.app d5 p gA U ?_;intro e1 cF mv f cP;refine bg (bx.a6 f cP.gd.app') ?_;obtain⟨v3,gO,yR⟩:=qP k X;refine Z gO (bg (bx.a6 f (yR _ k).app.app) (⟨(m.slice gO).app.ot a f,?_⟩));refine Z (EY _ _) ?_;have l:et (b.take (N-32)++ns key (b.take (N-32)))=et (b.take N)↔ns key (b.take (N-32))=(b.take N).drop (N-32):=by
  constructor;intro h;have:=E4 (kP p Ke) (bM.take e) h
  grind
  grind
 have d:bM ((b.take (N-32)).drop 4):=bM.drop (bM.take e);have q:((b.take (N-32)).drop 4).length<=9000:=aT
 obtain⟨v4,kt,i4⟩:=E7 k (i:=4) (t:=N-32) U U;have L:=m.slice kt
 replace i4:=i4 _ k
 replace a:=f.left
 by_cases y:ns key (b.take (N-32))=(b.take N).drop (N-32);refine ix (fun h=>h (l.2 y)) ?_;rw[if_neg (fun h=>h y)]at c;refine Z (by grind[iS]) (Z kt ?_);rw[E6 d]at c;refine anJ a i4.app d q L.app ?_;intro H y5 a g;refine Z f5 (Z f6 ?_);have r:=Kh d q;rw[E6 d]at r;have j:=r.bi;have s:=Kc ((b.take (N-32)).drop 4);rw[E6 d]at s;generalize (b.take (N-32)).drop 4=inner at*;rcases s with o|o
 rw[if_neg (fun h=>h o)]at c;simp only at c;rw[o];generalize (sN inner).1=M at*;have u:cS y5=true:=g.du;refine b0 a ?_;intro S H a;refine dn a (_+0) (al rfl) ao (b7 j) (hB u) ?_;intro H a
 replace a:=a.bp
 refine Z dX (ix U (gQ a (_+0) (al rfl) (b7 j) U (dn a (ab.length+0) (ak (ak (al rfl))) ao (b7 j) (hB u) ?_)));intro H a;rw[set_append_left _ _ aW,set_append_left _ _ aW,Go.Ab.bp]at a;exact gQ a (ab.length+0) (ak (ak (al rfl))) (b7 j) U (c H y5 (ac.bR a.left) g);rw[o,if_pos aW]at c;rw[o]at a;rw[o];refine b0 a ?_;intro S H a;refine dn a (_+0) (al rfl) ao ao (hB (by rw[o]at g;exact g.du)) ?_;intro H a;refine Z dX (kf bT (Z tZ ?_))
 replace a:=a.bp.left.left
 refine gS a 0 rfl ao ao (hB rfl) ?_;intro H a;exact fI a 0 rfl ao U (c H aA a.left.z df.nil);refine kf (fun h=>y (l.1 h)) ?_;rw[if_pos y]at c;refine Z tZ (gS a 0 rfl ao ao (hB rfl) ?_);intro H a;exact fI a 0 rfl ao U (c H aA a.left.z df.nil)
end
section
variable{H b c key m r t ab}
theorem UO(a:m.br)(h:dy m):(pt key m).length=(sO m).length+32/\(pt key m).length<=2228/\84<=(pt key m).length/\(sO m).length=(ji m).length+4:=by grind[UM,Kd,pt,E8]
theorem UP(f:bM b)(o:b.length<=1000000):((eQ key b).2.2=0/\dy (eQ key b).1/\(eQ key b).1.br/\(eQ key b).2.1=((pt key (eQ key b).1).length:Int)/\(pt key (eQ key b).1).length<=b.length/\b.take (pt key (eQ key b).1).length=pt key (eQ key b).1)\/
  ((eQ key b).1=cJ/\(eQ key b).2.1=0/\((eQ key b).2.2=141\/(eQ key b).2.2=142\/(eQ key b).2.2=131)):=by
 rcases Kf b with g|⟨N,g,p,q,r,g4,s⟩
 simp_all[an4]
 by_cases t:b.length<N
 grind[an5]
 rw[Kg g U];by_cases i:ns key (b.take (N-32))≠(b.take N).drop (N-32)
 simp_all
 rw[if_neg i];have a:bM ((b.take (N-32)).drop 4):=bM.drop (bM.take f);have d:((b.take (N-32)).drop 4).length<=9000:=aT
 have c:((b.take (N-32)).drop 4).length=N-36:=aT
 rcases Kc ((b.take (N-32)).drop 4)with e|e
 rw[if_neg (fun h=>h e)];left;have j:=Kh a d;obtain⟨b5,ax⟩:=anT a (m:=(kz ((b.take (N-32)).drop 4)).1) (Prod.ext rfl e);generalize (kz ((b.take (N-32)).drop 4)).1=M at*;have k:sO M=b.take (N-32):=by
  unfold sO;rw[ax,c];have l:iT 2 (N-36)=(b.take 4).drop 2:=by
   have n:N-36=er ((b.take 4).drop 2):=U
   rw[n];have:=Ka ((b.take 4).drop 2) (bM.drop (bM.take f))
   simp_all
  rw[l,<- g4];have u:b.take 2++(b.take 4).drop 2=b.take 4:=by
   conv=>rhs;rw[<- take_append_drop 2 (b.take 4)]
   grind
  grind[take_append_drop]
 have c7:pt key M=b.take N:=by
  unfold pt;rw[k,Classical.not_not.1 i]
  conv=>rhs;rw[<- take_append_drop (N-32) (b.take N)]
  grind
 simp_all
 simp_all
end
section
variable{a b c key}
theorem UQ:la 0 (.tuple [a,b,c].toArray)=some a:=rfl
theorem UR:la 1 (.tuple [a,b,c].toArray)=some b:=rfl
theorem US:la 2 (.tuple [a,b,c].toArray)=some c:=rfl
theorem Ki(a:bM b)(c:b.length<=1000000):(eQ key b).1.br:=by
 rcases UP a c with h|h
 exact h.2.2.1;rw[h.1];exact p4
end
section
variable{l:List UInt8}{m:fi}
theorem UT(t:TypeId)(c:Bool)(l m:List UInt8)(h:l.length+m.length<=1000000000):(cz P .add t c).f (a6 l) (a6 m)=some (a6 (l++m)):=by show zH .add l m=_;unfold zH;simp only[gM,f0];rw[if_pos (ble_eq_true_of_le U)]
end
section
variable{v:Value}
theorem y6{P:Program}{t:TypeId}{aK:Array Field}(d:P.underlying t=some (.struct aK)){cn:List TypeId}{N:Nat}{c:aj}{b:List aj}(h:gp P (t::cn) N c b):gp P (aK.toList.map (·.type)++cn) N c b:=by
 cases h with
 | struct a h=>rw[d]at a;cases a;exact h
 | array a _=>rw[d]at a;cases a
 | int v a _ _=>rw[d]at a;cases a
 | bool v a _=>rw[d]at a;cases a
 | a6 v a _ _=>rw[d]at a;cases a
 | jq a _=>rw[d]at a;cases a
 | am len a _ _ _ _=>rw[d]at a;cases a
theorem Kj{P:Program}{t:TypeId}(d:P.underlying t=some .string){cn:List TypeId}{N:Nat}{c:aj}{b:List aj}(h:gp P (t::cn) N c b):∃(l:List UInt8) (bC:aj),c=a6 l::bC/\gp P cn N bC b:=by
 cases h with
 | a6 v a _ h=>grind
 | array a h=>simp_all
 | struct a _=>simp_all
 | int v a _ _=>simp_all
 | bool v a _=>simp_all
 | jq a _=>simp_all
 | am len a _ _ _ _=>simp_all
theorem an8:P.underlying 22=some (.slice 5):=ao
end
section
variable{H K c p q t bl ab}{n a b:Nat}
def nZ(n:Int):Prop:=0<=n/\n<=1114111/\(n<55296\/57343<n)
def UU(x:Go.Lib.CaseRow):Bool:=
 if x.delta 1>1114111 then decide ((x.2.1:Int)+1<=1114111/\((x.2.1:Int)+1<55296\/57343<(x.1:Int)))
 else decide (0<=(x.1:Int)+x.delta 1/\(x.2.1:Int)+x.delta 1<=1114111/\((x.2.1:Int)+x.delta 1<55296\/57343<(x.1:Int)+x.delta 1))
theorem an9:Go.Lib.caseT.all UU=true:=by kernel_rfl
theorem Kk(T:Array Go.Lib.CaseRow)(r:Int):∀(f d3 a i:Nat),Go.Lib.lookupIdx T r f d3 a=some i->a<=T.size->i<T.size/\((T.getD i (0,0,0,0,0)).1:Int)<=r/\r<=((T.getD i (0,0,0,0,0)).2.1:Int)
 | 0,d3,a,i,h,_=>by cases h
 | f+1,d3,a,i,h,b=>by unfold Go.Lib.lookupIdx at h;split at h;split at h;rename_i d c;obtain rfl:=Option.some.inj h;exact⟨U,c⟩;split at h;exact Kk T r f _ _ i h U;exact Kk T r f _ _ i h b;cases h
theorem UV{n:Int}(h:nZ n):nZ (Go.Lib.toLowerU n):=by
 unfold Go.Lib.toLowerU;split;split;unfold nZ at *;omega;exact h;unfold Go.Lib.toR Go.Lib.lookupGo;cases a:Go.Lib.lookupIdx Go.Lib.caseA n (Go.Lib.caseA.size+1) 0 Go.Lib.caseA.size with
 | none=>exact h
 | some i=>
  show nZ (Go.Lib.convertR 1 n (Go.Lib.caseA.getD i (0,0,0,0,0)));have⟨aB,c,d⟩:=Kk _ _ _ _ _ _ a (Nat.le_refl _);have b:=all_eq_true.1 an9 (Go.Lib.caseA[i]'aB) (by have:=Array.getElem_mem aB;rw[<- Array.mem_toList_iff]at this;exact this);have e:Go.Lib.caseA.getD i (0,0,0,0,0)=Go.Lib.caseA[i]'aB:=a1
  unfold UU at b;unfold Go.Lib.convertR nZ at*
  grind
def E9(n:Nat):Nat:=(Go.Lib.toLowerU n).toNat
theorem Kl(h:nZ n):Go.Lib.toLowerU n=E9 n:=(Int.toNat_of_nonneg (UV h).1).symm
theorem UW(h:nZ n):nZ (E9 n):=by rw[<- Kl h];exact UV h
def vj(n:Nat):LI:=
 if n<128 then [((n:Nat):Int)]
 else if n<2048 then [((192+n/64:Nat):Int),((128+n%64:Nat):Int)]
 else if n<65536 then [((224+n/4096:Nat):Int),((128+n/64%64:Nat):Int),((128+n%64:Nat):Int)]
 else [((240+n/262144:Nat):Int),((128+n/4096%64:Nat):Int),((128+n/64%64:Nat):Int),((128+n%64:Nat):Int)]
theorem aoa(h:nZ n):Go.Lib.encodeRune n=et (vj n):=by
 have⟨a,b,c⟩:=h
 grind[Go.Lib.encodeRune,et,vj,Go.Lib.encodeRuneZ_one,Go.Lib.encodeRuneZ_two,Go.Lib.encodeRuneZ_three,Go.Lib.encodeRuneZ_four]
theorem aob(n:Nat):(vj n).length<=4:=by grind[vj]
theorem aoc(ae:LI):(et ae).length=ae.length:=by simp[et]
theorem p5(d:0<b):(cz P .rem t c).f (int a) (int b)=some (int ((a%b:Nat):Int)):=tE d
theorem n0(h:a+b<=9223372036854775807):(cz P .add t c).f (int a) (int b)=some (int ((a+b:Nat):Int)):=by grind[f2]
theorem sP(h:a<256):fd .u8 (int a) H=some (.int .u8 ((a:Nat):Int),H):=by grind[anj]
theorem aod(a b c:Int)(H:an):(gY P 22 3).f [(0,.int .u8 a),(1,.int .u8 b),(2,.int .u8 c)] H=some (am H.next 0 3 3,H.push (aN [a,b,c])):=ao
theorem aoe(a b c d:Int)(H:an):(gY P 22 4).f [(0,.int .u8 a),(1,.int .u8 b),(2,.int .u8 c),(3,.int .u8 d)] H=some (am H.next 0 4 3,H.push (aN [a,b,c,d])):=ao
theorem Fa{K:VH}(a:ac H ((ab++aw (am q 0 0 3) [])++[aa p (aN bl)]))(b:n=bl.length)(f:bl.length<=4)(d:∀E,ac E ab->K (a6 (et bl)) E):
  a7 (dj 1 1 (am q 0 0 3) (am p 0 n 3) H) fun v H=>a7 (jD v H) fun s H=>K s H:=rI (ae:=[]) a (.inr ⟨q,.inr ⟨rfl,rfl⟩,rfl,Nat.le_refl _,rfl⟩) aT b (.inr rfl) fun H v c a e=>bg (bx.a6 a e.gd.app') (d H a.left)
theorem aof(e:n<=1114111)(c:ac H ab)(d:∀E,ac E ab->K (a6 (et (vj n))) E):aG P 159 [int n] H K:=by
 refine aiH.1 ?_;apply el c (rO _);intro q H c;unfold vj at d;refine Z cV (ay (fun h=>?_) (fun h=>?_));rw[if_pos U]at d;exact bg (sP U) (el c (AZ _ _ _) (fun p H c=>Fa c rfl aW d));rw[if_neg U]at d;refine Z cV (ay (fun h=>?_) (fun h=>?_));rw[if_pos U]at d;exact Z (qX (b:=64) U U) (Z (n0 (a:=192) U) (bg (sP U) (Z (p5 (b:=64) U) (Z (n0 (a:=128) U) (bg (sP U) (el c (akQ _ _ _ _ _) (fun p H c=>Fa c rfl aW d)))))));rw[if_neg U]at d;refine Z cV (ay (fun h=>?_) (fun h=>?_));rw[if_pos U]at d;exact Z (qX (b:=4096) U U) (Z (n0 (a:=224) U) (bg (sP U) (Z (qX (b:=64) U U) (Z (p5 (b:=64) U) (Z (n0 (a:=128) U) (bg (sP U) (Z (p5 (b:=64) U) (Z (n0 (a:=128) U) (bg (sP U) (el c (aod _ _ _ _) (fun p H c=>Fa c rfl aW d)))))))))));rw[if_neg U]at d;exact Z (qX (b:=262144) U U) (Z (n0 (a:=240) U) (bg (sP U) (Z (qX (b:=4096) U U) (Z (p5 (b:=64) U) (Z (n0 (a:=128) U) (bg (sP U) (Z (qX (b:=64) U U) (Z (p5 (b:=64) U) (Z (n0 (a:=128) U) (bg (sP U) (Z (p5 (b:=64) U) (Z (n0 (a:=128) U) (bg (sP U) (el c (aoe _ _ _ _ _) (fun p H c=>Fa c rfl aW d)))))))))))))))
end
section
variable{H:an}{ab:LB}{K:VH}{v x aq:Value}{b:LI}{o n k:Nat}{e:Int}{l m:List UInt8}{ds:List (List UInt8)}
theorem Km{size iv a:Nat}{r:Nat×Nat}(h:nW l size iv a=some r):nZ r.1:=by unfold nW at h;split at h;cases h;split at h;split at h;cases h;cases h;unfold nZ;omega;cases h
theorem UX{r:Nat×Nat}(h:eN l=some r):nZ r.1:=by have:=qZ l 0;unfold eN at h;split at h;cases h;unfold nZ;omega;split at h;exact Km h;split at h;exact Km h;split at h;exact Km h;cases h
def kh(s:List UInt8):List UInt8:=match eN s with
 | none=>s.take 1
 | some r=>et (vj (E9 r.1))
def lp(ds:List (List UInt8)):List UInt8:=ds.flatMap kh
def gu(l:List UInt8):List UInt8:=lp (oQ l)
theorem UY(s:List UInt8):(kh s).length<=4:=by grind[kh,aoc,aob]
theorem UZ:∀ds:List (List UInt8),(lp ds).length<=4*ds.length
 | []=>Nat.le_refl _
 | a::ds=>by have b:=UZ ds;have c:=UY a;show(kh a++lp ds).length<=_;rw[length_append,length_cons];omega
theorem U6{y:Nat}(a:y<ds.length):lp (ds.take (y+1))=lp (ds.take y)++kh ds[y]:=by grind[take_add_one,lp]
theorem aog(s:List UInt8):∃(n:Nat) (mE:List UInt8) (dD:Bool),lQ s=[int n,a6 mE,.bool dD]/\n<=1114111/\(dD=true->kh s=mE)/\(dD=false->nZ n/\kh s=et (vj (E9 n))):=by
 cases h:eN s with
 | none=>exact⟨fc s 0,s.take 1,true,by grind[lQ],by grind[qZ],fun _=>by grind[kh],fun h=>by cases h⟩
 | some r=>exact⟨r.1,s.take r.2,false,by grind[lQ],Uc h,fun h=>(by cases h),fun _=>⟨UX h,by grind[kh]⟩⟩
theorem aoh{n:Nat}(h:n<2147483648):fd .i64 (.int .i32 (n:Int)) H=some (int n,H):=by
 show some (Value.int .i64 (hk .i64 (n:Int)),H)=_
 grind[tz]
theorem Fb(B:l.length<=1000000)(a:ac H ab)(r:∀E,ac E ab->K (a6 (gu l)) E):aG P 93 [a6 l] H K:=by
 refine aht.1 ?_;refine Ua B a ?_;intro H v a s;have C:(oQ l).length<=l.length:=T9 _ _;unfold gu at r;generalize oQ l=b at*;refine bg s.aZ (ahs (fun k t E=>∃(y:Nat),y<=b.length/\k=b.length-y/\t=[a6 [],a6 (lp (b.take y)),v,int b.length,int y]/\ac E (ab++aw v (mD b))) _ _ ?_ b.length _ _ ⟨0,U,U,rfl,a⟩);rintro k t H ⟨y,u,rfl,rfl,a⟩;unfold Rv;refine ul ?_
 try simp only[c1,c2]
 refine Z cV (ay (fun h=>?_) (fun h=>?_));have u:y<b.length:=U
 obtain⟨dR,w,rfl,d⟩:∃dR w,v=am dR 0 b.length w/\aw v (mD b)=[aa dR (mD b)]:=by
  rcases s with⟨_,L,_⟩|⟨dR,rfl|rfl,_⟩
  omega;exact⟨dR,_,rfl,rfl⟩;exact⟨dR,_,rfl,rfl⟩
 rw[d]at a;obtain⟨n,mE,dD,F,M,I,q⟩:=aog b[y];have c:=u6 (f:=lQ) (n:=3) (l:=b) (i:=y) (o:=0) (m:=3) (fun x _=>(JM x).2) u U;rw[F]at c;have g:=UZ (b.take y);have j:=UY b[y];rw[length_take]at g;refine Z (ez U U) (fe a (ab.length+0) (al rfl) (show _=[int n,a6 mE,.bool dD]from by simp_all) rfl U ?_);rw[JK];refine dA a ?_;intro J H a;refine gS a 1 rfl rfl rfl rfl ?_;intro H a
 replace a:ac H (ab++[aa dR (mD b),aa J [int n,a6 mE,.bool dD]]):=a
 refine Z bj (bY a 1 rfl (v:=.bool dD) rfl ?_);cases dD with
 | true=>
  refine dz rfl (Z bj (bY a 1 rfl (v:=a6 mE) rfl ?_));rw[I rfl]at j;refine Z (UT _ _ _ _ U) (Z (f2 U U) (⟨b.length-(y+1),U,y+1,U,rfl,?_,?_⟩))
  simp_all[U6]
  rw[d];exact tT (A:=[aa dR (mD b)]) a
 | false=>
  obtain⟨p,q⟩:=q rfl;have z:=UW p;rw[q]at j;refine cT rfl (Z bj (bY a 1 rfl (v:=int n) rfl (bg (Ub U U) (afK ?_))));rw[Kl p];refine bg (aoh (by grind[nZ])) (aof (by grind[nZ]) a ?_);intro H a;refine Z (UT _ _ _ _ U) (Z (f2 U U) (⟨b.length-(y+1),U,y+1,U,rfl,?_,?_⟩))
  simp_all[U6]
  rw[d];exact tT (A:=[aa dR (mD b)]) a
 have e:y=b.length:=U
 subst e;rw[take_of_length_le (Nat.le_refl _)];refine iR rfl ?_
 try simp only[c1,c2]
 exact r _ a.left
theorem aoi(l:List UInt8)(bb:Nat)(f:bb<l.length):(Seal.AU (hQ l) bb=kh (l.drop bb))/\(Utf8.decode (hQ l) bb).2=nt (l.drop bb):=by
 refine⟨?_,(Ug l bb 0 f).2⟩;have b:l.drop bb≠[]:=a1
 have d:(hQ l).extract bb (hQ l).size=hQ (l.drop bb):=by
  apply ByteArray.ext
  simp_all[wR,take_of_length_le]
 have e:=Go.Lib.tail_decode (hQ l) bb 0;rw[d,Nat.add_zero]at e;obtain⟨g,h⟩:=Ue b;have c:Go.Lib.decodeGo (hQ (l.drop bb))=Utf8.decode (hQ (l.drop bb)) 0:=by unfold Go.Lib.decodeGo;rw[if_neg (by grind[wR])]
 have k:[(hQ l).get! bb]=(l.drop bb).take 1:=by
  have m:(hQ l).get! bb=l[bb]:=by
   show(l.toArray)[bb]! = _
   simp_all
  grind[drop_eq_getElem_cons]
 unfold Seal.AU Seal.u3;rw[d,c,<- e];cases a:eN (l.drop bb)with
 | none=>
  rw[g a]
  simp_all[kh]
 | some r=>
  rw[h r a];have i:=Uf a;have j:=UX a;rw[decide_eq_false (show¬((r.1:Int)=65533/\r.2=1) by omega),if_neg aW]
  simp_all[kh,Kl,aoa,UW]
theorem U7(l:List UInt8):∀(b bb:Nat),bb<=l.length->Seal.rM (hQ l) b bb=lp (pr b (l.drop bb))
 | 0,bb,_=>rfl
 | b+1,bb,g=>by
  unfold Seal.rM pr;by_cases h:bb<l.length;obtain⟨d,e⟩:=aoi l bb h;have a:l.drop bb≠[]:=a1
  have f:=EV a;rw[length_drop]at f;rw[if_pos (show bb<(hQ l).size from h),if_neg a,d,e,U7 l b (bb+nt (l.drop bb)) U,drop_drop];rfl;have c:l.drop bb=[]:=drop_of_length_le U;rw[if_neg (show¬bb<(hQ l).size from h),if_pos c];rfl
theorem aoj(l:List UInt8):Seal.u4 (hQ l)=hQ (gu l):=by have:=U7 l l.length 0 (zero_le _);rw[drop_zero]at this;show(⟨(Seal.rM (hQ l) l.length 0).toArray⟩:ByteArray)=_;rw[this];rfl
theorem Fc(b:l.length<=1000000)(a:K (a6 (gu l)) H):aG P 122 [a6 l] H K:=by refine afI (s:=hQ l) (by rw[wR];omega) ?_;rw[aoj];exact a
theorem aok(a:l.length<=1000000)(b:m.length<=1000000)(c:K (.bool (gu l==gu m)) H):aG P 233 [a6 l,a6 m] H K:=by refine ajS.1 ?_;exact Fc a (Fc b (Z (show _=some (.bool (gu l==gu m))from rfl) c))
structure rU where
 cd:List UInt8
 cj:Nat
 dC:Int
def lf(t:rU):aj:=[a6 t.cd,bB .u64 t.cj,int t.dC]
def oT(m:fi)(t:rU):Int:=if¬dy m then 131 else if gu m.cd≠gu t.cd then 143 else if m.de<t.cj then 144 else if m.cY>t.dC then 145 else 0
theorem U8{t:rU}:es (agg (lf t))=lf t:=rfl
theorem U9{k:IntKind}{t:TypeId}{c:Bool}{a b:Nat}:(cz P .lss t c).f (bB k a) (bB k b)=some (.bool (decide (a<b))):=by simp_all[cV]
theorem aol{m:fi}{t:rU}(c:m.br)(d:df ab aq m.aU)(e:t.cd.length<=1000000)(a:ac H ab)(b:∀E,ac E ab->K (int (oT m t)) E):aG P 197 [agg (aR m aq),agg (lf t)] H K:=by
 refine aje.1 ?_;have f:=lv (aq:=aq) c.bi;have g:=c.Bn;unfold oT at b;rw[vg,U8];refine dA a.z ?_;intro b5 H a;refine dA a ?_;intro ax H a
 replace a:ac H (ab++[aa b5 (aR m aq),aa ax (lf t)]):=a
 refine fI a 0 rfl (b7 c.bi) U (y0 c d.app a ?_);intro H a;refine Z fX (lr (fun h=>?_) (fun h=>?_));have h:¬dy m:=aT
 rw[if_pos h]at b;exact b H a.left;have h:dy m:=by simpa using h
 rw[if_neg aT]at b;refine Z bj (bY a 0 rfl (v:=a6 m.cd) rfl (Z bj (bY a 1 rfl (v:=a6 t.cd) rfl (aok U e (Z fX (lr (fun h=>?_) (fun h=>?_)))))));have h:gu m.cd≠gu t.cd:=aT
 rw[if_pos h]at b;exact b H a.left;have h:¬gu m.cd≠gu t.cd:=aT
 rw[if_neg h]at b;refine Z bj (bY a 0 rfl (v:=bB .u64 m.de) rfl (Z bj (bY a 1 rfl (v:=bB .u64 t.cj) rfl (Z U9 (ay (fun h=>?_) (fun h=>?_))))));rw[if_pos h]at b;exact b H a.left;rw[if_neg h]at b;refine Z bj (bY a 0 rfl (v:=int m.cY) rfl (Z bj (bY a 1 rfl (v:=int t.dC) rfl (Z go (ay (fun h=>?_) (fun h=>?_))))));rw[if_pos h]at b;exact b H a.left;rw[if_neg U]at b;exact b H a.left
theorem aom{m:fi}{t:rU}(c:m.br)(e:df ab aq m.aU)(f:t.cd.length<=1000000)(a:ac H ab)(b:∀E,ac E ab->K (int (oT m t)) E):aG P 38 [agg (aR m aq),agg (lf t)] H K:=by
 refine ago.1 ?_;have g:=lv (aq:=aq) c.bi;have i:=c.Bn;unfold oT at b;rw[vg,U8];refine dA a.z ?_;intro b5 H a;refine dA a ?_;intro ax H a
 replace a:ac H (ab++[aa b5 (aR m aq),aa ax (lf t)]):=a
 refine fI a 0 rfl (b7 c.bi) U (wS c e.app a ?_);intro H a;refine Z fX (lr (fun h=>?_) (fun h=>?_));have h:¬dy m:=aT
 rw[if_pos h]at b;exact b H a.left;have h:dy m:=by simpa using h
 rw[if_neg aT]at b;refine Z bj (bY a 0 rfl (v:=a6 m.cd) rfl ?_);have d:=a;refine Fb U a ?_;intro j a;refine Z bj (bY a 1 rfl (v:=a6 t.cd) rfl (⟨gw d (ab.length+1) (al rfl) a (ab.length+1) (al rfl) rfl,?_⟩));refine Fb f a ?_;intro H a;refine Z (show _=some (.bool (!(gu m.cd==gu t.cd)))from rfl) (lr (fun h=>?_) (fun h=>?_));have h:gu m.cd≠gu t.cd:=aT
 rw[if_pos h]at b;exact b H a.left;have h:¬gu m.cd≠gu t.cd:=aT
 rw[if_neg h]at b;refine Z bj (bY a 0 rfl (v:=bB .u64 m.de) rfl (Z bj (bY a 1 rfl (v:=bB .u64 t.cj) rfl (Z U9 (ay (fun h=>?_) (fun h=>?_))))));rw[if_pos h]at b;exact b H a.left;rw[if_neg h]at b;refine Z bj (bY a 0 rfl (v:=int m.cY) rfl (Z bj (bY a 1 rfl (v:=int t.dC) rfl (Z go (ay (fun h=>?_) (fun h=>?_))))));rw[if_pos h]at b;exact b H a.left;rw[if_neg U]at b;exact b H a.left
end
section
theorem aon:fF P 94=lf ⟨[],0,0⟩:=ao
end
section
end
end J
