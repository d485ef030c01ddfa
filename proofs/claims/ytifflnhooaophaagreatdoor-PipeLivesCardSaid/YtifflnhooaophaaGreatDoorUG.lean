/- texts of the nf, fh behind the mA -/
import Derived.Test.YtifflnhooaophaaGreatDoorUF
set_option linter.unusedVariables false
set_option linter.unusedSimpArgs false
set_option linter.unusedSectionVars false
set_option maxHeartbeats 4000000
set_option maxRecDepth 100000
open List Nat
namespace J
open Go Go.Ab
variable[cu:b0]
variable{H:au}{ae b9:List (Nat×ax)}{aa:VH}{v w x aZ:Value}{xs:List Int}{j p n:Nat}{l:List UInt8}
structure da where
 cF:List UInt8
 cV:Nat
 cT:Int
 aF:Int
 cn:List Int
 aN:List (List Int)
abbrev cE(xs:List Int):Prop:=∀x∈xs,0<=x/\x<=255
structure da.b4 (m:da):Prop where
 dh:m.cn.length=32
 SL:cE m.cn
 ea:∀x∈m.aN,x.length=32
 gu:∀x∈m.aN,cE x
 cV:m.cV<18446744073709551616
 cT:-9223372036854775808<=m.cT/\m.cT<=9223372036854775807
 aF:-9223372036854775808<=m.aF/\m.aF<=9223372036854775807
 n:m.aN.length<=10000
 MF:m.cF.length<=10000
def bN(m:da)(aZ:Value):List Value:=bS m.cF::bT .u64 m.cV::int m.cT::int m.aF::(bd m.cn++[aZ])
abbrev fV(l:List (List Int)):List Value:=l.flatMap bd
def e8(ae:List (Nat×ax))(v:Value)(aN:List (List Int)):Prop:=
 (v=bu/\aN=[])\/∃(p c j:Nat) (w:Bool),v=aC p 0 aN.length c/\ae[j]?=some (p,(⟨fV aN,w⟩:ax))
variable{m:da}{aN:List (List Int)}
theorem e8.bO(h:e8 ae v aN):bO v H=some (int aN.length,H):=by rcases h with⟨rfl,rfl⟩|⟨p,c,j,w,rfl,_⟩<;>rfl
theorem e8.lk(h:e8 ae v aN):∃a n c,v=.slice a n c:=by rcases h with⟨rfl,_⟩|⟨p,c,j,w,rfl,_⟩<;>exact⟨_,_,_,rfl⟩
theorem e8.app(h:e8 ae v aN):e8 (ae++b9) v aN:=by
 rcases h with h|⟨p,c,j,w,h1,h2⟩
 exact .inl h;exact .inr ⟨p,c,j,w,h1,aL h2⟩
theorem e8.app'(h:e8 b9 v aN):e8 (ae++b9) v aN:=by
 rcases h with h|⟨p,c,j,w,h1,h2⟩
 exact .inl h;exact .inr ⟨p,c,ae.length+j,w,h1,az h2⟩
theorem e8.bc(h:e8 ae v aN)(aJ:0<aN.length):∃(p c j:Nat) (w:Bool),v=aC p 0 aN.length c/\ae[j]?=some (p,(⟨fV aN,w⟩:ax)):=by
 rcases h with⟨_,rfl⟩|h
 simp at aJ;exact h
theorem eS(aO:m.cn.length=32):(bN m aZ).length=37:=by simp[bN,aO]
theorem sP(aO:m.cn.length=32):(bN m aZ)[0+36]?=some aZ:=by
 show(bd m.cn++[aZ])[32]?=_
 simp_all
theorem nt(aB:eL aZ=true):(bN m aZ).all eL=true:=by
 show(true&&(true&&(true&&(true&&(bd m.cn++[aZ]).all eL))))=true
 grind[mn]
theorem Bo(aB:fY aZ=true):(bN m aZ).all fY=true:=by
 show(true&&(true&&(true&&(true&&(bd m.cn++[aZ]).all fY))))=true
 grind[A9]
theorem e8.fh(h:e8 ae v aN):eL v=true:=by obtain⟨a,n,c,rfl⟩:=h.lk;rfl
theorem e8.tG(h:e8 ae v aN):fY v=true:=by rcases h with⟨rfl,_⟩|⟨p,c,j,w,rfl,_⟩<;>rfl
theorem zD:dr (agg (bN m aZ))=bN m aZ:=rfl
def l2(s c:Int):Int:=if s<1\/c<1 then 0 else(s-1)/c+1
theorem SM{s c:Int}:0<=l2 s c:=by unfold l2;split;omega;have:=Int.ediv_nonneg (show 0<=s-1 by omega) (show 0<=c by omega);omega
theorem axb{s c:Nat}(al:1<=s)(aB:1<=c):(s-1)/c+1=s/c+(if s%c>0 then 1 else 0):=by
 have h1:=div_add_mod s c;have h2:=mod_lt s aB;generalize s/c=Q at*;generalize s%c=R at*;subst h1;by_cases U:R=0;subst U;rw[if_neg (by omega)];have bY:1<=Q:=by grind
 obtain⟨t,rfl⟩:∃t,Q=t+1:=⟨Q-1,by omega⟩;have:c*(t+1)+0-1=c*t+(c-1):=by grind
 rw[this,mul_add_div (by omega),div_eq_of_lt (by omega)];rw[if_pos (by omega)];have:c*Q+R-1=c*Q+(R-1):=by omega
 rw[this,mul_add_div (by omega),div_eq_of_lt (by omega)]
theorem afQ{s c:Int}(al:s<=9223372036854775807)(aB:c<=9223372036854775807)(ah:aa (int (l2 s c)) H):ay P 225 [int s,int c] H aa:=by
 apply atk;unfold adh;by_cases h1:s<1;refine AL ?_
 repeat (first|refine bH ?_|refine vD ?_|refine kA ?_)
 unfold l2 at ah;rw[if_pos (.inl h1)]at ah;exact ah;by_cases h2:c<1;refine AL ?_
 repeat (first|refine bH ?_|refine vD ?_|refine w4 ?_)
 unfold l2 at ah;rw[if_pos (.inr h2)]at ah;exact ah;refine e3 (fun aA ab=>aA=[int s,int c]/\H=ab) ?_ ?_
 repeat (first|refine bH ?_|refine w4 ?_)
 exact⟨(by rfl),(by rfl)⟩;rintro aA ab ⟨rfl,rfl⟩
 try simp only[cj,ck]
 obtain⟨S,rfl⟩:∃S:Nat,s=S:=⟨s.toNat,by omega⟩;obtain⟨C,rfl⟩:∃C:Nat,c=C:=⟨c.toNat,by omega⟩;unfold l2 at ah;rw[if_neg (by omega)]at ah
 repeat refine bH ?_
 refine ag (v:=int (((S-1)/C:Nat):Int)) (by grind[Is]) ?_;have j7:=div_le_self (S-1) C;rw[show((S:Int)-1)/C+1=(((S-1)/C:Nat):Int)+1 by grind]at ah;generalize (S-1)/C=Q at*
 repeat refine bH ?_
 exact ah
theorem afR{s c:Int}(al:s<=9223372036854775806)(aB:c<=9223372036854775807)(ah:aa (int (l2 s c)) H):ay P 88 [int s,int c] H aa:=by
 apply arW;unfold abH;by_cases h1:s<1;refine AL ?_
 repeat (first|refine bH ?_|refine vD ?_|refine kA ?_)
 unfold l2 at ah;rw[if_pos (.inl h1)]at ah;exact ah;by_cases h2:c<1;refine AL ?_
 repeat (first|refine bH ?_|refine vD ?_|refine w4 ?_)
 unfold l2 at ah;rw[if_pos (.inr h2)]at ah;exact ah;refine e3 (fun aA ab=>aA=[int s,int c]/\H=ab) ?_ ?_
 repeat (first|refine bH ?_|refine w4 ?_)
 exact⟨(by rfl),(by rfl)⟩;rintro aA ab ⟨rfl,rfl⟩
 try simp only[cj,ck]
 obtain⟨S,rfl⟩:∃S:Nat,s=S:=⟨s.toNat,by omega⟩;obtain⟨C,rfl⟩:∃C:Nat,c=C:=⟨c.toNat,by omega⟩;unfold l2 at ah;rw[if_neg (by omega)]at ah;have Lj:=axb (s:=S) (c:=C) (by omega) (by omega);have j7:=div_le_self S C;rw[show((S:Int)-1)/C+1=(((S-1)/C+1:Nat):Int) by grind,Lj]at ah;refine ag (Is (by omega) (by omega)) ?_;generalize S/C=Q at*;refine ag (Lm (by omega)) ?_;rw[show(Int.tmod (S:Int) (C:Int))=((S%C:Nat):Int)from rfl];refine ag kS (bF (fun h=>?_) (fun h=>?_));rw[if_pos (by omega)]at ah
 repeat refine bH ?_
 exact ah;rw[if_neg (by omega)]at ah;exact ah
def ra(l:List UInt8):Int:=Seal.pT (j4 l) (j4 l).size 0 0
def eG(m:da):Prop:=ra m.cF=0/\1<=m.cV/\m.cV<=281474976710656/\1<=m.cT/\m.cT<=65536/\64<=m.aF/\m.aF<=1024/\m.aF%64=0/\(m.aN.length:Int)=l2 m.cT m.aF/\m.aN.length<=64
instance (m:da):Decidable (eG m):=by unfold eG;exact inferInstance
theorem axc(aD:l.length<=1000000)(hO:aj H ae)(ah:∀ab,aj ab ae->aa (int (ra l)) ab):ay P 87 [bS l] H aa:=
 aw6 aD hO fun ab h=>by rw[afP];exact ah ab h
theorem afS(aD:l.length<=1000000)(ah:aa (int (ra l)) H):ay P 123 [bS l] H aa:=
 aqx (by rw[Bn];omega) ah
theorem F4(ok:m.b4)(aB:e8 ae aZ m.aN)(hO:aj H ae)(ah:∀ab,aj ab ae->aa (.bool (decide (eG m))) ab):ay P 186 [agg (bN m aZ)] H aa:=by
 apply asT;unfold acK;have eU:∀ {H:au} {b9},aj H (ae++b9)->¬eG m->aa (.bool false) H:=fun h aU=>by have:=ah _ h.left;rw[decide_eq_false aU]at this;exact this
 have fc:=ok.cT;have jE:=ok.aF;have hv:=ok.cV;have aD:=ok.n;have vQ:=sP (aZ:=aZ) ok.dh;rw[zD];refine j3 hO.z ?_;intro dx H hO
 replace hO:aj H (ae++[(dx,⟨bN m aZ,true⟩)]):=hO
 refine e3 (fun aA ab=>aA=[ai dx 0]/\H=ab/\ra m.cF=0/\1<=m.cV/\m.cV<=281474976710656/\1<=m.cT/\m.cT<=65536/\64<=m.aF/\m.aF<=1024/\m.aF%64=0) ?_ ?_;refine e3 (fun aA ab=>aA=[ai dx 0,.bool (decide (¬(ra m.cF=0/\1<=m.cV/\m.cV<=281474976710656)))]/\H=ab) ?_ ?_
 repeat (first|refine bH ?_|refine cB hO 0 rfl rfl ?_)
 refine afS (by have:=ok.MF;omega) (ag ij (bF (fun h1=>?_) (fun h1=>?_)));exact⟨by simp_all,(by rfl)⟩
 repeat (first|refine bH ?_|refine cB hO 0 rfl rfl ?_)
 refine bF (fun h2=>?_) (fun h2=>?_);exact⟨by rw[decide_eq_decide.2 (show((m.cV:Int)<1)↔¬(ra m.cF=0/\1<=m.cV/\m.cV<=281474976710656) by omega)],(by rfl)⟩
 repeat (first|refine bH ?_|refine cB hO 0 rfl rfl ?_)
 exact⟨by rw[decide_eq_decide.2 (show((281474976710656:Int)<(m.cV:Int))↔¬(ra m.cF=0/\1<=m.cV/\m.cV<=281474976710656) by omega)],(by rfl)⟩;rintro aA ab ⟨rfl,rfl⟩
 try simp only[cj,ck]
 refine bF (fun h1=>?_) (fun h1=>?_);exact eU hO (fun h=>h1 ⟨h.1,h.2.1,h.2.2.1⟩);refine e3 (fun aA ab=>aA=[ai dx 0,.bool (decide (¬(1<=m.cT/\m.cT<=65536)))]/\H=ab) ?_ ?_
 repeat (first|refine bH ?_|refine cB hO 0 rfl rfl ?_)
 refine bF (fun h2=>?_) (fun h2=>?_)
 repeat refine bH ?_
 exact⟨by simp_all,(by rfl)⟩
 repeat (first|refine bH ?_|refine cB hO 0 rfl rfl ?_)
 exact⟨by simp_all,(by rfl)⟩;rintro aA ab ⟨rfl,rfl⟩
 try simp only[cj,ck]
 refine bF (fun h2=>?_) (fun h2=>?_);exact eU hO (fun h=>h2 ⟨h.2.2.2.1,h.2.2.2.2.1⟩)
 repeat (first|refine bH ?_|refine cB hO 0 rfl rfl ?_)
 refine bF (fun h3=>?_) (fun h3=>?_)
 repeat (first|refine bH ?_|refine kA ?_)
 exact eU hO (fun h=>by have:=h.2.2.2.2.2.1;omega)
 repeat (first|refine bH ?_|refine cB hO 0 rfl rfl ?_)
 refine bF (fun aG=>?_) (fun aG=>?_)
 repeat (first|refine bH ?_|refine kA ?_)
 exact eU hO (fun h=>by have:=h.2.2.2.2.2.2.1;omega)
 repeat (first|refine bH ?_|refine cB hO 0 rfl rfl ?_)
 have em:m.aF.tmod 64=m.aF%64:=Int.tmod_eq_emod_of_nonneg (by omega);refine ag (Lm (by omega)) ?_;rw[em]
 repeat refine bH ?_
 refine bF (fun a6=>?_) (fun a6=>?_);exact eU hO (fun h=>a6 h.2.2.2.2.2.2.2.1)
 simp_all
 rintro aA ab ⟨rfl,rfl,cg,cd,g3,g4,g5,lh,g7,g8⟩
 try simp only[cj,ck]
 refine ag b7 (cB hO 0 rfl vQ (bW aB.bO ?_))
 repeat (first|refine bH ?_|refine cB hO 0 rfl rfl ?_)
 refine afQ (by omega) (by omega) (⟨ho hO (ae.length+0) (az rfl) hO (ae.length+0) (az rfl) (Bo aB.tG),?_⟩);refine ag e2 (bF (fun bq=>?_) (fun bq=>?_));refine ag b7 (cB hO 0 rfl vQ (bW aB.bO (ag HE (ag (gA bq) ?_))));have:=ah _ hO.left;rw[decide_eq_decide.2 (show eG m↔((m.aN.length:Int)<=64)from⟨fun h=>by have:=h.2.2.2.2.2.2.2.2.2;omega,fun h=>⟨cg,cd,g3,g4,g5,lh,g7,g8,bq,by omega⟩⟩)]at this;exact this;exact ag (gP bq) (eU hO (fun h=>bq h.2.2.2.2.2.2.2.2.1))
theorem SN(ok:m.b4)(aB:e8 ae aZ m.aN)(hO:aj H ae)(ah:∀ab,aj ab ae->aa (.bool (decide (eG m))) ab):ay P 34 [agg (bN m aZ)] H aa:=by
 apply aq5;unfold aaP;have eU:∀ {H:au} {b9},aj H (ae++b9)->¬eG m->aa (.bool false) H:=fun h aU=>by have:=ah _ h.left;rw[decide_eq_false aU]at this;exact this
 have fc:=ok.cT;have jE:=ok.aF;have hv:=ok.cV;have aD:=ok.n;have vQ:=sP (aZ:=aZ) ok.dh;rw[zD];refine j3 hO.z ?_;intro dx H hO
 replace hO:aj H (ae++[(dx,⟨bN m aZ,true⟩)]):=hO
 refine e3 (fun aA ab=>aA=[ai dx 0]/\aj ab (ae++[(dx,⟨bN m aZ,true⟩)])/\ra m.cF=0/\1<=m.cV/\m.cV<=281474976710656/\1<=m.cT/\m.cT<=65536) ?_ ?_
 repeat (first|refine bH ?_|refine cB hO 0 rfl rfl ?_)
 refine axc (by have:=ok.MF;omega) hO ?_;intro H hO;refine ag ij (bF (fun h1=>?_) (fun h1=>?_))
 repeat (first|refine bH ?_|refine kA ?_)
 exact eU hO (fun h=>h1 h.1)
 repeat (first|refine bH ?_|refine cB hO 0 rfl rfl ?_)
 refine bF (fun h2=>?_) (fun h2=>?_)
 repeat (first|refine bH ?_|refine kA ?_)
 exact eU hO (fun h=>by have:=h.2.1;omega)
 repeat (first|refine bH ?_|refine cB hO 0 rfl rfl ?_)
 refine bF (fun h3=>?_) (fun h3=>?_)
 repeat (first|refine bH ?_|refine kA ?_)
 exact eU hO (fun h=>by have:=h.2.2.1;omega)
 repeat (first|refine bH ?_|refine cB hO 0 rfl rfl ?_)
 refine bF (fun aG=>?_) (fun aG=>?_)
 repeat (first|refine bH ?_|refine kA ?_)
 exact eU hO (fun h=>by have:=h.2.2.2.1;omega)
 repeat (first|refine bH ?_|refine cB hO 0 rfl rfl ?_)
 refine bF (fun a6=>?_) (fun a6=>?_);exact eU hO (fun h=>by have:=h.2.2.2.2.1;omega);exact⟨rfl,hO,by omega⟩;rintro aA H ⟨rfl,hO,cg,cd,g3,g4,g5⟩
 try simp only[cj,ck]
 refine e3 (fun aA ab=>aA=[ai dx 0]/\H=ab/\64<=m.aF/\m.aF<=1024/\m.aF%64=0) ?_ ?_
 repeat (first|refine bH ?_|refine cB hO 0 rfl rfl ?_)
 refine bF (fun h3=>?_) (fun h3=>?_)
 repeat (first|refine bH ?_|refine kA ?_)
 exact eU hO (fun h=>by have:=h.2.2.2.2.2.1;omega)
 repeat (first|refine bH ?_|refine cB hO 0 rfl rfl ?_)
 refine bF (fun aG=>?_) (fun aG=>?_)
 repeat (first|refine bH ?_|refine kA ?_)
 exact eU hO (fun h=>by have:=h.2.2.2.2.2.2.1;omega)
 repeat (first|refine bH ?_|refine cB hO 0 rfl rfl ?_)
 have em:m.aF.tmod 64=m.aF%64:=Int.tmod_eq_emod_of_nonneg (by omega);refine ag (Lm (by omega)) ?_;rw[em]
 repeat refine bH ?_
 refine bF (fun a6=>?_) (fun a6=>?_);exact eU hO (fun h=>a6 h.2.2.2.2.2.2.2.1);refine⟨(by rfl),(by rfl),?_⟩;omega;rintro aA ab ⟨rfl,rfl,lh,g7,g8⟩
 try simp only[cj,ck]
 refine ag b7 (cB hO 0 rfl vQ (bW aB.bO (ag HE (bF (fun bq=>?_) (fun bq=>?_)))));refine ag b7 (cB hO 0 rfl vQ (bW aB.bO ?_))
 repeat (first|refine bH ?_|refine cB hO 0 rfl rfl ?_)
 refine afR (by omega) (by omega) (⟨ho hO (ae.length+0) (az rfl) hO (ae.length+0) (az rfl) (Bo aB.tG),?_⟩);refine ag e2 (ag (gA bq) ?_);have:=ah _ hO.left;rw[decide_eq_decide.2 (show eG m↔((m.aN.length:Int)=l2 m.cT m.aF)from⟨fun h=>h.2.2.2.2.2.2.2.2.1,fun h=>⟨cg,cd,g3,g4,g5,lh,g7,g8,h,by omega⟩⟩)]at this;exact this;exact ag (gP bq) (eU hO (fun h=>by have:=h.2.2.2.2.2.2.2.2.2;omega))
end J
namespace J
open Go Go.Ab
variable[cu:b0]
variable{H:au}{ae:List (Nat×ax)}{aa:VH}{v x aZ:Value}{xs bh b:List Int}{p n k:Nat}{e:Int}{l:List UInt8}{m:da}{aN:List (List Int)}
def mU(l:List UInt8):List Int:=l.map fun b=>(b.toNat:Int)
theorem yn:(mU l).length=l.length:=by simp[mU]
theorem axd:cE (mU l):=by intro x ao;obtain⟨b,_,rfl⟩:=mem_map.1 ao;have:=b.toNat_lt;omega
theorem axe:l.map xD=bd (mU l):=by simp[bd,mU,xD]
theorem SO(xs:List Int)(h:cE xs):mU (xs.map fun n=>UInt8.ofNat n.toNat)=xs:=by
 unfold mU;rw[map_map]
 conv=>rhs;rw[<- map_id xs]
 grind[map_congr_left,UInt8.toNat_ofNat']
theorem axf(hO:aj H ae)(ah:∀ab aQ,aj ab (ae++bQ aQ (bd (mU l)))->gf aQ (mU l) (bd (mU l))->aa aQ ab):af (BU (bS l) H) aa:=by
 refine ik hO (show BU (bS l) H=some (aC H.next 0 l.length 2,H.push (bd (mU l)))from ?_) ?_;show mB (l.map xD) (gi l) 2 H=_;rw[axe,hB];rfl;intro p ab ju;refine ah _ _ ju (.inr ⟨p,.inl (by rw[yn]),?_,by simp[bd],A9 _⟩)
 simp_all[take_of_length_le]
def vR(l:List UInt8):List Int:=fO 2 l.length++mU l
theorem axg(n:Nat):fO 2 n=[((n%256:Nat):Int),((n/256%256:Nat):Int)]:=by simp[fO,range_succ]
theorem axh(hO:aj H ae)(aD:l.length<=1000000)(ah:A7 ae aa (vR l)):ay P 209 [bS l] H aa:=by apply ate;unfold ac8;refine bW F3 (bW (Fm (by omega) (by omega)) ?_);rw[Int.toNat_natCast];refine Iv (size:=2) hO (by omega) (by omega) ?_;intro H ej dg hO kn;refine axf hO ?_;intro H ec hO jF;exact Fl hO kn jF (by grind[q0,yn]) ah
def rb(m:da):List Int:=if eG m then vR m.cF++fO 8 m.cV++fO 4 m.cT.toNat++fO 2 m.aF.toNat++m.cn++m.aN.flatten else []
theorem MG(aO:m.cn.length=32):((bN m aZ).drop 4).take 32=bd m.cn:=by
 show(bd m.cn++[aZ]).take 32=_
 simp_all
theorem MH(h:∀x∈aN,x.length=32){y:Nat}(ba:y<aN.length):((fV aN).drop (0+(y:Int).toNat*32)).take 32=bd aN[y]:=by
 rw[show 0+(y:Int).toNat*32=y*32+0 by omega];rw[Ib (f:=bd) (n:=32) (fun x ao=>by simp_all) ba (by omega),drop_zero]
 simp_all[take_of_length_le]
theorem SP:∀(l:List (List Int)),(∀x∈l,x.length=32)->l.flatten.length=l.length*32
 | [],_=>rfl
 | a::l,h=>by
  have h1:=SP l fun x ao=>h x (mem_cons_of_mem _ ao)
  have h2:=h a mem_cons_self;rw[flatten_cons,length_append,h1,h2,length_cons];omega
theorem axi(ok:m.b4)(aB:e8 ae aZ m.aN)(hO:aj H ae)(ah:A7 ae aa (rb m)):ay P 145 [agg (bN m aZ)] H aa:=by
 apply asz;unfold acm;have vQ:=sP (aZ:=aZ) ok.dh;have qb:=ok.MF;have IC:=ok.cV;rw[zD];refine j3 hO.z ?_;clear hO;intro dx H hO
 replace hO:aj H (ae++[(dx,⟨bN m aZ,true⟩)]):=hO
 refine ik hO (C7 _) ?_;clear hO;intro ID H hO
 replace hO:=hO.as
 refine jN hO 0 rfl (eS ok.dh) (by omega) (SN ok aB.app hO ?_);clear hO;intro H hO;refine ag ix ?_;have IE:gf (aC ID 0 0 3) [] []:=.inr ⟨ID,.inr ⟨rfl,rfl⟩,rfl,zero_le _,rfl⟩
 replace hO:aj H (ae++([(dx,⟨bN m aZ,true⟩)]++bQ (aC ID 0 0 3) [])):=hO
 rw[<- append_assoc]at hO;unfold rb at ah;by_cases U:eG m;rw[if_pos U]at ah;have gD:=U;obtain⟨_,cd,g3,g4,g5,lh,g7,_,_,aF4⟩:=gD;rw[decide_eq_true U];refine dP rfl (ag b7 (aY hO (ae.length+0) (aL (az rfl)) (v:=bS m.cF) rfl (axh hO (by omega) ?_)));clear hO;intro H ej dg hO kn;refine Fl hO IE kn (by grind[vR,q0,yn]) ?_;clear hO IE kn;intro H ec cr hO jF;rw[nil_append]at jF;refine ag b7 (aY hO (ae.length+0) (aL (az rfl)) (v:=bT .u64 m.cV) rfl (Iv (size:=8) hO (by omega) (by omega) ?_));clear hO;intro H ej dg hO kn;refine Fl hO jF kn (by grind[vR,q0,yn]) ?_;clear hO jF kn;intro H ec cr hO jF;refine ag b7 (aY hO (ae.length+0) (aL (az rfl)) (v:=int m.cT) rfl (bW (Fm (by omega) (by omega)) (Iv (size:=4) hO (by omega) (by omega) ?_)));clear hO;intro H ej dg hO kn;refine Fl hO jF kn (by grind[vR,q0,yn]) ?_;clear hO jF kn;intro H ec cr hO jF;refine ag b7 (aY hO (ae.length+0) (aL (az rfl)) (v:=int m.aF) rfl (bW (Fm (by omega) (by omega)) (Iv (size:=2) hO (by omega) (by omega) ?_)));clear hO;intro H ej dg hO kn;refine Fl hO jF kn (by grind[vR,q0,yn]) ?_;clear hO jF kn;intro H zl kB hO IE;refine ag b7 (ag (zj hO (ae.length+0) (aL (az rfl)) (by omega) (by grind)) (uv hO IE (bh:=m.cn) (.inr ⟨dx,0+4,3,by rw[ok.dh],.inr rfl,.inr ⟨ae.length+0,_,az rfl,by rw[ok.dh];exact MG ok.dh⟩⟩) (by simp[vR,q0,yn,ok.dh];omega) ?_))
 clear hO;intro H afT lI hO afU;refine ag b7 (aY hO (ae.length+0) (aL (az rfl)) vQ (bW aB.bO ?_))
 replace hO:aj H (ae++bQ afT lI):=aj.ca hO
 refine asy (fun k aA ab=>∃(y:Nat) (IF:Value) (mm:List Value),y<=m.aN.length/\k=m.aN.length-y/\aA=[bu,IF,aZ,int m.aN.length,int y]/\aj ab (ae++bQ IF mm)/\gf IF (vR m.cF++fO 8 m.cV++fO 4 m.cT.toNat++fO 2 m.aF.toNat++m.cn++(m.aN.take y).flatten) mm) _ _ ?_ m.aN.length _ _ ⟨0,afT,lI,by omega,by omega,rfl,hO,by simpa using afU⟩;clear hO afU;rintro k aA H ⟨y,IF,mm,ba,rfl,rfl,hO,SQ⟩;unfold ack
 try simp only[cj,ck]
 refine ag fr (bF (fun h=>?_) (fun h=>?_));have ba:y<m.aN.length:=by omega
 obtain⟨c0,cc,IG,jv,rfl,bm⟩:=aB.bc (by omega);refine ag (jD (by omega) (by omega)) ?_;have Bp:=ok.ea _ (getElem_mem ba);refine iH hO IG (aL bm) (MH ok.ea ba) (by simp[Bp]) (by omega) ?_;rw[Bj];refine dH hO ?_;clear hO;intro zE H hO;refine fT hO (_+0) (az rfl) (by simp) (by simp[Bp]) (mn _) ?_;clear hO;intro H hO
 replace hO:=hO.cD
 refine ag (zj hO (_+0) (az rfl) (by omega) (by simp[Bp])) ?_;refine AO (bh:=m.aN[y]) hO SQ (by
  have h1:=SP (m.aN.take y) fun x ao=>ok.ea x (mem_of_mem_take ao)
  rw[length_take]at h1;have:=ok.n;simp only[length_append,vR,q0,yn,ok.dh,h1,Bp];omega) Bp.symm (.inr rfl) ?_
 clear hO;intro H v9 tw hO axj
 repeat refine bH ?_
 refine⟨m.aN.length-(y+1),by omega,y+1,v9,tw,by omega,rfl,rfl,hO,?_⟩;rw[auo ba,<- append_assoc];exact axj;have e:y=m.aN.length:=by omega
 subst e;rw[take_of_length_le (Nat.le_refl _)]at SQ;exact ah H IF mm hO SQ;rw[if_neg U]at ah;rw[decide_eq_false U];exact eT rfl (ah H _ [] (aj.ca hO) IE)
end J
namespace J
open Go Go.Ab
variable[cu:b0]
variable{H:au}{ae b9:List (Nat×ax)}{aa:VH}{v aZ jL:Value}{xs b:List Int}{j p n k:Nat}{e:Int}{l:List UInt8}{m a:da}{aN:List (List Int)}
def afV:List pS:=List.replicate 32 (.i .u8)
theorem afW:rW P 100 52=some afV:=by rfl
theorem MI{s:List Int}(h:s.length=32):ko afV (bd s):=by have:=R4 s;rw[h]at this;exact this
theorem axk{a b:List Int}(c:Bool)(bn:a.length=32)(ak:b.length=32):(ar P .eql 52 c).f (agg (bd a)) (agg (bd b))=some (.bool (decide (a=b))):=by rw[an5 afW (by rfl) (by rfl) (MI bn) (MI ak),Mj]
theorem MJ{a b:List Int}(c:Bool)(bn:a.length=32)(ak:b.length=32):(ar P .neq 52 c).f (agg (bd a)) (agg (bd b))=some (.bool (decide (a≠b))):=by rw[YZ afW (by rfl) (by rfl) (MI bn) (MI ak),Mj];simp
theorem afY{a b:List UInt8}:(a==b)=decide (a=b):=by grind
def Bs(xs:List Int)(e:Int):Int:=if e=0/\0<xs.length then 52 else e
theorem axq(hO:aj H ae)(bm:ae[j]?=some (p,j1 v e))(hv:RdB ae v xs)(ah:aa (int (Bs xs e)) H):ay P 258 [ai p 0] H aa:=by
 apply atV;unfold adU;refine aV (aY hO j bm rfl (ag e2 ?_));unfold Bs at ah;refine bF (fun h=>?_) (fun h=>?_);refine aV (aY hO j bm rfl (bW hv.bO ?_))
 repeat refine bH ?_
 refine bF (fun h2=>?_) (fun h2=>?_);rw[if_pos ⟨h,by omega⟩]at ah;exact ah;rw[if_neg (by omega)]at ah;exact aV (aY hO j bm rfl ah)
 repeat (first|refine bH ?_|refine x9 ?_)
 rw[if_neg (fun aT=>h aT.1)]at ah;exact aY hO j bm rfl ah
end J
namespace J
open Go Go.Ab
variable[cu:b0]
variable{H:au}{ae:List (Nat×ax)}{aa:VH}{v x:Value}{xs bh:List Int}{j p n k hy:Nat}{e:Int}{l:List UInt8}
def il(xs:List Int):List UInt8:=xs.map fun n=>UInt8.ofNat n.toNat
theorem axr(l:List UInt8):il (mU l)=l:=by
 unfold il mU;rw[map_map]
 conv=>rhs;rw[<- map_id l]
 grind[map_congr_left,UInt8.ofNat_toNat]
def re(xs:List Int)(e:Int):Nat:=im (kC xs e 2)
def kN(xs:List Int)(e:Int):List Int:=kC (oh xs e 2) (lJ xs e 2) (re xs e)
def kr(xs:List Int)(e:Int):List Int:=oh (oh xs e 2) (lJ xs e 2) (re xs e)
def kX(xs:List Int)(e:Int):Int:=lJ (oh xs e 2) (lJ xs e 2) (re xs e)
def xi(xs:List Int)(e:Int)(hy:Nat):Prop:=lJ xs e 2=0/\hy<re xs e
instance (xs:List Int) (e:Int) (hy:Nat):Decidable (xi xs e hy):=by unfold xi;exact inferInstance
def vS(xs:List Int)(e:Int)(hy:Nat):List Int:=if xi xs e hy then []else kN xs e
def oU(xs:List Int)(e:Int)(hy:Nat):List Int:=if xi xs e hy then []else kr xs e
def rf(xs:List Int)(e:Int)(hy:Nat):Int:=if xi xs e hy then 52 else kX xs e
theorem af0(ak:cE xs)(e:Int)(n:Nat):cE (kC xs e n):=RdB.bytes ak n e
theorem Bt(ak:cE xs)(e:Int)(n:Nat):cE (oh xs e n):=by
 unfold oh;split;exact fun x ao=>ak x (mem_of_mem_drop ao)
 intro x ao;cases ao
theorem ML(xs:List Int)(e:Int)(n:Nat):(oh xs e n).length<=xs.length:=by grind[oh]
theorem af1{k:Nat}(ak:cE xs)(e:Int):im (kC xs e k)<256^k:=by grind[Mg,af0,Mh,Nat.lt_of_lt_of_le,Nat.pow_le_pow_right]
theorem axs(ak:cE xs)(e:Int):re xs e<65536:=af1 ak e
theorem q1.trans{ej ec v3:Value}{wZ HK Ll:List Int}(h1:q1 ej wZ ec HK)(h2:q1 ec HK v3 Ll):q1 ej wZ v3 Ll:=fun ae h=>h2 ae (h1 ae h)
theorem axt(hO:aj H ae)(bm:ae[j]?=some (p,j1 v e))(hv:RdB ae v xs)(ak:cE xs)(ao:xs.length<=1000000)
  (ah:∀ab ec,aj ab (ae.set j (p,j1 ec (rf xs e hy)))->q1 v xs ec (oU xs e hy)->aa (bS (il (vS xs e hy))) ab):ay P 256 [ai p 0,int hy] H aa:=by
 apply atT;unfold adS;have aU:=axs ak e;refine H9 (k:=2) (by omega) hO bm hv ak ?_;intro H ej hO i1;have SS:=Mb (y:=(p,j1 ej (lJ xs e 2))) bm;have kn:=i1 _ (Mc (di:=j1 ej (lJ xs e 2)) (cI:=p) hv bm (RdB.lk hv));rw[show im (kC xs e 2)=re xs e from rfl];refine bW (w3 (k:=.u64) (by omega)) (e3 (fun aA ab=>aA=[ai p 0,int (re xs e),.bool (decide (xi xs e hy))]/\H=ab) ?_ ?_);refine aV (aY hO j SS (v:=int (lJ xs e 2)) rfl (ag e2 (bF (fun h=>?_) (fun h=>?_))));exact ag kS (ag (gA h) (⟨by simp_all[xi],rfl⟩));exact ag (gP h) (⟨by simp_all[xi],rfl⟩);rintro aA ab ⟨rfl,rfl⟩
 try simp only[cj,ck]
 unfold rf oU vS at ah;refine bF (fun h=>?_) (fun h=>?_);simp only[if_pos h]at ah;refine aeq hO SS ?_;intro H hO;rw[set_set,if_pos h.1]at hO;refine Me (xs:=[]) hO (Mb bm) .nil (by omega) ?_;intro H v3 v4 hO q6 i4;rw[set_set]at hO;have a7:lJ [] 52 (re xs e)=52:=by rfl
 have bt:oh [] 52 (re xs e)=[]:=by rfl
 have ei:kC [] 52 (re xs e)=[]:=by rfl
 rw[a7]at hO;rw[bt]at i4;rw[ei]at q6;exact bW (RdB.bS hO (q6 _ .nil)) (ah H v4 hO (fun ae _=>i4 ae .nil));simp only[if_neg h]at ah;refine Me hO SS kn (by omega) ?_;intro H v3 v4 hO q6 i4;rw[set_set]at hO;exact bW (RdB.bS hO (q6 _ (i1 _ (Mc (di:=j1 v4 (kX xs e)) (cI:=p) hv bm (RdB.lk hv))))) (ah H v4 hO (i1.trans i4))
def nu:List Int:=List.replicate 32 0
def pM(xs:List Int)(e:Int):List Int:=if e=0/\32<=xs.length then xs.take 32 else nu
theorem yo:(pM xs e).length=32:=by
 unfold pM;split
 simp_all
 rfl
theorem af2(ak:cE xs):cE (pM xs e):=by
 unfold pM;split;exact fun x ao=>ak x (mem_of_mem_take ao)
 exact Ip
theorem SU:df P 52=bd nu:=by rfl
theorem axu:(bd nu).take 0++(bd (kC xs e 32)++(bd nu).drop (0+(kC xs e 32).length))=bd (pM xs e):=by
 unfold pM kC;split
 simp_all[nu]
 rfl
theorem af3(hO:aj H ae)(bm:ae[j]?=some (p,j1 v e))(hv:RdB ae v xs)(ao:xs.length<=1000000)
  (ah:∀ab ec,aj ab (ae.set j (p,j1 ec (lJ xs e 32)))->q1 v xs ec (oh xs e 32)->aa (agg (bd (pM xs e))) ab):ay P 257 [ai p 0] H aa:=by
 apply atU;unfold adT;have rL:=(List.getElem?_eq_some_iff.1 bm).1;rw[SU];refine j3 hO.z ?_;intro bp H hO;refine j3 hO ?_;intro eQ H hO
 replace hO:aj H (ae++[(bp,⟨bd nu,true⟩),(eQ,⟨bd nu,true⟩)]):=hO
 refine ag (Iw hO 1 rfl (by rfl) (by omega)) (auD (n:=32) hO (aL bm) hv.app (by omega) ao ?_);intro bB ec aQ bV ez k2 dK;rw[show aet (ae++[(bp,(⟨bd nu,true⟩:ax)),(eQ,⟨bd nu,true⟩)]) j p xs e 32 ec=ae.set j (p,j1 ec (lJ xs e 32))++[(bp,⟨bd nu,true⟩),(eQ,⟨bd nu,true⟩)]from set_append_left _ _ rL]at ez;refine⟨ho hO (ae.length+1) (az rfl) ez ((ae.set j (p,j1 ec (lJ xs e 32))).length+1) (aL (az rfl)) (A9 _),?_⟩
 replace ah:=ah (ec:=ec)
 generalize ae.set j (p,j1 ec (lJ xs e 32))=ae at*;have ud:=Mh xs e 32;refine SB ez (i:=ae.length+1) (aL (az rfl)) (bh:=kC xs e 32) dK.lY.app' ud (by simp[nu]) ?_;intro H hO;rw[set_append_left _ _ (by simp),Go.Ab.cD,axu]at hO
 replace hO:aj H (ae++[(bp,⟨bd nu,true⟩),(eQ,⟨bd (pM xs e),true⟩)]):=hO.left
 refine jN hO 1 rfl (by simp[yo]) (by omega) (lr hO 0 rfl (by rfl) (by simp[yo]) (mn _) ?_);intro H hO;exact jN hO 0 rfl (by simp[yo]) (by omega) (ah H hO.left k2)
end J
namespace J
open Go Go.Ab
variable[cu:b0]
variable{H:au}{ae:List (Nat×ax)}{aa:VH}{v x aZ jL:Value}{b:List Int}{p q n k hy:Nat}{aq:List Value}{l:List UInt8}{aN:List (List Int)}
abbrev jw:=List Int×Int
def er(n:Nat)(s:jw):jw:=(oh s.1 s.2 n,lJ s.1 s.2 n)
def k8(n:Nat)(s:jw):List Int:=kC s.1 s.2 n
def al(s:jw):List Int:=pM s.1 s.2
def jI:Nat->jw->jw
 | 0,s=>s
 | n+1,s=>er 32 (jI n s)
def jx:Nat->jw->List (List Int)
 | 0,_=>[]
 | n+1,s=>jx n s++[al (jI n s)]
def iR(t:List Int)(s:jw):da:=⟨il t,im (k8 8 s),(im (k8 4 (er 8 s)):Int),(im (k8 2 (er 4 (er 8 s))):Int),al (er 2 (er 4 (er 8 s))),[]⟩
def jO(s:jw):jw:=er 32 (er 2 (er 4 (er 8 s)))
def eY:da:=⟨[],0,0,0,nu,[]⟩
def tH(h:da)(c:List (List Int)):da:={h with aN:=c}
def mu(h:da):Nat:=(min (l2 h.cT h.aF) 65).toNat
def zG(t:List Int)(s:jw):da:=tH (iR t s) (jx (mu (iR t s)) (jO s))
def Dm(t:List Int)(s:jw):jw:=jI (mu (iR t s)) (jO s)
def MM(t:List Int)(s:jw):Prop:=Bs (Dm t s).1 (Dm t s).2=0/\eG (zG t s)
instance (t:List Int) (s:jw):Decidable (MM t s):=by unfold MM;exact inferInstance
def Bu(t:List Int)(s:jw):da×Int:=if MM t s then(zG t s,0)else(eY,131)
def mv(b:List Int):da×Int:=Bu (vS b 0 96) (oU b 0 96,rf b 0 96)
theorem nv{s:jw}(h:cE s.1){n:Nat}:cE (er n s).1:=Bt h _ _
theorem IH{s:jw}{n:Nat}:(er n s).1.length<=s.1.length:=ML _ _ _
theorem af4{s:jw}(h:cE s.1):∀n,cE (jI n s).1
 | 0=>h
 | n+1=>nv (af4 h n)
theorem af5{s:jw}:∀n,(jI n s).1.length<=s.1.length
 | 0=>Nat.le_refl _
 | n+1=>Nat.le_trans IH (af5 n)
theorem MN{s:jw}:∀n,(jx n s).length=n
 | 0=>rfl
 | n+1=>by show(jx n s++[_]).length=_;rw[length_append,MN n];rfl
theorem af6{s:jw}:∀n,∀x∈jx n s,x.length=32
 | 0,_,h=>by cases h
 | n+1,x,h=>by
  rcases mem_append.1 (show x∈jx n s++[al (jI n s)]from h)with h|h
  exact af6 n x h;rw[mem_singleton.1 h];exact yo
theorem af7{s:jw}(ak:cE s.1):∀n,∀x∈jx n s,cE x
 | 0,_,h=>by cases h
 | n+1,x,h=>by
  rcases mem_append.1 (show x∈jx n s++[al (jI n s)]from h)with h|h
  exact af7 ak n x h;rw[mem_singleton.1 h];exact af2 (af4 ak n)
theorem F5{s:jw}(ak:cE s.1)(k:Nat):im (k8 k s)<256^k:=af1 ak s.2
theorem af8{t:List Int}{s:jw}(ak:cE s.1)(ht:t.length<=10000){n:Nat}(aU:n<=10000){l3:jw}(a6:cE l3.1):(tH (iR t s) (jx n l3)).b4:=by
 have c2:=F5 ak 8;have aG:=F5 (s:=er 8 s) (nv ak) 4;have h2:=F5 (s:=er 4 (er 8 s)) (nv (nv ak)) 2;refine⟨yo,af2 (nv (nv (nv ak))),af6 n,af7 a6 n,c2,?_,?_,?_,?_⟩;show-9223372036854775808<=((im (k8 4 (er 8 s)):Nat):Int)/\((im (k8 4 (er 8 s)):Nat):Int)<=9223372036854775807;omega;show-9223372036854775808<=((im (k8 2 (er 4 (er 8 s))):Nat):Int)/\((im (k8 2 (er 4 (er 8 s))):Nat):Int)<=9223372036854775807;omega;show(jx n l3).length<=_
 grind[MN]
 show(il t).length<=_
 simp_all[il]
theorem Dn:eY.b4:=⟨rfl,Ip,(by intro x h;cases h),(by intro x h;cases h),by decide,by decide,by decide,by decide,by decide⟩
theorem yp:df P 55=bN eY bu:=by rfl
theorem MO:(dq P 55).f []=some (agg (bN eY bu)):=by rfl
theorem axv(s:ByteArray)(n:Nat)(x y:Int):(dq P 55).f [(0,.string s),(1,bT .u64 n),(2,int x),(3,int y)]=some (agg (bN ⟨s.data.toList,n,x,y,nu,[]⟩ bu)):=by rfl
theorem af9(h:List Int)(aD:h.length=32)(H:au):(eV P 53 1).f [(0,agg (bd h))] H=some (aC H.next 0 1 65,H.push (bd h)):=by
 match h,aD with
 | [a0,cU,cR,a3,a4,a5,kp,ln,mR,a9,SV,SW,SX,SY,SZ,S0,C1,Ta,Tb,Tc,a20,a21,Td,Te,Tf,Tg,Th,Ti,Tj,Tk,Tl,Tm],_=>rfl
theorem axw{h:da}{d:List Int}(aO:h.cn.length=32)(aD:d.length=32):(bN h aZ).take (0+4)++(dr (agg (bd d))++(bN h aZ).drop (0+4+32))=bN {h with cn:=d} aZ:=by show [bS h.cF,bT .u64 h.cV,int h.cT,int h.aF]++(bd d++(bd h.cn++[aZ]).drop 32)=_;rw[drop_append_of_le_length (by simp[aO]),drop_of_length_le (by simp[aO])];rfl
theorem axx{h:da}(aO:h.cn.length=32):(bN h aZ).set (0+36) jL=bN h jL:=by show bS h.cF::bT .u64 h.cV::int h.cT::int h.aF::(bd h.cn++[aZ]).set 32 jL=_;rw[set_append_right _ _ (by simp[aO])];simp[aO];rfl
theorem aga{l:List (List Int)}(h:iV 32 v l.length (fV l)):e8 (bQ v (fV l)) v l:=by
 rcases h with⟨rfl,aJ,_⟩|⟨p,rfl|rfl,_⟩
 exact .inl ⟨rfl,length_eq_zero_iff.1 aJ⟩;exact .inr ⟨p,_,0,true,rfl,rfl⟩;exact .inr ⟨p,_,0,true,rfl,rfl⟩
theorem Tn{l:List (List Int)}{x:List Int}:fV (l++[x])=fV l++bd x:=by simp[fV]
theorem To{size n:Nat}(h:iV size v n aq):fY v=true/\eL v=true:=by rcases h with⟨rfl,_⟩|⟨p,rfl|rfl,_⟩<;>exact⟨rfl,rfl⟩
theorem axy(hO:aj H ae)(hv:RdB ae v b)(ak:cE b)(ao:b.length<=9000)
  (ah:∀ab aZ,aj ab (ae++bQ aZ (fV (mv b).1.aN))->e8 (bQ aZ (fV (mv b).1.aN)) aZ (mv b).1.aN->aa (.tuple [agg (bN (mv b).1 aZ),int (mv b).2].toArray) ab):ay P 232 [v] H aa:=by
 apply aty;unfold ady;rw[yp];refine j3 hO.z ?_;intro bp H hO;refine aep hO hv.app ?_;intro H dX hO
 replace hO:aj H (ae++[(bp,⟨bN eY bu,true⟩),(dX,j1 v 0)]):=hO.as
 have ud:(vS b 0 96).length<=10000:=by grind[vS,kN,kC,ML]
 refine axt (hy:=96) hO (az (k:=1) rfl) hv.app ak (by omega) ?_;intro H ej hO i1
 replace hO:aj H (ae++[(bp,⟨bN eY bu,true⟩),(dX,j1 ej (rf b 0 96))]):=hO.cD
 replace hv:=i1 _ hv
 have jo:cE (oU b 0 96):=by unfold oU kr;split;intro x h;cases h;exact Bt (Bt ak _ _) _ _
 have mc:(oU b 0 96).length<=b.length:=by grind[oU,kr,ML]
 unfold mv at ah
 replace hO:aj H (ae++[(bp,⟨bN eY bu,true⟩),(dX,j1 ej (oU b 0 96,rf b 0 96).2)]):=hO
 replace hv:RdB ae ej (oU b 0 96,rf b 0 96).1:=hv
 replace jo:cE (oU b 0 96,rf b 0 96).1:=jo
 replace mc:(oU b 0 96,rf b 0 96).1.length<=b.length:=mc
 generalize vS b 0 96=t at*;generalize ((oU b 0 96,rf b 0 96):jw)=s at*;have c2:=F5 jo 8;refine H9 (k:=8) (by omega) hO (az (k:=1) rfl) hv.app jo ?_;intro H ec hO k2
 replace hO:aj H (ae++[(bp,⟨bN eY bu,true⟩),(dX,j1 ec (er 8 s).2)]):=hO.cD
 replace hv:RdB ae ec (er 8 s).1:=k2 _ hv
 have aG:=F5 (s:=er 8 s) (nv jo) 4;refine H9 (k:=4) (by omega) hO (az (k:=1) rfl) hv.app (nv jo) ?_;intro H v3 hO q6
 replace hO:aj H (ae++[(bp,⟨bN eY bu,true⟩),(dX,j1 v3 (er 4 (er 8 s)).2)]):=hO.cD
 replace hv:RdB ae v3 (er 4 (er 8 s)).1:=q6 _ hv
 refine bW (w3 (k:=.u64) (show im (k8 4 (er 8 s))<=_ by omega)) ?_;have h2:=F5 (s:=er 4 (er 8 s)) (nv (nv jo)) 2;refine H9 (k:=2) (by omega) hO (az (k:=1) rfl) hv.app (nv (nv jo)) ?_;intro H v4 hO i4
 replace hO:aj H (ae++[(bp,⟨bN eY bu,true⟩),(dX,j1 v4 (er 2 (er 4 (er 8 s))).2)]):=hO.cD
 replace hv:RdB ae v4 (er 2 (er 4 (er 8 s))).1:=i4 _ hv
 refine bW (w3 (k:=.u64) (show im (k8 2 (er 4 (er 8 s)))<=_ by omega)) (ag (axv _ _ _ _) (j3 hO ?_));intro fK H hO;refine lr hO 2 rfl (by rfl) (by rfl) (nt rfl) ?_;intro H hO
 replace hO:aj H (ae++[(bp,⟨bN eY bu,true⟩),(dX,j1 v4 (er 2 (er 4 (er 8 s))).2),(fK,⟨bN ⟨il t,im (k8 8 s),(im (k8 4 (er 8 s)):Int),(im (k8 2 (er 4 (er 8 s))):Int),nu,[]⟩ bu,true⟩)]):=hO
 have Ry:(er 2 (er 4 (er 8 s))).1.length<=9000:=Nat.le_trans IH (Nat.le_trans IH (Nat.le_trans IH (by omega)));refine af3 hO (az (k:=1) rfl) hv.app (by omega) ?_;intro H v5 hO od
 replace hO:aj H (ae++[(bp,⟨bN eY bu,true⟩),(dX,j1 v5 (jO s).2),(fK,⟨bN ⟨il t,im (k8 8 s),(im (k8 4 (er 8 s)):Int),(im (k8 2 (er 4 (er 8 s))):Int),nu,[]⟩ bu,true⟩)]):=hO.cD
 replace hv:RdB ae v5 (jO s).1:=od _ hv
 refine ag b7 (pR hO (ae.length+2) (az rfl) (show(bd (pM _ _)).length=32 by simp_all[yo]) (by show 0+4+32<=(bN _ _).length;rw[eS rfl];omega) (mn _) ?_);intro H hO;rw[axw rfl yo]at hO
 replace hO:aj H (ae++[(bp,⟨bN eY bu,true⟩),(dX,j1 v5 (jO s).2),(fK,⟨bN (iR t s) bu,true⟩)]):=hO.cD
 have aO:(iR t s).cn.length=32:=yo;have axz:cE (jO s).1:=nv (nv (nv (nv jo)));have aF5:(jO s).1.length<=9000:=Nat.le_trans IH Ry;refine ag b7 (cB hO 2 rfl (v:=int (iR t s).cT) rfl (ag b7 (cB hO 2 rfl (v:=int (iR t s).aF) rfl ?_)));have aF6:(iR t s).cT<=4294967295:=by show((im (k8 4 (er 8 s)):Nat):Int)<=_;omega
 have aF7:(iR t s).aF<=65535:=by show((im (k8 2 (er 4 (er 8 s))):Nat):Int)<=_;omega
 refine afQ (by omega) (by omega) (bW tl ?_);have EL:=SM (s:=(iR t s).cT) (c:=(iR t s).aF);have axA:mu (iR t s)<=65:=by grind[mu]
 rw[show min (l2 (iR t s).cT (iR t s).aF) 65=((mu (iR t s):Nat):Int) by grind[mu]];have fq:∀n,n<=65->(tH (iR t s) (jx n (jO s))).b4:=fun n aU=>af8 jo ud (by omega) axz
 have axB:Bs (jI (mu (iR t s)) (jO s)).1 (jI (mu (iR t s)) (jO s)).2=0/\eG (tH (iR t s) (jx (mu (iR t s)) (jO s)))->∀ab aZ,aj ab (ae++bQ aZ (fV (jx (mu (iR t s)) (jO s))))->e8 (bQ aZ (fV (jx (mu (iR t s)) (jO s)))) aZ (jx (mu (iR t s)) (jO s))->aa (.tuple [agg (bN (tH (iR t s) (jx (mu (iR t s)) (jO s))) aZ),int 0].toArray) ab:=by intro h;rw[show Bu t s=(zG t s,0)from if_pos h]at ah;exact ah
 have axC:¬(Bs (jI (mu (iR t s)) (jO s)).1 (jI (mu (iR t s)) (jO s)).2=0/\eG (tH (iR t s) (jx (mu (iR t s)) (jO s))))->∀ab,aj ab ae->aa (.tuple [agg (bN eY bu),int 131].toArray) ab:=by intro h ab hO;rw[show Bu t s=(eY,131)from if_neg h]at ah;exact ah ab bu hO.z (.inl ⟨rfl,rfl⟩)
 generalize mu (iR t s)=N at*;generalize iR t s=h at*;generalize jO s=l3 at*;refine atx (fun k aA ab=>∃(y:Nat) (aZ v:Value),y<=N/\k=N-y/\aA=[ai bp 0,int 0,ai dX 0,ai fK 0,int N,int y]/\aj ab ((ae++[(bp,⟨bN eY bu,true⟩),(dX,j1 v (jI y l3).2),(fK,⟨bN h aZ,true⟩)])++bQ aZ (fV (jx y l3)))/\iV 32 aZ y (fV (jx y l3))/\RdB ae v (jI y l3).1) _ _ ?_ N _ _ ⟨0,bu,v5,by omega,by omega,rfl,hO.z,.nil,hv⟩;rintro k aA H ⟨y,aZ,v,ba,rfl,rfl,hO,Bv,hv⟩;unfold adx
 try simp only[cj,ck]
 refine ag fr (bF (fun dw=>?_) (fun dw=>?_));have ba:y<N:=by omega
 obtain⟨oV,mG⟩:=To Bv;refine ag b7 (aY hO (ae.length+2) (aL (az rfl)) (sP aO) (af3 hO (aL (az (k:=1) rfl)) hv.app.app (Nat.le_trans (af5 y) (by omega)) ?_));intro bB zl ez Bb;rw[set_append_left _ _ (by simp),Go.Ab.cD]at ez
 replace ez:aj bB ((ae++[(bp,⟨bN eY bu,true⟩),(dX,j1 zl (jI (y+1) l3).2),(fK,⟨bN h aZ,true⟩)])++bQ aZ (fV (jx y l3))):=ez
 refine⟨ho hO (ae.length+2) (aL (az rfl)) ez (ae.length+2) (aL (az rfl)) (Bo oV),?_⟩;refine ik ez (af9 _ yo _) ?_;intro q H hO;refine FO hO Bv (by simp[yo]) (by omega) (mn _) (by omega) (by omega) ?_;intro oW H hO Bw
 replace hO:aj H ((ae++[(bp,⟨bN eY bu,true⟩),(dX,j1 zl (jI (y+1) l3).2),(fK,⟨bN h aZ,true⟩)])++bQ oW (fV (jx (y+1) l3))):=by show aj H (_++bQ oW (fV (jx y l3++[al (jI y l3)])));rw[Tn];exact hO
 replace Bw:iV 32 oW (y+1) (fV (jx (y+1) l3)):=by show iV 32 oW (y+1) (fV (jx y l3++[al (jI y l3)]));rw[Tn];exact Bw
 refine ag b7 (fR hO (ae.length+2) (aL (az rfl)) (To Bw).2 (by grind[eS]) (axx aO) ?_);intro H hO;rw[set_append_left _ _ (by simp),Go.Ab.cD]at hO
 repeat refine bH ?_
 exact⟨N-(y+1),by omega,y+1,oW,zl,by omega,rfl,rfl,hO,Bw,Bb _ hv⟩;have mq:y=N:=by omega
 subst mq;refine k6 rfl ?_
 try simp only[cj,ck]
 have Lh:=MN (s:=l3) y;have mj:e8 (bQ aZ (fV (jx y l3))) aZ (tH h (jx y l3)).aN:=aga (by rw[Lh];exact Bv);have Dp:=fq y axA;refine e3 (fun aA ab=>aA=[ai bp 0,ai fK 0,.bool (decide (¬(Bs (jI y l3).1 (jI y l3).2=0/\eG (tH h (jx y l3)))))]/\aj ab ((ae++[(bp,⟨bN eY bu,true⟩),(dX,j1 v (jI y l3).2),(fK,⟨bN h aZ,true⟩)])++bQ aZ (fV (jx y l3)))) ?_ ?_;refine axq hO (aL (az (k:=1) rfl)) hv.app.app (ag ij (bF (fun h1=>?_) (fun h1=>?_)));exact ag (gA h1) (⟨by simp_all,hO⟩);refine iH hO (ae.length+2) (aL (az rfl)) (show _=bN (tH h (jx y l3)) aZ from by rw[drop_zero];exact take_of_length_le (by grind[eS])) (eS aO) (by omega) (F4 Dp mj.app' hO ?_);intro H hO;refine ag ix (ag (gP h1) (⟨?_,hO⟩))
 simp_all
 rintro aA H ⟨rfl,hO⟩
 try simp only[cj,ck]
 refine bF (fun h1=>?_) (fun h1=>?_);refine ag MO ?_
 replace hO:=hO.left
 refine lr hO 0 rfl (by rfl) (by rfl) (nt rfl) ?_;intro H hO;exact jN hO 0 rfl (by rfl) (by omega) (axC h1 H hO.left);refine iH hO (ae.length+2) (aL (az rfl)) (show _=bN (tH h (jx y l3)) aZ from by rw[drop_zero];exact take_of_length_le (by grind[eS])) (eS aO) (by omega) (fT hO (ae.length+0) (aL (az rfl)) (by rfl) (eS aO) (nt (To Bv).2) ?_);intro H hO;rw[set_append_left _ _ (by simp),Go.Ab.cD]at hO;exact iH hO (ae.length+0) (aL (az rfl)) (show _=bN (tH h (jx y l3)) aZ from by simp_all[take_of_length_le,eS,tH]) (eS aO) (by omega) (axB (Classical.not_not.1 h1) H aZ (aj.ca hO) mj)
end J
namespace J
open Go Go.Ab
variable[cu:b0]
variable{H:au}{ae b9:List (Nat×ax)}{v x:Value}{b:List Int}{j p o n:Nat}{l:List UInt8}{m a:da}
def pr(ae:List (Nat×ax))(v:Value):Prop:=v=bu\/∃(p o n c j:Nat) (b:ax),v=aC p o n c/\ae[j]?=some (p,b)/\b.cells.all fY=true/\(b.wr=true\/b.cells≠[])
theorem pr.app(h:pr ae v):pr (ae++b9) v:=by
 rcases h with h|⟨p,o,n,c,j,b,h1,h2,h3⟩
 exact .inl h;exact .inr ⟨p,o,n,c,j,b,h1,aL h2,h3⟩
theorem pr.oJ{ab:au}(h:pr ae v)(hO:aj H ae)(ju:aj ab (ae++b9)):ey (en H ab) (cm [v]):=by
 rcases h with rfl|⟨p,o,n,c,j,b,rfl,h2,h3,aG⟩
 rfl;exact ho (o:=o) hO j h2 ju j (aL h2) h3 aG
def tI:Nat->jw->Nat
 | 0,_=>0
 | f+1,s=>if s.1=[]then 0 else tI f (er 32 s)+1
theorem II{s:jw}:∀n,jI n (er 32 s)=jI (n+1) s
 | 0=>rfl
 | n+1=>by show er 32 (jI n (er 32 s))=_;rw[II n];rfl
def F6(t:List Int)(s:jw):da:=tH (iR t s) (jx (tI 65 (jO s)) (jO s))
def F7(b t:List Int)(s:jw):Prop:=(jI (tI 65 (jO s)) (jO s)).2=0/\rb (F6 t s)=b/\b≠[]
instance (b t:List Int) (s:jw):Decidable (F7 b t s):=by unfold F7;exact inferInstance
def MP(b t:List Int)(s:jw):da×Int:=if F7 b t s then(F6 t s,0)else(eY,131)
def Tp(b:List Int):da×Int:=MP b (kN b 0) (kr b 0,kX b 0)
theorem axD{a b:List Int}(bn:cE a)(ak:cE b)(h:il a=il b):a=b:=by have h1:=SO a bn;have h2:=SO b ak;rw[<- h1,<- h2];exact congrArg mU h
theorem IJ(y n:Nat):cE (fO y n):=by intro x ao;obtain⟨i,_,rfl⟩:=mem_map.1 ao;omega
theorem axE:∀ {l:List (List Int)},(∀x∈l,cE x)->cE l.flatten:=by
 intro l h x ao
 grind[mem_flatten]
theorem axF(ok:m.b4):cE (rb m):=by unfold rb;split;exact mS (mS (mS (mS (mS (mS (IJ _ _) axd) (IJ _ _)) (IJ _ _)) (IJ _ _)) ok.SL) (axE ok.gu);intro x h;cases h
end J
namespace J
open Go Go.Ab
variable[cu:b0]
variable{xs bs b t:List Int}{n:Nat}{e:Int}{l:List UInt8}{m:da}{s:jw}
theorem agb(k n:Nat):fO (k+1) n=((n%256:Nat):Int)::fO k (n/256):=by
 unfold fO;rw[range_succ_eq_map,map_cons,map_map]
 congr 1
 simp;refine map_congr_left fun i _=>?_
 show((n/256^(i+1)%256:Nat):Int)=_;rw[Nat.pow_succ,Nat.mul_comm,Nat.div_div_eq_div_mul]
theorem Tq:∀(bs:List Int),cE bs->fO bs.length (im bs)=bs
 | [],_=>rfl
 | x::r,h=>by
  have ao:=h x mem_cons_self;have bg:=Tq r fun y ba=>h y (mem_cons_of_mem _ ba)
  show fO (r.length+1) (x.toNat+256*im r)=x::r;rw[agb,show(x.toNat+256*im r)/256=im r by omega,bg,show(x.toNat+256*im r)%256=x.toNat by omega]
  congr 1;omega
theorem MQ:∀(k n:Nat),n<256^k->im (fO k n)=n
 | 0,n,h=>by simp at h;subst h;rfl
 | k+1,n,h=>by rw[agb];show(((n%256:Nat):Int)).toNat+256*im (fO k (n/256))=n;rw[MQ k (n/256) (by rw[Nat.pow_succ]at h;omega)];omega
theorem qq(h:(er n s).2=0):s.2=0/\s.1=k8 n s++(er n s).1/\(k8 n s).length=n:=by
 have aB:s.2=0/\n<=s.1.length:=by
  have h:lJ s.1 s.2 n=0:=h
  grind[lJ]
 refine⟨aB.1,?_,?_⟩;show s.1=kC s.1 s.2 n++oh s.1 s.2 n
 simp_all[kC,oh]
 show(kC s.1 s.2 n).length=n
 simp_all[kC]
theorem Dq{a r:List Int}(h:a.length=n):er n (a++r,0)=(r,0)/\k8 n (a++r,0)=a:=by
 have aB:(0:Int)=0/\n<=(a++r).length:=⟨rfl,by simp_all⟩;refine⟨?_,?_⟩;show(oh (a++r) 0 n,lJ (a++r) 0 n)=_
 simp_all[oh,lJ]
 show kC (a++r) 0 n=a
 simp_all[kC]
theorem MR(h:(er 32 s).2=0):al s=k8 32 s:=by
 obtain⟨h1,h2,h3⟩:=qq h;have aD:32<=s.1.length:=by simp_all
 show pM s.1 s.2=kC s.1 s.2 32
 simp_all[pM,kC]
theorem IK:∀n,(jI n s).2=0->s.2=0/\s.1=(jx n s).flatten++(jI n s).1
 | 0,h=>⟨h,rfl⟩
 | n+1,h=>by
  obtain⟨h1,h2,h3⟩:=qq (s:=jI n s) (n:=32) h;obtain⟨cg,cd⟩:=IK n h1;refine⟨cg,?_⟩;show s.1=(jx n s++[al (jI n s)]).flatten++(jI (n+1) s).1;rw[flatten_append,append_assoc,MR h]
  conv=>lhs;rw[cd,h2]
  simp;rfl
theorem agc{s:jw}:∀n,jx (n+1) s=al s::jx n (er 32 s)
 | 0=>rfl
 | n+1=>by show jx (n+1) s++[al (jI (n+1) s)]=al s::(jx n (er 32 s)++[al (jI n (er 32 s))]);rw[agc n,II n];rfl
theorem agd:∀(aN:List (List Int)) (r:List Int),(∀x∈aN,x.length=32)->jI aN.length (aN.flatten++r,0)=(r,0)/\jx aN.length (aN.flatten++r,0)=aN
 | [],r,_=>⟨rfl,rfl⟩
 | c::aq,r,h=>by
  obtain⟨i1,k2⟩:=agd aq r fun x ao=>h x (mem_cons_of_mem _ ao)
  obtain⟨vF,q4⟩:=Dq (n:=32) (a:=c) (r:=aq.flatten++r) (h c mem_cons_self);rw[flatten_cons,append_assoc,length_cons,<- II,agc,vF,i1,k2,MR (by rw[vF]),q4];exact⟨rfl,rfl⟩
def Bx(m:da):List Int:=vR m.cF++fO 8 m.cV++fO 4 m.cT.toNat++fO 2 m.aF.toNat++m.cn++m.aN.flatten
theorem Ts(h:eG m):rb m=Bx m:=if_pos h
theorem axG:Bx m≠[]:=by
 intro h;have:=congrArg List.length h
 grind[Bx,q0]
theorem MS{s:jw}{k:Nat}(h:(er k s).2=0)(ak:cE s.1):fO k (im (k8 k s))=k8 k s:=by grind[qq,Tq]
theorem axH{t:List Int}{s:jw}{N:Nat}(jJ:cE s.1)(ht:cE t)(ud:t.length<65536)(h:(jI N (jO s)).2=0):
  s.2=0/\fO 2 t.length++t++s.1=Bx (tH (iR t s) (jx N (jO s)))++(jI N (jO s)).1:=by
 obtain⟨a6,hR⟩:=IK N h;have age:=nv (n:=8) jJ;have agf:=nv (n:=4) age;have mb:=nv (n:=2) agf;obtain⟨aG,h6,ts⟩:=qq (s:=er 2 (er 4 (er 8 s))) (n:=32) a6;obtain⟨h3,ei,aF8⟩:=qq (s:=er 4 (er 8 s)) (n:=2) aG;obtain⟨h2,bt,rU⟩:=qq (s:=er 8 s) (n:=4) h3;obtain⟨h1,a7,rT⟩:=qq (s:=s) (n:=8) h2;refine⟨h1,?_⟩;have aF9:=MS (k:=8) h2 jJ;have agh:=MS (k:=4) h3 age;have fb:=MS (k:=2) aG agf;have aGa:al (er 2 (er 4 (er 8 s)))=k8 32 (er 2 (er 4 (er 8 s))):=MR a6;show _=(fO 2 (il t).length++mU (il t))++fO 8 (im (k8 8 s))++fO 4 ((im (k8 4 (er 8 s)):Nat):Int).toNat++fO 2 ((im (k8 2 (er 4 (er 8 s))):Nat):Int).toNat++al (er 2 (er 4 (er 8 s)))++(jx N (jO s)).flatten++(jI N (jO s)).1
 grind[Int.toNat_natCast,il,SO,jO]
theorem agi:∀(N f:Nat) (s:jw),N<=f->(jI N s).2=0->(jI N s).1=[]->tI f s=N
 | 0,f,s,_,_,h=>by
  cases f with
  | zero=>rfl
  | succ f=>unfold tI;rw[if_pos (show s.1=[]from h)]
 | N+1,0,s,h,_,_=>by omega
 | N+1,f+1,s,hf,he,U=>by
  rw[<- II N]at he U;have bg:=agi N f (er 32 s) (by omega) he U;have a6:=(IK N he).1;obtain⟨_,cd,g3⟩:=qq a6;unfold tI;rw[if_neg,bg];intro aJ
  simp_all
theorem agj:∀(f:Nat) (s:jw),tI f s<f->(jI (tI f s) s).1=[]
 | 0,s,h=>by omega
 | f+1,s,h=>by unfold tI at h⊢;split;assumption;rename_i aJ;rw[if_neg aJ]at h;have bg:=agj f (er 32 s) (by omega);rw[II]at bg;exact bg
theorem agk:∀(n:Nat) (l:List UInt8),l.length<=n->l.length<=4*(tD n l).length
 | 0,l,h=>by omega
 | n+1,l,h=>by
  unfold tD;split
  simp_all
  rename_i aJ;have aM:=MD aJ;have aGb:qp l<=4:=by
   unfold qp;split;omega
   grind[SI]
  have bg:=agk n (l.drop (qp l)) (by grind)
  grind
theorem MT(h:ra l=0):l.length<=96:=by
 unfold ra at h;rw[<- afP]at h;unfold IB at h;split at h;omega;have:=agk l.length l (Nat.le_refl _)
 grind[tE]
theorem axI(h:Bs xs e=0):e=0/\xs=[]:=by
 unfold Bs at h;split at h;omega
 simp_all
theorem agl(ak:cE b)(h:kX b 0=0):fO 2 (kN b 0).length++kN b 0++kr b 0=b/\(kN b 0).length=re b 0/\lJ b 0 2=0:=by
 obtain⟨h1,h2,h3⟩:=qq (s:=(oh b 0 2,lJ b 0 2)) (n:=re b 0) h;obtain⟨cg,cd,g3⟩:=qq (s:=(b,0)) (n:=2) h1;have LA:(kN b 0).length=re b 0:=h3;refine⟨?_,LA,h1⟩;have aM:=MS (s:=(b,0)) (k:=2) h1 ak
 grind[re,k8,oh,kN,kr]
theorem axJ(ak:cE b):mv b=Tp b:=by
 have yW:cE (kN b 0):=af0 (Bt ak _ _) _ _;have HZ:cE (kr b 0):=Bt (Bt ak _ _) _ _;unfold mv Tp;by_cases bJ:MM (vS b 0 96) (oU b 0 96,rf b 0 96)
 have su:=bJ;obtain⟨h1,h2⟩:=su;obtain⟨h3,aG⟩:=axI h1;have iY:¬xi b 0 96:=by
  intro iY;have:(oU b 0 96,rf b 0 96).2=0:=by have a6:=(IK _ h3).1;exact(qq (qq (qq (qq a6).1).1).1).1
  simp_all[rf]
 have a7:vS b 0 96=kN b 0:=if_neg iY;have bt:oU b 0 96=kr b 0:=if_neg iY;have ei:rf b 0 96=kX b 0:=if_neg iY;rw[a7,bt,ei]at bJ h1 h2 h3 aG⊢;have ud:(kN b 0).length<65536:=by
  have bq:=MT h2.1;have:(il (kN b 0)).length<=96:=bq
  grind[il]
 obtain⟨r1,r2⟩:=axH (t:=kN b 0) (s:=(kr b 0,kX b 0)) HZ yW ud h3;obtain⟨bP,q2,cS⟩:=agl ak r1;have nw:mu (iR (kN b 0) (kr b 0,kX b 0))<=65:=by grind[mu]
 have hZ:tI 65 (jO (kr b 0,kX b 0))=mu (iR (kN b 0) (kr b 0,kX b 0)):=agi _ _ _ nw h3 aG;have sQ:F6 (kN b 0) (kr b 0,kX b 0)=zG (kN b 0) (kr b 0,kX b 0):=by simp_all[F6,zG]
 have CB:(jI (tI 65 (jO (kr b 0,kX b 0))) (jO (kr b 0,kX b 0)))=Dm (kN b 0) (kr b 0,kX b 0):=by simp_all[Dm]
 have mH:Bx (zG (kN b 0) (kr b 0,kX b 0))=b:=by have axK:(jI (mu (iR (kN b 0) (kr b 0,kX b 0))) (jO (kr b 0,kX b 0))).1=[]:=aG;rw[axK,append_nil]at r2;exact r2.symm.trans bP
 have U:F7 b (kN b 0) (kr b 0,kX b 0):=by
  unfold F7
  grind[Ts,axG]
 simp_all[Bu,MP]
 have U:¬F7 b (kN b 0) (kr b 0,kX b 0):=by
  rintro⟨h1,h2,h3⟩;have aX:eG (F6 (kN b 0) (kr b 0,kX b 0)):=by
   refine Classical.byContradiction fun aG=>h3 ?_
   simp_all[rb]
  have ud:(kN b 0).length<=96:=by
   have bq:=MT aX.1;have:(il (kN b 0)).length<=96:=bq
   simp_all[il]
  have a6:=(IK _ h1).1;have ba:kX b 0=0:=(qq (qq (qq (qq a6).1).1).1).1;obtain⟨bP,q2,cS⟩:=agl ak ba;have iY:¬xi b 0 96:=fun h=>by have:=h.2;omega
  have hlen:(F6 (kN b 0) (kr b 0,kX b 0)).aN.length=tI 65 (jO (kr b 0,kX b 0)):=MN _;have Ax:=aX.2.2.2.2.2.2.2.2.1;have F8:=aX.2.2.2.2.2.2.2.2.2;rw[hlen]at Ax F8;have nw:mu (iR (kN b 0) (kr b 0,kX b 0))=tI 65 (jO (kr b 0,kX b 0)):=by
   have Ax:(tI 65 (jO (kr b 0,kX b 0)):Int)=l2 (iR (kN b 0) (kr b 0,kX b 0)).cT (iR (kN b 0) (kr b 0,kX b 0)).aF:=Ax
   grind[mu]
  have XQ:=agj 65 (jO (kr b 0,kX b 0)) (by omega);refine bJ ?_;rw[show vS b 0 96=kN b 0 from if_neg iY,show oU b 0 96=kr b 0 from if_neg iY,show rf b 0 96=kX b 0 from if_neg iY];refine⟨?_,?_⟩;unfold Dm;rw[nw,XQ,h1];rfl;unfold zG;rw[nw];exact aX
 simp_all[Bu,MP]
theorem axL(ak:cE b){m:da}(h:mv b=(m,0)):eG m/\rb m=b:=by
 rw[axJ ak]at h;unfold Tp MP at h;split at h;rename_i U;cases h;refine⟨?_,U.2.1⟩;refine Classical.byContradiction fun aG=>U.2.2 ?_
 rw[<- U.2.1];simp_all[rb];cases h
theorem axM{b:List Int}(h:(mv b).2≠0):mv b=(eY,131):=by
 unfold mv Bu at h⊢
 grind
theorem agm(b:List Int):(mv b).2=0\/mv b=(eY,131):=by grind[axM]
theorem axN(ok:m.b4)(h:eG m):mv (rb m)=(m,0):=by
 rw[Ts h];obtain⟨sy,cg,cd,g3,g4,g5,lh,g7,g8,aaK⟩:=h;have qb:=MT sy;have yW:Bx m=fO 2 m.cF.length++(mU m.cF++(fO 8 m.cV++(fO 4 m.cT.toNat++(fO 2 m.aF.toNat++(m.cn++(m.aN.flatten++[])))))):=by simp[Bx,vR]
 rw[yW];obtain⟨cU,cR⟩:=Dq (n:=2) (a:=fO 2 m.cF.length) (r:=mU m.cF++(fO 8 m.cV++(fO 4 m.cT.toNat++(fO 2 m.aF.toNat++(m.cn++(m.aN.flatten++[])))))) (q0 _ _);obtain⟨b1,b2⟩:=Dq (n:=m.cF.length) (a:=mU m.cF) (r:=fO 8 m.cV++(fO 4 m.cT.toNat++(fO 2 m.aF.toNat++(m.cn++(m.aN.flatten++[]))))) yn;obtain⟨dg,cr⟩:=Dq (n:=8) (a:=fO 8 m.cV) (r:=fO 4 m.cT.toNat++(fO 2 m.aF.toNat++(m.cn++(m.aN.flatten++[])))) (q0 _ _);obtain⟨d1,d2⟩:=Dq (n:=4) (a:=fO 4 m.cT.toNat) (r:=fO 2 m.aF.toNat++(m.cn++(m.aN.flatten++[]))) (q0 _ _);obtain⟨gY,gZ⟩:=Dq (n:=2) (a:=fO 2 m.aF.toNat) (r:=m.cn++(m.aN.flatten++[])) (q0 _ _);obtain⟨i1,k2⟩:=Dq (n:=32) (a:=m.cn) (r:=m.aN.flatten++[]) ok.dh;obtain⟨vF,q4⟩:=agd m.aN [] ok.ea;generalize b6:fO 2 m.cF.length++(mU m.cF++(fO 8 m.cV++(fO 4 m.cT.toNat++(fO 2 m.aF.toNat++(m.cn++(m.aN.flatten++[]))))))=B at*;have nw:re B 0=m.cF.length:=by
  show im (k8 2 (B,0))=_
  grind[MQ]
 have axO:lJ B 0 2=0:=by simp_all[er]
 have iY:¬xi B 0 96:=fun h=>by have:=h.2;omega
 have axP:kN B 0=mU m.cF:=by
  show k8 (re B 0) (er 2 (B,0))=_
  simp_all
 have axQ:((kr B 0,kX B 0):jw)=(fO 8 m.cV++(fO 4 m.cT.toNat++(fO 2 m.aF.toNat++(m.cn++(m.aN.flatten++[])))),0):=by
  show er (re B 0) (er 2 (B,0))=_
  simp_all
 unfold mv;rw[show vS B 0 96=kN B 0 from if_neg iY,show oU B 0 96=kr B 0 from if_neg iY,show rf B 0 96=kX B 0 from if_neg iY,axP,axQ];generalize bI:((fO 8 m.cV++(fO 4 m.cT.toNat++(fO 2 m.aF.toNat++(m.cn++(m.aN.flatten++[])))),0):jw)=S at*;have an:(er 32 (m.cn++(m.aN.flatten++[]),(0:Int))).2=0:=by rw[i1]
 have uk:iR (mU m.cF) S={m with aN:=[]}:=by grind[iR,MR,axr,MQ]
 have a6:jO S=(m.aN.flatten++[],0):=by simp_all[jO]
 have axR:mu (iR (mU m.cF) S)=m.aN.length:=by grind[mu]
 have sQ:zG (mU m.cF) S=m:=by unfold zG;rw[axR,a6,q4,uk];rfl
 have CB:Dm (mU m.cF) S=([],0):=by simp_all[Dm]
 unfold Bu;rw[if_pos,sQ];refine⟨?_,?_⟩;rw[CB];rfl;rw[sQ];exact⟨sy,cg,cd,g3,g4,g5,lh,g7,g8,aaK⟩
end J
namespace J
open Go Go.Ab
variable[cu:b0]
variable{H:au}{ae b9:List (Nat×ax)}{aa:VH}{v w x:Value}{xs bh b:List Int}{j p q o n k:Nat}{aq:List Value}
theorem Tt(h:RdB ae v xs){i t:Nat}(aU:i<=t)(ht:t<=xs.length):∃aQ,hI 1 v (some (int i)) (some (int t)) none=some aQ/\q1 v xs aQ ((xs.take t).drop i):=by
 rcases h with⟨rfl,rfl⟩|⟨p,o,c,rfl,aB,_⟩
 have ht:t=0:=by simp_all
 subst ht;have an:i=0:=by omega
 subst an;exact⟨bu,rfl,.none⟩;have he:∃bV,(bV=2\/bV=3)/\hI 1 (aC p o xs.length c) (some (int i)) (some (int t)) none=some (aC p (o+i) (t-i) bV):=by
  rcases aB with rfl|rfl
  simp_all[hI,SE,Mw,sl,rC]
  refine⟨cond (Nat.beq t xs.length) 3 2,by grind,?_⟩
  simp_all[hI,SE,Mw,sl,rC]
 obtain⟨bV,gX,he⟩:=he;refine⟨_,he,fun h9 h=>?_⟩;rcases h with⟨h,_⟩|⟨cI,dK,R0,jW,_,h⟩
 cases h;cases jW;have hlen:((xs.take t).drop i).length=t-i:=by simp_all
 refine .inr ⟨p,o+i,bV,by rw[hlen],gX,?_⟩;rcases h with rfl|⟨j,b,h1,h2⟩
 simp_all
 refine .inr ⟨j,b,h1,?_⟩;have:=congrArg (List.drop i) (congrArg (List.take t) h2);rw[take_take,Nat.min_eq_left ht,drop_take,drop_drop]at this
 simp_all
theorem pr.app'(h:pr b9 v):pr (ae++b9) v:=by
 rcases h with h|⟨p,o,n,c,j,b,h1,h2,h3⟩
 exact .inl h;exact .inr ⟨p,o,n,c,ae.length+j,b,h1,az h2,h3⟩
theorem gf.xj(h:gf v xs aq):pr (bQ v aq) v:=by
 rcases h with⟨rfl,_⟩|⟨p,rfl|⟨rfl,_⟩,h2,h3,aG⟩
 exact .inl rfl;exact .inr ⟨p,0,_,_,0,_,rfl,rfl,aG,.inl rfl⟩;exact .inr ⟨p,0,_,_,0,_,rfl,rfl,aG,.inl rfl⟩
theorem pr.slice(h:pr ae v){fm an:Option Value}(al:hI 1 v fm an none=some w):pr ae w:=by
 rcases h with rfl|⟨p,o,n,c,j,b,rfl,h2,h3⟩
 ·unfold hI at al;simp only at al
  repeat' (split at al)
  all_goals first|(cases al;done)|(cases al;exact .inl rfl)
 ·unfold hI at al;simp only at al
  repeat' (split at al)
  all_goals first|(cases al;done)|(cases al;exact .inr ⟨p,_,_,_,j,b,rfl,h2,h3⟩)
def kE(b:List Int):Int×Int:=
 if b.length<4\/b.take 2≠[66,85]then(0,141)else if 2304<im ((b.take 4).drop 2)+36 then(0,141)else(((im ((b.take 4).drop 2)+36:Nat):Int),0)
theorem axS{bh:List Int}(hO:aj H ae)(hv:RdB ae v xs)(aM:RdB ae w bh)(ao:cE xs)(ba:cE bh)(ah:aa (.bool (decide (xs=bh))) H):ay P 270 [v,w] H aa:=by apply at6;unfold ad2;refine bW (RdB.bS hO hv) (bW (RdB.bS hO aM) (ag (show _=some (.bool (decide (xs=bh)))from ?_) ah));show(ar P .eql 9 false).f (bS (il xs)) (bS (il bh))=_;rw[awO,afY,decide_eq_decide.2 ⟨fun h=>axD ao ba h,fun h=>by rw[h]⟩]
theorem axT{bh:List Int}(hO:aj H ae)(hv:RdB ae v xs)(aM:RdB ae w bh)(ao:cE xs)(ba:cE bh)(aD:bh.length<=xs.length)(ah:aa (.bool (decide (xs.take bh.length=bh))) H):ay P 252 [v,w] H aa:=by apply atM;unfold adL;refine bW hv.bO (bW aM.bO (ag um (oa (by omega) (bW aM.bO ?_))));obtain⟨aQ,a7,i1⟩:=A8 hv aD;exact ag a7 (axS hO (i1 _ hv) aM (fun x h=>ao x (mem_of_mem_take h)) ba (ag (gA (by omega)) ah))
theorem agn(H:au):(eV P 22 2).f [(0,.int .u8 66),(1,.int .u8 85)] H=some (aC H.next 0 2 3,H.push (bd [66,85])):=by rfl
theorem axU{b:List Int}(ak:cE b):im ((b.take 4).drop 2)<65536:=by
 have h1:=Mg ((b.take 4).drop 2) fun x ao=>ak x (mem_of_mem_take (mem_of_mem_drop ao))
 have h2:((b.take 4).drop 2).length<=2:=by grind
 exact Nat.lt_of_lt_of_le h1 (Nat.pow_le_pow_right (n:=256) (by omega) h2)
theorem axV(hO:aj H ae)(hv:RdB ae v b)(ak:cE b)(aD:b.length<=1000000)(ah:∀ab,aj ab ae->aa (.tuple [int (kE b).1,int (kE b).2].toArray) ab):ay P 229 [v] H aa:=by
 apply ats;unfold adp;refine e3 (fun aA ab=>aA=[v,.bool (decide (b.length<4\/b.take 2≠[66,85]))]/\aj ab ae) ?_ ?_;refine bW hv.bO (ag fr (bF (fun h=>?_) (fun h=>?_)));exact ag (gA h) (⟨by grind,hO⟩);refine ik hO (agn _) ?_;intro q H hO;refine F0 hO 0 rfl (by omega) (axT (bh:=[66,85]) hO hv.app (xh 0 rfl (.inr rfl) rfl) ak (by intro x ao;grind) (by grind) (ag ix (ag (gP h) (⟨?_,hO.left⟩))))
 grind[decide_eq_false]
 rintro aA H ⟨rfl,hO⟩
 try simp only[cj,ck]
 unfold kE at ah;refine bF (fun h=>?_) (fun h=>?_);rw[if_pos h]at ah;exact ah H hO;rw[if_neg h]at ah;obtain⟨ec,bt,k2⟩:=Tt hv (i:=2) (t:=4) (by omega) (by omega);refine ag bt (aep hO (k2 _ hv) ?_);intro H p hO;have mb:cE ((b.take 4).drop 2):=fun x ao=>ak x (mem_of_mem_take (mem_of_mem_drop ao))
 have dw:=axU ak;refine H9 (k:=2) (by omega) hO (az (k:=0) rfl) ((k2 _ hv).app) mb ?_;intro H v3 hO q6;have axW:kC ((b.take 4).drop 2) 0 2=(b.take 4).drop 2:=by simp_all[kC,take_of_length_le]
 rw[axW];generalize im ((b.take 4).drop 2)=N at*;refine bW (w3 (k:=.u64) (by omega)) (ag (v:=int ((N+36:Nat):Int)) (by grind[jg]) (ag kS ?_))
 replace hO:=hO.cD.left
 refine bF (fun h2=>?_) (fun h2=>?_);rw[if_pos (by omega)]at ah;exact ah H hO;rw[if_neg (by omega)]at ah;exact ah H hO
end J
namespace J
open Go Go.Ab
variable[cu:b0]
variable{H:au}{ae:List (Nat×ax)}{aa:VH}{v w aZ:Value}{xs bh b key ms:List Int}{j q o n k:Nat}{aq bE:List Value}{m:da}{aN:List (List Int)}
def om(m:da):List Int:=[66,85]++fO 2 (rb m).length++rb m
def iZ(key:List Int)(m:da):List Int:=om m++po key (om m)
theorem MU(ok:m.b4)(h:eG m):(rb m).length=m.cF.length+48+32*m.aN.length/\m.cF.length<=96/\m.aN.length<=64:=by have h1:=SP m.aN ok.ea;have h2:=MT h.1;have h3:=h.2.2.2.2.2.2.2.2.2;rw[Ts h];refine⟨?_,h2,h3⟩;simp only[Bx,vR,length_append,q0,yn,ok.dh,h1];omega
theorem MV{k b:List Int}:(po k b).length=32:=rfl
theorem Tu{k b:List Int}:cE (po k b):=F1
theorem Tv(ok:m.b4):cE (om m):=mS (mS (by simp_all) (IJ _ _)) (axF ok)
theorem ago(ok:m.b4)(h:eG m):(om m).length=m.cF.length+52+32*m.aN.length:=by grind[MU,om,q0]
theorem axX(hO:aj H ae)(hv:RdB ae v key)(aM:RdB ae w ms)(ev:pr ae w)(ak:cE key)(hm:cE ms)(aD:key.length<=1000000)(q7:ms.length<=1000000)(ah:A7 ae aa (ms++po key ms)):ay P 146 [v,w] H aa:=by
 apply asA;unfold acn;refine awM hO hv aM ak hm (by omega) (by omega) ?_;intro H hO;rw[SU];refine j3 hO.z ?_;intro fK H hO;refine lr hO 0 rfl (by rfl) (by rfl) (mn _) ?_;intro bB ez
 replace ez:aj bB (ae++[(fK,⟨bd (po key ms),true⟩)]):=ez
 have axY:fK<bB.next:=ez.lt _ (mem_append_right _ mem_cons_self);refine ik ez (C7 _) ?_;intro zE cJ dF;have PS:fK<cJ.next:=dF.lt (fK,⟨bd (po key ms),true⟩) (by simp);have axZ:aj cJ ((ae++[(fK,(⟨bd (po key ms),true⟩:ax))])++bQ (aC zE 0 0 3) []):=dF;refine uv (xs:=[]) (v:=aC zE 0 0 3) (aq:=[]) axZ (.inr ⟨zE,.inr ⟨rfl,rfl⟩,rfl,zero_le _,rfl⟩) aM.app (by grind) ?_;intro jr v3 fJ l0 hJ;refine ag (zj l0 (ae.length+0) (aL (az rfl)) (by omega) (by simp[MV])) ?_;have dC:zE≠fK:=aj.My dF (i:=(ae++[(fK,(⟨bd (po key ms),true⟩:ax))]).length+0) (j:=ae.length+0) (az rfl) (aL (az rfl)) (by simp);have Ky:qh (cm [aC zE 0 0 3,w]) (cm [ai fK 0]):=by
  have a7:Nat.beq zE fK=false:=by grind[eq_of_beq_eq_true]
  rcases ev with rfl|⟨Tw,o,n,c,Cx,aGc,rfl,h2,h3⟩
  show oK [zE] [fK]=true
  grind[oK,kH,s5]
  have alN:Tw≠fK:=aj.My ez (i:=Cx) (j:=ae.length+0) (aL h2) (az rfl) (by grind);have bt:Nat.beq Tw fK=false:=by grind[eq_of_beq_eq_true]
  show oK [zE,Tw] [fK]=true
  simp_all[oK,kH,s5]
 refine⟨Ky,uI PS,uI axY,?_⟩;refine uv l0 hJ (bh:=po key ms) (.inr ⟨fK,0,3,by rfl,.inr rfl,.inr ⟨ae.length+0,_,az rfl,by rfl⟩⟩) (by grind[MV]) ?_;intro vy v4 iy AB fL;exact ah vy v4 iy (aj.ca AB) fL
theorem ax0(ok:m.b4)(hO:aj H ae)(hv:RdB ae v key)(aB:e8 ae aZ m.aN)(ak:cE key)(aD:key.length<=1000000)
  (hU:¬eG m->∀ab,aj ab ae->aa (.tuple [bu,int 131].toArray) ab)
  (tu:eG m->∀ab aQ bE,aj ab (ae++bQ aQ bE)->gf aQ (iZ key m) bE->aa (.tuple [aQ,int 0].toArray) ab):ay P 70 [v,agg (bN m aZ)] H aa:=by
 apply arD;unfold abn;rw[zD];refine j3 hO.z ?_;intro eQ H hO;refine jN hO 0 rfl (eS ok.dh) (by omega) (SN ok aB.app hO ?_);intro H hO;refine ag ix ?_;by_cases U:eG m;obtain⟨b1,b2,gE⟩:=MU ok U;have lo:=ago ok U;rw[decide_eq_true U];refine dP rfl (jN hO 0 rfl (eS ok.dh) (by omega) (axi ok aB.app hO ?_));intro H ej dg hO b3;refine ik hO (agn _) ?_;intro q H hO;refine F0 hO 0 rfl (by omega) (bW b3.bO (bW (Fm (by omega) (by omega)) ?_));rw[Int.toNat_natCast];refine Iv (size:=2) hO (by omega) (by omega) ?_;intro H ec cr hO dL;have ax1:gf (aC q 0 2 3) [66,85] (bd [66,85]):=.inr ⟨q,.inr ⟨rfl,rfl⟩,rfl,Nat.le_refl _,rfl⟩
 replace hO:aj H (((ae++([]++[(eQ,(⟨bN m aZ,true⟩:ax))])++bQ ej dg)++bQ (aC q 0 2 3) (bd [66,85]))++bQ ec cr):=hO
 refine Fl hO ax1 dL (by simp[q0]) ?_;intro H v3 fJ hO hJ;have nL:RdB (ae++([]++[(eQ,(⟨bN m aZ,true⟩:ax))])++bQ ej dg) ej (rb m):=b3.lY.app';refine uv hO hJ nL (by grind[q0]) ?_;intro H v4 iy hO fL
 replace fL:gf v4 (om m) iy:=fL
 replace hO:aj H (ae++bQ v4 iy):=by have aJ:=hO.left.left;rw[append_assoc,append_assoc]at hO;exact hO.sub (List.Sublist.append (List.Sublist.refl _) (by rw[<- append_assoc];exact sublist_append_right _ _))
 refine axX hO hv.app fL.lY.app' (gf.xj fL).app' ak (Tv ok) aD (by omega) ?_;intro H v5 j0 hO kL;exact tu U H v5 j0 (aj.ca hO) kL;rw[decide_eq_false U];exact eT rfl (hU U H hO.left)
end J
