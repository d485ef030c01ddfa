/- texts of the pv, gd behind the oq -/
import Derived.Test.YtifflnhooaophaaGreatDoorUF
set_option linter.unusedVariables false
set_option linter.unusedSimpArgs false
set_option linter.unusedSectionVars false
set_option maxHeartbeats 4000000
set_option maxRecDepth 100000
namespace J
open Go Go.Ab
variable[cu:b0]
variable{H:au}{Γ b8:List (Nat×az)}{aa:VH}{v w x bb:Value}{aj:List Int}{j p n:Nat}{l:List UInt8}
structure df where
 cz:List UInt8
 dN:Nat
 c0:Int
 aE:Int
 cq:List Int
 a1:List (List Int)
abbrev ct(aj:List Int):Prop:=∀x∈aj,0<=x/\x<=255
structure df.b1 (m:df):Prop where
 dR:m.cq.length=32
 Rr:ct m.cq
 dS:∀x∈m.a1,x.length=32
 fV:∀x∈m.a1,ct x
 dN:m.dN<18446744073709551616
 c0:-9223372036854775808<=m.c0/\m.c0<=9223372036854775807
 aE:-9223372036854775808<=m.aE/\m.aE<=9223372036854775807
 n:m.a1.length<=10000
 Lm:m.cz.length<=10000
def b4(m:df)(bb:Value):List Value:=bZ m.cz::bS .u64 m.dN::int m.c0::int m.aE::(bj m.cq++[bb])
abbrev hK(l:List (List Int)):List Value:=l.flatMap bj
def fR(Γ:List (Nat×az))(v:Value)(a1:List (List Int)):Prop:=
 (v=bB/\a1=[])\/∃(p c j:Nat) (w:Bool),v=aF p 0 a1.length c/\Γ[j]?=some (p,(⟨hK a1,w⟩:az))
variable{m:df}{a1:List (List Int)}
theorem fR.cG(h:fR Γ v a1):cG v H=some (int a1.length,H):=by rcases h with⟨rfl,rfl⟩|⟨p,c,j,w,rfl,_⟩<;>rfl
theorem fR.lC(h:fR Γ v a1):∃a n c,v=.slice a n c:=by rcases h with⟨rfl,_⟩|⟨p,c,j,w,rfl,_⟩<;>exact⟨_,_,_,rfl⟩
theorem fR.bo(h:fR Γ v a1):fR (Γ++b8) v a1:=by
 rcases h with h|⟨p,c,j,w,ad,af⟩
 ·exact .inl h
 ·exact .inr ⟨p,c,j,w,ad,aS af⟩
theorem fR.jv(h:fR b8 v a1):fR (Γ++b8) v a1:=by
 rcases h with h|⟨p,c,j,w,ad,af⟩
 ·exact .inl h
 ·exact .inr ⟨p,c,Γ.length+j,w,ad,aC af⟩
theorem fR.bh(h:fR Γ v a1)(aR:0<a1.length):∃(p c j:Nat) (w:Bool),v=aF p 0 a1.length c/\Γ[j]?=some (p,(⟨hK a1,w⟩:az)):=by
 rcases h with⟨_,rfl⟩|h
 ·simp at aR
 ·exact h
theorem e1(aJ:m.cq.length=32):(b4 m bb).length=37:=by simp[b4,aJ]
theorem uB(aJ:m.cq.length=32):(b4 m bb)[0+36]?=some bb:=by
 show(bj m.cq++[bb])[32]?=_
 simp_all
theorem pg(aA:eP bb=true):(b4 m bb).all eP=true:=by
 show(true&&(true&&(true&&(true&&(bj m.cq++[bb]).all eP))))=true
 grind[lT]
theorem zL(aA:fH bb=true):(b4 m bb).all fH=true:=by
 show(true&&(true&&(true&&(true&&(bj m.cq++[bb]).all fH))))=true
 grind[zB]
theorem fR.gd(h:fR Γ v a1):eP v=true:=by obtain⟨a,n,c,rfl⟩:=h.lC;rfl
theorem fR.sF(h:fR Γ v a1):fH v=true:=by rcases h with⟨rfl,_⟩|⟨p,c,j,w,rfl,_⟩<;>rfl
theorem BU:dp (agg (b4 m bb))=b4 m bb:=rfl
def l9(s c:Int):Int:=if s<1\/c<1 then 0 else(s-1)/c+1
theorem Rs{s c:Int}:0<=l9 s c:=by
 unfold l9;split
 ·omega
 ·have:=Int.ediv_nonneg (show 0<=s-1 by omega) (show 0<=c by omega);omega
theorem auQ{s c:Nat}(aw:1<=s)(aA:1<=c):(s-1)/c+1=s/c+(if s%c>0 then 1 else 0):=by
 have ad:=Nat.div_add_mod s c;have af:=Nat.mod_lt s aA;generalize s/c=Q at*;generalize s%c=R at*;subst ad;by_cases U:R=0
 ·subst U;rw[if_neg (by omega)];have b5:1<=Q:=by grind
  obtain⟨t,rfl⟩:∃t,Q=t+1:=⟨Q-1,by omega⟩;have:c*(t+1)+0-1=c*t+(c-1):=by grind
  rw[this,Nat.mul_add_div (by omega),Nat.div_eq_of_lt (by omega)]
 ·rw[if_pos (by omega)];have:c*Q+R-1=c*Q+(R-1):=by omega
  rw[this,Nat.mul_add_div (by omega),Nat.div_eq_of_lt (by omega)]
theorem adQ{s c:Int}(aw:s<=9223372036854775807)(aA:c<=9223372036854775807)(ag:aa (int (l9 s c)) H):wCall P 225 [int s,int c] H aa:=by
 apply aqS;unfold abc;by_cases ad:s<1
 ·refine ze ?_
  repeat (first|refine bH ?_|refine uo ?_|refine lg ?_)
  unfold l9 at ag;rw[if_pos (.inl ad)]at ag;exact ag
 by_cases af:c<1
 ·refine ze ?_
  repeat (first|refine bH ?_|refine uo ?_|refine vC ?_)
  unfold l9 at ag;rw[if_pos (.inr af)]at ag;exact ag
 refine gb (fun aG ab=>aG=[int s,int c]/\H=ab) ?_ ?_
 ·repeat (first|refine bH ?_|refine vC ?_)
  exact⟨(by rfl),(by rfl)⟩
 rintro aG ab ⟨rfl,rfl⟩
 try simp only[cR,cS]
 obtain⟨S,rfl⟩:∃S:Nat,s=S:=⟨s.toNat,by omega⟩;obtain⟨C,rfl⟩:∃C:Nat,c=C:=⟨c.toNat,by omega⟩;unfold l9 at ag;rw[if_neg (by omega)]at ag
 repeat refine bH ?_
 refine ai (v:=int (((S-1)/C:Nat):Int)) (by grind[Le]) ?_;have kP:=Nat.div_le_self (S-1) C;rw[show((S:Int)-1)/C+1=(((S-1)/C:Nat):Int)+1 by grind]at ag;generalize (S-1)/C=Q at*
 repeat refine bH ?_
 exact ag
theorem adR{s c:Int}(aw:s<=9223372036854775806)(aA:c<=9223372036854775807)(ag:aa (int (l9 s c)) H):wCall P 88 [int s,int c] H aa:=by
 apply apv;unfold Zy;by_cases ad:s<1
 ·refine ze ?_
  repeat (first|refine bH ?_|refine uo ?_|refine lg ?_)
  unfold l9 at ag;rw[if_pos (.inl ad)]at ag;exact ag
 by_cases af:c<1
 ·refine ze ?_
  repeat (first|refine bH ?_|refine uo ?_|refine vC ?_)
  unfold l9 at ag;rw[if_pos (.inr af)]at ag;exact ag
 refine gb (fun aG ab=>aG=[int s,int c]/\H=ab) ?_ ?_
 ·repeat (first|refine bH ?_|refine vC ?_)
  exact⟨(by rfl),(by rfl)⟩
 rintro aG ab ⟨rfl,rfl⟩
 try simp only[cR,cS]
 obtain⟨S,rfl⟩:∃S:Nat,s=S:=⟨s.toNat,by omega⟩;obtain⟨C,rfl⟩:∃C:Nat,c=C:=⟨c.toNat,by omega⟩;unfold l9 at ag;rw[if_neg (by omega)]at ag;have JV:=auQ (s:=S) (c:=C) (by omega) (by omega);have kP:=Nat.div_le_self S C;rw[show((S:Int)-1)/C+1=(((S-1)/C+1:Nat):Int) by grind,JV]at ag;refine ai (Le (by omega) (by omega)) ?_;generalize S/C=Q at*;refine ai (JY (by omega)) ?_;rw[show(Int.tmod (S:Int) (C:Int))=((S%C:Nat):Int)from rfl];refine ai sl (bT (fun h=>?_) (fun h=>?_))
 ·rw[if_pos (by omega)]at ag
  repeat refine bH ?_
  exact ag
 ·rw[if_neg (by omega)]at ag;exact ag
def sG(l:List UInt8):Int:=Seal.pb (jH l) (jH l).size 0 0
def eB(m:df):Prop:=sG m.cz=0/\1<=m.dN/\m.dN<=281474976710656/\1<=m.c0/\m.c0<=65536/\64<=m.aE/\m.aE<=1024/\m.aE%64=0/\(m.a1.length:Int)=l9 m.c0 m.aE/\m.a1.length<=64
instance (m:df):Decidable (eB m):=by unfold eB;exact inferInstance
theorem auR(aD:l.length<=1000000)(hO:al H Γ)(ag:∀ab,al ab Γ->aa (int (sG l)) ab):wCall P 87 [bZ l] H aa:=
 auL aD hO fun ab h=>by rw[adP];exact ag ab h
theorem adS(aD:l.length<=1000000)(ag:aa (int (sG l)) H):wCall P 123 [bZ l] H aa:=
 aok (by rw[zK];omega) ag
theorem Ex(ok:m.b1)(aA:fR Γ bb m.a1)(hO:al H Γ)(ag:∀ab,al ab Γ->aa (.bool (decide (eB m))) ab):wCall P 186 [agg (b4 m bb)] H aa:=by
 apply aqr;unfold aaH;have eT:∀ {H:au} {b8},al H (Γ++b8)->¬eB m->aa (.bool false) H:=fun h aX=>by have:=ag _ h.left;rw[decide_eq_false aX]at this;exact this
 have eU:=ok.c0;have jb:=ok.aE;have hv:=ok.dN;have aD:=ok.n;have uC:=uB (bb:=bb) ok.dR;rw[BU];refine j8 hO.z ?_;clear hO;intro dK H hO
 replace hO:al H (Γ++[(dK,⟨b4 m bb,true⟩)]):=hO
 refine gb (fun aG ab=>aG=[ak dK 0]/\H=ab/\sG m.cz=0/\1<=m.dN/\m.dN<=281474976710656/\1<=m.c0/\m.c0<=65536/\64<=m.aE/\m.aE<=1024/\m.aE%64=0) ?_ ?_
 ·refine gb (fun aG ab=>aG=[ak dK 0,.bool (decide (¬(sG m.cz=0/\1<=m.dN/\m.dN<=281474976710656)))]/\H=ab) ?_ ?_
  ·repeat (first|refine bH ?_|refine cI hO 0 rfl rfl ?_)
   refine adS (by have:=ok.Lm;omega) (ai jh (bT (fun ad=>?_) (fun ad=>?_)))
   ·exact⟨by simp_all,(by rfl)⟩
   ·repeat (first|refine bH ?_|refine cI hO 0 rfl rfl ?_)
    refine bT (fun af=>?_) (fun af=>?_)
    ·exact⟨by rw[decide_eq_decide.2 (show((m.dN:Int)<1)↔¬(sG m.cz=0/\1<=m.dN/\m.dN<=281474976710656) by omega)],(by rfl)⟩
    ·repeat (first|refine bH ?_|refine cI hO 0 rfl rfl ?_)
     exact⟨by rw[decide_eq_decide.2 (show((281474976710656:Int)<(m.dN:Int))↔¬(sG m.cz=0/\1<=m.dN/\m.dN<=281474976710656) by omega)],(by rfl)⟩
  rintro aG ab ⟨rfl,rfl⟩
  try simp only[cR,cS]
  refine bT (fun ad=>?_) (fun ad=>?_)
  ·exact eT hO (fun h=>ad ⟨h.1,h.2.1,h.2.2.1⟩)
  refine gb (fun aG ab=>aG=[ak dK 0,.bool (decide (¬(1<=m.c0/\m.c0<=65536)))]/\H=ab) ?_ ?_
  ·repeat (first|refine bH ?_|refine cI hO 0 rfl rfl ?_)
   refine bT (fun af=>?_) (fun af=>?_)
   ·repeat refine bH ?_
    exact⟨by simp_all,(by rfl)⟩
   ·repeat (first|refine bH ?_|refine cI hO 0 rfl rfl ?_)
    exact⟨by simp_all,(by rfl)⟩
  rintro aG ab ⟨rfl,rfl⟩
  try simp only[cR,cS]
  refine bT (fun af=>?_) (fun af=>?_)
  ·exact eT hO (fun h=>af ⟨h.2.2.2.1,h.2.2.2.2.1⟩)
  repeat (first|refine bH ?_|refine cI hO 0 rfl rfl ?_)
  refine bT (fun ax=>?_) (fun ax=>?_)
  ·repeat (first|refine bH ?_|refine lg ?_)
   exact eT hO (fun h=>by have:=h.2.2.2.2.2.1;omega)
  repeat (first|refine bH ?_|refine cI hO 0 rfl rfl ?_)
  refine bT (fun aO=>?_) (fun aO=>?_)
  ·repeat (first|refine bH ?_|refine lg ?_)
   exact eT hO (fun h=>by have:=h.2.2.2.2.2.2.1;omega)
  repeat (first|refine bH ?_|refine cI hO 0 rfl rfl ?_)
  have em:m.aE.tmod 64=m.aE%64:=Int.tmod_eq_emod_of_nonneg (by omega);refine ai (JY (by omega)) ?_;rw[em]
  repeat refine bH ?_
  refine bT (fun bl=>?_) (fun bl=>?_)
  ·exact eT hO (fun h=>bl h.2.2.2.2.2.2.2.1)
  simp_all
 rintro aG ab ⟨rfl,rfl,bX,b7,g3,g4,g5,kO,g7,g8⟩
 try simp only[cR,cS]
 refine ai ed (cI hO 0 rfl uC (cH aA.cG ?_))
 repeat (first|refine bH ?_|refine cI hO 0 rfl rfl ?_)
 refine adQ (by omega) (by omega) (⟨ha hO (Γ.length+0) (aC rfl) hO (Γ.length+0) (aC rfl) (zL aA.sF),?_⟩);refine ai fz (bT (fun bL=>?_) (fun bL=>?_))
 ·refine ai ed (cI hO 0 rfl uC (cH aA.cG (ai OZ (ai (ju bL) ?_))));have:=ag _ hO.left;rw[decide_eq_decide.2 (show eB m↔((m.a1.length:Int)<=64)from⟨fun h=>by have:=h.2.2.2.2.2.2.2.2.2;omega,fun h=>⟨bX,b7,g3,g4,g5,kO,g7,g8,bL,by omega⟩⟩)]at this;exact this
 ·exact ai (kV bL) (eT hO (fun h=>bL h.2.2.2.2.2.2.2.2.1))
theorem Rt(ok:m.b1)(aA:fR Γ bb m.a1)(hO:al H Γ)(ag:∀ab,al ab Γ->aa (.bool (decide (eB m))) ab):wCall P 34 [agg (b4 m bb)] H aa:=by
 apply aoI;unfold YJ;have eT:∀ {H:au} {b8},al H (Γ++b8)->¬eB m->aa (.bool false) H:=fun h aX=>by have:=ag _ h.left;rw[decide_eq_false aX]at this;exact this
 have eU:=ok.c0;have jb:=ok.aE;have hv:=ok.dN;have aD:=ok.n;have uC:=uB (bb:=bb) ok.dR;rw[BU];refine j8 hO.z ?_;clear hO;intro dK H hO
 replace hO:al H (Γ++[(dK,⟨b4 m bb,true⟩)]):=hO
 refine gb (fun aG ab=>aG=[ak dK 0]/\al ab (Γ++[(dK,⟨b4 m bb,true⟩)])/\sG m.cz=0/\1<=m.dN/\m.dN<=281474976710656/\1<=m.c0/\m.c0<=65536) ?_ ?_
 ·repeat (first|refine bH ?_|refine cI hO 0 rfl rfl ?_)
  refine auR (by have:=ok.Lm;omega) hO ?_;clear hO;intro H hO;refine ai jh (bT (fun ad=>?_) (fun ad=>?_))
  ·repeat (first|refine bH ?_|refine lg ?_)
   exact eT hO (fun h=>ad h.1)
  repeat (first|refine bH ?_|refine cI hO 0 rfl rfl ?_)
  refine bT (fun af=>?_) (fun af=>?_)
  ·repeat (first|refine bH ?_|refine lg ?_)
   exact eT hO (fun h=>by have:=h.2.1;omega)
  repeat (first|refine bH ?_|refine cI hO 0 rfl rfl ?_)
  refine bT (fun ax=>?_) (fun ax=>?_)
  ·repeat (first|refine bH ?_|refine lg ?_)
   exact eT hO (fun h=>by have:=h.2.2.1;omega)
  repeat (first|refine bH ?_|refine cI hO 0 rfl rfl ?_)
  refine bT (fun aO=>?_) (fun aO=>?_)
  ·repeat (first|refine bH ?_|refine lg ?_)
   exact eT hO (fun h=>by have:=h.2.2.2.1;omega)
  repeat (first|refine bH ?_|refine cI hO 0 rfl rfl ?_)
  refine bT (fun bl=>?_) (fun bl=>?_)
  ·exact eT hO (fun h=>by have:=h.2.2.2.2.1;omega)
  ·exact⟨rfl,hO,by omega⟩
 clear hO;rintro aG H ⟨rfl,hO,bX,b7,g3,g4,g5⟩
 try simp only[cR,cS]
 refine gb (fun aG ab=>aG=[ak dK 0]/\H=ab/\64<=m.aE/\m.aE<=1024/\m.aE%64=0) ?_ ?_
 ·repeat (first|refine bH ?_|refine cI hO 0 rfl rfl ?_)
  refine bT (fun ax=>?_) (fun ax=>?_)
  ·repeat (first|refine bH ?_|refine lg ?_)
   exact eT hO (fun h=>by have:=h.2.2.2.2.2.1;omega)
  repeat (first|refine bH ?_|refine cI hO 0 rfl rfl ?_)
  refine bT (fun aO=>?_) (fun aO=>?_)
  ·repeat (first|refine bH ?_|refine lg ?_)
   exact eT hO (fun h=>by have:=h.2.2.2.2.2.2.1;omega)
  repeat (first|refine bH ?_|refine cI hO 0 rfl rfl ?_)
  have em:m.aE.tmod 64=m.aE%64:=Int.tmod_eq_emod_of_nonneg (by omega);refine ai (JY (by omega)) ?_;rw[em]
  repeat refine bH ?_
  refine bT (fun bl=>?_) (fun bl=>?_)
  ·exact eT hO (fun h=>bl h.2.2.2.2.2.2.2.1)
  ·refine⟨(by rfl),(by rfl),?_⟩;omega
 rintro aG ab ⟨rfl,rfl,kO,g7,g8⟩
 try simp only[cR,cS]
 refine ai ed (cI hO 0 rfl uC (cH aA.cG (ai OZ (bT (fun bL=>?_) (fun bL=>?_)))))
 ·refine ai ed (cI hO 0 rfl uC (cH aA.cG ?_))
  repeat (first|refine bH ?_|refine cI hO 0 rfl rfl ?_)
  refine adR (by omega) (by omega) (⟨ha hO (Γ.length+0) (aC rfl) hO (Γ.length+0) (aC rfl) (zL aA.sF),?_⟩);refine ai fz (ai (ju bL) ?_);have:=ag _ hO.left;rw[decide_eq_decide.2 (show eB m↔((m.a1.length:Int)=l9 m.c0 m.aE)from⟨fun h=>h.2.2.2.2.2.2.2.2.1,fun h=>⟨bX,b7,g3,g4,g5,kO,g7,g8,h,by omega⟩⟩)]at this;exact this
 ·exact ai (kV bL) (eT hO (fun h=>by have:=h.2.2.2.2.2.2.2.2.2;omega))
end J
namespace J
open Go Go.Ab
variable[cu:b0]
variable{H:au}{Γ:List (Nat×az)}{aa:VH}{v x bb:Value}{aj bg b:List Int}{p n k:Nat}{e:Int}{l:List UInt8}{m:df}{a1:List (List Int)}
def mw(l:List UInt8):List Int:=l.map fun b=>(b.toNat:Int)
theorem wZ:(mw l).length=l.length:=by simp[mw]
theorem auS:ct (mw l):=by intro x ao;obtain⟨b,_,rfl⟩:=List.mem_map.1 ao;have:=b.toNat_lt;omega
theorem auT:l.map v7=bj (mw l):=by simp[bj,mw,v7]
theorem Ru(aj:List Int)(h:ct aj):mw (aj.map fun n=>UInt8.ofNat n.toNat)=aj:=by
 unfold mw;rw[List.map_map]
 conv=>rhs;rw[<- List.map_id aj]
 grind[List.map_congr_left,UInt8.toNat_ofNat']
theorem auU(hO:al H Γ)(ag:∀ab aQ,al ab (Γ++b2 aQ (bj (mw l)))->fI aQ (mw l) (bj (mw l))->aa aQ ab):ah (Aj (bZ l) H) aa:=by
 refine ih hO (show Aj (bZ l) H=some (aF H.next 0 l.length 2,H.push (bj (mw l)))from ?_) ?_
 ·show l1 (l.map v7) (fE l) 2 H=_;rw[auT,gX];rfl
 ·intro p ab iR;refine ag _ _ iR (.inr ⟨p,.inl (by rw[wZ]),?_,by simp[bj],zB _⟩)
  simp_all[List.take_of_length_le]
def uD(l:List UInt8):List Int:=fq 2 l.length++mw l
theorem auV(n:Nat):fq 2 n=[((n%256:Nat):Int),((n/256%256:Nat):Int)]:=by simp[fq,List.range_succ]
theorem auW(hO:al H Γ)(aD:l.length<=1000000)(ag:zA Γ aa (uD l)):wCall P 209 [bZ l] H aa:=by apply aqM;unfold aa5;refine cH Rj (cH (DL (by omega) (by omega)) ?_);rw[Int.toNat_natCast];refine G0 (size:=2) hO (by omega) (by omega) ?_;clear hO;intro H ev db hO jZ;refine auU hO ?_;clear hO;intro H ec hO kl;exact DK hO jZ kl (by grind[qn,wZ]) ag
def qq(m:df):List Int:=if eB m then uD m.cz++fq 8 m.dN++fq 4 m.c0.toNat++fq 2 m.aE.toNat++m.cq++m.a1.flatten else []
theorem adT(aJ:m.cq.length=32):((b4 m bb).drop 4).take 32=bj m.cq:=by
 show(bj m.cq++[bb]).take 32=_
 simp_all
theorem adU(h:∀x∈a1,x.length=32){y:Nat}(ba:y<a1.length):((hK a1).drop (0+(y:Int).toNat*32)).take 32=bj a1[y]:=by
 rw[show 0+(y:Int).toNat*32=y*32+0 by omega];rw[GL (f:=bj) (n:=32) (fun x ao=>by simp_all) ba (by omega),List.drop_zero]
 simp_all[List.take_of_length_le]
theorem Rv:∀(l:List (List Int)),(∀x∈l,x.length=32)->l.flatten.length=l.length*32
 | [],_=>rfl
 | a::l,h=>by
  have ad:=Rv l fun x ao=>h x (List.mem_cons_of_mem _ ao)
  have af:=h a List.mem_cons_self;rw[List.flatten_cons,List.length_append,ad,af,List.length_cons];omega
theorem auX(ok:m.b1)(aA:fR Γ bb m.a1)(hO:al H Γ)(ag:zA Γ aa (qq m)):wCall P 145 [agg (b4 m bb)] H aa:=by
 apply ap7;unfold aak;have uC:=uB (bb:=bb) ok.dR;have nF:=ok.Lm;have G6:=ok.dN;rw[BU];refine j8 hO.z ?_;clear hO;intro dK H hO
 replace hO:al H (Γ++[(dK,⟨b4 m bb,true⟩)]):=hO
 refine ih hO (BD _) ?_;clear hO;intro G7 H hO
 replace hO:=hO.as
 refine jj hO 0 rfl (e1 ok.dR) (by omega) (Rt ok aA.bo hO ?_);clear hO;intro H hO;refine ai jt ?_;have G8:fI (aF G7 0 0 3) [] []:=.inr ⟨G7,.inr ⟨rfl,rfl⟩,rfl,Nat.zero_le _,rfl⟩
 replace hO:al H (Γ++([(dK,⟨b4 m bb,true⟩)]++b2 (aF G7 0 0 3) [])):=hO
 rw[<- List.append_assoc]at hO;unfold qq at ag;by_cases U:eB m
 ·rw[if_pos U]at ag;have gI:=U;obtain⟨_,b7,g3,g4,g5,kO,g7,_,_,aCm⟩:=gI;rw[decide_eq_true U];refine eX rfl (ai ed (aZ hO (Γ.length+0) (aS (aC rfl)) (v:=bZ m.cz) rfl (auW hO (by omega) ?_)));clear hO;intro H ev db hO jZ;refine DK hO G8 jZ (by grind[uD,qn,wZ]) ?_;clear hO G8 jZ;intro H ec cp hO kl;rw[List.nil_append]at kl;refine ai ed (aZ hO (Γ.length+0) (aS (aC rfl)) (v:=bS .u64 m.dN) rfl (G0 (size:=8) hO (by omega) (by omega) ?_));clear hO;intro H ev db hO jZ;refine DK hO kl jZ (by grind[uD,qn,wZ]) ?_;clear hO kl jZ;intro H ec cp hO kl;refine ai ed (aZ hO (Γ.length+0) (aS (aC rfl)) (v:=int m.c0) rfl (cH (DL (by omega) (by omega)) (G0 (size:=4) hO (by omega) (by omega) ?_)));clear hO;intro H ev db hO jZ;refine DK hO kl jZ (by grind[uD,qn,wZ]) ?_;clear hO kl jZ;intro H ec cp hO kl;refine ai ed (aZ hO (Γ.length+0) (aS (aC rfl)) (v:=int m.aE) rfl (cH (DL (by omega) (by omega)) (G0 (size:=2) hO (by omega) (by omega) ?_)));clear hO;intro H ev db hO jZ;refine DK hO kl jZ (by grind[uD,qn,wZ]) ?_;clear hO kl jZ;intro H xY kA hO G8;refine ai ed (ai (xW hO (Γ.length+0) (aS (aC rfl)) (by omega) (by grind)) (te hO G8 (bg:=m.cq) (.inr ⟨dK,0+4,3,by rw[ok.dR],.inr rfl,.inr ⟨Γ.length+0,_,aC rfl,by rw[ok.dR];exact adT ok.dR⟩⟩) (by simp[uD,qn,wZ,ok.dR];omega) ?_))
  clear hO;intro H adV mr hO adW;refine ai ed (aZ hO (Γ.length+0) (aS (aC rfl)) uC (cH aA.cG ?_))
  replace hO:al H (Γ++b2 adV mr):=al.cf hO
  refine ap6 (fun k aG ab=>∃(y:Nat) (G9:Value) (nP:List Value),y<=m.a1.length/\k=m.a1.length-y/\aG=[bB,G9,bb,int m.a1.length,int y]/\al ab (Γ++b2 G9 nP)/\fI G9 (uD m.cz++fq 8 m.dN++fq 4 m.c0.toNat++fq 2 m.aE.toNat++m.cq++(m.a1.take y).flatten) nP) _ _ ?_ m.a1.length _ _ ⟨0,adV,mr,by omega,by omega,rfl,hO,by simpa using adW⟩;clear hO adW;rintro k aG H ⟨y,G9,nP,ba,rfl,rfl,hO,Rw⟩;unfold aaj
  try simp only[cR,cS]
  refine ai gj (bT (fun h=>?_) (fun h=>?_))
  ·have ba:y<m.a1.length:=by omega
   obtain⟨cM,cc,Ha,j0,rfl,bp⟩:=aA.bh (by omega);refine ai (ky (by omega) (by omega)) ?_;have zM:=ok.dS _ (List.getElem_mem ba);refine jM hO Ha (aS bp) (adU ok.dS ba) (by simp[zM]) (by omega) ?_;rw[zI];refine dT hO ?_;clear hO;intro yj H hO;refine gl hO (_+0) (aC rfl) (by simp) (by simp[zM]) (lT _) ?_;clear hO;intro H hO
   replace hO:=hO.cy
   refine ai (xW hO (_+0) (aC rfl) (by omega) (by simp[zM])) ?_;refine zi (bg:=m.a1[y]) hO Rw (by
    have ad:=Rv (m.a1.take y) fun x ao=>ok.dS x (List.mem_of_mem_take ao)
    rw[List.length_take]at ad;have:=ok.n;simp only[List.length_append,uD,qn,wZ,ok.dR,ad,zM];omega) zM.symm (.inr rfl) ?_
   clear hO;intro H v9 GI hO auY
   repeat refine bH ?_
   refine⟨m.a1.length-(y+1),by omega,y+1,v9,GI,by omega,rfl,rfl,hO,?_⟩;rw[arV ba,<- List.append_assoc];exact auY
  ·have e:y=m.a1.length:=by omega
   subst e;rw[List.take_of_length_le (Nat.le_refl _)]at Rw;exact ag H G9 nP hO Rw
 ·rw[if_neg U]at ag;rw[decide_eq_false U];exact fU rfl (ag H _ [] (al.cf hO) G8)
end J
namespace J
open Go Go.Ab
variable[cu:b0]
variable{H:au}{Γ:List (Nat×az)}{aa:VH}{v:Value}{aj b:List Int}{j p:Nat}{e:Int}{a:df}
def adX:List pa:=List.replicate 32 (.i .u8)
theorem adY:qU P 100 52=some adX:=by rfl
theorem Ln{s:List Int}(h:s.length=32):kX adX (bj s):=by have:=QJ s;rw[h]at this;exact this
theorem auZ{a b:List Int}(c:Bool)(br:a.length=32)(an:b.length=32):(ay P .eql 52 c).f (agg (bj a)) (agg (bj b))=some (.bool (decide (a=b))):=by rw[alI adY (by rfl) (by rfl) (Ln br) (Ln an),KY]
theorem adZ{a b:List Int}(c:Bool)(br:a.length=32)(an:b.length=32):(ay P .neq 52 c).f (agg (bj a)) (agg (bj b))=some (.bool (decide (a≠b))):=by rw[Xd adY (by rfl) (by rfl) (Ln br) (Ln an),KY];simp
theorem au0{a b:List UInt8}:(a==b)=decide (a=b):=by grind
def zN(aj:List Int)(e:Int):Int:=if e=0/\0<aj.length then 52 else e
theorem au1(hO:al H Γ)(bp:Γ[j]?=some (p,jD v e))(hv:cl Γ v aj)(ag:aa (int (zN aj e)) H):wCall P 258 [ak p 0] H aa:=by
 apply arv;unfold abQ;refine aY (aZ hO j bp rfl (ai fz ?_));unfold zN at ag;refine bT (fun h=>?_) (fun h=>?_)
 ·refine aY (aZ hO j bp rfl (cH hv.cG ?_))
  repeat refine bH ?_
  refine bT (fun af=>?_) (fun af=>?_)
  ·rw[if_pos ⟨h,by omega⟩]at ag;exact ag
  ·rw[if_neg (by omega)]at ag;exact aY (aZ hO j bp rfl ag)
 ·repeat (first|refine bH ?_|refine wL ?_)
  rw[if_neg (fun a7=>h a7.1)]at ag;exact aZ hO j bp rfl ag
end J
namespace J
open Go Go.Ab
variable[cu:b0]
variable{H:au}{Γ:List (Nat×az)}{aa:VH}{v x:Value}{aj bg:List Int}{j p n k gW:Nat}{e:Int}{l:List UInt8}
def hH(aj:List Int):List UInt8:=aj.map fun n=>UInt8.ofNat n.toNat
theorem au2(l:List UInt8):hH (mw l)=l:=by
 unfold hH mw;rw[List.map_map]
 conv=>rhs;rw[<- List.map_id l]
 grind[List.map_congr_left,UInt8.ofNat_toNat]
def qs(aj:List Int)(e:Int):Nat:=hJ (j6 aj e 2)
def kd(aj:List Int)(e:Int):List Int:=j6 (nQ aj e 2) (lj aj e 2) (qs aj e)
def j1(aj:List Int)(e:Int):List Int:=nQ (nQ aj e 2) (lj aj e 2) (qs aj e)
def kq(aj:List Int)(e:Int):Int:=lj (nQ aj e 2) (lj aj e 2) (qs aj e)
def vO(aj:List Int)(e:Int)(gW:Nat):Prop:=lj aj e 2=0/\gW<qs aj e
instance (aj:List Int) (e:Int) (gW:Nat):Decidable (vO aj e gW):=by unfold vO;exact inferInstance
def uE(aj:List Int)(e:Int)(gW:Nat):List Int:=if vO aj e gW then []else kd aj e
def og(aj:List Int)(e:Int)(gW:Nat):List Int:=if vO aj e gW then []else j1 aj e
def qt(aj:List Int)(e:Int)(gW:Nat):Int:=if vO aj e gW then 52 else kq aj e
theorem ad0(an:ct aj)(e:Int)(n:Nat):ct (j6 aj e n):=cl.bytes an n e
theorem zO(an:ct aj)(e:Int)(n:Nat):ct (nQ aj e n):=by
 unfold nQ;split
 ·exact fun x ao=>an x (List.mem_of_mem_drop ao)
 ·intro x ao;cases ao
theorem Lo(aj:List Int)(e:Int)(n:Nat):(nQ aj e n).length<=aj.length:=by grind[nQ]
theorem ad1{k:Nat}(an:ct aj)(e:Int):hJ (j6 aj e k)<256^k:=by grind[KV,ad0,KW,Nat.lt_of_lt_of_le,Nat.pow_le_pow_right]
theorem au3(an:ct aj)(e:Int):qs aj e<65536:=ad1 an e
theorem qo.trans{ev ec v3:Value}{zh Ge JX:List Int}(ad:qo ev zh ec Ge)(af:qo ec Ge v3 JX):qo ev zh v3 JX:=fun Γ h=>af Γ (ad Γ h)
theorem au4(hO:al H Γ)(bp:Γ[j]?=some (p,jD v e))(hv:cl Γ v aj)(an:ct aj)(ao:aj.length<=1000000)
  (ag:∀ab ec,al ab (Γ.set j (p,jD ec (qt aj e gW)))->qo v aj ec (og aj e gW)->aa (bZ (hH (uE aj e gW))) ab):wCall P 256 [ak p 0,int gW] H aa:=by
 apply art;unfold abO;have aX:=au3 an e;refine GJ (k:=2) (by omega) hO bp hv an ?_;clear hO;intro H ev hO i1;have Rx:=KQ (y:=(p,jD ev (lj aj e 2))) bp;have jZ:=i1 _ (KR (dE:=jD ev (lj aj e 2)) (lb:=p) hv bp (cl.lC hv));rw[show hJ (j6 aj e 2)=qs aj e from rfl];refine cH (DJ (k:=.u64) (by omega)) (gb (fun aG ab=>aG=[ak p 0,int (qs aj e),.bool (decide (vO aj e gW))]/\H=ab) ?_ ?_)
 ·refine aY (aZ hO j Rx (v:=int (lj aj e 2)) rfl (ai fz (bT (fun h=>?_) (fun h=>?_))))
  ·exact ai sl (ai (ju h) (⟨by simp_all[vO],rfl⟩))
  ·exact ai (kV h) (⟨by simp_all[vO],rfl⟩)
 rintro aG ab ⟨rfl,rfl⟩
 try simp only[cR,cS]
 unfold qt og uE at ag;refine bT (fun h=>?_) (fun h=>?_)
 ·simp only[if_pos h]at ag;refine aco hO Rx ?_;clear hO;intro H hO;rw[List.set_set,if_pos h.1]at hO;refine KT (aj:=[]) hO (KQ bp) .nil (by omega) ?_;clear hO;intro H v3 v4 hO nt i4;rw[List.set_set]at hO;have bn:lj [] 52 (qs aj e)=52:=by rfl
  have bF:nQ [] 52 (qs aj e)=[]:=by rfl
  have ey:j6 [] 52 (qs aj e)=[]:=by rfl
  rw[bn]at hO;rw[bF]at i4;rw[ey]at nt;exact cH (cl.bZ hO (nt _ .nil)) (ag H v4 hO (fun Γ _=>i4 Γ .nil))
 ·simp only[if_neg h]at ag;refine KT hO Rx jZ (by omega) ?_;clear hO;intro H v3 v4 hO nt i4;rw[List.set_set]at hO;exact cH (cl.bZ hO (nt _ (i1 _ (KR (dE:=jD v4 (kq aj e)) (lb:=p) hv bp (cl.lC hv))))) (ag H v4 hO (i1.trans i4))
def mO:List Int:=List.replicate 32 0
def o5(aj:List Int)(e:Int):List Int:=if e=0/\32<=aj.length then aj.take 32 else mO
theorem w0:(o5 aj e).length=32:=by
 unfold o5;split
 ·simp_all
 ·rfl
theorem ad2(an:ct aj):ct (o5 aj e):=by
 unfold o5;split
 ·exact fun x ao=>an x (List.mem_of_mem_take ao)
 ·exact GW
theorem Ry:dq P 52=bj mO:=by rfl
theorem au5:(bj mO).take 0++(bj (j6 aj e 32)++(bj mO).drop (0+(j6 aj e 32).length))=bj (o5 aj e):=by
 unfold o5 j6;split
 ·simp_all[mO]
 rfl
theorem ad3(hO:al H Γ)(bp:Γ[j]?=some (p,jD v e))(hv:cl Γ v aj)(ao:aj.length<=1000000)
  (ag:∀ab ec,al ab (Γ.set j (p,jD ec (lj aj e 32)))->qo v aj ec (nQ aj e 32)->aa (agg (bj (o5 aj e))) ab):wCall P 257 [ak p 0] H aa:=by
 apply aru;unfold abP;have qM:=(List.getElem?_eq_some_iff.1 bp).1;rw[Ry];refine j8 hO.z ?_;clear hO;intro bI H hO;refine j8 hO ?_;clear hO;intro fm H hO
 replace hO:al H (Γ++[(bI,⟨bj mO,true⟩),(fm,⟨bj mO,true⟩)]):=hO
 refine ai (G1 hO 1 rfl (by rfl) (by omega)) (ar9 (n:=32) hO (aS bp) hv.bo (by omega) ao ?_);intro bw ec aQ cC dJ j4 dv;rw[show acr (Γ++[(bI,(⟨bj mO,true⟩:az)),(fm,⟨bj mO,true⟩)]) j p aj e 32 ec=Γ.set j (p,jD ec (lj aj e 32))++[(bI,⟨bj mO,true⟩),(fm,⟨bj mO,true⟩)]from List.set_append_left _ _ qM]at dJ;refine⟨ha hO (Γ.length+1) (aC rfl) dJ ((Γ.set j (p,jD ec (lj aj e 32))).length+1) (aS (aC rfl)) (zB _),?_⟩;clear hO
 replace ag:=ag (ec:=ec)
 generalize Γ.set j (p,jD ec (lj aj e 32))=Γ at*;have s0:=KW aj e 32;refine Rf dJ (i:=Γ.length+1) (aS (aC rfl)) (bg:=j6 aj e 32) dv.lR.jv s0 (by simp[mO]) ?_;clear dJ;intro H hO;rw[List.set_append_left _ _ (by simp),Go.Ab.cy,au5]at hO
 replace hO:al H (Γ++[(bI,⟨bj mO,true⟩),(fm,⟨bj (o5 aj e),true⟩)]):=hO.left
 refine jj hO 1 rfl (by simp[w0]) (by omega) (lo hO 0 rfl (by rfl) (by simp[w0]) (lT _) ?_);clear hO;intro H hO;exact jj hO 0 rfl (by simp[w0]) (by omega) (ag H hO.left j4)
end J
namespace J
open Go Go.Ab
variable[cu:b0]
variable{H:au}{Γ:List (Nat×az)}{aa:VH}{v x bb kE:Value}{b:List Int}{p q n k gW:Nat}{ar:List Value}{l:List UInt8}{a1:List (List Int)}
abbrev iU:=List Int×Int
def eh(n:Nat)(s:iU):iU:=(nQ s.1 s.2 n,lj s.1 s.2 n)
def kG(n:Nat)(s:iU):List Int:=j6 s.1 s.2 n
def aw(s:iU):List Int:=o5 s.1 s.2
def je:Nat->iU->iU
 | 0,s=>s
 | n+1,s=>eh 32 (je n s)
def iV:Nat->iU->List (List Int)
 | 0,_=>[]
 | n+1,s=>iV n s++[aw (je n s)]
def ia(t:List Int)(s:iU):df:=⟨hH t,hJ (kG 8 s),(hJ (kG 4 (eh 8 s)):Int),(hJ (kG 2 (eh 4 (eh 8 s))):Int),aw (eh 2 (eh 4 (eh 8 s))),[]⟩
def jk(s:iU):iU:=eh 32 (eh 2 (eh 4 (eh 8 s)))
def eW:df:=⟨[],0,0,0,mO,[]⟩
def sH(h:df)(c:List (List Int)):df:={h with a1:=c}
def lY(h:df):Nat:=(min (l9 h.c0 h.aE) 65).toNat
def yk(t:List Int)(s:iU):df:=sH (ia t s) (iV (lY (ia t s)) (jk s))
def BV(t:List Int)(s:iU):iU:=je (lY (ia t s)) (jk s)
def Lp(t:List Int)(s:iU):Prop:=zN (BV t s).1 (BV t s).2=0/\eB (yk t s)
instance (t:List Int) (s:iU):Decidable (Lp t s):=by unfold Lp;exact inferInstance
def zP(t:List Int)(s:iU):df×Int:=if Lp t s then(yk t s,0)else(eW,131)
def lZ(b:List Int):df×Int:=zP (uE b 0 96) (og b 0 96,qt b 0 96)
theorem mP{s:iU}(h:ct s.1){n:Nat}:ct (eh n s).1:=zO h _ _
theorem Hb{s:iU}{n:Nat}:(eh n s).1.length<=s.1.length:=Lo _ _ _
theorem ad4{s:iU}(h:ct s.1):∀n,ct (je n s).1
 | 0=>h
 | n+1=>mP (ad4 h n)
theorem ad5{s:iU}:∀n,(je n s).1.length<=s.1.length
 | 0=>Nat.le_refl _
 | n+1=>Nat.le_trans Hb (ad5 n)
theorem Lq{s:iU}:∀n,(iV n s).length=n
 | 0=>rfl
 | n+1=>by show(iV n s++[_]).length=_;rw[List.length_append,Lq n];rfl
theorem ad6{s:iU}:∀n,∀x∈iV n s,x.length=32
 | 0,_,h=>by cases h
 | n+1,x,h=>by
  rcases List.mem_append.1 (show x∈iV n s++[aw (je n s)]from h)with h|h
  ·exact ad6 n x h
  ·rw[List.mem_singleton.1 h];exact w0
theorem ad7{s:iU}(an:ct s.1):∀n,∀x∈iV n s,ct x
 | 0,_,h=>by cases h
 | n+1,x,h=>by
  rcases List.mem_append.1 (show x∈iV n s++[aw (je n s)]from h)with h|h
  ·exact ad7 an n x h
  ·rw[List.mem_singleton.1 h];exact ad2 (ad4 an n)
theorem Ey{s:iU}(an:ct s.1)(k:Nat):hJ (kG k s)<256^k:=ad1 an s.2
theorem ad8{t:List Int}{s:iU}(an:ct s.1)(ht:t.length<=10000){n:Nat}(aX:n<=10000){lH:iU}(bl:ct lH.1):(sH (ia t s) (iV n lH)).b1:=by
 have dA:=Ey an 8;have aO:=Ey (s:=eh 8 s) (mP an) 4;have af:=Ey (s:=eh 4 (eh 8 s)) (mP (mP an)) 2;refine⟨w0,ad2 (mP (mP (mP an))),ad6 n,ad7 bl n,dA,?_,?_,?_,?_⟩
 ·show-9223372036854775808<=((hJ (kG 4 (eh 8 s)):Nat):Int)/\((hJ (kG 4 (eh 8 s)):Nat):Int)<=9223372036854775807;omega
 ·show-9223372036854775808<=((hJ (kG 2 (eh 4 (eh 8 s))):Nat):Int)/\((hJ (kG 2 (eh 4 (eh 8 s))):Nat):Int)<=9223372036854775807;omega
 ·show(iV n lH).length<=_
  grind[Lq]
 ·show(hH t).length<=_
  simp_all[hH]
theorem BW:eW.b1:=⟨rfl,GW,(by intro x h;cases h),(by intro x h;cases h),by decide,by decide,by decide,by decide,by decide⟩
theorem Ez:dq P 55=b4 eW bB:=by rfl
theorem Lr:(di P 55).f []=some (agg (b4 eW bB)):=by rfl
theorem au6(s:ByteArray)(n:Nat)(x y:Int):(di P 55).f [(0,.string s),(1,bS .u64 n),(2,int x),(3,int y)]=some (agg (b4 ⟨s.data.toList,n,x,y,mO,[]⟩ bB)):=by rfl
theorem ad9(h:List Int)(aD:h.length=32)(H:au):(eY P 53 1).f [(0,agg (bj h))] H=some (aF H.next 0 1 65,H.push (bj h)):=by
 match h,aD with
 | [a0,dm,da,a3,a4,a5,lF,np,pI,a9,Rz,RA,RB,RC,RD,RE,Bv,RF,RG,RH,a20,a21,RI,RJ,RK,RL,RM,RN,RO,RP,RQ,RR],_=>rfl
theorem au7{h:df}{d:List Int}(aJ:h.cq.length=32)(aD:d.length=32):(b4 h bb).take (0+4)++(dp (agg (bj d))++(b4 h bb).drop (0+4+32))=b4 {h with cq:=d} bb:=by show [bZ h.cz,bS .u64 h.dN,int h.c0,int h.aE]++(bj d++(bj h.cq++[bb]).drop 32)=_;rw[List.drop_append_of_le_length (by simp[aJ]),List.drop_of_length_le (by simp[aJ])];rfl
theorem au8{h:df}(aJ:h.cq.length=32):(b4 h bb).set (0+36) kE=b4 h kE:=by show bZ h.cz::bS .u64 h.dN::int h.c0::int h.aE::(bj h.cq++[bb]).set 32 kE=_;rw[List.set_append_right _ _ (by simp[aJ])];simp[aJ];rfl
theorem aea{l:List (List Int)}(h:jN 32 v l.length (hK l)):fR (b2 v (hK l)) v l:=by
 rcases h with⟨rfl,aR,_⟩|⟨p,rfl|rfl,_⟩
 ·exact .inl ⟨rfl,List.length_eq_zero_iff.1 aR⟩
 ·exact .inr ⟨p,_,0,true,rfl,rfl⟩
 ·exact .inr ⟨p,_,0,true,rfl,rfl⟩
theorem RS{l:List (List Int)}{x:List Int}:hK (l++[x])=hK l++bj x:=by simp[hK]
theorem RT{size n:Nat}(h:jN size v n ar):fH v=true/\eP v=true:=by rcases h with⟨rfl,_⟩|⟨p,rfl|rfl,_⟩<;>exact⟨rfl,rfl⟩
theorem au9(hO:al H Γ)(hv:cl Γ v b)(an:ct b)(ao:b.length<=9000)
  (ag:∀ab bb,al ab (Γ++b2 bb (hK (lZ b).1.a1))->fR (b2 bb (hK (lZ b).1.a1)) bb (lZ b).1.a1->aa (.tuple [agg (b4 (lZ b).1 bb),int (lZ b).2].toArray) ab):wCall P 232 [v] H aa:=by
 apply aq6;unfold abu;rw[Ez];refine j8 hO.z ?_;clear hO;intro bI H hO;refine acn hO hv.bo ?_;clear hO;intro H dI hO
 replace hO:al H (Γ++[(bI,⟨b4 eW bB,true⟩),(dI,jD v 0)]):=hO.as
 have s0:(uE b 0 96).length<=10000:=by grind[uE,kd,j6,Lo]
 refine au4 (gW:=96) hO (aC (k:=1) rfl) hv.bo an (by omega) ?_;clear hO;intro H ev hO i1
 replace hO:al H (Γ++[(bI,⟨b4 eW bB,true⟩),(dI,jD ev (qt b 0 96))]):=hO.cy
 replace hv:=i1 _ hv
 have jX:ct (og b 0 96):=by
  unfold og j1;split
  ·intro x h;cases h
  ·exact zO (zO an _ _) _ _
 have mf:(og b 0 96).length<=b.length:=by grind[og,j1,Lo]
 unfold lZ at ag
 replace hO:al H (Γ++[(bI,⟨b4 eW bB,true⟩),(dI,jD ev (og b 0 96,qt b 0 96).2)]):=hO
 replace hv:cl Γ ev (og b 0 96,qt b 0 96).1:=hv
 replace jX:ct (og b 0 96,qt b 0 96).1:=jX
 replace mf:(og b 0 96,qt b 0 96).1.length<=b.length:=mf
 generalize uE b 0 96=t at*;generalize ((og b 0 96,qt b 0 96):iU)=s at*;clear i1 an;have dA:=Ey jX 8;refine GJ (k:=8) (by omega) hO (aC (k:=1) rfl) hv.bo jX ?_;clear hO;intro H ec hO j4
 replace hO:al H (Γ++[(bI,⟨b4 eW bB,true⟩),(dI,jD ec (eh 8 s).2)]):=hO.cy
 replace hv:cl Γ ec (eh 8 s).1:=j4 _ hv
 have aO:=Ey (s:=eh 8 s) (mP jX) 4;refine GJ (k:=4) (by omega) hO (aC (k:=1) rfl) hv.bo (mP jX) ?_;clear hO j4;intro H v3 hO nt
 replace hO:al H (Γ++[(bI,⟨b4 eW bB,true⟩),(dI,jD v3 (eh 4 (eh 8 s)).2)]):=hO.cy
 replace hv:cl Γ v3 (eh 4 (eh 8 s)).1:=nt _ hv
 refine cH (DJ (k:=.u64) (show hJ (kG 4 (eh 8 s))<=_ by omega)) ?_;have af:=Ey (s:=eh 4 (eh 8 s)) (mP (mP jX)) 2;refine GJ (k:=2) (by omega) hO (aC (k:=1) rfl) hv.bo (mP (mP jX)) ?_;clear hO nt;intro H v4 hO i4
 replace hO:al H (Γ++[(bI,⟨b4 eW bB,true⟩),(dI,jD v4 (eh 2 (eh 4 (eh 8 s))).2)]):=hO.cy
 replace hv:cl Γ v4 (eh 2 (eh 4 (eh 8 s))).1:=i4 _ hv
 refine cH (DJ (k:=.u64) (show hJ (kG 2 (eh 4 (eh 8 s)))<=_ by omega)) (ai (au6 _ _ _ _) (j8 hO ?_));clear hO i4;intro fx H hO;refine lo hO 2 rfl (by rfl) (by rfl) (pg rfl) ?_;clear hO;intro H hO
 replace hO:al H (Γ++[(bI,⟨b4 eW bB,true⟩),(dI,jD v4 (eh 2 (eh 4 (eh 8 s))).2),(fx,⟨b4 ⟨hH t,hJ (kG 8 s),(hJ (kG 4 (eh 8 s)):Int),(hJ (kG 2 (eh 4 (eh 8 s))):Int),mO,[]⟩ bB,true⟩)]):=hO
 have KF:(eh 2 (eh 4 (eh 8 s))).1.length<=9000:=Nat.le_trans Hb (Nat.le_trans Hb (Nat.le_trans Hb (by omega)));refine ad3 hO (aC (k:=1) rfl) hv.bo (by omega) ?_;clear hO;intro H v5 hO l5
 replace hO:al H (Γ++[(bI,⟨b4 eW bB,true⟩),(dI,jD v5 (jk s).2),(fx,⟨b4 ⟨hH t,hJ (kG 8 s),(hJ (kG 4 (eh 8 s)):Int),(hJ (kG 2 (eh 4 (eh 8 s))):Int),mO,[]⟩ bB,true⟩)]):=hO.cy
 replace hv:cl Γ v5 (jk s).1:=l5 _ hv
 refine ai ed (o9 hO (Γ.length+2) (aC rfl) (show(bj (o5 _ _)).length=32 by simp_all[w0]) (by show 0+4+32<=(b4 _ _).length;rw[e1 rfl];omega) (lT _) ?_);clear hO l5;intro H hO;rw[au7 rfl w0]at hO
 replace hO:al H (Γ++[(bI,⟨b4 eW bB,true⟩),(dI,jD v5 (jk s).2),(fx,⟨b4 (ia t s) bB,true⟩)]):=hO.cy
 have aJ:(ia t s).cq.length=32:=w0;have ava:ct (jk s).1:=mP (mP (mP (mP jX)));have aCn:(jk s).1.length<=9000:=Nat.le_trans Hb KF;refine ai ed (cI hO 2 rfl (v:=int (ia t s).c0) rfl (ai ed (cI hO 2 rfl (v:=int (ia t s).aE) rfl ?_)));have aCo:(ia t s).c0<=4294967295:=by show((hJ (kG 4 (eh 8 s)):Nat):Int)<=_;omega
 have aCp:(ia t s).aE<=65535:=by show((hJ (kG 2 (eh 4 (eh 8 s))):Nat):Int)<=_;omega
 refine adQ (by omega) (by omega) (cH vy ?_);have IZ:=Rs (s:=(ia t s).c0) (c:=(ia t s).aE);have avb:lY (ia t s)<=65:=by grind[lY]
 rw[show min (l9 (ia t s).c0 (ia t s).aE) 65=((lY (ia t s):Nat):Int) by grind[lY]];have fC:∀n,n<=65->(sH (ia t s) (iV n (jk s))).b1:=fun n aX=>ad8 jX s0 (by omega) ava
 have avc:zN (je (lY (ia t s)) (jk s)).1 (je (lY (ia t s)) (jk s)).2=0/\eB (sH (ia t s) (iV (lY (ia t s)) (jk s)))->∀ab bb,al ab (Γ++b2 bb (hK (iV (lY (ia t s)) (jk s))))->fR (b2 bb (hK (iV (lY (ia t s)) (jk s)))) bb (iV (lY (ia t s)) (jk s))->aa (.tuple [agg (b4 (sH (ia t s) (iV (lY (ia t s)) (jk s))) bb),int 0].toArray) ab:=by intro h;rw[show zP t s=(yk t s,0)from if_pos h]at ag;exact ag
 have avd:¬(zN (je (lY (ia t s)) (jk s)).1 (je (lY (ia t s)) (jk s)).2=0/\eB (sH (ia t s) (iV (lY (ia t s)) (jk s))))->∀ab,al ab Γ->aa (.tuple [agg (b4 eW bB),int 131].toArray) ab:=by intro h ab hO;rw[show zP t s=(eW,131)from if_neg h]at ag;exact ag ab bB hO.z (.inl ⟨rfl,rfl⟩)
 clear ag;generalize lY (ia t s)=N at*;generalize ia t s=h at*;generalize jk s=lH at*;clear dA aO af KF;refine aq5 (fun k aG ab=>∃(y:Nat) (bb v:Value),y<=N/\k=N-y/\aG=[ak bI 0,int 0,ak dI 0,ak fx 0,int N,int y]/\al ab ((Γ++[(bI,⟨b4 eW bB,true⟩),(dI,jD v (je y lH).2),(fx,⟨b4 h bb,true⟩)])++b2 bb (hK (iV y lH)))/\jN 32 bb y (hK (iV y lH))/\cl Γ v (je y lH).1) _ _ ?_ N _ _ ⟨0,bB,v5,by omega,by omega,rfl,hO.z,.nil,hv⟩;clear hO hv;rintro k aG H ⟨y,bb,v,ba,rfl,rfl,hO,zQ,hv⟩;unfold abt
 try simp only[cR,cS]
 refine ai gj (bT (fun ea=>?_) (fun ea=>?_))
 ·have ba:y<N:=by omega
  obtain⟨oh,l4⟩:=RT zQ;refine ai ed (aZ hO (Γ.length+2) (aS (aC rfl)) (uB aJ) (ad3 hO (aS (aC (k:=1) rfl)) hv.bo.bo (Nat.le_trans (ad5 y) (by omega)) ?_));intro bw xY dJ zz;rw[List.set_append_left _ _ (by simp),Go.Ab.cy]at dJ
  replace dJ:al bw ((Γ++[(bI,⟨b4 eW bB,true⟩),(dI,jD xY (je (y+1) lH).2),(fx,⟨b4 h bb,true⟩)])++b2 bb (hK (iV y lH))):=dJ
  refine⟨ha hO (Γ.length+2) (aS (aC rfl)) dJ (Γ.length+2) (aS (aC rfl)) (zL oh),?_⟩;clear hO;refine ih dJ (ad9 _ w0 _) ?_;clear dJ;intro q H hO;refine Ej hO zQ (by simp[w0]) (by omega) (lT _) (by omega) (by omega) ?_;clear hO;intro oi H hO zR
  replace hO:al H ((Γ++[(bI,⟨b4 eW bB,true⟩),(dI,jD xY (je (y+1) lH).2),(fx,⟨b4 h bb,true⟩)])++b2 oi (hK (iV (y+1) lH))):=by show al H (_++b2 oi (hK (iV y lH++[aw (je y lH)])));rw[RS];exact hO
  replace zR:jN 32 oi (y+1) (hK (iV (y+1) lH)):=by show jN 32 oi (y+1) (hK (iV y lH++[aw (je y lH)]));rw[RS];exact zR
  refine ai ed (fQ hO (Γ.length+2) (aS (aC rfl)) (RT zR).2 (by grind[e1]) (au8 aJ) ?_);clear hO;intro H hO;rw[List.set_append_left _ _ (by simp),Go.Ab.cy]at hO
  repeat refine bH ?_
  exact⟨N-(y+1),by omega,y+1,oi,xY,by omega,rfl,rfl,hO,zR,zz _ hv⟩
 ·have lW:y=N:=by omega
  subst lW;refine kW rfl ?_
  try simp only[cR,cS]
  have JT:=Lq (s:=lH) y;have lQ:fR (b2 bb (hK (iV y lH))) bb (sH h (iV y lH)).a1:=aea (by rw[JT];exact zQ);have BX:=fC y avb;refine gb (fun aG ab=>aG=[ak bI 0,ak fx 0,.bool (decide (¬(zN (je y lH).1 (je y lH).2=0/\eB (sH h (iV y lH)))))]/\al ab ((Γ++[(bI,⟨b4 eW bB,true⟩),(dI,jD v (je y lH).2),(fx,⟨b4 h bb,true⟩)])++b2 bb (hK (iV y lH)))) ?_ ?_
  ·refine au1 hO (aS (aC (k:=1) rfl)) hv.bo.bo (ai jh (bT (fun ad=>?_) (fun ad=>?_)))
   ·exact ai (ju ad) (⟨by simp_all,hO⟩)
   ·refine jM hO (Γ.length+2) (aS (aC rfl)) (show _=b4 (sH h (iV y lH)) bb from by rw[List.drop_zero];exact List.take_of_length_le (by grind[e1])) (e1 aJ) (by omega) (Ex BX lQ.jv hO ?_);clear hO;intro H hO;refine ai jt (ai (kV ad) (⟨?_,hO⟩))
    simp_all
  clear hO;rintro aG H ⟨rfl,hO⟩
  try simp only[cR,cS]
  refine bT (fun ad=>?_) (fun ad=>?_)
  ·refine ai Lr ?_
   replace hO:=hO.left
   refine lo hO 0 rfl (by rfl) (by rfl) (pg rfl) ?_;clear hO;intro H hO;exact jj hO 0 rfl (by rfl) (by omega) (avd ad H hO.left)
  ·refine jM hO (Γ.length+2) (aS (aC rfl)) (show _=b4 (sH h (iV y lH)) bb from by rw[List.drop_zero];exact List.take_of_length_le (by grind[e1])) (e1 aJ) (by omega) (gl hO (Γ.length+0) (aS (aC rfl)) (by rfl) (e1 aJ) (pg (RT zQ).2) ?_);clear hO;intro H hO;rw[List.set_append_left _ _ (by simp),Go.Ab.cy]at hO;exact jM hO (Γ.length+0) (aS (aC rfl)) (show _=b4 (sH h (iV y lH)) bb from by simp_all[List.take_of_length_le,e1,sH]) (e1 aJ) (by omega) (avc (Classical.not_not.1 ad) H bb (al.cf hO) lQ)
end J
namespace J
open Go Go.Ab
variable[cu:b0]
variable{H:au}{Γ b8:List (Nat×az)}{v x:Value}{b:List Int}{j p o n:Nat}{l:List UInt8}{m a:df}
def pR(Γ:List (Nat×az))(v:Value):Prop:=v=bB\/∃(p o n c j:Nat) (b:az),v=aF p o n c/\Γ[j]?=some (p,b)/\b.cells.all fH=true/\(b.wr=true\/b.cells≠[])
theorem pR.bo(h:pR Γ v):pR (Γ++b8) v:=by
 rcases h with h|⟨p,o,n,c,j,b,ad,af,ax⟩
 ·exact .inl h
 ·exact .inr ⟨p,o,n,c,j,b,ad,aS af,ax⟩
theorem pR.kL{ab:au}(h:pR Γ v)(hO:al H Γ)(iR:al ab (Γ++b8)):ei (dZ H ab) (cd [v]):=by
 rcases h with rfl|⟨p,o,n,c,j,b,rfl,af,ax,aO⟩
 ·rfl
 ·exact ha (o:=o) hO j af iR j (aS af) ax aO
def sI:Nat->iU->Nat
 | 0,_=>0
 | f+1,s=>if s.1=[]then 0 else sI f (eh 32 s)+1
theorem Hc{s:iU}:∀n,je n (eh 32 s)=je (n+1) s
 | 0=>rfl
 | n+1=>by show eh 32 (je n (eh 32 s))=_;rw[Hc n];rfl
def EA(t:List Int)(s:iU):df:=sH (ia t s) (iV (sI 65 (jk s)) (jk s))
def EB(b t:List Int)(s:iU):Prop:=(je (sI 65 (jk s)) (jk s)).2=0/\qq (EA t s)=b/\b≠[]
instance (b t:List Int) (s:iU):Decidable (EB b t s):=by unfold EB;exact inferInstance
def Ls(b t:List Int)(s:iU):df×Int:=if EB b t s then(EA t s,0)else(eW,131)
def RU(b:List Int):df×Int:=Ls b (kd b 0) (j1 b 0,kq b 0)
theorem ave{a b:List Int}(br:ct a)(an:ct b)(h:hH a=hH b):a=b:=by have ad:=Ru a br;have af:=Ru b an;rw[<- ad,<- af];exact congrArg mw h
theorem Hd(y n:Nat):ct (fq y n):=by intro x ao;obtain⟨i,_,rfl⟩:=List.mem_map.1 ao;omega
theorem avf:∀ {l:List (List Int)},(∀x∈l,ct x)->ct l.flatten:=by
 intro l h x ao
 grind[List.mem_flatten]
theorem avg(ok:m.b1):ct (qq m):=by
 unfold qq;split
 ·exact nw (nw (nw (nw (nw (nw (Hd _ _) auS) (Hd _ _)) (Hd _ _)) (Hd _ _)) ok.Rr) (avf ok.fV)
 ·intro x h;cases h
end J
namespace J
open Go Go.Ab
variable[cu:b0]
variable{aj bs b t:List Int}{n:Nat}{e:Int}{l:List UInt8}{m:df}{s:iU}
theorem aeb(k n:Nat):fq (k+1) n=((n%256:Nat):Int)::fq k (n/256):=by
 unfold fq;rw[List.range_succ_eq_map,List.map_cons,List.map_map]
 congr 1
 ·simp
 ·refine List.map_congr_left fun i _=>?_
  show((n/256^(i+1)%256:Nat):Int)=_;rw[Nat.pow_succ,Nat.mul_comm,Nat.div_div_eq_div_mul]
theorem RV:∀(bs:List Int),ct bs->fq bs.length (hJ bs)=bs
 | [],_=>rfl
 | x::r,h=>by
  have ao:=h x List.mem_cons_self;have bd:=RV r fun y ba=>h y (List.mem_cons_of_mem _ ba)
  show fq (r.length+1) (x.toNat+256*hJ r)=x::r;rw[aeb,show(x.toNat+256*hJ r)/256=hJ r by omega,bd,show(x.toNat+256*hJ r)%256=x.toNat by omega]
  congr 1;omega
theorem Lt:∀(k n:Nat),n<256^k->hJ (fq k n)=n
 | 0,n,h=>by simp at h;subst h;rfl
 | k+1,n,h=>by rw[aeb];show(((n%256:Nat):Int)).toNat+256*hJ (fq k (n/256))=n;rw[Lt k (n/256) (by rw[Nat.pow_succ]at h;omega)];omega
theorem pS(h:(eh n s).2=0):s.2=0/\s.1=kG n s++(eh n s).1/\(kG n s).length=n:=by
 have aA:s.2=0/\n<=s.1.length:=by
  have h:lj s.1 s.2 n=0:=h
  grind[lj]
 refine⟨aA.1,?_,?_⟩
 ·show s.1=j6 s.1 s.2 n++nQ s.1 s.2 n
  simp_all[j6,nQ]
 ·show(j6 s.1 s.2 n).length=n
  simp_all[j6]
theorem BY{a r:List Int}(h:a.length=n):eh n (a++r,0)=(r,0)/\kG n (a++r,0)=a:=by
 have aA:(0:Int)=0/\n<=(a++r).length:=⟨rfl,by simp_all⟩;refine⟨?_,?_⟩
 ·show(nQ (a++r) 0 n,lj (a++r) 0 n)=_
  simp_all[nQ,lj]
 ·show j6 (a++r) 0 n=a
  simp_all[j6]
theorem Lu(h:(eh 32 s).2=0):aw s=kG 32 s:=by
 obtain⟨ad,af,ax⟩:=pS h;have aD:32<=s.1.length:=by simp_all
 show o5 s.1 s.2=j6 s.1 s.2 32
 simp_all[o5,j6]
theorem He:∀n,(je n s).2=0->s.2=0/\s.1=(iV n s).flatten++(je n s).1
 | 0,h=>⟨h,rfl⟩
 | n+1,h=>by
  obtain⟨ad,af,ax⟩:=pS (s:=je n s) (n:=32) h;obtain⟨bX,b7⟩:=He n ad;refine⟨bX,?_⟩;show s.1=(iV n s++[aw (je n s)]).flatten++(je (n+1) s).1;rw[List.flatten_append,List.append_assoc,Lu h]
  conv=>lhs;rw[b7,af]
  simp;rfl
theorem aec{s:iU}:∀n,iV (n+1) s=aw s::iV n (eh 32 s)
 | 0=>rfl
 | n+1=>by show iV (n+1) s++[aw (je (n+1) s)]=aw s::(iV n (eh 32 s)++[aw (je n (eh 32 s))]);rw[aec n,Hc n];rfl
theorem aed:∀(a1:List (List Int)) (r:List Int),(∀x∈a1,x.length=32)->je a1.length (a1.flatten++r,0)=(r,0)/\iV a1.length (a1.flatten++r,0)=a1
 | [],r,_=>⟨rfl,rfl⟩
 | c::ar,r,h=>by
  obtain⟨i1,j4⟩:=aed ar r fun x ao=>h x (List.mem_cons_of_mem _ ao)
  obtain⟨qX,oc⟩:=BY (n:=32) (a:=c) (r:=ar.flatten++r) (h c List.mem_cons_self);rw[List.flatten_cons,List.append_assoc,List.length_cons,<- Hc,aec,qX,i1,j4,Lu (by rw[qX]),oc];exact⟨rfl,rfl⟩
def zS(m:df):List Int:=uD m.cz++fq 8 m.dN++fq 4 m.c0.toNat++fq 2 m.aE.toNat++m.cq++m.a1.flatten
theorem RW(h:eB m):qq m=zS m:=if_pos h
theorem avh:zS m≠[]:=by
 intro h;have:=congrArg List.length h
 grind[zS,qn]
theorem Lv{s:iU}{k:Nat}(h:(eh k s).2=0)(an:ct s.1):fq k (hJ (kG k s))=kG k s:=by grind[pS,RV]
theorem avi{t:List Int}{s:iU}{N:Nat}(iI:ct s.1)(ht:ct t)(s0:t.length<65536)(h:(je N (jk s)).2=0):
  s.2=0/\fq 2 t.length++t++s.1=zS (sH (ia t s) (iV N (jk s)))++(je N (jk s)).1:=by
 obtain⟨bl,hQ⟩:=He N h;have aee:=mP (n:=8) iI;have aef:=mP (n:=4) aee;have pB:=mP (n:=2) aef;obtain⟨aO,i6,su⟩:=pS (s:=eh 2 (eh 4 (eh 8 s))) (n:=32) bl;obtain⟨ax,ey,aCq⟩:=pS (s:=eh 4 (eh 8 s)) (n:=2) aO;obtain⟨af,bF,zf⟩:=pS (s:=eh 8 s) (n:=4) ax;obtain⟨ad,bn,um⟩:=pS (s:=s) (n:=8) af;refine⟨ad,?_⟩;have aCr:=Lv (k:=8) af iI;have aCs:=Lv (k:=4) ax aee;have e3:=Lv (k:=2) aO aef;have aCt:aw (eh 2 (eh 4 (eh 8 s)))=kG 32 (eh 2 (eh 4 (eh 8 s))):=Lu bl;show _=(fq 2 (hH t).length++mw (hH t))++fq 8 (hJ (kG 8 s))++fq 4 ((hJ (kG 4 (eh 8 s)):Nat):Int).toNat++fq 2 ((hJ (kG 2 (eh 4 (eh 8 s))):Nat):Int).toNat++aw (eh 2 (eh 4 (eh 8 s)))++(iV N (jk s)).flatten++(je N (jk s)).1
 grind[Int.toNat_natCast,hH,Ru,jk]
theorem aeg:∀(N f:Nat) (s:iU),N<=f->(je N s).2=0->(je N s).1=[]->sI f s=N
 | 0,f,s,_,_,h=>by
  cases f with
  | zero=>rfl
  | succ f=>unfold sI;rw[if_pos (show s.1=[]from h)]
 | N+1,0,s,h,_,_=>by omega
 | N+1,f+1,s,hf,he,U=>by
  rw[<- Hc N]at he U;have bd:=aeg N f (eh 32 s) (by omega) he U;have bl:=(He N he).1;obtain⟨_,b7,g3⟩:=pS bl;unfold sI;rw[if_neg,bd];intro aR
  simp_all
theorem aeh:∀(f:Nat) (s:iU),sI f s<f->(je (sI f s) s).1=[]
 | 0,s,h=>by omega
 | f+1,s,h=>by
  unfold sI at h⊢;split
  ·assumption
  ·rename_i aR;rw[if_neg aR]at h;have bd:=aeh f (eh 32 s) (by omega);rw[Hc]at bd;exact bd
theorem aei:∀(n:Nat) (l:List UInt8),l.length<=n->l.length<=4*(sC n l).length
 | 0,l,h=>by omega
 | n+1,l,h=>by
  unfold sC;split
  ·simp_all
  ·rename_i aR;have aM:=Lk aR;have aCu:pQ l<=4:=by
    unfold pQ;split
    ·omega
    grind[Ro]
   have bd:=aei n (l.drop (pQ l)) (by grind)
   grind
theorem Lw(h:sG l=0):l.length<=96:=by
 unfold sG at h;rw[<- adP]at h;unfold G5 at h;split at h
 ·omega
 ·have:=aei l.length l (Nat.le_refl _)
  grind[sD]
theorem avj(h:zN aj e=0):e=0/\aj=[]:=by
 unfold zN at h;split at h
 ·omega
 simp_all
theorem aej(an:ct b)(h:kq b 0=0):fq 2 (kd b 0).length++kd b 0++j1 b 0=b/\(kd b 0).length=qs b 0/\lj b 0 2=0:=by
 obtain⟨ad,af,ax⟩:=pS (s:=(nQ b 0 2,lj b 0 2)) (n:=qs b 0) h;obtain⟨bX,b7,g3⟩:=pS (s:=(b,0)) (n:=2) ad;have Ki:(kd b 0).length=qs b 0:=ax;refine⟨?_,Ki,ad⟩;have aM:=Lv (s:=(b,0)) (k:=2) ad an
 grind[qs,kG,nQ,kd,j1]
theorem avk(an:ct b):lZ b=RU b:=by
 have xy:ct (kd b 0):=ad0 (zO an _ _) _ _;have Gv:ct (j1 b 0):=zO (zO an _ _) _ _;unfold lZ RU;by_cases bM:Lp (uE b 0 96) (og b 0 96,qt b 0 96)
 ·-- the eS reads Av
  have rp:=bM;obtain⟨ad,af⟩:=rp;obtain⟨ax,aO⟩:=avj ad;have k2:¬vO b 0 96:=by
   intro k2;have:(og b 0 96,qt b 0 96).2=0:=by have bl:=(He _ ax).1;exact(pS (pS (pS (pS bl).1).1).1).1
   simp_all[qt]
  have bn:uE b 0 96=kd b 0:=if_neg k2;have bF:og b 0 96=j1 b 0:=if_neg k2;have ey:qt b 0 96=kq b 0:=if_neg k2;rw[bn,bF,ey]at bM ad af ax aO⊢;have s0:(kd b 0).length<65536:=by
   have bL:=Lw af.1;have:(hH (kd b 0)).length<=96:=bL
   grind[hH]
  obtain⟨bQ,cE⟩:=avi (t:=kd b 0) (s:=(j1 b 0,kq b 0)) Gv xy s0 ax;obtain⟨bP,ca,dH⟩:=aej an bQ;have ny:lY (ia (kd b 0) (j1 b 0,kq b 0))<=65:=by grind[lY]
  have mq:sI 65 (jk (j1 b 0,kq b 0))=lY (ia (kd b 0) (j1 b 0,kq b 0)):=aeg _ _ _ ny ax aO;have BZ:EA (kd b 0) (j1 b 0,kq b 0)=yk (kd b 0) (j1 b 0,kq b 0):=by simp_all[EA,yk]
  have Dl:(je (sI 65 (jk (j1 b 0,kq b 0))) (jk (j1 b 0,kq b 0)))=BV (kd b 0) (j1 b 0,kq b 0):=by simp_all[BV]
  have mL:zS (yk (kd b 0) (j1 b 0,kq b 0))=b:=by have avl:(je (lY (ia (kd b 0) (j1 b 0,kq b 0))) (jk (j1 b 0,kq b 0))).1=[]:=aO;rw[avl,List.append_nil]at cE;exact cE.symm.trans bP
  have U:EB b (kd b 0) (j1 b 0,kq b 0):=by
   unfold EB
   grind[RW,avh]
  simp_all[zP,Ls]
 ·-- neither aky the document
  have U:¬EB b (kd b 0) (j1 b 0,kq b 0):=by
   rintro⟨ad,af,ax⟩;have bc:eB (EA (kd b 0) (j1 b 0,kq b 0)):=by
    refine Classical.byContradiction fun aO=>ax ?_
    simp_all[qq]
   have s0:(kd b 0).length<=96:=by
    have bL:=Lw bc.1;have:(hH (kd b 0)).length<=96:=bL
    simp_all[hH]
   have bl:=(He _ ad).1;have ba:kq b 0=0:=(pS (pS (pS (pS bl).1).1).1).1;obtain⟨bP,ca,dH⟩:=aej an ba;have k2:¬vO b 0 96:=fun h=>by have:=h.2;omega
   have hlen:(EA (kd b 0) (j1 b 0,kq b 0)).a1.length=sI 65 (jk (j1 b 0,kq b 0)):=Lq _;have yY:=bc.2.2.2.2.2.2.2.2.1;have EC:=bc.2.2.2.2.2.2.2.2.2;rw[hlen]at yY EC;have ny:lY (ia (kd b 0) (j1 b 0,kq b 0))=sI 65 (jk (j1 b 0,kq b 0)):=by
    have yY:(sI 65 (jk (j1 b 0,kq b 0)):Int)=l9 (ia (kd b 0) (j1 b 0,kq b 0)).c0 (ia (kd b 0) (j1 b 0,kq b 0)).aE:=yY
    grind[lY]
   have VN:=aeh 65 (jk (j1 b 0,kq b 0)) (by omega);refine bM ?_;rw[show uE b 0 96=kd b 0 from if_neg k2,show og b 0 96=j1 b 0 from if_neg k2,show qt b 0 96=kq b 0 from if_neg k2];refine⟨?_,?_⟩
   ·unfold BV;rw[ny,VN,ad];rfl
   ·unfold yk;rw[ny];exact bc
  simp_all[zP,Ls]
theorem avm(an:ct b){m:df}(h:lZ b=(m,0)):eB m/\qq m=b:=by
 rw[avk an]at h;unfold RU Ls at h;split at h
 ·rename_i U;cases h;refine⟨?_,U.2.1⟩;refine Classical.byContradiction fun aO=>U.2.2 ?_
  rw[<- U.2.1];simp_all[qq]
 ·cases h
theorem avn{b:List Int}(h:(lZ b).2≠0):lZ b=(eW,131):=by
 unfold lZ zP at h⊢
 grind
theorem aek(b:List Int):(lZ b).2=0\/lZ b=(eW,131):=by grind[avn]
theorem avo(ok:m.b1)(h:eB m):lZ (qq m)=(m,0):=by
 rw[RW h];obtain⟨jC,bX,b7,g3,g4,g5,kO,g7,g8,zy⟩:=h;have nF:=Lw jC;have xy:zS m=fq 2 m.cz.length++(mw m.cz++(fq 8 m.dN++(fq 4 m.c0.toNat++(fq 2 m.aE.toNat++(m.cq++(m.a1.flatten++[])))))):=by simp[zS,uD]
 rw[xy];obtain⟨dm,da⟩:=BY (n:=2) (a:=fq 2 m.cz.length) (r:=mw m.cz++(fq 8 m.dN++(fq 4 m.c0.toNat++(fq 2 m.aE.toNat++(m.cq++(m.a1.flatten++[])))))) (qn _ _);obtain⟨fj,fl⟩:=BY (n:=m.cz.length) (a:=mw m.cz) (r:=fq 8 m.dN++(fq 4 m.c0.toNat++(fq 2 m.aE.toNat++(m.cq++(m.a1.flatten++[]))))) wZ;obtain⟨db,cp⟩:=BY (n:=8) (a:=fq 8 m.dN) (r:=fq 4 m.c0.toNat++(fq 2 m.aE.toNat++(m.cq++(m.a1.flatten++[])))) (qn _ _);obtain⟨jg,kT⟩:=BY (n:=4) (a:=fq 4 m.c0.toNat) (r:=fq 2 m.aE.toNat++(m.cq++(m.a1.flatten++[]))) (qn _ _);obtain⟨gr,fZ⟩:=BY (n:=2) (a:=fq 2 m.aE.toNat) (r:=m.cq++(m.a1.flatten++[])) (qn _ _);obtain⟨i1,j4⟩:=BY (n:=32) (a:=m.cq) (r:=m.a1.flatten++[]) ok.dR;obtain⟨qX,oc⟩:=aed m.a1 [] ok.dS;generalize ck:fq 2 m.cz.length++(mw m.cz++(fq 8 m.dN++(fq 4 m.c0.toNat++(fq 2 m.aE.toNat++(m.cq++(m.a1.flatten++[]))))))=B at*;have ny:qs B 0=m.cz.length:=by
  show hJ (kG 2 (B,0))=_
  grind[Lt]
 have avp:lj B 0 2=0:=by simp_all[eh]
 have k2:¬vO B 0 96:=fun h=>by have:=h.2;omega
 have avq:kd B 0=mw m.cz:=by
  show kG (qs B 0) (eh 2 (B,0))=_
  simp_all
 have avr:((j1 B 0,kq B 0):iU)=(fq 8 m.dN++(fq 4 m.c0.toNat++(fq 2 m.aE.toNat++(m.cq++(m.a1.flatten++[])))),0):=by
  show eh (qs B 0) (eh 2 (B,0))=_
  simp_all
 unfold lZ;rw[show uE B 0 96=kd B 0 from if_neg k2,show og B 0 96=j1 B 0 from if_neg k2,show qt B 0 96=kq B 0 from if_neg k2,avq,avr];generalize bE:((fq 8 m.dN++(fq 4 m.c0.toNat++(fq 2 m.aE.toNat++(m.cq++(m.a1.flatten++[])))),0):iU)=S at*;have aq:(eh 32 (m.cq++(m.a1.flatten++[]),(0:Int))).2=0:=by rw[i1]
 have s9:ia (mw m.cz) S={m with a1:=[]}:=by grind[ia,Lu,au2,Lt]
 have bl:jk S=(m.a1.flatten++[],0):=by simp_all[jk]
 have avs:lY (ia (mw m.cz) S)=m.a1.length:=by grind[lY]
 have BZ:yk (mw m.cz) S=m:=by unfold yk;rw[avs,bl,oc,s9];rfl
 have Dl:BV (mw m.cz) S=([],0):=by simp_all[BV]
 unfold zP;rw[if_pos,BZ];refine⟨?_,?_⟩
 ·rw[Dl];rfl
 ·rw[BZ];exact⟨jC,bX,b7,g3,g4,g5,kO,g7,g8,zy⟩
end J
namespace J
open Go Go.Ab
variable[cu:b0]
variable{H:au}{Γ b8:List (Nat×az)}{aa:VH}{v w x:Value}{aj bg b:List Int}{j p q o n k:Nat}{ar:List Value}
theorem RX(h:cl Γ v aj){i t:Nat}(aX:i<=t)(ht:t<=aj.length):∃aQ,hP 1 v (some (int i)) (some (int t)) none=some aQ/\qo v aj aQ ((aj.take t).drop i):=by
 rcases h with⟨rfl,rfl⟩|⟨p,o,c,rfl,aA,_⟩
 ·have ht:t=0:=by simp_all
  subst ht;have aq:i=0:=by omega
  subst aq;exact⟨bB,rfl,.none⟩
 ·have he:∃cC,(cC=2\/cC=3)/\hP 1 (aF p o aj.length c) (some (int i)) (some (int t)) none=some (aF p (o+i) (t-i) cC):=by
   rcases aA with rfl|rfl
   ·simp_all[hP,Rk,La,r2,rj]
   ·refine⟨cond (Nat.beq t aj.length) 3 2,by grind,?_⟩
    simp_all[hP,Rk,La,r2,rj]
  obtain⟨cC,gF,he⟩:=he;refine⟨_,he,fun hz h=>?_⟩;rcases h with⟨h,_⟩|⟨lb,dv,QF,jA,_,h⟩
  ·cases h
  cases jA;have hlen:((aj.take t).drop i).length=t-i:=by simp_all
  refine .inr ⟨p,o+i,cC,by rw[hlen],gF,?_⟩;rcases h with rfl|⟨j,b,ad,af⟩
  ·simp_all
  ·refine .inr ⟨j,b,ad,?_⟩;have:=congrArg (List.drop i) (congrArg (List.take t) af);rw[List.take_take,Nat.min_eq_left ht,List.drop_take,List.drop_drop]at this
   simp_all
theorem pR.jv(h:pR b8 v):pR (Γ++b8) v:=by
 rcases h with h|⟨p,o,n,c,j,b,ad,af,ax⟩
 ·exact .inl h
 ·exact .inr ⟨p,o,n,c,Γ.length+j,b,ad,aC af,ax⟩
theorem fI.uF(h:fI v aj ar):pR (b2 v ar) v:=by
 rcases h with⟨rfl,_⟩|⟨p,rfl|⟨rfl,_⟩,af,ax,aO⟩
 ·exact .inl rfl
 ·exact .inr ⟨p,0,_,_,0,_,rfl,rfl,aO,.inl rfl⟩
 ·exact .inr ⟨p,0,_,_,0,_,rfl,rfl,aO,.inl rfl⟩
theorem pR.slice(h:pR Γ v){eZ aq:Option Value}(aw:hP 1 v eZ aq none=some w):pR Γ w:=by
 rcases h with rfl|⟨p,o,n,c,j,b,rfl,af,ax⟩
 ·unfold hP at aw;simp only at aw
  repeat' (split at aw)
  all_goals first|(cases aw;done)|(cases aw;exact .inl rfl)
 ·unfold hP at aw;simp only at aw
  repeat' (split at aw)
  all_goals first|(cases aw;done)|(cases aw;exact .inr ⟨p,_,_,_,j,b,rfl,af,ax⟩)
def j9(b:List Int):Int×Int:=
 if b.length<4\/b.take 2≠[66,85]then(0,141)else if 2304<hJ ((b.take 4).drop 2)+36 then(0,141)else(((hJ ((b.take 4).drop 2)+36:Nat):Int),0)
theorem avt{bg:List Int}(hO:al H Γ)(hv:cl Γ v aj)(aM:cl Γ w bg)(ao:ct aj)(ba:ct bg)(ag:aa (.bool (decide (aj=bg))) H):wCall P 270 [v,w] H aa:=by apply arD;unfold abY;refine cH (cl.bZ hO hv) (cH (cl.bZ hO aM) (ai (show _=some (.bool (decide (aj=bg)))from ?_) ag));show(ay P .eql 9 false).f (bZ (hH aj)) (bZ (hH bg))=_;rw[aus,au0,decide_eq_decide.2 ⟨fun h=>ave ao ba h,fun h=>by rw[h]⟩]
theorem avu{bg:List Int}(hO:al H Γ)(hv:cl Γ v aj)(aM:cl Γ w bg)(ao:ct aj)(ba:ct bg)(aD:bg.length<=aj.length)(ag:aa (.bool (decide (aj.take bg.length=bg))) H):wCall P 252 [v,w] H aa:=by apply arl;unfold abH;refine cH hv.cG (cH aM.cG (ai uk (nK (by omega) (cH aM.cG ?_))));obtain⟨aQ,bn,i1⟩:=BE hv aD;exact ai bn (avt hO (i1 _ hv) aM (fun x h=>ao x (List.mem_of_mem_take h)) ba (ai (ju (by omega)) ag))
theorem ael(H:au):(eY P 22 2).f [(0,.int .u8 66),(1,.int .u8 85)] H=some (aF H.next 0 2 3,H.push (bj [66,85])):=by rfl
theorem avv{b:List Int}(an:ct b):hJ ((b.take 4).drop 2)<65536:=by
 have ad:=KV ((b.take 4).drop 2) fun x ao=>an x (List.mem_of_mem_take (List.mem_of_mem_drop ao))
 have af:((b.take 4).drop 2).length<=2:=by grind
 exact Nat.lt_of_lt_of_le ad (Nat.pow_le_pow_right (n:=256) (by omega) af)
theorem avw(hO:al H Γ)(hv:cl Γ v b)(an:ct b)(aD:b.length<=1000000)(ag:∀ab,al ab Γ->aa (.tuple [int (j9 b).1,int (j9 b).2].toArray) ab):wCall P 229 [v] H aa:=by
 apply aq0;unfold abk;refine gb (fun aG ab=>aG=[v,.bool (decide (b.length<4\/b.take 2≠[66,85]))]/\al ab Γ) ?_ ?_
 ·refine cH hv.cG (ai gj (bT (fun h=>?_) (fun h=>?_)))
  ·exact ai (ju h) (⟨by grind,hO⟩)
  ·refine ih hO (ael _) ?_;clear hO;intro q H hO;refine Lj hO 0 rfl (by omega) (avu (bg:=[66,85]) hO hv.bo (yh 0 rfl (.inr rfl) rfl) an (by intro x ao;grind) (by grind) (ai jt (ai (kV h) (⟨?_,hO.left⟩))))
   grind[decide_eq_false]
 clear hO;rintro aG H ⟨rfl,hO⟩
 try simp only[cR,cS]
 unfold j9 at ag;refine bT (fun h=>?_) (fun h=>?_)
 ·rw[if_pos h]at ag;exact ag H hO
 ·rw[if_neg h]at ag;obtain⟨ec,bF,j4⟩:=RX hv (i:=2) (t:=4) (by omega) (by omega);refine ai bF (acn hO (j4 _ hv) ?_);clear hO;intro H p hO;have pB:ct ((b.take 4).drop 2):=fun x ao=>an x (List.mem_of_mem_take (List.mem_of_mem_drop ao))
  have ea:=avv an;refine GJ (k:=2) (by omega) hO (aC (k:=0) rfl) ((j4 _ hv).bo) pB ?_;clear hO;intro H v3 hO nt;have avx:j6 ((b.take 4).drop 2) 0 2=(b.take 4).drop 2:=by simp_all[j6,List.take_of_length_le]
  rw[avx];generalize hJ ((b.take 4).drop 2)=N at*;refine cH (DJ (k:=.u64) (by omega)) (ai (v:=int ((N+36:Nat):Int)) (by grind[mn]) (ai sl ?_))
  replace hO:=hO.cy.left
  refine bT (fun af=>?_) (fun af=>?_)
  ·rw[if_pos (by omega)]at ag;exact ag H hO
  ·rw[if_neg (by omega)]at ag;exact ag H hO
end J
namespace J
open Go Go.Ab
variable[cu:b0]
variable{H:au}{Γ:List (Nat×az)}{aa:VH}{v w bb:Value}{aj bg b key ms:List Int}{j q o n k:Nat}{ar bx:List Value}{m:df}{a1:List (List Int)}
def nT(m:df):List Int:=[66,85]++fq 2 (qq m).length++qq m
def iW(key:List Int)(m:df):List Int:=nT m++oM key (nT m)
theorem Lx(ok:m.b1)(h:eB m):(qq m).length=m.cz.length+48+32*m.a1.length/\m.cz.length<=96/\m.a1.length<=64:=by have ad:=Rv m.a1 ok.dS;have af:=Lw h.1;have ax:=h.2.2.2.2.2.2.2.2.2;rw[RW h];refine⟨?_,af,ax⟩;simp only[zS,uD,List.length_append,qn,wZ,ok.dR,ad];omega
theorem Ly{k b:List Int}:(oM k b).length=32:=rfl
theorem aem{k b:List Int}:ct (oM k b):=Ev
theorem aen(ok:m.b1):ct (nT m):=nw (nw (by simp_all) (Hd _ _)) (avg ok)
theorem aeo(ok:m.b1)(h:eB m):(nT m).length=m.cz.length+52+32*m.a1.length:=by grind[Lx,nT,qn]
theorem avy(hO:al H Γ)(hv:cl Γ v key)(aM:cl Γ w ms)(fT:pR Γ w)(an:ct key)(aV:ct ms)(aD:key.length<=1000000)(q0:ms.length<=1000000)(ag:zA Γ aa (ms++oM key ms)):wCall P 146 [v,w] H aa:=by
 apply ap8;unfold aal;refine auq hO hv aM an aV (by omega) (by omega) ?_;clear hO;intro H hO;rw[Ry];refine j8 hO.z ?_;clear hO;intro fx H hO;refine lo hO 0 rfl (by rfl) (by rfl) (lT _) ?_;clear hO;intro bw dJ
 replace dJ:al bw (Γ++[(fx,⟨bj (oM key ms),true⟩)]):=dJ
 have avz:fx<bw.next:=dJ.lt _ (List.mem_append_right _ List.mem_cons_self);refine ih dJ (BD _) ?_;intro yj cD dd;have On:fx<cD.next:=dd.lt (fx,⟨bj (oM key ms),true⟩) (by simp);have avA:al cD ((Γ++[(fx,(⟨bj (oM key ms),true⟩:az))])++b2 (aF yj 0 0 3) []):=dd;refine te (aj:=[]) (v:=aF yj 0 0 3) (ar:=[]) avA (.inr ⟨yj,.inr ⟨rfl,rfl⟩,rfl,Nat.zero_le _,rfl⟩) aM.bo (by grind) ?_;intro iM v3 ga kC hn;refine ai (xW kC (Γ.length+0) (aS (aC rfl)) (by omega) (by simp[Ly])) ?_;have dj:yj≠fx:=al.Q4 dd (i:=(Γ++[(fx,(⟨bj (oM key ms),true⟩:az))]).length+0) (j:=Γ.length+0) (aC rfl) (aS (aC rfl)) (by simp);have I8:qS (cd [aF yj 0 0 3,w]) (cd [ak fx 0]):=by
  have bn:Nat.beq yj fx=false:=by grind[Nat.eq_of_beq_eq_true]
  rcases fT with rfl|⟨RY,o,n,c,A1,aCv,rfl,af,ax⟩
  ·show oY [yj] [fx]=true
   grind[oY,ki,sV]
  ·have ajp:RY≠fx:=al.Q4 dJ (i:=A1) (j:=Γ.length+0) (aS af) (aC rfl) (by grind);have bF:Nat.beq RY fx=false:=by grind[Nat.eq_of_beq_eq_true]
   show oY [yj,RY] [fx]=true
   simp_all[oY,ki,sV]
 refine⟨I8,ts On,ts avz,?_⟩;refine te kC hn (bg:=oM key ms) (.inr ⟨fx,0,3,by rfl,.inr rfl,.inr ⟨Γ.length+0,_,aC rfl,by rfl⟩⟩) (by grind[Ly]) ?_;intro ui v4 jc y1 fy;exact ag ui v4 jc (al.cf y1) fy
theorem avB(ok:m.b1)(hO:al H Γ)(hv:cl Γ v key)(aA:fR Γ bb m.a1)(an:ct key)(aD:key.length<=1000000)
  (gO:¬eB m->∀ab,al ab Γ->aa (.tuple [bB,int 131].toArray) ab)
  (sw:eB m->∀ab aQ bx,al ab (Γ++b2 aQ bx)->fI aQ (iW key m) bx->aa (.tuple [aQ,int 0].toArray) ab):wCall P 70 [v,agg (b4 m bb)] H aa:=by
 apply apd;unfold Zh;rw[BU];refine j8 hO.z ?_;clear hO;intro fm H hO;refine jj hO 0 rfl (e1 ok.dR) (by omega) (Rt ok aA.bo hO ?_);clear hO;intro H hO;refine ai jt ?_;by_cases U:eB m
 ·obtain⟨fj,fl,iJ⟩:=Lx ok U;have th:=aeo ok U;rw[decide_eq_true U];refine eX rfl (jj hO 0 rfl (e1 ok.dR) (by omega) (auX ok aA.bo hO ?_));clear hO;intro H ev db hO bW;refine ih hO (ael _) ?_;clear hO;intro q H hO;refine Lj hO 0 rfl (by omega) (cH bW.cG (cH (DL (by omega) (by omega)) ?_));rw[Int.toNat_natCast];refine G0 (size:=2) hO (by omega) (by omega) ?_;clear hO;intro H ec cp hO dt;have aep:fI (aF q 0 2 3) [66,85] (bj [66,85]):=.inr ⟨q,.inr ⟨rfl,rfl⟩,rfl,Nat.le_refl _,rfl⟩
  replace hO:al H (((Γ++([]++[(fm,(⟨b4 m bb,true⟩:az))])++b2 ev db)++b2 (aF q 0 2 3) (bj [66,85]))++b2 ec cp):=hO
  refine DK hO aep dt (by simp[qn]) ?_;clear hO aep dt;intro H v3 ga hO hn;have oa:cl (Γ++([]++[(fm,(⟨b4 m bb,true⟩:az))])++b2 ev db) ev (qq m):=bW.lR.jv;refine te hO hn oa (by grind[qn]) ?_;clear hO hn;intro H v4 jc hO fy
  replace fy:fI v4 (nT m) jc:=fy
  replace hO:al H (Γ++b2 v4 jc):=by have aR:=hO.left.left;rw[List.append_assoc,List.append_assoc]at hO;exact hO.sub (List.Sublist.append (List.Sublist.refl _) (by rw[<- List.append_assoc];exact List.sublist_append_right _ _))
  refine avy hO hv.bo fy.lR.jv (fI.uF fy).jv an (aen ok) aD (by omega) ?_;clear hO;intro H v5 lh hO kZ;exact sw U H v5 lh (al.cf hO) kZ
 ·rw[decide_eq_false U];exact fU rfl (gO U H hO.left)
end J
