/- texts of the kp, du behind the jV -/
import Derived.Test.YtifflnhooaophaaGreatDoorUF
set_option linter.unusedVariables false
set_option linter.unusedSimpArgs false
set_option linter.unusedSectionVars false
set_option maxHeartbeats 4000000
set_option maxRecDepth 100000
open List Nat
namespace J
open Go Go.Ab
variable[c0:cH]
section
variable{H K c aU aq l m s v ab bL}
structure fi where
 cd:List UInt8
 de:Nat
 cY:Int
 bz:Int
 bw:LI
 aU:List LI 
abbrev bM(ae:LI):Prop:=∀x∈ae,0<=x/\x<=255
structure fi.br (m:fi):Prop where
 bi:m.bw.length=32
 ane:bM m.bw
 dH:∀x∈m.aU,x.length=32
 fc:∀x∈m.aU,bM x
 de:m.de<18446744073709551616
 cY:-9223372036854775808<=m.cY/\m.cY<=9223372036854775807
 bz:-9223372036854775808<=m.bz/\m.bz<=9223372036854775807
 n:m.aU.length<=10000
 Bn:m.cd.length<=10000
def aR(m:fi)(aq:Value):aj:=a6 m.cd::bB .u64 m.de::int m.cY::int m.bz::(aN m.bw++[aq])
abbrev ec(l:List LI):aj:=l.flatMap aN
def df(ab:LB)(v:Value)(aU:List LI):Prop:=
 (v=aA/\aU=[])\/∃(p c j:Nat) (w:Bool),v=am p 0 aU.length c/\ab[j]?=some (p,(⟨ec aU,w⟩:ef))
theorem df.aZ(h:df ab v aU):aZ v H=some (int aU.length,H):=by rcases h with⟨rfl,rfl⟩|⟨p,c,j,w,rfl,_⟩<;>rfl
theorem df.ha(h:df ab v aU):∃a n c,v=.slice a n c:=by rcases h with⟨rfl,_⟩|⟨p,c,j,w,rfl,_⟩<;>exact⟨_,_,_,rfl⟩
theorem df.app(h:df ab v aU):df (ab++bL) v aU:=by
 rcases h with h|⟨p,c,j,w,a,b⟩
 exact .inl h;exact .inr ⟨p,c,j,w,a,ak b⟩
theorem df.app'(h:df bL v aU):df (ab++bL) v aU:=by
 rcases h with h|⟨p,c,j,w,a,b⟩
 exact .inl h;exact .inr ⟨p,c,ab.length+j,w,a,al b⟩
theorem df.bb(h:df ab v aU)(a:0<aU.length):∃(p c j:Nat) (w:Bool),v=am p 0 aU.length c/\ab[j]?=some (p,(⟨ec aU,w⟩:ef)):=by
 rcases h with⟨_,rfl⟩|h
 simp at a;exact h
theorem b7(a2:m.bw.length=32):(aR m aq).length=37:=by simp[aR,a2]
theorem lv(a:m.bw.length=32):(aR m aq)[0+36]?=some aq:=by
 show(aN m.bw++[aq])[32]?=_
 simp_all
theorem hB(a:cS aq=true):(aR m aq).all cS=true:=by
 show(true&&(true&&(true&&(true&&(aN m.bw++[aq]).all cS))))=true
 grind[ge]
theorem q3(a:dx aq=true):(aR m aq).all dx=true:=by
 show(true&&(true&&(true&&(true&&(aN m.bw++[aq]).all dx))))=true
 grind[sD]
theorem df.du(h:df ab v aU):cS v=true:=by obtain⟨a,n,c,rfl⟩:=h.ha;rfl
theorem df.mF(h:df ab v aU):dx v=true:=by rcases h with⟨rfl,_⟩|⟨p,c,j,w,rfl,_⟩<;>rfl
theorem vg:es (agg (aR m aq))=aR m aq:=rfl
def kS(s c:Int):Int:=if s<1\/c<1 then 0 else(s-1)/c+1
theorem JP:0<=kS s c:=by unfold kS;split;omega;have:=Int.ediv_nonneg (show 0<=s-1 by omega) (show 0<=c by omega);omega
theorem anf(ah:1<=s)(a:1<=c):(s-1)/c+1=s/c+(if s%c>0 then 1 else 0):=by
 have b:=div_add_mod s c;have e:=mod_lt s a;generalize s/c=Q at*;generalize s%c=R at*;subst b;by_cases d:R=0;subst d;rw[if_neg U];have f:1<=Q:=aT
 obtain⟨t,rfl⟩:∃t,Q=t+1:=⟨Q-1,U⟩;have:c*(t+1)+0-1=c*t+(c-1):=aT
 rw[this,mul_add_div U,div_eq_of_lt U];rw[if_pos U];have:c*Q+R-1=c*Q+(R-1):=U
 rw[this,mul_add_div U,div_eq_of_lt U]
theorem Uj(ah:s<=9223372036854775807)(g:c<=9223372036854775807)(a:K (int (kS s c)) H):aG P 225 [int s,int c] H K:=by
 refine ajD.1 ?_;by_cases d:s<1;refine sv ?_
 repeat (first|refine aQ ?_|refine oM ?_|refine hK ?_)
 unfold kS at a;rw[if_pos (.inl d)]at a;exact a;by_cases e:c<1;refine sv ?_
 repeat (first|refine aQ ?_|refine oM ?_|refine nl ?_)
 unfold kS at a;rw[if_pos (.inr e)]at a;exact a;refine cy (fun b E=>b=[int s,int c]/\H=E) ?_ ?_
 repeat (first|refine aQ ?_|refine nl ?_)
 exact⟨ao,ao⟩;rintro b E ⟨rfl,rfl⟩
 try simp only[c1,c2]
 obtain⟨S,rfl⟩:∃S:Nat,s=S:=⟨s.toNat,U⟩;obtain⟨C,rfl⟩:∃C:Nat,c=C:=⟨c.toNat,U⟩;unfold kS at a;rw[if_neg U]at a
 repeat refine aQ ?_
 refine Z (v:=int (((S-1)/C:Nat):Int)) (by grind[qX]) ?_;have f:=div_le_self (S-1) C;rw[show((S:Int)-1)/C+1=(((S-1)/C:Nat):Int)+1 by grind]at a;generalize (S-1)/C=Q at*
 repeat refine aQ ?_
 exact a
theorem Uk(ah:s<=9223372036854775806)(i:c<=9223372036854775807)(a:K (int (kS s c)) H):aG P 88 [int s,int c] H K:=by
 refine ahn.1 ?_;by_cases e:s<1;refine sv ?_
 repeat (first|refine aQ ?_|refine oM ?_|refine hK ?_)
 unfold kS at a;rw[if_pos (.inl e)]at a;exact a;by_cases f:c<1;refine sv ?_
 repeat (first|refine aQ ?_|refine oM ?_|refine nl ?_)
 unfold kS at a;rw[if_pos (.inr f)]at a;exact a;refine cy (fun d E=>d=[int s,int c]/\H=E) ?_ ?_
 repeat (first|refine aQ ?_|refine nl ?_)
 exact⟨ao,ao⟩;rintro d E ⟨rfl,rfl⟩;obtain⟨S,rfl⟩:∃S:Nat,s=S:=⟨s.toNat,U⟩;obtain⟨C,rfl⟩:∃C:Nat,c=C:=⟨c.toNat,U⟩;unfold kS at a;rw[if_neg U]at a;have b:=anf (s:=S) (c:=C) U U;have g:=div_le_self S C;rw[show((S:Int)-1)/C+1=(((S-1)/C+1:Nat):Int) by grind,b]at a;refine Z (qX U U) ?_;generalize S/C=Q at*;refine Z (DT U) ?_;rw[show(Int.tmod (S:Int) (C:Int))=((S%C:Nat):Int)from rfl];refine Z go (ay (fun h=>?_) (fun h=>?_));rw[if_pos U]at a
 repeat refine aQ ?_
 exact a;rw[if_neg U]at a;exact a
def nX(l:List UInt8):Int:=Seal.my (hQ l) (hQ l).size 0 0
def dy(m:fi):Prop:=nX m.cd=0/\1<=m.de/\m.de<=281474976710656/\1<=m.cY/\m.cY<=65536/\64<=m.bz/\m.bz<=1024/\m.bz%64=0/\(m.aU.length:Int)=kS m.cY m.bz/\m.aU.length<=64
instance (m:fi):Decidable (dy m):=by unfold dy;exact inferInstance
theorem Ul(a:l.length<=1000000)(b:ac H ab)(c:∀E,ac E ab->K (int (nX l)) E):aG P 87 [a6 l] H K:=
 am9 a b fun E h=>by rw[Ui];exact c E h
theorem Um(b:l.length<=1000000)(a:K (int (nX l)) H):aG P 123 [a6 l] H K:=
 afC (by rw[wR];omega) a
theorem y0(d:m.br)(j:df ab aq m.aU)(a:ac H ab)(k:∀E,ac E ab->K (.bool (decide (dy m))) E):aG P 186 [agg (aR m aq)] H K:=by
 refine ai3.1 ?_;have b:∀ {H:an} {bL},ac H (ab++bL)->¬dy m->K (.bool false) H:=fun h o=>by have:=k _ h.left;rw[decide_eq_false o]at this;exact this
 have p:=d.cY;have q:=d.bz;have F:=d.de;have I:=d.n;have f:=lv (aq:=aq) d.bi;rw[vg];refine dA a.z ?_;intro b5 H a
 replace a:=a
 refine cy (fun c E=>c=[ad b5 0]/\H=E/\nX m.cd=0/\1<=m.de/\m.de<=281474976710656/\1<=m.cY/\m.cY<=65536/\64<=m.bz/\m.bz<=1024/\m.bz%64=0) ?_ ?_;refine cy (fun c E=>c=[ad b5 0,.bool (decide (¬(nX m.cd=0/\1<=m.de/\m.de<=281474976710656)))]/\H=E) ?_ ?_
 repeat (first|refine aQ ?_|refine aD a rfl ?_)
 refine Um (by have:=d.Bn;omega) (Z dX (ay (fun i=>?_) (fun i=>?_)));exact⟨a1,ao⟩
 repeat (first|refine aQ ?_|refine aD a rfl ?_)
 refine ay (fun e=>?_) (fun e=>?_);exact⟨by rw[decide_eq_decide.2 (show((m.de:Int)<1)↔¬(nX m.cd=0/\1<=m.de/\m.de<=281474976710656) by omega)],ao⟩
 repeat (first|refine aQ ?_|refine aD a rfl ?_)
 exact⟨by rw[decide_eq_decide.2 (show((281474976710656:Int)<(m.de:Int))↔¬(nX m.cd=0/\1<=m.de/\m.de<=281474976710656) by omega)],ao⟩;rintro c E ⟨rfl,rfl⟩
 try simp only[c1,c2]
 refine ay (fun i=>?_) (fun i=>?_);exact b a (fun h=>i ⟨h.1,h.2.1,h.2.2.1⟩);refine cy (fun c E=>c=[ad b5 0,.bool (decide (¬(1<=m.cY/\m.cY<=65536)))]/\H=E) ?_ ?_
 repeat (first|refine aQ ?_|refine aD a rfl ?_)
 refine ay (fun e=>?_) (fun e=>?_)
 repeat refine aQ ?_
 exact⟨a1,ao⟩
 repeat (first|refine aQ ?_|refine aD a rfl ?_)
 exact⟨a1,ao⟩;rintro c E ⟨rfl,rfl⟩
 try simp only[c1,c2]
 refine ay (fun e=>?_) (fun e=>?_);exact b a (fun h=>e ⟨h.2.2.2.1,h.2.2.2.2.1⟩)
 repeat (first|refine aQ ?_|refine aD a rfl ?_)
 refine ay (fun r=>?_) (fun r=>?_)
 repeat (first|refine aQ ?_|refine hK ?_)
 exact b a (fun h=>by have:=h.2.2.2.2.2.1;omega)
 repeat (first|refine aQ ?_|refine aD a rfl ?_)
 refine ay (fun s=>?_) (fun s=>?_)
 repeat (first|refine aQ ?_|refine hK ?_)
 exact b a (fun h=>by have:=h.2.2.2.2.2.2.1;omega)
 repeat (first|refine aQ ?_|refine aD a rfl ?_)
 have em:m.bz.tmod 64=m.bz%64:=Int.tmod_eq_emod_of_nonneg U;refine Z (DT U) ?_;rw[em]
 repeat refine aQ ?_
 refine ay (fun l=>?_) (fun l=>?_);exact b a (fun h=>l h.2.2.2.2.2.2.2.1)
 simp_all
 rintro c E ⟨rfl,rfl,t,u,v,w,x,y,B,C⟩
 try simp only[c1,c2]
 refine Z bj (aD a f (bg j.aZ ?_))
 repeat (first|refine aQ ?_|refine aD a rfl ?_)
 refine Uj U U (⟨jf a a (q3 j.mF),?_⟩);refine Z cN (ay (fun g=>?_) (fun g=>?_));refine Z bj (aD a f (bg j.aZ (Z HV (Z (dT g) ?_))));have:=k _ a.left;rw[decide_eq_decide.2 (show dy m↔((m.aU.length:Int)<=64)from⟨fun h=>by have:=h.2.2.2.2.2.2.2.2.2;omega,fun h=>⟨t,u,v,w,x,y,B,C,g,U⟩⟩)]at this;exact this;exact Z (dl g) (b a (fun h=>g h.2.2.2.2.2.2.2.2.1))
theorem wS(c:m.br)(g:df ab aq m.aU)(a:ac H ab)(l:∀E,ac E ab->K (.bool (decide (dy m))) E):aG P 34 [agg (aR m aq)] H K:=by
 refine agc.1 ?_;have b:∀ {H:an} {bL},ac H (ab++bL)->¬dy m->K (.bool false) H:=fun h p=>by have:=l _ h.left;rw[decide_eq_false p]at this;exact this
 have q:=c.cY;have r:=c.bz;have w:=c.de;have x:=c.n;have d:=lv (aq:=aq) c.bi;rw[vg];refine dA a.z ?_;intro b5 H a
 replace a:=a
 refine cy (fun e E=>e=[ad b5 0]/\ac E (ab++[aa b5 (aR m aq)])/\nX m.cd=0/\1<=m.de/\m.de<=281474976710656/\1<=m.cY/\m.cY<=65536) ?_ ?_
 repeat (first|refine aQ ?_|refine aD a rfl ?_)
 refine Ul (by have:=c.Bn;omega) a ?_;intro H a;refine Z dX (ay (fun o=>?_) (fun o=>?_))
 repeat (first|refine aQ ?_|refine hK ?_)
 exact b a (fun h=>o h.1)
 repeat (first|refine aQ ?_|refine aD a rfl ?_)
 refine ay (fun s=>?_) (fun s=>?_)
 repeat (first|refine aQ ?_|refine hK ?_)
 exact b a (fun h=>by have:=h.2.1;omega)
 repeat (first|refine aQ ?_|refine aD a rfl ?_)
 refine ay (fun i=>?_) (fun i=>?_)
 repeat (first|refine aQ ?_|refine hK ?_)
 exact b a (fun h=>by have:=h.2.2.1;omega)
 repeat (first|refine aQ ?_|refine aD a rfl ?_)
 refine ay (fun j=>?_) (fun j=>?_)
 repeat (first|refine aQ ?_|refine hK ?_)
 exact b a (fun h=>by have:=h.2.2.2.1;omega)
 repeat (first|refine aQ ?_|refine aD a rfl ?_)
 refine ay (fun f=>?_) (fun f=>?_);exact b a (fun h=>by have:=h.2.2.2.2.1;omega);exact⟨rfl,a,U⟩;rintro e H ⟨rfl,a,t,u,g3,g4,g5⟩
 try simp only[c1,c2]
 refine cy (fun e E=>e=[ad b5 0]/\H=E/\64<=m.bz/\m.bz<=1024/\m.bz%64=0) ?_ ?_
 repeat (first|refine aQ ?_|refine aD a rfl ?_)
 refine ay (fun i=>?_) (fun i=>?_)
 repeat (first|refine aQ ?_|refine hK ?_)
 exact b a (fun h=>by have:=h.2.2.2.2.2.1;omega)
 repeat (first|refine aQ ?_|refine aD a rfl ?_)
 refine ay (fun j=>?_) (fun j=>?_)
 repeat (first|refine aQ ?_|refine hK ?_)
 exact b a (fun h=>by have:=h.2.2.2.2.2.2.1;omega)
 repeat (first|refine aQ ?_|refine aD a rfl ?_)
 have em:m.bz.tmod 64=m.bz%64:=Int.tmod_eq_emod_of_nonneg U;refine Z (DT U) ?_;rw[em]
 repeat refine aQ ?_
 refine ay (fun f=>?_) (fun f=>?_);exact b a (fun h=>f h.2.2.2.2.2.2.2.1);refine⟨ao,ao,?_⟩;omega;rintro e E ⟨rfl,rfl,v,g7,g8⟩
 try simp only[c1,c2]
 refine Z bj (aD a d (bg g.aZ (Z HV (ay (fun k=>?_) (fun k=>?_)))));refine Z bj (aD a d (bg g.aZ ?_))
 repeat (first|refine aQ ?_|refine aD a rfl ?_)
 refine Uk U U (⟨jf a a (q3 g.mF),?_⟩);refine Z cN (Z (dT k) ?_);have:=l _ a.left;rw[decide_eq_decide.2 (⟨fun h=>h.2.2.2.2.2.2.2.2.1,fun h=>⟨t,u,g3,g4,g5,v,g7,g8,h,U⟩⟩)]at this;exact this;exact Z (dl k) (b a (fun h=>by have:=h.2.2.2.2.2.2.2.2.2;omega))
end
section
variable{H K c aU ag aq l m t v x ae bl ab}
def ps(l:List UInt8):LI:=l.map fun b=>(b.toNat:Int)
theorem tV:(ps l).length=l.length:=by simp[ps]
theorem ang:bM (ps l):=by intro x a;obtain⟨b,_,rfl⟩:=List.mem_map.1 a;have:=b.toNat_lt;omega
theorem anh:l.map r9=aN (ps l):=by simp[ps,r9]
theorem JQ(ae:LI)(h:bM ae):ps (ae.map fun n=>UInt8.ofNat n.toNat)=ae:=by
 unfold ps
 conv=>rhs;rw[<- map_id ae]
 grind[map_congr_left,UInt8.toNat_ofNat']
theorem ani(b:ac H ab)(c:∀E ap,ac E (ab++aw ap (aN (ps l)))->dm ap (ps l) (aN (ps l))->K ap E):a7 (vI (a6 l) H) K:=by
 refine el b (show vI (a6 l) H=some (am H.next 0 l.length 2,H.push (aN (ps l)))from ?_) ?_;show oi (l.map r9) (e6 l) 2 H=_;rw[anh,f0];rfl;intro p E a;refine c _ _ a (.inr ⟨p,.inl (by rw[tV]),?_,by simp[aN],sD _⟩)
 simp_all[take_of_length_le]
def rR(l:List UInt8):LI:=iT 2 l.length++ps l
theorem anj{n:Nat}:fd .u8 (int n) H=some (bB .u8 (n%256),H):=ao
theorem ank(a:ac H ab)(e:l.length<=1000000)(d:tM ab K (rR l)):aG P 209 [a6 l] H K:=by refine ajo.1 ?_;exact bg yZ (bg (yd U U) (Bi (size:=2) a U U fun H f g a b=>ani a fun H h a c=>yc a b c (by grind[pX,tV]) d))
def ji(m:fi):LI:=if dy m then rR m.cd++iT 8 m.de++iT 4 m.cY.toNat++iT 2 m.bz.toNat++m.bw++m.aU.flatten else []
theorem Bo(a:m.bw.length=32):((aR m aq).drop 4).take 32=aN m.bw:=by
 show(aN m.bw++[aq]).take 32=_
 simp_all
theorem Bp{y:Nat}(h:∀x∈aU,x.length=32)(a:y<aU.length):((ec aU).drop (0+(y:Int).toNat*32)).take 32=aN aU[y]:=by
 rw[show 0+(y:Int).toNat*32=y*32+0 by omega];rw[u6 (fun x b=>a1) a U,drop_zero]
 simp_all[take_of_length_le]
theorem JR:∀(l:List LI),(∀x∈l,x.length=32)->l.flatten.length=l.length*32
 | [],_=>rfl
 | a::l,h=>by
  have b:=JR l fun x c=>h x (mem_cons_of_mem _ c)
  have d:=h a mem_cons_self;rw[flatten_cons,length_append,b,d,length_cons];omega
theorem JS(d:m.br)(s:df ab aq m.aU)(a:ac H ab)(j:tM ab K (ji m)):aG P 145 [agg (aR m aq)] H K:=by
 refine aiq.1 ?_;have t:=lv (aq:=aq) d.bi;have W:=d.Bn;have I:=d.de;rw[vg];refine dA a.z ?_;clear a;intro b5 H a
 replace a:ac H (ab++[aa b5 (aR m aq)]):=a
 refine el a (rO _) ?_;clear a;intro u H a
 replace a:=a.as
 refine fI a 0 rfl (b7 d.bi) U (wS d s.app a ?_);clear a;intro H a;refine Z fX ?_;have f:dm (am u 0 0 3) [] []:=.inr ⟨u,.inr ⟨rfl,rfl⟩,rfl,zero_le _,rfl⟩
 replace a:ac H (ab++([aa b5 (aR m aq)]++aw (am u 0 0 3) [])):=a
 rw[<- append_assoc]at a;unfold ji at j;by_cases l:dy m;rw[if_pos l]at j;have w:=l;obtain⟨_,fC,g3,g4,g5,pJ,g7,_,_,X⟩:=w;rw[decide_eq_true l];refine cT rfl (Z bj (aD a (v:=a6 m.cd) rfl (ank a U ?_)));clear a;intro H B C a b;refine yc a f b (by grind[rR,pX,tV]) ?_;clear a f b;intro H J L a c;rw[nil_append]at c;refine Z bj (aD a (v:=bB .u64 m.de) rfl (Bi (size:=8) a U U ?_));clear a;intro H B C a b;refine yc a c b (by grind[rR,pX,tV]) ?_;clear a c b;intro H J L a c;refine Z bj (aD a (v:=int m.cY) rfl (bg (yd U U) (Bi (size:=4) a U U ?_)));clear a;intro H B C a b;refine yc a c b (by grind[rR,pX,tV]) ?_;clear a c b;intro H J L a c;refine Z bj (aD a (v:=int m.bz) rfl (bg (yd U U) (Bi (size:=2) a U U ?_)));clear a;intro H B C a b;refine yc a c b (by grind[rR,pX,tV]) ?_;clear a c b;intro H pU anl a f;refine Z bj (Z (sy a (ab.length+0) (ak (al rfl)) U aT) (oL a f (bl:=m.bw) (.inr ⟨b5,0+4,3,by rw[d.bi],.inr rfl,.inr ⟨ab.length+0,_,al rfl,by rw[d.bi];exact Bo d.bi⟩⟩) (by simp[rR,pX,tV,d.bi];omega) ?_));clear a
 intro H M N a o;refine Z bj (aD a t (bg s.aZ ?_))
 replace a:ac H (ab++aw M N):=ac.bR a
 refine aip (fun k S E=>∃(y:Nat) (p:Value) (q:aj),y<=m.aU.length/\k=m.aU.length-y/\S=[aA,p,aq,int m.aU.length,int y]/\ac E (ab++aw p q)/\dm p (rR m.cd++iT 8 m.de++iT 4 m.cY.toNat++iT 2 m.bz.toNat++m.bw++(m.aU.take y).flatten) q) _ _ ?_ m.aU.length _ _ ⟨0,M,N,U,U,rfl,a,by simpa using o⟩;clear a o;rintro k S H ⟨y,p,q,r,rfl,rfl,a,i⟩;unfold RN;refine ul ?_
 try simp only[c1,c2]
 refine Z cV (ay (fun h=>?_) (fun h=>?_));have r:y<m.aU.length:=U
 obtain⟨ch,cc,anm,hF,rfl,jI⟩:=s.bb U;refine Z (ez U U) ?_;have g:=d.dH _ (getElem_mem r);refine fe a anm (ak jI) (Bp d.dH r) (by simp[g]) U ?_;rw[Bg];refine b0 a ?_;clear a;intro ann H a;refine dn a (_+0) (al rfl) aW (by simp[g]) (ge _) ?_;clear a;intro H a
 replace a:=a.bp
 refine Z (sy a (_+0) (al rfl) U (by simp[g])) ?_;refine rI (bl:=m.aU[y]) a i (by
  have V:=JR (m.aU.take y) fun x ey=>d.dH x (mem_of_mem_take ey)
  rw[length_take]at V;have:=d.n;simp only[length_append,rR,pX,tV,d.bi,V,g];omega) g.symm (.inr rfl) ?_
 clear a;intro H v9 Un a F
 repeat refine aQ ?_
 refine⟨m.aU.length-(y+1),U,y+1,v9,Un,U,rfl,rfl,a,?_⟩;rw[akT r,<- append_assoc];exact F;have e:y=m.aU.length:=U
 subst e;rw[take_of_length_le (Nat.le_refl _)]at i;exact j H p q a i;rw[if_neg l]at j;rw[decide_eq_false l];exact dz rfl (j H _ [] (ac.bR a) f)
end
section
variable{H K a b aq hy e l m p s v ae y ab}
def Uo:List oJ:=replicate 32 (.i .u8)
theorem Up:nk P 100 52=some Uo:=ao
theorem EX(h:s.length=32):h4 Uo (aN s):=by have:=Jb s;rw[h]at this;exact this
theorem JT(c:Bool)(d:a.length=32)(e:b.length=32):(cz P .eql 52 c).f (agg (aN a)) (agg (aN b))=some (.bool (decide (a=b))):=by rw[adk Up ao ao (EX d) (EX e),EB]
theorem Bq(c:Bool)(d:a.length=32)(e:b.length=32):(cz P .neq 52 c).f (agg (aN a)) (agg (aN b))=some (.bool (decide (a≠b))):=by rw[H9 Up ao ao (EX d) (EX e),EB];simp
def tW(a b:fi):Prop:=a.cd=b.cd/\a.de=b.de/\a.cY=b.cY/\a.bz=b.bz/\a.bw=b.bw/\a.aU=b.aU
instance (a b:fi):Decidable (tW a b):=by unfold tW;exact inferInstance
theorem ano:tW a b↔a=b:=by
 constructor;intro h;have⟨p,v,s,c,d,k⟩:=a;have⟨d7,ap,bJ,bC,dr,eF⟩:=b;have⟨e,f,g,i,j,l⟩:=h
 simp_all
 rintro rfl;exact⟨rfl,rfl,rfl,rfl,rfl,rfl⟩
theorem Uq{b:List UInt8}:(a==b)=decide (a=b):=aT
theorem EY(t:TypeId)(c:Bool):(cz P .neq t c).f (a6 l) (a6 m)=some (.bool (decide (l≠m))):=by rw[amW,Uq];simp
theorem anp{α:Type}{a:List α}{b:List α}(c:y<a.length)(d:y<b.length):a.drop y=b.drop y↔a[y]=b[y]/\a.drop (y+1)=b.drop (y+1):=by grind[drop_eq_getElem_cons]
theorem anq(d:a.br)(g:b.br)(C:df ab aq a.aU)(M:df ab hy b.aU)(c:ac H ab)(N:∀E,ac E ab->K (.bool (decide (tW a b))) E):aG P 20 [agg (aR a aq),agg (aR b hy)] H K:=by
 refine afZ.1 ?_;have i:=lv (aq:=aq) d.bi;have l:=lv (m:=b) (aq:=hy) g.bi;have f:∀ {H:an} {bL},ac H (ab++bL)->¬tW a b->K (.bool false) H:=fun h S=>by have:=N _ h.left;rw[decide_eq_false S]at this;exact this
 rw[vg];refine dA c.z ?_;intro ax H c;rw[vg];refine dA c ?_;intro F H c
 replace c:ac H (ab++[aa ax (aR a aq),aa F (aR b hy)]):=c
 refine cy (fun o E=>o=[ad ax 0,ad F 0,.bool false]/\H=E/\(a.cd=b.cd/\a.de=b.de/\a.cY=b.cY/\a.bz=b.bz/\a.bw=b.bw)/\a.aU.length=b.aU.length) ?_ ?_;refine Z bj (aD c (v:=a6 a.cd) rfl (Z bj (aD c (v:=a6 b.cd) rfl (Z (EY _ _) (ay (fun s=>?_) (fun s=>?_))))))
 repeat (first|refine aQ ?_|refine hK ?_)
 exact f c (fun h=>s h.1);refine Z bj (aD c rfl (Z bj (aD c rfl (Z dX (Z (dl s) (ay (fun I=>?_) (fun I=>?_)))))))
 repeat (first|refine aQ ?_|refine hK ?_)
 exact f c (fun h=>I (by rw[h.2.1]));refine Z bj (aD c rfl (Z bj (aD c rfl (Z dX (Z (dl I) (ay (fun t=>?_) (fun t=>?_)))))))
 repeat (first|refine aQ ?_|refine hK ?_)
 exact f c (fun h=>t h.2.2.1);refine Z bj (aD c rfl (Z bj (aD c rfl (Z dX (Z (dl t) (ay (fun u=>?_) (fun u=>?_)))))))
 repeat (first|refine aQ ?_|refine hK ?_)
 exact f c (fun h=>u h.2.2.2.1);refine Z bj (mg c (Bo d.bi) (by simp[d.bi]) U (Z bj (mg c (Bo g.bi) (by simp[g.bi]) U (Z (Bq _ d.bi g.bi) (Z (dl u) (ay (fun w=>?_) (fun w=>?_)))))))
 repeat (first|refine aQ ?_|refine hK ?_)
 exact f c (fun h=>w h.2.2.2.2.1);refine Z bj (aD c i (bg C.aZ (Z bj (aD c l (bg M.aZ (Z dX (Z (dl w) (ay (fun V=>?_) (fun V=>?_)))))))));exact f c (fun h=>V (by rw[h.2.2.2.2.2]));refine⟨rfl,rfl,⟨Classical.not_not.1 s,U,Classical.not_not.1 t,Classical.not_not.1 u,Classical.not_not.1 w⟩,U⟩;rintro o E ⟨rfl,rfl,ah,gA⟩
 try simp only[c1,c2]
 refine Z bj (aD c i (bg C.aZ ?_));have p:tW a b↔a.aU.drop 0=b.aU.drop 0:=⟨fun h=>h.2.2.2.2.2,fun h=>⟨ah.1,ah.2.1,ah.2.2.1,ah.2.2.2.1,ah.2.2.2.2,h⟩⟩;refine afY (fun k o E=>∃(y:Nat),y<=a.aU.length/\k=a.aU.length-y/\o=[ad ax 0,ad F 0,.bool false,int a.aU.length,int y]/\H=E/\(tW a b↔a.aU.drop y=b.aU.drop y)) _ _ ?_ a.aU.length _ _ ⟨0,U,U,rfl,rfl,p⟩;rintro k o E ⟨y,x,rfl,rfl,rfl,B⟩;unfold QY;refine ul ?_
 try simp only[c1,c2]
 refine Z cV (ay (fun h=>?_) (fun h=>?_));have x:y<a.aU.length:=U
 have j:y<b.aU.length:=U
 obtain⟨At,pi,X,anr,rfl,J⟩:=C.bb U;obtain⟨co,fc,bE,wT,rfl,L⟩:=M.bb U;have q:=d.dH _ (getElem_mem x);have r:=g.dH _ (getElem_mem j);refine Z bj (aD c i (Z (ez U U) (fe c X (ak J) (Bp d.dH x) (by simp[q]) U (Z bj (aD c l (Z (ez U U) (fe c bE (ak L) (Bp g.dH j) (by simp[r]) U (Z (Bq _ q r) ?_))))))));rw[anp x j]at B;refine ay (fun W=>?_) (fun W=>?_);exact f c (fun h=>W (B.1 h).1);have S:=d.n;refine Z PS (⟨a.aU.length-(y+1),U,y+1,U,rfl,rfl,ao,?_⟩)
 simp_all
 have e:y=a.aU.length:=U
 subst e;rw[drop_of_length_le (Nat.le_refl _),drop_of_length_le U]at B;refine iR rfl ?_;have:=N _ c.left;rw[decide_eq_true (B.2 rfl)]at this;exact this
def vh(ae:LI)(e:Int):Int:=if e=0/\0<ae.length then 52 else e
theorem ans{j:Nat}(b:ac H ab)(c:ab[j]?=some (p,eC v e))(d:bx ab v ae)(a:K (int (vh ae e)) H):aG P 258 [ad p 0] H K:=by
 refine akh.1 ?_;refine ai (bk b j c rfl (Z cN ?_));unfold vh at a;refine ay (fun h=>?_) (fun h=>?_);refine ai (bk b j c rfl (bg d.aZ ?_))
 repeat refine aQ ?_
 refine ay (fun f=>?_) (fun f=>?_);rw[if_pos ⟨h,U⟩]at a;exact a;rw[if_neg U]at a;exact ai (bk b j c rfl a)
 repeat (first|refine aQ ?_|refine rJ ?_)
 rw[if_neg (fun aH=>h aH.1)]at a;exact bk b j c rfl a
end
section
variable{H K e j k hE p v fs cF v3 uT DR DS ae ab}
def et(ae:LI):List UInt8:=ae.map fun n=>UInt8.ofNat n.toNat
def oR(ae:LI)(e:Int):Nat:=er (hl ae e 2)
def iW(ae:LI)(e:Int):LI:=hl (ki ae e 2) (hw ae e 2) (oR ae e)
def hG(ae:LI)(e:Int):LI:=ki (ki ae e 2) (hw ae e 2) (oR ae e)
def iC(ae:LI)(e:Int):Int:=hw (ki ae e 2) (hw ae e 2) (oR ae e)
def sL(ae:LI)(e:Int)(hE:Nat):Prop:=hw ae e 2=0/\hE<oR ae e
instance (ae:LI) (e:Int) (hE:Nat):Decidable (sL ae e hE):=by unfold sL;exact inferInstance
def rS(ae:LI)(e:Int)(hE:Nat):LI:=if sL ae e hE then []else iW ae e
def mG(ae:LI)(e:Int)(hE:Nat):LI:=if sL ae e hE then []else hG ae e
def nY(ae:LI)(e:Int)(hE:Nat):Int:=if sL ae e hE then 52 else iC ae e
theorem Ur(a:bM ae)(e:Int)(n:Nat):bM (hl ae e n):=bx.bytes a n e
theorem sM(b:bM ae)(e:Int)(n:Nat):bM (ki ae e n):=by
 unfold ki;split;exact fun x a=>b x (mem_of_mem_drop a)
 intro x a;cases a
theorem vi(ae:LI)(e:Int)(n:Nat):(ki ae e n).length<=ae.length:=by grind[ki]
theorem Us(a:bM ae)(e:Int):er (hl ae e k)<256^k:=by grind[A1,Ur,yE,Nat.lt_of_lt_of_le,Nat.pow_le_pow_right]
theorem Ut(a:bM ae)(e:Int):oR ae e<65536:=Us a e
theorem lN.trans(a:lN fs uT cF DR)(b:lN cF DR v3 DS):lN fs uT v3 DS:=fun ab h=>b ab (a ab h)
theorem ant(a:ac H ab)(c:ab[j]?=some (p,eC v e))(d:bx ab v ae)(m:bM ae)(r:ae.length<=1000000)
  (f:∀E cF,ac E (ab.set j (p,eC cF (nY ae e hE)))->lN v ae cF (mG ae e hE)->K (a6 (et (rS ae e hE))) E):aG P 256 [ad p 0,int hE] H K:=by
 refine akf.1 ?_;have s:=Ut m e;apply A2 (k:=2) U a c d m;intro H n a i1;have b:=yC (y:=(p,eC n (hw ae e 2))) c;have g:=i1 _ (yD (cA:=eC n (hw ae e 2)) (d7:=p) d c (bx.ha d));rw[show er (hl ae e 2)=oR ae e from rfl];refine bg (rH U) (cy (fun o E=>o=[ad p 0,int (oR ae e),.bool (decide (sL ae e hE))]/\H=E) ?_ ?_);refine ai (bk a j b rfl (Z cN (ay (fun h=>Z go (Z (dT h) (⟨by simp_all[sL],rfl⟩))) (fun h=>?_))));exact Z (dl h) (⟨by simp_all[sL],rfl⟩);rintro o E ⟨rfl,rfl⟩;unfold nY mG rS at f;refine ay (fun h=>?_) (fun h=>?_);simp[if_pos h]at f;apply SQ a b;intro H a;rw[set_set,if_pos h.1]at a;apply Ez a (yC c) .nil U;intro H q i a l i4;rw[set_set]at a;have t:hw [] 52 (oR ae e)=52:=ao
 have u:ki [] 52 (oR ae e)=[]:=ao
 have w:hl [] 52 (oR ae e)=[]:=ao
 exact bg (bx.a6 a (l _ .nil)) (f H i a (fun ab _=>i4 ab .nil));simp[if_neg h]at f;apply Ez a b g U;intro H q i a l i4;rw[set_set]at a;exact bg (bx.a6 a (l _ (i1 _ (yD d c (bx.ha d))))) (f H i a (i1.trans i4))
theorem anu(a:ac H ab)(c:ab[j]?=some (p,eC v e))(d:bx ab v ae)(i:bM ae)(n:ae.length<=1000000)
  (o:∀E cF,ac E (ab.set j (p,eC cF (iC ae e)))->lN v ae cF (hG ae e)->K (a6 (et (iW ae e))) E):aG P 266 [ad p 0,int (65535:Nat)] H K:=by
 refine akq.1 ?_;have s:=Ut i e;apply ES (k:=2) U a c d n i;intro H f a i1;have b:=yC (y:=(p,eC f (hw ae e 2))) c;have g:=i1 _ (yD (cA:=eC f (hw ae e 2)) (d7:=p) d c (bx.ha d));rw[show er (hl ae e 2)=oR ae e from rfl];refine bg (rH U) (cy (fun l E=>l=[ad p 0,int (oR ae e),.bool false]/\H=E) ?_ ?_);refine ai (bk a j b rfl (Z cN (ay (fun h=>Z go (Z (dT h) (⟨aT,rfl⟩))) (fun h=>?_))));exact Z (dl h) (⟨rfl,rfl⟩);rintro l E ⟨rfl,rfl⟩;apply cT rfl;have:=vi ae e 2;apply JE a b g U U;intro H m q r a i4 fN
 replace a:ac H ((ab.set j (p,eC f (hw ae e 2))).set j (p,eC m (iC ae e))++aw q r):=a
 rw[set_set]at a;exact bg (bx.a6 a fN.gd.app') (o H m a.left (i1.trans i4))
def gj:LI:=replicate 32 0
def ku(ae:LI)(e:Int):LI:=if e=0/\32<=ae.length then ae.take 32 else gj
theorem oS:(ku ae e).length=32:=by
 unfold ku;split
 simp_all
 rfl
theorem Uu(a:bM ae):bM (ku ae e):=by
 unfold ku;split;exact fun x b=>a x (mem_of_mem_take b)
 exact Bf
theorem anv:fF P 52=aN gj:=ao
theorem anw:(eg P 52).f []=some (agg (aN gj)):=ao
theorem anx:(aN gj).take 0++(aN (hl ae e 32)++(aN gj).drop (0+(hl ae e 32).length))=aN (ku ae e):=by
 unfold ku hl;split
 simp_all[gj]
 rfl
theorem Uv(a:ac H ab)(h:ab[j]?=some (p,eC v e))(k:bx ab v ae)(l:ae.length<=1000000)
  (c:∀E cF,ac E (ab.set j (p,eC cF (hw ae e 32)))->lN v ae cF (ki ae e 32)->K (agg (aN (ku ae e))) E):aG P 257 [ad p 0] H K:=by
 refine akg.1 ?_;have d:=(List.getElem?_eq_some_iff.1 h).1;refine dA a.z fun ax H a=>dA a ?_
 intro f H a
 replace a:ac H (ab++[aa ax (aN gj),aa f (aN gj)]):=a
 refine Z (Bj a 1 rfl ao U) (ak0 (n:=32) a (ak h) k.app U l ?_);intro q cF ap bC b m o;rw[show yG (ab++[aa ax (aN gj),aa f (aN gj)]) j p ae e 32 cF=ab.set j (p,eC cF (hw ae e 32))++[aa ax (aN gj),aa f (aN gj)]from set_append_left _ _ d]at b;refine⟨jf a b (sD _),?_⟩
 replace c:=c (cF:=cF)
 generalize ab.set j (p,eC cF (hw ae e 32))=ab at*;have g:=yE ae e 32;apply JF b (i:=ab.length+1) (ak (al rfl)) o.gd.app' g (by simp[gj]);intro H a;rw[set_append_left _ _ aW,Go.Ab.bp,anx]at a
 replace a:=a.left
 exact fI a 1 rfl (by simp[oS]) U (gS a 0 rfl ao (by simp[oS]) (ge _) (fun H a=>fI a 0 rfl (by simp[oS]) U (c H a.left m)))
theorem Uw(b:ac H ab)(I:ab[j]?=some (p,eC v e))(M:bx ab v ae)(N:ae.length<=1000000)
  (m:∀E cF,ac E (ab.set j (p,eC cF (hw ae e 32)))->lN v ae cF (ki ae e 32)->K (agg (aN (ku ae e))) E):aG P 268 [ad p 0] H K:=by
 refine akv.1 ?_;have q:=(List.getElem?_eq_some_iff.1 I).1;refine dA b.z ?_;intro ax H b;refine Z anw (dA b ?_);intro f H b;refine gS b 1 rfl ao ao (ge _) ?_;intro H b
 replace b:ac H (ab++[aa ax (aN gj),aa f (aN gj)]):=b
 refine JE (n:=32) b (ak I) M.app U N ?_;intro S cF ap bC g V J;rw[show yG (ab++[aa ax (aN gj),aa f (aN gj)]) j p ae e 32 cF=ab.set j (p,eC cF (hw ae e 32))++[aa ax (aN gj),aa f (aN gj)]from set_append_left _ _ q]at g
 replace m:=m (cF:=cF)
 generalize ab.set j (p,eC cF (hw ae e 32))=ab at*;have s:=yE ae e 32;refine bg J.aZ ?_;have t:∀(a:LI) (u:a.length<=32),dm ap a bC->a++gj.drop a.length=ku ae e->i7 P true 20 I8 12 [ad ax 0,ad f 0,ap,int a.length,int 0] S (fun id l d=>
   cond (beq id 0) (a7 (jo 32 (bS l 1) d) fun w x=>a7 (d9 32 (bS l 0) w x) fun W i=>a7 (jo 32 (bS l 0) i) fun r _=>K r i) False) (fun l d=>a7 (jo 32 (bS l 0) d) fun B _=>K B d):=by
  intro a u X he;have nQ:gj.length=32:=rfl;refine aku (fun k L E=>∃(y:Nat),y<=a.length/\k=a.length-y/\L=[ad ax 0,ad f 0,ap,int a.length,int y]/\ac E ((ab++[aa ax (aN gj),aa f (aN (a.take y++gj.drop y))])++aw ap bC)) _ _ ?_ a.length _ _ ⟨0,U,U,rfl,g⟩;rintro k L H ⟨y,C,rfl,rfl,b⟩;unfold SF;refine ul ?_
  try simp only[c1,c2]
  refine Z cV (ay (fun h=>?_) (fun h=>?_));have C:y<a.length:=U
  obtain⟨cd,o,c,anz,dD,rfl,h1,h2⟩:=(X.gd.app').at C;refine Z (ez U U) (bk b anz h1 (v:=.int .u8 a[y]) a1 (Z (eo U U) (cQ b (ab.length+1) (ak (al rfl)) rfl aT (show _=aN (a.take (y+1)++gj.drop (y+1))from ?_) ?_)));rw[show 0+(y:Int).toNat*1=y by omega];have F:gj.drop y=0::gj.drop (y+1):=by grind[gj,drop_eq_getElem_cons]
  rw[F,take_succ_eq_append_getElem C]
  grind
  intro H b;rw[set_append_left _ _ aW,Go.Ab.bp]at b
  repeat refine aQ ?_
  exact⟨a.length-(y+1),U,y+1,U,rfl,rfl,b⟩;have F:y=a.length:=U
  subst F;rw[take_of_length_le (Nat.le_refl _),he]at b;refine iR rfl ?_
  try simp only[c1,c2]
  replace b:=b.left
  refine fI b 1 rfl aT U (gS b 0 rfl ao aT (ge _) ?_);intro H b;exact fI b 0 rfl aT U (m H b.left V)
 refine t _ s J ?_;unfold ku hl;split
 simp_all[gj]
 rfl
end
section
variable{H K b c ag aq d hy h l n s dd size t v x ab}
abbrev kj:=LI×Int
def cE(n:Nat)(s:kj):kj:=(ki s.1 s.2 n,hw s.1 s.2 n)
def hb(n:Nat)(s:kj):LI:=hl s.1 s.2 n
def ah(s:kj):LI:=ku s.1 s.2
def eI:Nat->kj->kj
 | 0,s=>s
 | n+1,s=>cE 32 (eI n s)
def dY:Nat->kj->List LI 
 | 0,_=>[]
 | n+1,s=>dY n s++[ah (eI n s)]
def gk(t:LI)(s:kj):fi:=⟨et t,er (hb 8 s),(er (hb 4 (cE 8 s)):Int),(er (hb 2 (cE 4 (cE 8 s))):Int),ah (cE 2 (cE 4 (cE 8 s))),[]⟩
def e9(s:kj):kj:=cE 32 (cE 2 (cE 4 (cE 8 s)))
def cJ:fi:=⟨[],0,0,0,gj,[]⟩
def gT(h:fi)(c:List LI):fi:={h with aU:=c}
def kT(h:fi):Nat:=(min (kS h.cY h.bz) 65).toNat
def wU(t:LI)(s:kj):fi:=gT (gk t s) (dY (kT (gk t s)) (e9 s))
def Br(t:LI)(s:kj):kj:=eI (kT (gk t s)) (e9 s)
def EZ(t:LI)(s:kj):Prop:=vh (Br t s).1 (Br t s).2=0/\dy (wU t s)
instance (t:LI) (s:kj):Decidable (EZ t s):=by unfold EZ;exact inferInstance
def wV(t:LI)(s:kj):fi×Int:=if EZ t s then(wU t s,0)else(cJ,131)
def kz(b:LI):fi×Int:=wV (rS b 0 96) (mG b 0 96,nY b 0 96)
theorem iD(h:bM s.1):bM (cE n s).1:=sM h _ _
theorem tX:(cE n s).1.length<=s.1.length:=vi _ _ _
theorem Ux(h:bM s.1):∀n,bM (eI n s).1
 | 0=>h
 | n+1=>iD (Ux h n)
theorem JU:∀n,(eI n s).1.length<=s.1.length
 | 0=>Nat.le_refl _
 | n+1=>Nat.le_trans tX (JU n)
theorem y1:∀n,(dY n s).length=n
 | 0=>rfl
 | n+1=>by show(dY n s++[_]).length=_;rw[length_append,y1 n];rfl
theorem Uy:∀n,∀x∈dY n s,x.length=32
 | 0,_,h=>by cases h
 | n+1,x,h=>by
  rcases mem_append.1 (h)with h|h
  exact Uy n x h;rw[mem_singleton.1 h];exact oS
theorem Uz(a:bM s.1):∀n,∀x∈dY n s,bM x
 | 0,_,h=>by cases h
 | n+1,x,h=>by
  rcases mem_append.1 (h)with h|h
  exact Uz a n x h;rw[mem_singleton.1 h];exact Uu (Ux a n)
theorem tY(a:bM s.1)(k:Nat):er (hb k s)<256^k:=Us a s.2
theorem JV(a:bM s.1)(d:t.length<=10000)(e:n<=10000)(b:bM dd.1):(gT (gk t s) (dY n dd)).br:=by
 have c:=tY a 8;have f:=tY (s:=cE 8 s) (iD a) 4;have g:=tY (s:=cE 4 (cE 8 s)) (iD (iD a)) 2;refine⟨oS,Uu (iD (iD (iD a))),Uy n,Uz b n,c,?_,?_,?_,?_⟩;show-9223372036854775808<=((er (hb 4 (cE 8 s)):Nat):Int)/\((er (hb 4 (cE 8 s)):Nat):Int)<=9223372036854775807;omega;show-9223372036854775808<=((er (hb 2 (cE 4 (cE 8 s))):Nat):Int)/\((er (hb 2 (cE 4 (cE 8 s))):Nat):Int)<=9223372036854775807;omega;show(dY n dd).length<=_
 grind[y1]
 show(et t).length<=_
 simp_all[et]
theorem p4:cJ.br:=⟨rfl,Bf,(by intro x h;cases h),(by intro x h;cases h),bT,bT,bT,bT,bT⟩
theorem wW:fF P 55=aR cJ aA:=ao
theorem tZ:(eg P 55).f []=some (agg (aR cJ aA)):=ao
theorem anA(s:ByteArray)(n:Nat)(x y:Int):(eg P 55).f [(0,.string s),(1,bB .u64 n),(2,int x),(3,int y)]=some (agg (aR ⟨s.data.toList,n,x,y,gj,[]⟩ aA)):=ao
theorem JW(h:LI)(a:h.length=32)(H:an):(gY P 53 1).f [(0,agg (aN h))] H=some (am H.next 0 1 65,H.push (aN h)):=by
 match h,a with
 | [a0,x,y,a3,a4,a5,z,B,C,a9,b,c,d,e,g,i,j,k,l,m,a20,a21,n,o,p,q,r,s,t,u,v,w],_=>rfl
theorem UA(a2:h.bw.length=32)(a:d.length=32):(aR h aq).take (0+4)++(es (agg (aN d))++(aR h aq).drop (0+4+32))=aR {h with bw:=d} aq:=by show [a6 h.cd,bB .u64 h.de,int h.cY,int h.bz]++(aN d++(aN h.bw++[aq]).drop 32)=_;rw[drop_append_of_le_length (by simp[a2]),drop_of_length_le (by simp[a2])];rfl
theorem UB(a2:h.bw.length=32):(aR h aq).set (0+36) hy=aR h hy:=by show a6 h.cd::bB .u64 h.de::int h.cY::int h.bz::(aN h.bw++[aq]).set 32 hy=_;simp[a2];rfl
theorem E0(h:dK 32 v l.length (ec l)):df (aw v (ec l)) v l:=by
 rcases h with⟨rfl,a,_⟩|⟨p,rfl|rfl,_⟩
 exact .inl ⟨rfl,length_eq_zero_iff.1 a⟩;exact .inr ⟨p,_,0,true,rfl,rfl⟩;exact .inr ⟨p,_,0,true,rfl,rfl⟩
theorem Bs:ec (l++[x])=ec l++aN x:=by simp[ec]
theorem wX(h:dK size v n ag):dx v=true/\cS v=true:=by rcases h with⟨rfl,_⟩|⟨p,rfl|rfl,_⟩<;>exact⟨rfl,rfl⟩
theorem anB(a:ac H ab)(d:bx ab v b)(d5:bM b)(ey:b.length<=9000)
  (r:∀E aq,ac E (ab++aw aq (ec (kz b).1.aU))->df (aw aq (ec (kz b).1.aU)) aq (kz b).1.aU->K (.tuple [agg (aR (kz b).1 aq),int (kz b).2].toArray) E):aG P 232 [v] H K:=by
 refine ajR.1 ?_;rw[wW];refine dA a.z ?_;intro ax H a;refine SP a d.app ?_;intro H f a
 replace a:ac H (ab++[aa ax (aR cJ aA),(f,eC v 0)]):=a.as
 have F:(rS b 0 96).length<=10000:=by grind[rS,iW,hl,vi]
 refine ant (hE:=96) a (al (k:=1) rfl) d.app d5 U ?_;intro H I a i1
 replace a:ac H (ab++[aa ax (aR cJ aA),(f,eC I (nY b 0 96))]):=a.bp
 replace d:=i1 _ d
 have e:bM (mG b 0 96):=by unfold mG hG;split;intro x h;cases h;exact sM (sM d5 _ _) _ _
 have u:(mG b 0 96).length<=b.length:=by grind[mG,hG,vi]
 unfold kz at r
 replace a:ac H (ab++[aa ax (aR cJ aA),(f,eC I (mG b 0 96,nY b 0 96).2)]):=a
 replace d:bx ab I (mG b 0 96,nY b 0 96).1:=d
 replace e:bM (mG b 0 96,nY b 0 96).1:=e
 replace u:(mG b 0 96,nY b 0 96).1.length<=b.length:=u
 generalize rS b 0 96=t at*;generalize ((mG b 0 96,nY b 0 96):kj)=s at*;have Bt:=tY e 8;refine A2 (k:=8) U a (al (k:=1) rfl) d.app e ?_;intro H cF a kA
 replace a:ac H (ab++[aa ax (aR cJ aA),(f,eC cF (cE 8 s).2)]):=a.bp
 replace d:bx ab cF (cE 8 s).1:=kA _ d
 have g0:=tY (s:=cE 8 s) (iD e) 4;refine A2 (k:=4) U a (al (k:=1) rfl) d.app (iD e) ?_;intro H v3 a yR
 replace a:ac H (ab++[aa ax (aR cJ aA),(f,eC v3 (cE 4 (cE 8 s)).2)]):=a.bp
 replace d:bx ab v3 (cE 4 (cE 8 s)).1:=yR _ d
 refine bg (rH (k:=.u64) (show er (hb 4 (cE 8 s))<=_ by omega)) ?_;have h2:=tY (s:=cE 4 (cE 8 s)) (iD (iD e)) 2;refine A2 (k:=2) U a (al (k:=1) rfl) d.app (iD (iD e)) ?_;intro H J a i4
 replace a:ac H (ab++[aa ax (aR cJ aA),(f,eC J (cE 2 (cE 4 (cE 8 s))).2)]):=a.bp
 replace d:bx ab J (cE 2 (cE 4 (cE 8 s))).1:=i4 _ d
 refine bg (rH (k:=.u64) (show er (hb 2 (cE 4 (cE 8 s)))<=_ by omega)) (Z (anA _ _ _ _) (dA a ?_));intro l H a;refine gS a 2 rfl ao ao (hB rfl) ?_;intro H a
 replace a:ac H (ab++[aa ax (aR cJ aA),(f,eC J (cE 2 (cE 4 (cE 8 s))).2),aa l (aR ⟨et t,er (hb 8 s),(er (hb 4 (cE 8 s)):Int),(er (hb 2 (cE 4 (cE 8 s))):Int),gj,[]⟩ aA)]):=a
 have L:(cE 2 (cE 4 (cE 8 s))).1.length<=9000:=Nat.le_trans tX (Nat.le_trans tX (Nat.le_trans tX U));refine Uv a (al (k:=1) rfl) d.app U ?_;intro H C a qK
 replace a:ac H (ab++[aa ax (aR cJ aA),(f,eC C (e9 s).2),aa l (aR ⟨et t,er (hb 8 s),(er (hb 4 (cE 8 s)):Int),(er (hb 2 (cE 4 (cE 8 s))):Int),gj,[]⟩ aA)]):=a.bp
 replace d:bx ab C (e9 s).1:=qK _ d
 refine Z bj (kx a (ab.length+2) (al rfl) (show(aN (ku _ _)).length=32 by simp_all[oS]) (by show 0+4+32<=(aR _ _).length;rw[b7 rfl];omega) (ge _) ?_);intro H a;rw[UA rfl oS]at a
 replace a:ac H (ab++[aa ax (aR cJ aA),(f,eC C (e9 s).2),aa l (aR (gk t s) aA)]):=a.bp
 have p:(gk t s).bw.length=32:=oS;have M:bM (e9 s).1:=iD (iD (iD (iD e)));have anC:(e9 s).1.length<=9000:=Nat.le_trans tX L;refine Z bj (aD a (v:=int (gk t s).cY) rfl (Z bj (aD a (v:=int (gk t s).bz) rfl ?_)));have axq:(gk t s).cY<=4294967295:=by show((er (hb 4 (cE 8 s)):Nat):Int)<=_;omega
 have axr:(gk t s).bz<=65535:=by show((er (hb 2 (cE 4 (cE 8 s))):Nat):Int)<=_;omega
 refine Uj U U (bg rE ?_);have qD:=JP (s:=(gk t s).cY) (c:=(gk t s).bz);have S:kT (gk t s)<=65:=by grind[kT]
 rw[show min (kS (gk t s).cY (gk t s).bz) 65=((kT (gk t s):Nat):Int) by grind[kT]];have V:∀n,n<=65->(gT (gk t s) (dY n (e9 s))).br:=fun n eZ=>JV e F U M
 have W:vh (eI (kT (gk t s)) (e9 s)).1 (eI (kT (gk t s)) (e9 s)).2=0/\dy (gT (gk t s) (dY (kT (gk t s)) (e9 s)))->∀E aq,ac E (ab++aw aq (ec (dY (kT (gk t s)) (e9 s))))->df (aw aq (ec (dY (kT (gk t s)) (e9 s)))) aq (dY (kT (gk t s)) (e9 s))->K (.tuple [agg (aR (gT (gk t s) (dY (kT (gk t s)) (e9 s))) aq),int 0].toArray) E:=by intro h;rw[show wV t s=(wU t s,0)from if_pos h]at r;exact r
 have X:¬(vh (eI (kT (gk t s)) (e9 s)).1 (eI (kT (gk t s)) (e9 s)).2=0/\dy (gT (gk t s) (dY (kT (gk t s)) (e9 s))))->∀E,ac E ab->K (.tuple [agg (aR cJ aA),int 131].toArray) E:=by intro h E a;rw[show wV t s=(cJ,131)from if_neg h]at r;exact r E aA a.z (.inl ⟨rfl,rfl⟩)
 generalize kT (gk t s)=N at*;generalize gk t s=h at*;generalize e9 s=dd at*;refine ajQ (fun k w E=>∃(y:Nat) (aq v:Value),y<=N/\k=N-y/\w=[ad ax 0,int 0,ad f 0,ad l 0,int N,int y]/\ac E ((ab++[aa ax (aR cJ aA),(f,eC v (eI y dd).2),aa l (aR h aq)])++aw aq (ec (dY y dd)))/\dK 32 aq y (ec (dY y dd))/\bx ab v (eI y dd).1) _ _ ?_ N _ _ ⟨0,aA,C,U,U,rfl,a.z,.nil,d⟩;rintro k w H ⟨y,aq,v,fS,rfl,rfl,a,m,d⟩;unfold Ss;refine ul ?_
 try simp only[c1,c2]
 refine Z cV (ay (fun rx=>?_) (fun rx=>?_));have fS:y<N:=U
 obtain⟨kU,sx⟩:=wX m;refine Z bj (aD a (lv p) (Uv a (ak (al (k:=1) rfl)) d.app.app (Nat.le_trans (JU y) U) ?_));intro dc pU i JX;rw[set_append_left _ _ aW,Go.Ab.bp]at i
 replace i:ac dc ((ab++[aa ax (aR cJ aA),(f,eC pU (eI (y+1) dd).2),aa l (aR h aq)])++aw aq (ec (dY y dd))):=i
 refine⟨gw a (ab.length+2) (ak (al rfl)) i (ab.length+2) (ak (al rfl)) (q3 kU),?_⟩;refine el i (JW _ oS _) ?_;intro q H a;refine qQ a m (by simp[oS]) U (ge _) U U ?_;intro j H a g
 replace a:ac H ((ab++[aa ax (aR cJ aA),(f,eC pU (eI (y+1) dd).2),aa l (aR h aq)])++aw j (ec (dY (y+1) dd))):=by show ac H (_++aw j (ec (dY y dd++[ah (eI y dd)])));rw[Bs];exact a
 replace g:dK 32 j (y+1) (ec (dY (y+1) dd)):=by show dK 32 j (y+1) (ec (dY y dd++[ah (eI y dd)]));rw[Bs];exact g
 refine Z bj (cQ a (ab.length+2) (ak (al rfl)) (wX g).2 (by grind[b7]) (UB p) ?_);intro H a;rw[set_append_left _ _ aW,Go.Ab.bp]at a
 repeat refine aQ ?_
 exact⟨N-(y+1),U,y+1,j,pU,U,rfl,rfl,a,g,JX _ d⟩;have tP:y=N:=U
 subst tP;refine iR rfl ?_
 try simp only[c1,c2]
 have anD:=y1 (s:=dd) y;have B:df (aw aq (ec (dY y dd))) aq (gT h (dY y dd)).aU:=E0 (by rw[anD];exact m);have anE:=V y S;refine cy (fun w E=>w=[ad ax 0,ad l 0,.bool (decide (¬(vh (eI y dd).1 (eI y dd).2=0/\dy (gT h (dY y dd)))))]/\ac E ((ab++[aa ax (aR cJ aA),(f,eC v (eI y dd).2),aa l (aR h aq)])++aw aq (ec (dY y dd)))) ?_ ?_;refine ans a (ak (al (k:=1) rfl)) d.app.app (Z dX (ay (fun o=>?_) (fun o=>?_)));exact Z (dT o) (⟨a1,a⟩);refine fe a (ab.length+2) (ak (al rfl)) (show _=aR (gT h (dY y dd)) aq from by rw[drop_zero];exact take_of_length_le (by grind[b7])) (b7 p) U (y0 anE B.app' a ?_);intro H a;refine Z fX (Z (dl o) (⟨?_,a⟩))
 simp_all
 rintro w H ⟨rfl,a⟩
 try simp only[c1,c2]
 refine ay (fun o=>?_) (fun o=>?_);refine Z tZ ?_
 replace a:=a.left
 refine gS a 0 rfl ao ao (hB rfl) ?_;intro H a;exact fI a 0 rfl ao U (X o H a.left);refine fe a (ab.length+2) (ak (al rfl)) (show _=aR (gT h (dY y dd)) aq from by rw[drop_zero];exact take_of_length_le (by grind[b7])) (b7 p) U (dn a (ab.length+0) (ak (al rfl)) ao (b7 p) (hB (wX m).2) ?_);intro H a;rw[set_append_left _ _ aW,Go.Ab.bp]at a;exact fe a (ab.length+0) (ak (al rfl)) (show _=aR (gT h (dY y dd)) aq from by simp_all[take_of_length_le,b7,gT]) (b7 p) U (W (Classical.not_not.1 o) H aq (ac.bR a) B)
end
section
variable{H E K a b m s v ab bL}
def kV(ab:LB)(v:Value):Prop:=v=aA\/∃(p o n c j:Nat) (b:ef),v=am p o n c/\ab[j]?=some (p,b)/\b.cells.all dx=true/\(b.wr=true\/b.cells≠[])
theorem kV.app(h:kV ab v):kV (ab++bL) v:=by
 rcases h with h|⟨p,o,n,c,j,b,a,d,e⟩
 exact .inl h;exact .inr ⟨p,o,n,c,j,b,a,ak d,e⟩
theorem kV.ot(h:kV ab v)(e:ac H ab)(a:ac E (ab++bL)):iP (ik H E) (dM [v]):=by
 rcases h with rfl|⟨p,o,n,c,j,b,rfl,d,f,g⟩
 rfl;exact gw e j d a j (ak d) f g
def iX:Nat->kj->Nat
 | 0,_=>0
 | f+1,s=>if s.1=[]then 0 else iX f (cE 32 s)+1
theorem JY:∀n,eI n (cE 32 s)=eI (n+1) s
 | 0=>rfl
 | n+1=>by show cE 32 (eI n (cE 32 s))=_;rw[JY n];rfl
theorem anF:∀(f y:Nat),y<f->iX f s=y+iX (f-y) (eI y s)->iX f s=(if(eI y s).1=[]then y else(y+1)+iX (f-(y+1)) (eI (y+1) s)):=by
 intro f y a h;obtain⟨g,b⟩:∃g,f-y=g+1:=⟨f-y-1,U⟩
 grind[eI,iX]
def wY(t:LI)(s:kj):fi:=gT (gk t s) (dY (iX 65 (e9 s)) (e9 s))
def y2(b t:LI)(s:kj):Prop:=(eI (iX 65 (e9 s)) (e9 s)).2=0/\ji (wY t s)=b/\b≠[]
instance (b t:LI) (s:kj):Decidable (y2 b t s):=by unfold y2;exact inferInstance
def y3(b t:LI)(s:kj):fi×Int:=if y2 b t s then(wY t s,0)else(cJ,131)
def sN(b:LI):fi×Int:=y3 b (iW b 0) (hG b 0,iC b 0)
theorem anG(a:Option Addr)(n c:Nat):(eg P 410).f [(0,.slice a n c)]=some (agg [.slice a n c,int 0]):=ao
theorem anH(s:ByteArray):(eg P 55).f [(0,.string s)]=some (agg (aR ⟨s.data.toList,0,0,0,gj,[]⟩ aA)):=ao
theorem E4(c:bM a)(d:bM b)(h:et a=et b):a=b:=by have e:=JQ a c;have f:=JQ b d;rw[<- e,<- f];exact congrArg ps h
theorem Bu(y n:Nat):bM (iT y n):=by intro x a;obtain⟨i,_,rfl⟩:=List.mem_map.1 a;omega
theorem anI:∀ {l:List LI},(∀x∈l,bM x)->bM l.flatten:=by
 intro l h x a
 grind[mem_flatten]
theorem JZ(a:m.br):bM (ji m):=by unfold ji;split;exact kP (kP (kP (kP (kP (kP (Bu _ _) ang) (Bu _ _)) (Bu _ _)) (Bu _ _)) a.ane) (anI a.fc);intro x h;cases h
theorem anJ(a:ac H ab)(c:bx ab v b)(d5:bM b)(ey:b.length<=9000)(lm:kV ab v)
  (fD:∀E aq,ac E (ab++aw aq (ec (sN b).1.aU))->df (aw aq (ec (sN b).1.aU)) aq (sN b).1.aU->K (.tuple [agg (aR (sN b).1 aq),int (sN b).2].toArray) E):aG P 246 [v] H K:=by
 refine aj6.1 ?_;have J:=c;rw[wW];refine dA a.z ?_;intro ax H a;obtain⟨a0,iv,m9,pL⟩:=c.ha;refine Z (by rw[pL];exact anG _ _ _) ?_;rw[<- pL];refine dA a ?_;intro i H a
 replace a:ac H (ab++[aa ax (aR cJ aA),(i,eC v 0)]):=a
 have GH:(iW b 0).length<=10000:=by
  unfold iW;have d:∀(ae:LI) (e:Int) (n:Nat),(hl ae e n).length<=ae.length:=fun ae e n=>by unfold hl;split;rw[length_take];omega;simp
  have:=d (ki b 0 2) (hw b 0 2) (oR b 0);have:=vi b 0 2;omega
 refine anu a (al (k:=1) rfl) c.app d5 U ?_;intro H fs a i1
 replace a:ac H (ab++[aa ax (aR cJ aA),(i,eC fs (iC b 0))]):=a.bp
 replace c:=i1 _ c
 have g:bM (hG b 0):=sM (sM d5 _ _) _ _;have xS:(hG b 0).length<=b.length:=Nat.le_trans (vi _ _ _) (vi _ _ _);unfold sN at fD
 replace a:ac H (ab++[aa ax (aR cJ aA),(i,eC fs (hG b 0,iC b 0).2)]):=a
 replace c:bx ab fs (hG b 0,iC b 0).1:=c
 replace g:bM (hG b 0,iC b 0).1:=g
 replace xS:(hG b 0,iC b 0).1.length<=b.length:=xS
 generalize iW b 0=t at*;generalize ((hG b 0,iC b 0):kj)=s at*;refine Z (anH _) (dA a ?_);intro j H a;refine gS a 2 rfl ao ao (hB rfl) ?_;intro H a
 replace a:ac H (ab++[aa ax (aR cJ aA),(i,eC fs s.2),aa j (aR ⟨et t,0,0,0,gj,[]⟩ aA)]):=a
 have Bt:=tY g 8;refine ES (k:=8) U a (al (k:=1) rfl) c.app U g ?_;intro H cF a kA
 replace a:ac H (ab++[aa ax (aR cJ aA),(i,eC cF (cE 8 s).2),aa j (aR ⟨et t,0,0,0,gj,[]⟩ aA)]):=a.bp
 replace c:bx ab cF (cE 8 s).1:=kA _ c
 refine Z bj (cr a 2 rfl rfl (by rw[b7 rfl];omega) ?_);intro H a
 replace a:ac H (ab++[aa ax (aR cJ aA),(i,eC cF (cE 8 s).2),aa j (aR ⟨et t,er (hb 8 s),0,0,gj,[]⟩ aA)]):=a
 have anK:(cE 8 s).1.length<=9000:=Nat.le_trans tX U;have g0:=tY (s:=cE 8 s) (iD g) 4;refine ES (k:=4) U a (al (k:=1) rfl) c.app U (iD g) ?_;intro H v3 a yR
 replace a:ac H (ab++[aa ax (aR cJ aA),(i,eC v3 (cE 4 (cE 8 s)).2),aa j (aR ⟨et t,er (hb 8 s),0,0,gj,[]⟩ aA)]):=a.bp
 replace c:bx ab v3 (cE 4 (cE 8 s)).1:=yR _ c
 refine bg (rH (k:=.u64) (show er (hb 4 (cE 8 s))<=_ by omega)) (Z bj (cr a 2 rfl rfl (by rw[b7 rfl];omega) ?_));intro H a
 replace a:ac H (ab++[aa ax (aR cJ aA),(i,eC v3 (cE 4 (cE 8 s)).2),aa j (aR ⟨et t,er (hb 8 s),(er (hb 4 (cE 8 s)):Int),0,gj,[]⟩ aA)]):=a
 have anL:(cE 4 (cE 8 s)).1.length<=9000:=Nat.le_trans tX anK;have S:=tY (s:=cE 4 (cE 8 s)) (iD (iD g)) 2;refine ES (k:=2) U a (al (k:=1) rfl) c.app U (iD (iD g)) ?_;intro H v4 a i4
 replace a:ac H (ab++[aa ax (aR cJ aA),(i,eC v4 (cE 2 (cE 4 (cE 8 s))).2),aa j (aR ⟨et t,er (hb 8 s),(er (hb 4 (cE 8 s)):Int),0,gj,[]⟩ aA)]):=a.bp
 replace c:bx ab v4 (cE 2 (cE 4 (cE 8 s))).1:=i4 _ c
 refine bg (rH (k:=.u64) (show er (hb 2 (cE 4 (cE 8 s)))<=_ by omega)) (Z bj (cr a 2 rfl rfl (by rw[b7 rfl];omega) ?_));intro H a
 replace a:ac H (ab++[aa ax (aR cJ aA),(i,eC v4 (cE 2 (cE 4 (cE 8 s))).2),aa j (aR ⟨et t,er (hb 8 s),(er (hb 4 (cE 8 s)):Int),(er (hb 2 (cE 4 (cE 8 s))):Int),gj,[]⟩ aA)]):=a
 have IG:(cE 2 (cE 4 (cE 8 s))).1.length<=9000:=Nat.le_trans tX anL;refine Uw a (al (k:=1) rfl) c.app U ?_;intro H v5 a qK
 replace a:ac H (ab++[aa ax (aR cJ aA),(i,eC v5 (e9 s).2),aa j (aR ⟨et t,er (hb 8 s),(er (hb 4 (cE 8 s)):Int),(er (hb 2 (cE 4 (cE 8 s))):Int),gj,[]⟩ aA)]):=a.bp
 replace c:bx ab v5 (e9 s).1:=qK _ c
 refine Z bj (kx a (ab.length+2) (al rfl) (show(aN (ku _ _)).length=32 by rw[dp];exact oS) (by show 0+4+32<=(aR _ _).length;rw[b7 rfl];omega) (ge _) ?_);intro H a;rw[UA rfl oS]at a
 replace a:ac H (ab++[aa ax (aR cJ aA),(i,eC v5 (e9 s).2),aa j (aR (gk t s) aA)]):=a.bp
 have a2:(gk t s).bw.length=32:=oS;have anM:bM (e9 s).1:=iD (iD (iD (iD g)));have anC:(e9 s).1.length<=9000:=Nat.le_trans tX IG;have UC:∀n,n<=65->(gT (gk t s) (dY n (e9 s))).br:=fun n eZ=>JV g GH U anM
 have L:(eI (iX 65 (e9 s)) (e9 s)).2=0/\ji (gT (gk t s) (dY (iX 65 (e9 s)) (e9 s)))=b/\b≠[]->∀E aq,ac E (ab++aw aq (ec (dY (iX 65 (e9 s)) (e9 s))))->df (aw aq (ec (dY (iX 65 (e9 s)) (e9 s)))) aq (dY (iX 65 (e9 s)) (e9 s))->K (.tuple [agg (aR (gT (gk t s) (dY (iX 65 (e9 s)) (e9 s))) aq),int 0].toArray) E:=by intro h;rw[show y3 b t s=(wY t s,0)from if_pos h]at fD;exact fD
 have M:¬((eI (iX 65 (e9 s)) (e9 s)).2=0/\ji (gT (gk t s) (dY (iX 65 (e9 s)) (e9 s)))=b/\b≠[])->∀E,ac E ab->K (.tuple [agg (aR cJ aA),int 131].toArray) E:=by intro h E a;rw[show y3 b t s=(cJ,131)from if_neg h]at fD;exact fD E aA a.z (.inl ⟨rfl,rfl⟩)
 generalize gk t s=h at*;generalize e9 s=dd at*;refine aj5 (fun k w E=>∃(y:Nat) (aq V:Value),y<=65/\k=65-y/\w=[v,ad ax 0,int 0,ad i 0,ad j 0]/\ac E ((ab++[aa ax (aR cJ aA),(i,eC V (eI y dd).2),aa j (aR h aq)])++aw aq (ec (dY y dd)))/\dK 32 aq y (ec (dY y dd))/\bx ab V (eI y dd).1/\iX 65 dd=y+iX (65-y) (eI y dd)) _ _ ?_ 65 _ _ ⟨0,aA,v5,U,U,rfl,a.z,.nil,c,by rw[Nat.zero_add];rfl⟩;rintro k w H ⟨y,aq,V,fS,rfl,rfl,a,o,c,j6⟩;unfold Sy;refine ul ?_
 try simp only[c1,c2]
 obtain⟨kU,sx⟩:=wX o;by_cases c8:(eI y dd).1=[];refine cy (fun _ _=>False) ?_ (fun _ _ h=>h.elim);have W:iX 65 dd=y:=by
  rw[j6];have:iX (65-y) (eI y dd)=0:=by
   cases h65:65-y with
   | zero=>rfl
   | succ n=>unfold iX;rw[if_pos c8]
  omega
 refine ai (bk a (ab.length+1) (ak (al rfl)) (v:=V) rfl (bg c.aZ (Z go (ix (by rw[c8];simp) ?_))));rw[c8]
 repeat (first|refine aQ ?_|refine rJ ?_|refine qJ ?_)
 try simp only[c1,c2]
 have X:=y1 (s:=dd) y;have x:df (aw aq (ec (dY y dd))) aq (gT h (dY y dd)).aU:=E0 (by rw[X];exact o);have B:=UC y fS;rw[W]at L M;refine cy (fun w E=>w=[ad ax 0,ad j 0,.bool (decide (¬((eI y dd).2=0/\ji (gT h (dY y dd))=b/\b≠[])))]/\ac E ((ab++[aa ax (aR cJ aA),(i,eC V (eI y dd).2),aa j (aR h aq)])++aw aq (ec (dY y dd)))) ?_ ?_;refine ai (bk a (ab.length+1) (ak (al rfl)) (v:=int (eI y dd).2) rfl (Z dX (ay (fun d=>?_) (fun d=>?_))));exact Z (dT d) (Z ja (⟨by rw[decide_eq_true (show¬((eI y dd).2=0/\ji (gT h (dY y dd))=b/\b≠[])from fun S=>d S.1)],a⟩));have wZ:(eI y dd).2=0:=Classical.not_not.1 d;refine fe a (ab.length+2) (ak (al rfl)) (show _=aR (gT h (dY y dd)) aq from by rw[drop_zero];exact take_of_length_le (by rw[b7 a2];omega)) (b7 a2) U (JS B x.app' a ?_);intro e1 anN UD f J0;refine bg (bx.a6 f J0.gd.app') (bg (bx.a6 f J.app.app.app) ?_);have r:iP (ik H e1) (dM [v]):=lm.app.app.ot a f;refine⟨r,?_⟩;refine Z (EY (l:=et (ji (gT h (dY y dd)))) (m:=et b) _ _) (Z (dl d) ?_);have p:et (ji (gT h (dY y dd)))=et b↔ji (gT h (dY y dd))=b:=⟨fun h=>E4 (JZ B) d5 h,fun h=>by rw[h]⟩;refine ay (fun C=>?_) (fun C=>?_);exact Z (dT C) (⟨by rw[decide_eq_true (show¬((eI y dd).2=0/\ji (gT h (dY y dd))=b/\b≠[])from fun S=>C (p.2 S.2.1))],f.left⟩)
 refine bg J.aZ (Z cN (Z (dl C) (⟨?_,f.left⟩)));have yj:=p.1 (Classical.not_not.1 C);rw[decide_eq_decide.2 (show((b.length:Int)=0)↔¬((eI y dd).2=0/\ji (gT h (dY y dd))=b/\b≠[])from⟨fun g0 N=>N.2.2 (length_eq_zero_iff.1 U),fun g0=>by by_cases N:b=[];rw[N];rfl;exact absurd ⟨wZ,yj,N⟩ g0⟩)];rintro w H ⟨rfl,a⟩
 try simp only[c1,c2]
 refine ay (fun d=>?_) (fun d=>?_);refine Z tZ ?_
 replace a:=a.left
 refine gS a 0 rfl ao ao (hB rfl) ?_;intro H a;exact fI a 0 rfl ao U (M d H a.left);refine fe a (ab.length+2) (ak (al rfl)) (show _=aR (gT h (dY y dd)) aq from by rw[drop_zero];exact take_of_length_le (by rw[b7 a2];omega)) (b7 a2) U (dn a (ab.length+0) (ak (al rfl)) ao (b7 a2) (hB (wX o).2) ?_);intro H a;rw[set_append_left _ _ aW,Go.Ab.bp]at a;exact fe a (ab.length+0) (ak (al rfl)) (show _=aR (gT h (dY y dd)) aq from by rw[drop_zero];exact take_of_length_le (by rw[b7 (m:=gT h (dY y dd)) a2];omega)) (b7 a2) U (L (Classical.not_not.1 d) H aq (ac.bR a) x);by_cases d:y=65;refine cy (fun _ _=>False) ?_ (fun _ _ h=>h.elim);have W:iX 65 dd=y:=by rw[j6,d];rfl
 have anO:0<(eI y dd).1.length:=length_pos_iff.2 c8;refine ai (bk a (ab.length+1) (ak (al rfl)) (v:=V) rfl (bg c.aZ (Z go (kf U (Z bj (bk a (ab.length+2) (ak (al rfl)) (lv a2) (bg o.aZ ?_)))))))
 repeat (first|refine aQ ?_|refine nl ?_|refine qJ ?_)
 try simp only[c1,c2]
 have X:=y1 (s:=dd) y;have x:df (aw aq (ec (dY y dd))) aq (gT h (dY y dd)).aU:=E0 (by rw[X];exact o);have B:=UC y fS;rw[W]at L M;refine cy (fun w E=>w=[ad ax 0,ad j 0,.bool (decide (¬((eI y dd).2=0/\ji (gT h (dY y dd))=b/\b≠[])))]/\ac E ((ab++[aa ax (aR cJ aA),(i,eC V (eI y dd).2),aa j (aR h aq)])++aw aq (ec (dY y dd)))) ?_ ?_;refine ai (bk a (ab.length+1) (ak (al rfl)) (v:=int (eI y dd).2) rfl (Z dX (ay (fun d=>?_) (fun d=>?_))));exact Z (dT d) (Z ja (⟨by rw[decide_eq_true (show¬((eI y dd).2=0/\ji (gT h (dY y dd))=b/\b≠[])from fun S=>d S.1)],a⟩));have wZ:(eI y dd).2=0:=Classical.not_not.1 d;refine fe a (ab.length+2) (ak (al rfl)) (show _=aR (gT h (dY y dd)) aq from by rw[drop_zero];exact take_of_length_le (by rw[b7 a2];omega)) (b7 a2) U (JS B x.app' a ?_);intro e1 anN UD f J0;refine bg (bx.a6 f J0.gd.app') (bg (bx.a6 f J.app.app.app) ?_);have r:iP (ik H e1) (dM [v]):=lm.app.app.ot a f;refine⟨r,?_⟩;refine Z (EY (l:=et (ji (gT h (dY y dd)))) (m:=et b) _ _) (Z (dl d) ?_);have p:et (ji (gT h (dY y dd)))=et b↔ji (gT h (dY y dd))=b:=⟨fun h=>E4 (JZ B) d5 h,fun h=>by rw[h]⟩;refine ay (fun C=>?_) (fun C=>?_);exact Z (dT C) (⟨by rw[decide_eq_true (show¬((eI y dd).2=0/\ji (gT h (dY y dd))=b/\b≠[])from fun S=>C (p.2 S.2.1))],f.left⟩)
 refine bg J.aZ (Z cN (Z (dl C) (⟨?_,f.left⟩)));have yj:=p.1 (Classical.not_not.1 C);rw[decide_eq_decide.2 (show((b.length:Int)=0)↔¬((eI y dd).2=0/\ji (gT h (dY y dd))=b/\b≠[])from⟨fun g0 N=>N.2.2 (length_eq_zero_iff.1 U),fun g0=>by by_cases N:b=[];rw[N];rfl;exact absurd ⟨wZ,yj,N⟩ g0⟩)];rintro w H ⟨rfl,a⟩
 try simp only[c1,c2]
 refine ay (fun d=>?_) (fun d=>?_);refine Z tZ ?_
 replace a:=a.left
 refine gS a 0 rfl ao ao (hB rfl) ?_;intro H a;exact fI a 0 rfl ao U (M d H a.left);refine fe a (ab.length+2) (ak (al rfl)) (show _=aR (gT h (dY y dd)) aq from by rw[drop_zero];exact take_of_length_le (by rw[b7 a2];omega)) (b7 a2) U (dn a (ab.length+0) (ak (al rfl)) ao (b7 a2) (hB (wX o).2) ?_);intro H a;rw[set_append_left _ _ aW,Go.Ab.bp]at a;exact fe a (ab.length+0) (ak (al rfl)) (show _=aR (gT h (dY y dd)) aq from by rw[drop_zero];exact take_of_length_le (by rw[b7 (m:=gT h (dY y dd)) a2];omega)) (b7 a2) U (L (Classical.not_not.1 d) H aq (ac.bR a) x);have anO:0<(eI y dd).1.length:=length_pos_iff.2 c8;refine cy (fun w E=>w=[v,ad ax 0,int 0,ad i 0,ad j 0]/\H=E) ?_ ?_;refine ai (bk a (ab.length+1) (ak (al rfl)) (v:=V) rfl (bg c.aZ (Z go (kf U (Z bj (bk a (ab.length+2) (ak (al rfl)) (lv a2) (bg o.aZ ?_)))))))
 repeat (first|refine aQ ?_|refine oM ?_)
 exact⟨(by first|rfl|trivial),(by first|rfl|trivial)⟩;rintro w E ⟨rfl,rfl⟩
 try simp only[c1,c2]
 refine Z bj (bk a (ab.length+2) (ak (al rfl)) (lv a2) (Uw a (ak (al (k:=1) rfl)) c.app.app (Nat.le_trans (JU y) U) ?_));intro dc pU F JX;rw[set_append_left _ _ aW,Go.Ab.bp]at F
 replace F:ac dc ((ab++[aa ax (aR cJ aA),(i,eC pU (eI (y+1) dd).2),aa j (aR h aq)])++aw aq (ec (dY y dd))):=F
 refine⟨gw a (ab.length+2) (ak (al rfl)) F (ab.length+2) (ak (al rfl)) (q3 kU),?_⟩;refine el F (JW _ oS _) ?_;intro q H a;refine qQ a o (by simp[oS]) U (ge _) U U ?_;intro I H a u
 replace a:ac H ((ab++[aa ax (aR cJ aA),(i,eC pU (eI (y+1) dd).2),aa j (aR h aq)])++aw I (ec (dY (y+1) dd))):=by show ac H (_++aw I (ec (dY y dd++[ah (eI y dd)])));rw[Bs];exact a
 replace u:dK 32 I (y+1) (ec (dY (y+1) dd)):=by show dK 32 I (y+1) (ec (dY y dd++[ah (eI y dd)]));rw[Bs];exact u
 refine Z bj (cQ a (ab.length+2) (ak (al rfl)) (wX u).2 (by rw[b7 a2];omega) (UB a2) ?_);intro H a;rw[set_append_left _ _ aW,Go.Ab.bp]at a;refine⟨65-(y+1),U,y+1,I,pU,U,rfl,(by first|rfl|trivial),a,u,JX _ c,?_⟩;have:=anF 65 y U j6;rw[if_neg c8]at this;exact this
end
section
variable{N a b e k l m n r s t ae}
theorem anP(k n:Nat):iT (k+1) n=((n%256:Nat):Int)::iT k (n/256):=by
 unfold iT;rw[range_succ_eq_map,map_cons,map_map]
 congr 1
 simp;refine map_congr_left fun i _=>?_
 show((n/256^(i+1)%256:Nat):Int)=_;rw[Nat.pow_succ,Nat.mul_comm,Nat.div_div_eq_div_mul]
theorem Ka:∀(bs:LI),bM bs->iT bs.length (er bs)=bs
 | [],_=>rfl
 | x::r,h=>by
  have c:=h x mem_cons_self;have a:=Ka r fun y b=>h y (mem_cons_of_mem _ b)
  show iT (r.length+1) (x.toNat+256*er r)=x::r;rw[anP,show(x.toNat+256*er r)/256=er r by omega,a,show(x.toNat+256*er r)%256=x.toNat by omega]
  congr 1;omega
theorem mU(h:(cE n s).2=0):s.2=0/\s.1=hb n s++(cE n s).1/\(hb n s).length=n:=by
 have a:s.2=0/\n<=s.1.length:=by
  have h:hw s.1 s.2 n=0:=h
  grind[hw]
 refine⟨a.1,?_,?_⟩;show s.1=hl s.1 s.2 n++ki s.1 s.2 n
 simp_all[hl,ki]
 show(hl s.1 s.2 n).length=n
 simp_all[hl]
theorem UE(h:(cE 32 s).2=0):ah s=hb 32 s:=by
 have⟨a,b,c⟩:=mU h;show ku s.1 s.2=hl s.1 s.2 32
 simp_all[ku,hl]
variable{s:kj} in
theorem Bv:∀n,(eI n s).2=0->s.2=0/\s.1=(dY n s).flatten++(eI n s).1
 | 0,h=>⟨h,rfl⟩
 | n+1,h=>by
  have⟨a,b,e⟩:=mU h;have⟨c,d⟩:=Bv n a;refine⟨c,?_⟩;show s.1=(dY n s++[ah (eI n s)]).flatten++(eI (n+1) s).1;rw[flatten_append,append_assoc,UE h]
  conv=>lhs;rw[d,b]
  simp;rfl
def y4(m:fi):LI:=rR m.cd++iT 8 m.de++iT 4 m.cY.toNat++iT 2 m.bz.toNat++m.bw++m.aU.flatten
theorem UF(h:dy m):ji m=y4 m:=if_pos h
theorem anQ:y4 m≠[]:=by
 intro h;have:=congrArg length h
 grind[y4,pX]
theorem E5(h:(cE k s).2=0)(a:bM s.1):iT k (er (hb k s))=hb k s:=by grind[mU,Ka]
theorem anR(a:bM s.1)(k:bM t)(i:t.length<65536)(h:(eI N (e9 s)).2=0):
  s.2=0/\iT 2 t.length++t++s.1=y4 (gT (gk t s) (dY N (e9 s)))++(eI N (e9 s)).1:=by
 obtain⟨d,l⟩:=Bv N h;have b:=iD (n:=8) a;have c:=iD (n:=4) b;obtain⟨e,m,o⟩:=mU d;obtain⟨f,p,q⟩:=mU e;obtain⟨g,r,u⟩:=mU f;obtain⟨j,v,w⟩:=mU g;refine⟨j,?_⟩;have x:=E5 g a;have y:=E5 f b;have ca:=E5 e c;have z:=UE d;show _=(iT 2 (et t).length++ps (et t))++iT 8 (er (hb 8 s))++iT 4 ((er (hb 4 (cE 8 s)):Nat):Int).toNat++iT 2 ((er (hb 2 (cE 4 (cE 8 s))):Nat):Int).toNat++ah (cE 2 (cE 4 (cE 8 s)))++(dY N (e9 s)).flatten++(eI N (e9 s)).1
 grind[Int.toNat_natCast,et,JQ,e9]
theorem UG:∀(N f:Nat) (s:kj),N<=f->(eI N s).2=0->(eI N s).1=[]->iX f s=N
 | 0,f,s,_,_,h=>by
  cases f with
  | zero=>rfl
  | succ f=>unfold iX;rw[if_pos (show s.1=[]from h)]
 | N+1,0,s,h,_,_=>U
 | N+1,f+1,s,e,a,b=>by
  rw[<- JY N]at a b;have c:=UG N f (cE 32 s) U a b;have d:=(Bv N a).1;have⟨_,g,g3⟩:=mU d;unfold iX;rw[if_neg,c];intro i
  simp_all
theorem UH:∀(f:Nat) (s:kj),iX f s<f->(eI (iX f s) s).1=[]
 | 0,s,h=>U
 | f+1,s,h=>by unfold iX at h⊢;split;assumption;rename_i b;rw[if_neg b]at h;have a:=UH f (cE 32 s) U;rw[JY]at a;exact a
theorem UI:∀(n:Nat) (l:List UInt8),l.length<=n->l.length<=4*(pr n l).length
 | 0,l,h=>U
 | n+1,l,h=>by
  unfold pr;split
  simp_all
  rename_i a;have c:=EV a;have b:nt l<=4:=by
   unfold nt;split;omega
   grind[JN]
  have d:=UI n (l.drop (nt l)) aT
  grind
theorem Kb(h:nX l=0):l.length<=96:=by
 unfold nX at h;rw[<- Ui]at h;unfold Bm at h;split at h;omega;have:=UI l.length l (Nat.le_refl _)
 grind[oQ]
theorem anS(h:vh ae e=0):e=0/\ae=[]:=by
 unfold vh at h;split at h;omega
 simp_all
theorem UJ(d:bM b)(h:iC b 0=0):iT 2 (iW b 0).length++iW b 0++hG b 0=b/\(iW b 0).length=oR b 0/\hw b 0 2=0:=by
 have⟨a,f,e⟩:=mU (s:=(ki b 0 2,hw b 0 2)) h;have⟨g,i,g3⟩:=mU (s:=(b,0)) a;have c:=e;refine⟨?_,c,a⟩;have j:=E5 (s:=(b,0)) a d
 grind[oR,hb,ki,iW,hG]
theorem E6(j:bM b):kz b=sN b:=by
 have m:bM (iW b 0):=Ur (sM j _ _) _ _;have n:bM (hG b 0):=sM (sM j _ _) _ _;unfold kz sN;by_cases o:EZ (rS b 0 96) (mG b 0 96,nY b 0 96)
 -- the fh reads zO
 have p:=o;obtain⟨f,q⟩:=p;obtain⟨e,k⟩:=anS f;have a:¬sL b 0 96:=by
  intro a;have:(mG b 0 96,nY b 0 96).2=0:=by have r:=(Bv _ e).1;exact(mU (mU (mU (mU r).1).1).1).1
  simp_all[nY]
 have w:rS b 0 96=iW b 0:=if_neg a;have x:mG b 0 96=hG b 0:=if_neg a;have y:nY b 0 96=iC b 0:=if_neg a;rw[w,x,y]at o f q e k⊢;have g:(iW b 0).length<65536:=by
  have s:=Kb q.1;have:(et (iW b 0)).length<=96:=s
  grind[et]
 obtain⟨z,v⟩:=anR n m g e;obtain⟨bO,q2,B⟩:=UJ j z;have l:kT (gk (iW b 0) (hG b 0,iC b 0))<=65:=by grind[kT]
 have j6:=UG _ _ _ l e k;have I:wY (iW b 0) (hG b 0,iC b 0)=wU (iW b 0) (hG b 0,iC b 0):=by simp_all[wY,wU]
 have J:(eI (iX 65 (e9 (hG b 0,iC b 0))) (e9 (hG b 0,iC b 0)))=Br (iW b 0) (hG b 0,iC b 0):=by simp_all[Br]
 have C:y4 (wU (iW b 0) (hG b 0,iC b 0))=b:=by have t:(eI (kT (gk (iW b 0) (hG b 0,iC b 0))) (e9 (hG b 0,iC b 0))).1=[]:=k;rw[t,append_nil]at v;exact v.symm.trans bO
 have F:y2 b (iW b 0) (hG b 0,iC b 0):=by
  unfold y2
  grind[UF,anQ]
 simp_all[wV,y3]
 -- neither aci the document
 have F:¬y2 b (iW b 0) (hG b 0,iC b 0):=by
  rintro⟨f,q,e⟩;have ar:dy (wY (iW b 0) (hG b 0,iC b 0)):=by
   refine Classical.byContradiction fun k=>e ?_
   simp_all[ji]
  have g:(iW b 0).length<=96:=by
   have s:=Kb ar.1;have:(et (iW b 0)).length<=96:=s
   simp_all[et]
  have r:=(Bv _ f).1;have H:=(mU (mU (mU (mU r).1).1).1).1;obtain⟨bO,q2,B⟩:=UJ j H;have a:¬sL b 0 96:=fun h=>by have:=h.2;omega
  have i:(wY (iW b 0) (hG b 0,iC b 0)).aU.length=iX 65 (e9 (hG b 0,iC b 0)):=y1 _;have c:=ar.2.2.2.2.2.2.2.2.1;have u:=ar.2.2.2.2.2.2.2.2.2;rw[i]at c u;have l:kT (gk (iW b 0) (hG b 0,iC b 0))=iX 65 (e9 (hG b 0,iC b 0)):=by
   have c:(iX 65 (e9 (hG b 0,iC b 0)):Int)=kS (gk (iW b 0) (hG b 0,iC b 0)).cY (gk (iW b 0) (hG b 0,iC b 0)).bz:=c
   grind[kT]
  have d:=UH 65 (e9 (hG b 0,iC b 0)) U;refine o ?_;rw[show rS b 0 96=iW b 0 from if_neg a,show mG b 0 96=hG b 0 from if_neg a,show nY b 0 96=iC b 0 from if_neg a];refine⟨?_,?_⟩;unfold Br;rw[l,d,f];rfl;unfold wU;rw[l];exact ar
 simp_all[wV,y3]
theorem anT(c:bM b)(h:kz b=(m,0)):dy m/\ji m=b:=by
 rw[E6 c]at h;unfold sN y3 at h;split at h;rename_i a;cases h;refine⟨?_,a.2.1⟩;refine Classical.byContradiction fun d=>a.2.2 ?_
 rw[<- a.2.1];simp_all[ji];cases h
theorem anU(h:(kz b).2≠0):kz b=(cJ,131):=by
 unfold kz wV at h⊢
 grind
theorem Kc(b:LI):(kz b).2=0\/kz b=(cJ,131):=by grind[anU]
end
section
variable{H K ag aB i len d3 n t v w ae bl ab bL}{b:LI}
theorem E7(h:bx ab v ae)(s:i<=t)(d:t<=ae.length):∃ap,hX 1 v (some (int i)) (some (int t)) none=some ap/\lN v ae ap ((ae.take t).drop i):=by
 rcases h with⟨rfl,rfl⟩|⟨p,o,c,rfl,k,_⟩
 have d:t=0:=a1
 subst d;have l:i=0:=U
 subst l;exact⟨aA,rfl,.none⟩;have e:∃bC,(bC=2\/bC=3)/\hX 1 (am p o ae.length c) (some (int i)) (some (int t)) none=some (am p (o+i) (t-i) bC):=by
  rcases k with rfl|rfl
  simp_all[hX,JI,EN,nK,nL]
  refine⟨cond (beq t ae.length) 3 2,aT,?_⟩
  simp_all[hX,JI,EN,nK,nL]
 have⟨bC,f,e⟩:=e;refine⟨_,e,fun m h=>?_⟩;rcases h with⟨h,_⟩|⟨u,w,n,g,_,h⟩
 cases h;cases g;have a:((ae.take t).drop i).length=t-i:=a1
 refine .inr ⟨p,o+i,bC,by rw[a],f,?_⟩;rcases h with rfl|⟨j,b,q,r⟩
 simp_all
 refine .inr ⟨j,b,q,?_⟩;have:=congrArg (drop i) (congrArg (take t) r);rw[take_take,Nat.min_eq_left d,drop_take,drop_drop]at this
 simp_all
theorem kV.app'(h:kV bL v):kV (ab++bL) v:=by
 rcases h with h|⟨p,o,n,c,j,b,a,d,e⟩
 exact .inl h;exact .inr ⟨p,o,n,c,ab.length+j,b,a,al d,e⟩
theorem dm.fz(h:dm v ae ag):kV (aw v ag) v:=by
 rcases h with⟨rfl,_⟩|⟨p,rfl|⟨rfl,_⟩,b,c,a⟩
 exact .inl rfl;exact .inr ⟨p,0,_,_,0,_,rfl,rfl,a,.inl rfl⟩;exact .inr ⟨p,0,_,_,0,_,rfl,rfl,a,.inl rfl⟩
theorem kV.slice(h:kV ab v)(ah:hX 1 v d3 aB none=some w):kV ab w:=by
 rcases h with rfl|⟨p,o,n,c,j,b,rfl,a,d⟩
 ·unfold hX at ah;simp only at ah
  repeat' (split at ah)
  all_goals first|(cases ah;done)|(cases ah;exact .inl rfl)
 ·unfold hX at ah;simp only at ah
  repeat' (split at ah)
  all_goals first|(cases ah;done)|(cases ah;exact .inr ⟨p,_,_,_,j,b,rfl,a,d⟩)
def iE(b:LI):Int×Int:=
 if b.length<4\/b.take 2≠[66,85]then(0,141)else if 2304<er ((b.take 4).drop 2)+36 then(0,141)else(((er ((b.take 4).drop 2)+36:Nat):Int),0)
theorem anV(a:ac H ab)(b:bx ab v ae)(c:bx ab w bl)(d:bM ae)(e:bM bl)(g:K (.bool (decide (ae=bl))) H):aG P 270 [v,w] H K:=by refine akx.1 ?_;refine bg (bx.a6 a b) (bg (bx.a6 a c) (Z (?_) g));show(cz P .eql 9 false).f (a6 (et ae)) (a6 (et bl))=_;rw[T7,Uq,decide_eq_decide.2 ⟨fun h=>E4 d e h,fun h=>by rw[h]⟩]
theorem anW(c:ac H ab)(a:bx ab v ae)(b:bx ab w bl)(d:bM ae)(e:bM bl)(f:bl.length<=ae.length)(g:K (.bool (decide (ae.take bl.length=bl))) H):aG P 252 [v,w] H K:=by refine aj9.1 ?_;refine bg a.aZ (bg b.aZ (Z kM (kf U (bg b.aZ ?_))));have⟨ap,i,i1⟩:=qP a f;exact Z i (anV c (i1 _ a) b (fun x h=>d x (mem_of_mem_take h)) e (Z (dT U) g))
theorem UK(H:an):(gY P 22 2).f [(0,.int .u8 66),(1,.int .u8 85)] H=some (am H.next 0 2 3,H.push (aN [66,85])):=ao
theorem anX(a:bM b):er ((b.take 4).drop 2)<65536:=by
 have c:=A1 ((b.take 4).drop 2) fun x d=>a x (mem_of_mem_take (mem_of_mem_drop d))
 have e:((b.take 4).drop 2).length<=2:=aT
 exact Nat.lt_of_lt_of_le c (Nat.pow_le_pow_right U e)
theorem anY(a:ac H ab)(d:bx ab v b)(e:bM b)(r:b.length<=1000000)(c:∀E,ac E ab->K (.tuple [int (iE b).1,int (iE b).2].toArray) E):aG P 229 [v] H K:=by
 refine ajL.1 ?_;refine cy (fun j E=>j=[v,.bool (decide (b.length<4\/b.take 2≠[66,85]))]/\ac E ab) ?_ ?_;refine bg d.aZ (Z cV (ay (fun h=>?_) (fun h=>?_)));exact Z (dT h) (⟨aT,a⟩);refine el a (UK _) ?_;intro q H a;refine ET a 0 rfl U (anW a d.app (tS 0 rfl (.inr rfl) rfl) e (by intro x l;grind) aT (Z fX (Z (dl h) (⟨?_,a.left⟩))))
 grind[decide_eq_false]
 rintro j H ⟨rfl,a⟩;unfold iE at c;refine ay (fun h=>?_) (fun h=>?_);rw[if_pos h]at c;exact c H a;rw[if_neg h]at c;have⟨cF,m,kA⟩:=E7 d (i:=2) (t:=4) U U;refine Z m (SP a (kA _ d) ?_);intro H p a;have f:bM ((b.take 4).drop 2):=fun x l=>e x (mem_of_mem_take (mem_of_mem_drop l))
 have n:=anX e;refine A2 (k:=2) U a (al (k:=0) rfl) ((kA _ d).app) f ?_;intro H s a u;have g:hl ((b.take 4).drop 2) 0 2=(b.take 4).drop 2:=by simp_all[hl,take_of_length_le]
 rw[g];generalize er ((b.take 4).drop 2)=N at*;refine bg (rH U) (Z (v:=int ((N+36:Nat):Int)) (by grind[f2]) (Z go ?_))
 replace a:=a.bp.left
 refine ay (fun o=>?_) (fun o=>?_);rw[if_pos U]at c;exact c H a;rw[if_neg U]at c;exact c H a
theorem anZ(a:4<=b.length):er ((b.take 4).drop 2)=(b.getD 2 0).toNat+256*(b.getD 3 0).toNat:=by
 match b,a with
 | a0::c::d::a3::r,_=>rfl
theorem an0(a:4<=b.length):b.take 2=[b.getD 0 0,b.getD 1 0]:=by
 match b,a with
 | a0::c::d::a3::r,_=>rfl
theorem an1(a:bM b)(i:Nat):0<=b.getD i 0:=by
 by_cases h:i<b.length
 simp_all
 simp_all
theorem an2(f:ac H ab)(e:bx ab v b)(c:bM b)(k:b.length<=1000000)(a:K (.tuple [int (iE b).1,int (iE b).2].toArray) H):aG P 245 [v] H K:=by
 refine aj4.1 ?_;unfold iE at a;refine bg e.aZ (Z cV (ay (fun h=>?_) (fun h=>?_)));rw[if_pos (.inl U)]at a;exact a;have g:4<=b.length:=U
 have l:=an1 c 0;have m:=qU c 2;have o:=qU c 3;rw[an0 g,anZ g]at a;refine cy (fun i E=>i=[v,.bool (decide (¬(b.getD 0 0=66/\b.getD 1 0=85)))]/\H=E) ?_ ?_;refine sH f e c (n:=0) rfl U (Z dX (ay (fun d=>?_) (fun d=>?_)));exact Z (dT d) (⟨aT,rfl⟩);exact sH f e c (n:=1) rfl U (Z dX (Z (dl d) (⟨by rw[decide_eq_decide.2 (show((b.getD 1 0).toNat:Int)≠85↔¬(b.getD 0 0=66/\b.getD 1 0=85) by omega)],rfl⟩)));rintro i E ⟨rfl,rfl⟩
 try simp only[c1,c2]
 refine ay (fun d=>?_) (fun d=>?_);rw[if_pos (.inr (fun j=>d a1))]at a;exact a;rw[if_neg a1]at a;refine sH f e c (n:=2) rfl U ?_;generalize (b.getD 2 0).toNat=X at*;refine bg (rH U) (Z (v:=int ((36+X:Nat):Int)) (by grind[f2]) (sH f e c (n:=3) rfl U ?_));generalize (b.getD 3 0).toNat=Y at*;refine bg (rH U) (Z (v:=int ((256*Y:Nat):Int)) (by grind[su]) (Z (v:=int ((X+256*Y+36:Nat):Int)) (by grind[f2]) (Z go (ay (fun j=>?_) (fun j=>?_)))));rw[if_pos U]at a;exact a;rw[if_neg U]at a;exact a
end
section
variable{H K b aq k key m ms v w ab}
def sO(m:fi):LI:=[66,85]++iT 2 (ji m).length++ji m
def pt(key:LI)(m:fi):LI:=sO m++ns key (sO m)
theorem Kd(a:m.br)(h:dy m):(ji m).length=m.cd.length+48+32*m.aU.length/\m.cd.length<=96/\m.aU.length<=64:=by have b:=JR m.aU a.dH;have c:=Kb h.1;have d:=h.2.2.2.2.2.2.2.2.2;rw[UF h];refine⟨?_,c,d⟩;simp[y4,rR,pX,tV,a.bi,b];omega
theorem E8:(ns k b).length=32:=rfl
theorem Ke:bM (ns k b):=yX
theorem UL(a:m.br):bM (sO m):=kP (kP a1 (Bu _ _)) (JZ a)
theorem UM(a:m.br)(h:dy m):(sO m).length=m.cd.length+52+32*m.aU.length:=by grind[Kd,sO,pX]
theorem UN(e:ac H ab)(u:bx ab v key)(r:bx ab w ms)(k:kV ab w)(x:bM key)(y:bM ms)(N:key.length<=1000000)(B:ms.length<=1000000)(C:tM ab K (ms++ns key ms)):aG P 146 [v,w] H K:=by
 refine air.1 ?_;refine amU e u r x y U U ?_;intro H e;refine dA e.z ?_;intro a H e;refine gS e 0 rfl ao ao (ge _) ?_;intro S b;have l:=b.lt _ (mem_append_right _ mem_cons_self);refine el b (rO _) ?_;intro f V d;have m:=d.lt (aa a (aN (ns key ms))) aW;have g:=d;refine oL (ae:=[]) g (.inr ⟨f,.inr ⟨rfl,rfl⟩,rfl,zero_le _,rfl⟩) r.app aT ?_;intro W X xT h fN;refine Z (sy h (ab.length+0) (ak (al rfl)) U (by simp[E8])) ?_;have F:=ac.ve d (i:=(ab++[aa a (aN (ns key ms))]).length+0) (j:=ab.length+0) (al rfl) (ak (al rfl)) aW;have p:pP (dM [am f 0 0 3,w]) (dM [ad a 0]):=by
  have cU:beq f a=false:=by grind[eq_of_beq_eq_true]
  rcases k with rfl|⟨s,o,n,c,axs,axt,rfl,I,eh⟩
  show lj [f] [a]=true
  grind[lj,ia,om]
  have t:=ac.ve b (j:=ab.length+0) (ak I) (al rfl) aT;have dw:beq s a=false:=by grind[eq_of_beq_eq_true]
  show lj [f,s] [a]=true
  simp_all[lj,ia,om]
 refine⟨p,p1 m,p1 l,?_⟩;refine oL h fN (bl:=ns key ms) (.inr ⟨a,0,3,ao,.inr rfl,.inr ⟨ab.length+0,_,al rfl,ao⟩⟩) (by grind[E8]) ?_;intro J L M q eN;exact C J L M (ac.bR q) eN
theorem an3(b:m.br)(a:ac H ab)(k:bx ab v key)(g:df ab aq m.aU)(l:bM key)(n:key.length<=1000000)
  (d:¬dy m->∀E,ac E ab->K (.tuple [aA,int 131].toArray) E)
  (e:dy m->∀E ap bI,ac E (ab++aw ap bI)->dm ap (pt key m) bI->K (.tuple [ap,int 0].toArray) E):aG P 70 [v,agg (aR m aq)] H K:=by
 refine ag4.1 ?_;refine dA a.z fun o H a=>fI a 0 rfl (b7 b.bi) U (wS b g.app a (fun H a=>Z fX ?_))
 by_cases c:dy m;have⟨x,y,B⟩:=Kd b c;have p:=UM b c;rw[decide_eq_true c];refine cT rfl (fI a 0 rfl (b7 b.bi) U (JS b g.app a (fun H h r a bP=>el a (UK _) fun q H a=>ET a 0 rfl U (bg bP.aZ (bg (yd U U) (Bi (size:=2) a U U ?_))))));intro H C F a cP;have s:dm (am q 0 2 3) [66,85] (aN [66,85]):=.inr ⟨q,.inr ⟨rfl,rfl⟩,rfl,Nat.le_refl _,rfl⟩;apply yc a s cP (by simp[pX]);intro H I J a fN;have f:bx (ab++([]++[aa o (aR m aq)])++aw h r) h (ji m):=bP.gd.app';apply oL a fN f (by grind[pX]);intro H i j a eN
 replace eN:dm i (sO m) j:=eN
 replace a:ac H (ab++aw i j):=by rw[append_assoc,append_assoc]at a;exact a.sub (List.Sublist.append (List.Sublist.refl _) (by rw[<- append_assoc];exact sublist_append_right _ _))
 exact UN a k.app eN.gd.app' (dm.fz eN).app' l (UL b) n U fun H t u a w=>e c H t u (ac.bR a) w
 rw[decide_eq_false c];exact dz rfl (d c H a.left)
end
end J
