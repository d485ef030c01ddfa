/- texts of the nF, e5 behind the l0 -/
import Derived.Test.YtifflnhooaophaaGreatDoorUF
set_option linter.unusedVariables false
set_option linter.unusedSimpArgs false
set_option linter.unusedSectionVars false
set_option maxHeartbeats 4000000
set_option maxRecDepth 100000
open List Nat
namespace J
open Go Go.Ab
variable[cr:bW]
variable{H:ar}{ae bX:List (Nat×ay)}{ab:VH}{v w x aT:Value}{ak:List Int}{j p n:Nat}{l:List UInt8}
structure dm where
 cE:List UInt8
 eb:Nat
 cU:Int
 bx:Int
 cD:List Int
 bo:List (List Int)
abbrev cl(ak:List Int):Prop:=∀x∈ak,0<=x/\x<=255
structure dm.b6 (m:dm):Prop where
 cX:m.cD.length=32
 avc:cl m.cD
 dN:∀x∈m.bo,x.length=32
 fW:∀x∈m.bo,cl x
 eb:m.eb<18446744073709551616
 cU:-9223372036854775808<=m.cU/\m.cU<=9223372036854775807
 bx:-9223372036854775808<=m.bx/\m.bx<=9223372036854775807
 n:m.bo.length<=10000
 GL:m.cE.length<=10000
def bM(m:dm)(aT:Value):List Value:=bl m.cE::bQ .u64 m.eb::int m.cU::int m.bx::(a1 m.cD++[aT])
abbrev fA(l:List (List Int)):List Value:=l.flatMap a1
def eY(ae:List (Nat×ay))(v:Value)(bo:List (List Int)):Prop:=
 (v=bq/\bo=[])\/∃(p c j:Nat) (w:Bool),v=aC p 0 bo.length c/\ae[j]?=some (p,(⟨fA bo,w⟩:ay))
variable{m:dm}{bo:List (List Int)}
theorem eY.bP(h:eY ae v bo):bP v H=some (int bo.length,H):=by rcases h with⟨rfl,rfl⟩|⟨p,c,j,w,rfl,_⟩<;>rfl
theorem eY.kz(h:eY ae v bo):∃a n c,v=.slice a n c:=by rcases h with⟨rfl,_⟩|⟨p,c,j,w,rfl,_⟩<;>exact⟨_,_,_,rfl⟩
theorem eY.app(h:eY ae v bo):eY (ae++bX) v bo:=by
 rcases h with h|⟨p,c,j,w,h1,h2⟩
 exact .inl h;exact .inr ⟨p,c,j,w,h1,aK h2⟩
theorem eY.app'(h:eY bX v bo):eY (ae++bX) v bo:=by
 rcases h with h|⟨p,c,j,w,h1,h2⟩
 exact .inl h;exact .inr ⟨p,c,ae.length+j,w,h1,aA h2⟩
theorem eY.aZ(h:eY ae v bo)(aN:0<bo.length):∃(p c j:Nat) (w:Bool),v=aC p 0 bo.length c/\ae[j]?=some (p,(⟨fA bo,w⟩:ay)):=by
 rcases h with⟨_,rfl⟩|h
 simp at aN;exact h
theorem el(aO:m.cD.length=32):(bM m aT).length=37:=by simp[bM,aO]
theorem q8(aO:m.cD.length=32):(bM m aT)[0+36]?=some aT:=by
 show(a1 m.cD++[aT])[32]?=_
 simp_all
theorem nf(aD:eA aT=true):(bM m aT).all eA=true:=by
 show(true&&(true&&(true&&(true&&(a1 m.cD++[aT]).all eA))))=true
 grind[lG]
theorem yn(aD:fE aT=true):(bM m aT).all fE=true:=by
 show(true&&(true&&(true&&(true&&(a1 m.cD++[aT]).all fE))))=true
 grind[zA]
theorem eY.e5(h:eY ae v bo):eA v=true:=by obtain⟨a,n,c,rfl⟩:=h.kz;rfl
theorem eY.q9(h:eY ae v bo):fE v=true:=by rcases h with⟨rfl,_⟩|⟨p,c,j,w,rfl,_⟩<;>rfl
theorem yo:cZ (agg (bM m aT))=bM m aT:=rfl
def lY(s c:Int):Int:=if s<1\/c<1 then 0 else(s-1)/c+1
theorem Q9{s c:Int}:0<=lY s c:=by unfold lY;split;omega;have:=Int.ediv_nonneg (show 0<=s-1 by omega) (show 0<=c by omega);omega
theorem avd{s c:Nat}(aw:1<=s)(aD:1<=c):(s-1)/c+1=s/c+(if s%c>0 then 1 else 0):=by
 have h1:=div_add_mod s c;have h2:=mod_lt s aD;generalize s/c=Q at*;generalize s%c=R at*;subst h1;by_cases U:R=0;subst U;rw[if_neg (by omega)];have cf:1<=Q:=by grind
 obtain⟨t,rfl⟩:∃t,Q=t+1:=⟨Q-1,by omega⟩;have:c*(t+1)+0-1=c*t+(c-1):=by grind
 rw[this,mul_add_div (by omega),div_eq_of_lt (by omega)];rw[if_pos (by omega)];have:c*Q+R-1=c*Q+(R-1):=by omega
 rw[this,mul_add_div (by omega),div_eq_of_lt (by omega)]
theorem adS{s c:Int}(aw:s<=9223372036854775807)(aD:c<=9223372036854775807)(ag:ab (int (lY s c)) H):az P 225 [int s,int c] H ab:=by
 apply ari;unfold aa9;by_cases h1:s<1;refine zi ?_
 repeat (first|refine bD ?_|refine uh ?_|refine lV ?_)
 unfold lY at ag;rw[if_pos (.inl h1)]at ag;exact ag;by_cases h2:c<1;refine zi ?_
 repeat (first|refine bD ?_|refine uh ?_|refine vw ?_)
 unfold lY at ag;rw[if_pos (.inr h2)]at ag;exact ag;refine e6 (fun aF aa=>aF=[int s,int c]/\H=aa) ?_ ?_
 repeat (first|refine bD ?_|refine vw ?_)
 exact⟨(by rfl),(by rfl)⟩;rintro aF aa ⟨rfl,rfl⟩
 try simp only[cu,cv]
 obtain⟨S,rfl⟩:∃S:Nat,s=S:=⟨s.toNat,by omega⟩;obtain⟨C,rfl⟩:∃C:Nat,c=C:=⟨c.toNat,by omega⟩;unfold lY at ag;rw[if_neg (by omega)]at ag
 repeat refine bD ?_
 refine ah (v:=int (((S-1)/C:Nat):Int)) (by grind[wT]) ?_;have lg:=div_le_self (S-1) C;rw[show((S:Int)-1)/C+1=(((S-1)/C:Nat):Int)+1 by grind]at ag;generalize (S-1)/C=Q at*
 repeat refine bD ?_
 exact ag
theorem adT{s c:Int}(aw:s<=9223372036854775806)(aD:c<=9223372036854775807)(ag:ab (int (lY s c)) H):az P 88 [int s,int c] H ab:=by
 apply apM;unfold Zk;by_cases h1:s<1;refine zi ?_
 repeat (first|refine bD ?_|refine uh ?_|refine lV ?_)
 unfold lY at ag;rw[if_pos (.inl h1)]at ag;exact ag;by_cases h2:c<1;refine zi ?_
 repeat (first|refine bD ?_|refine uh ?_|refine vw ?_)
 unfold lY at ag;rw[if_pos (.inr h2)]at ag;exact ag;refine e6 (fun aF aa=>aF=[int s,int c]/\H=aa) ?_ ?_
 repeat (first|refine bD ?_|refine vw ?_)
 exact⟨(by rfl),(by rfl)⟩;rintro aF aa ⟨rfl,rfl⟩
 try simp only[cu,cv]
 obtain⟨S,rfl⟩:∃S:Nat,s=S:=⟨s.toNat,by omega⟩;obtain⟨C,rfl⟩:∃C:Nat,c=C:=⟨c.toNat,by omega⟩;unfold lY at ag;rw[if_neg (by omega)]at ag;have JE:=avd (s:=S) (c:=C) (by omega) (by omega);have lg:=div_le_self S C;rw[show((S:Int)-1)/C+1=(((S-1)/C+1:Nat):Int) by grind,JE]at ag;refine ah (wT (by omega) (by omega)) ?_;generalize S/C=Q at*;refine ah (JH (by omega)) ?_;rw[show(Int.tmod (S:Int) (C:Int))=((S%C:Nat):Int)from rfl];refine ah kQ (bz (fun h=>?_) (fun h=>?_));rw[if_pos (by omega)]at ag
 repeat refine bD ?_
 exact ag;rw[if_neg (by omega)]at ag;exact ag
def ra(l:List UInt8):Int:=Seal.o4 (jv l) (jv l).size 0 0
def en(m:dm):Prop:=ra m.cE=0/\1<=m.eb/\m.eb<=281474976710656/\1<=m.cU/\m.cU<=65536/\64<=m.bx/\m.bx<=1024/\m.bx%64=0/\(m.bo.length:Int)=lY m.cU m.bx/\m.bo.length<=64
instance (m:dm):Decidable (en m):=by unfold en;exact inferInstance
theorem adU(aE:l.length<=1000000)(hO:aj H ae)(ag:∀aa,aj aa ae->ab (int (ra l)) aa):az P 87 [bl l] H ab:=
 au7 aE hO fun aa h=>by rw[adR];exact ag aa h
theorem adV(aE:l.length<=1000000)(ag:ab (int (ra l)) H):az P 123 [bl l] H ab:=
 aom (by rw[zK];omega) ag
theorem Eg(ok:m.b6)(aD:eY ae aT m.bo)(hO:aj H ae)(ag:∀aa,aj aa ae->ab (.bool (decide (en m))) aa):az P 186 [agg (bM m aT)] H ab:=by
 apply aqQ;unfold aaE;have ey:∀ {H:ar} {bX},aj H (ae++bX)->¬en m->ab (.bool false) H:=fun h aR=>by have:=ag _ h.left;rw[decide_eq_false aR]at this;exact this
 have fj:=ok.cU;have iD:=ok.bx;have hv:=ok.eb;have aE:=ok.n;have rb:=q8 (aT:=aT) ok.cX;rw[yo];refine ja hO.z ?_;intro cC H hO
 replace hO:aj H (ae++[(cC,⟨bM m aT,true⟩)]):=hO
 refine e6 (fun aF aa=>aF=[ai cC 0]/\H=aa/\ra m.cE=0/\1<=m.eb/\m.eb<=281474976710656/\1<=m.cU/\m.cU<=65536/\64<=m.bx/\m.bx<=1024/\m.bx%64=0) ?_ ?_;refine e6 (fun aF aa=>aF=[ai cC 0,.bool (decide (¬(ra m.cE=0/\1<=m.eb/\m.eb<=281474976710656)))]/\H=aa) ?_ ?_
 repeat (first|refine bD ?_|refine cw hO 0 rfl rfl ?_)
 refine adV (by have:=ok.GL;omega) (ah ik (bz (fun h1=>?_) (fun h1=>?_)));exact⟨by simp_all,(by rfl)⟩
 repeat (first|refine bD ?_|refine cw hO 0 rfl rfl ?_)
 refine bz (fun h2=>?_) (fun h2=>?_);exact⟨by rw[decide_eq_decide.2 (show((m.eb:Int)<1)↔¬(ra m.cE=0/\1<=m.eb/\m.eb<=281474976710656) by omega)],(by rfl)⟩
 repeat (first|refine bD ?_|refine cw hO 0 rfl rfl ?_)
 exact⟨by rw[decide_eq_decide.2 (show((281474976710656:Int)<(m.eb:Int))↔¬(ra m.cE=0/\1<=m.eb/\m.eb<=281474976710656) by omega)],(by rfl)⟩;rintro aF aa ⟨rfl,rfl⟩
 try simp only[cu,cv]
 refine bz (fun h1=>?_) (fun h1=>?_);exact ey hO (fun h=>h1 ⟨h.1,h.2.1,h.2.2.1⟩);refine e6 (fun aF aa=>aF=[ai cC 0,.bool (decide (¬(1<=m.cU/\m.cU<=65536)))]/\H=aa) ?_ ?_
 repeat (first|refine bD ?_|refine cw hO 0 rfl rfl ?_)
 refine bz (fun h2=>?_) (fun h2=>?_)
 repeat refine bD ?_
 exact⟨by simp_all,(by rfl)⟩
 repeat (first|refine bD ?_|refine cw hO 0 rfl rfl ?_)
 exact⟨by simp_all,(by rfl)⟩;rintro aF aa ⟨rfl,rfl⟩
 try simp only[cu,cv]
 refine bz (fun h2=>?_) (fun h2=>?_);exact ey hO (fun h=>h2 ⟨h.2.2.2.1,h.2.2.2.2.1⟩)
 repeat (first|refine bD ?_|refine cw hO 0 rfl rfl ?_)
 refine bz (fun aB=>?_) (fun aB=>?_)
 repeat (first|refine bD ?_|refine lV ?_)
 exact ey hO (fun h=>by have:=h.2.2.2.2.2.1;omega)
 repeat (first|refine bD ?_|refine cw hO 0 rfl rfl ?_)
 refine bz (fun bk=>?_) (fun bk=>?_)
 repeat (first|refine bD ?_|refine lV ?_)
 exact ey hO (fun h=>by have:=h.2.2.2.2.2.2.1;omega)
 repeat (first|refine bD ?_|refine cw hO 0 rfl rfl ?_)
 have em:m.bx.tmod 64=m.bx%64:=Int.tmod_eq_emod_of_nonneg (by omega);refine ah (JH (by omega)) ?_;rw[em]
 repeat refine bD ?_
 refine bz (fun cj=>?_) (fun cj=>?_);exact ey hO (fun h=>cj h.2.2.2.2.2.2.2.1)
 simp_all
 rintro aF aa ⟨rfl,rfl,b7,ca,g3,g4,g5,l2,g7,g8⟩
 try simp only[cu,cv]
 refine ah b0 (cw hO 0 rfl rb (bV aD.bP ?_))
 repeat (first|refine bD ?_|refine cw hO 0 rfl rfl ?_)
 refine adS (by omega) (by omega) (⟨gu hO (ae.length+0) (aA rfl) hO (ae.length+0) (aA rfl) (yn aD.q9),?_⟩);refine ah fl (bz (fun dh=>?_) (fun dh=>?_));refine ah b0 (cw hO 0 rfl rb (bV aD.bP (ah Oz (ah (hT dh) ?_))));have:=ag _ hO.left;rw[decide_eq_decide.2 (show en m↔((m.bo.length:Int)<=64)from⟨fun h=>by have:=h.2.2.2.2.2.2.2.2.2;omega,fun h=>⟨b7,ca,g3,g4,g5,l2,g7,g8,dh,by omega⟩⟩)]at this;exact this;exact ah (ho dh) (ey hO (fun h=>dh h.2.2.2.2.2.2.2.2.1))
theorem Eh(ok:m.b6)(aD:eY ae aT m.bo)(hO:aj H ae)(ag:∀aa,aj aa ae->ab (.bool (decide (en m))) aa):az P 34 [agg (bM m aT)] H ab:=by
 apply aoS;unfold Yn;have ey:∀ {H:ar} {bX},aj H (ae++bX)->¬en m->ab (.bool false) H:=fun h aR=>by have:=ag _ h.left;rw[decide_eq_false aR]at this;exact this
 have fj:=ok.cU;have iD:=ok.bx;have hv:=ok.eb;have aE:=ok.n;have rb:=q8 (aT:=aT) ok.cX;rw[yo];refine ja hO.z ?_;intro cC H hO
 replace hO:aj H (ae++[(cC,⟨bM m aT,true⟩)]):=hO
 refine e6 (fun aF aa=>aF=[ai cC 0]/\aj aa (ae++[(cC,⟨bM m aT,true⟩)])/\ra m.cE=0/\1<=m.eb/\m.eb<=281474976710656/\1<=m.cU/\m.cU<=65536) ?_ ?_
 repeat (first|refine bD ?_|refine cw hO 0 rfl rfl ?_)
 refine adU (by have:=ok.GL;omega) hO ?_;intro H hO;refine ah ik (bz (fun h1=>?_) (fun h1=>?_))
 repeat (first|refine bD ?_|refine lV ?_)
 exact ey hO (fun h=>h1 h.1)
 repeat (first|refine bD ?_|refine cw hO 0 rfl rfl ?_)
 refine bz (fun h2=>?_) (fun h2=>?_)
 repeat (first|refine bD ?_|refine lV ?_)
 exact ey hO (fun h=>by have:=h.2.1;omega)
 repeat (first|refine bD ?_|refine cw hO 0 rfl rfl ?_)
 refine bz (fun aB=>?_) (fun aB=>?_)
 repeat (first|refine bD ?_|refine lV ?_)
 exact ey hO (fun h=>by have:=h.2.2.1;omega)
 repeat (first|refine bD ?_|refine cw hO 0 rfl rfl ?_)
 refine bz (fun bk=>?_) (fun bk=>?_)
 repeat (first|refine bD ?_|refine lV ?_)
 exact ey hO (fun h=>by have:=h.2.2.2.1;omega)
 repeat (first|refine bD ?_|refine cw hO 0 rfl rfl ?_)
 refine bz (fun cj=>?_) (fun cj=>?_);exact ey hO (fun h=>by have:=h.2.2.2.2.1;omega);exact⟨rfl,hO,by omega⟩;rintro aF H ⟨rfl,hO,b7,ca,g3,g4,g5⟩
 try simp only[cu,cv]
 refine e6 (fun aF aa=>aF=[ai cC 0]/\H=aa/\64<=m.bx/\m.bx<=1024/\m.bx%64=0) ?_ ?_
 repeat (first|refine bD ?_|refine cw hO 0 rfl rfl ?_)
 refine bz (fun aB=>?_) (fun aB=>?_)
 repeat (first|refine bD ?_|refine lV ?_)
 exact ey hO (fun h=>by have:=h.2.2.2.2.2.1;omega)
 repeat (first|refine bD ?_|refine cw hO 0 rfl rfl ?_)
 refine bz (fun bk=>?_) (fun bk=>?_)
 repeat (first|refine bD ?_|refine lV ?_)
 exact ey hO (fun h=>by have:=h.2.2.2.2.2.2.1;omega)
 repeat (first|refine bD ?_|refine cw hO 0 rfl rfl ?_)
 have em:m.bx.tmod 64=m.bx%64:=Int.tmod_eq_emod_of_nonneg (by omega);refine ah (JH (by omega)) ?_;rw[em]
 repeat refine bD ?_
 refine bz (fun cj=>?_) (fun cj=>?_);exact ey hO (fun h=>cj h.2.2.2.2.2.2.2.1);refine⟨(by rfl),(by rfl),?_⟩;omega;rintro aF aa ⟨rfl,rfl,l2,g7,g8⟩
 try simp only[cu,cv]
 refine ah b0 (cw hO 0 rfl rb (bV aD.bP (ah Oz (bz (fun dh=>?_) (fun dh=>?_)))));refine ah b0 (cw hO 0 rfl rb (bV aD.bP ?_))
 repeat (first|refine bD ?_|refine cw hO 0 rfl rfl ?_)
 refine adT (by omega) (by omega) (⟨gu hO (ae.length+0) (aA rfl) hO (ae.length+0) (aA rfl) (yn aD.q9),?_⟩);refine ah fl (ah (hT dh) ?_);have:=ag _ hO.left;rw[decide_eq_decide.2 (show en m↔((m.bo.length:Int)=lY m.cU m.bx)from⟨fun h=>h.2.2.2.2.2.2.2.2.1,fun h=>⟨b7,ca,g3,g4,g5,l2,g7,g8,h,by omega⟩⟩)]at this;exact this;exact ah (ho dh) (ey hO (fun h=>by have:=h.2.2.2.2.2.2.2.2.2;omega))
end J
namespace J
open Go Go.Ab
variable[cr:bW]
variable{H:ar}{ae:List (Nat×ay)}{ab:VH}{v x aT:Value}{ak aX b:List Int}{p n k:Nat}{e:Int}{l:List UInt8}{m:dm}{bo:List (List Int)}
def sI(l:List UInt8):List Int:=l.map fun b=>(b.toNat:Int)
theorem yp:(sI l).length=l.length:=by simp[sI]
theorem ave:cl (sI l):=by intro x al;obtain⟨b,_,rfl⟩:=mem_map.1 al;have:=b.toNat_lt;omega
theorem avf:l.map vS=a1 (sI l):=by simp[a1,sI,vS]
theorem Ra(ak:List Int)(h:cl ak):sI (ak.map fun n=>UInt8.ofNat n.toNat)=ak:=by
 unfold sI;rw[map_map]
 conv=>rhs;rw[<- map_id ak]
 grind[map_congr_left,UInt8.toNat_ofNat']
theorem avg(hO:aj H ae)(ag:∀aa aH,aj aa (ae++bB aH (a1 (sI l)))->e8 aH (sI l) (a1 (sI l))->ab aH aa):af (Aj (bl l) H) ab:=by
 refine gj hO (show Aj (bl l) H=some (aC H.next 0 l.length 2,H.push (a1 (sI l)))from ?_) ?_;show lO (l.map vS) (fG l) 2 H=_;rw[avf,gE];rfl;intro p aa im;refine ag _ _ im (.inr ⟨p,.inl (by rw[yp]),?_,by simp[a1],zA _⟩)
 simp_all[take_of_length_le]
def vG(l:List UInt8):List Int:=kc 2 l.length++sI l
theorem avh{n:Nat}:hd .u8 (int n) H=some (bQ .u8 (n%256),H):=by rfl
theorem avi(hO:aj H ae)(aE:l.length<=1000000)(ag:yc ae ab (vG l)):az P 209 [bl l] H ab:=by apply arb;unfold aa2;refine bV Ef (bV (DA (by omega) (by omega)) ?_);rw[Int.toNat_natCast];refine GG (size:=2) hO (by omega) (by omega) ?_;intro H dS eP hO jh;refine avg hO ?_;intro H dD hO jG;exact Dz hO jh jG (by grind[tm,yp]) ag
def sJ(m:dm):List Int:=if en m then vG m.cE++kc 8 m.eb++kc 4 m.cU.toNat++kc 2 m.bx.toNat++m.cD++m.bo.flatten else []
theorem adW(aO:m.cD.length=32):((bM m aT).drop 4).take 32=a1 m.cD:=by
 show(a1 m.cD++[aT]).take 32=_
 simp_all
theorem Rb(h:∀x∈bo,x.length=32){y:Nat}(a8:y<bo.length):((fA bo).drop (0+(y:Int).toNat*32)).take 32=a1 bo[y]:=by
 rw[show 0+(y:Int).toNat*32=y*32+0 by omega];rw[zz (f:=a1) (n:=32) (fun x al=>by simp_all) a8 (by omega),drop_zero]
 simp_all[take_of_length_le]
theorem Rc:∀(l:List (List Int)),(∀x∈l,x.length=32)->l.flatten.length=l.length*32
 | [],_=>rfl
 | a::l,h=>by
  have h1:=Rc l fun x al=>h x (mem_cons_of_mem _ al)
  have h2:=h a mem_cons_self;rw[flatten_cons,length_append,h1,h2,length_cons];omega
theorem avj(ok:m.b6)(aD:eY ae aT m.bo)(hO:aj H ae)(ag:yc ae ab (sJ m)):az P 145 [agg (bM m aT)] H ab:=by
 apply aqt;unfold aad;have rb:=q8 (aT:=aT) ok.cX;have pv:=ok.GL;have GM:=ok.eb;rw[yo];refine ja hO.z ?_;clear hO;intro cC H hO
 replace hO:aj H (ae++[(cC,⟨bM m aT,true⟩)]):=hO
 refine gj hO (yd _) ?_;clear hO;intro Rd H hO
 replace hO:=hO.as
 refine iQ hO 0 rfl (el ok.cX) (by omega) (Eh ok aD.app hO ?_);clear hO;intro H hO;refine ah jF ?_;have GN:e8 (aC Rd 0 0 3) [] []:=.inr ⟨Rd,.inr ⟨rfl,rfl⟩,rfl,zero_le _,rfl⟩
 replace hO:aj H (ae++([(cC,⟨bM m aT,true⟩)]++bB (aC Rd 0 0 3) [])):=hO
 rw[<- append_assoc]at hO;unfold sJ at ag;by_cases U:en m;rw[if_pos U]at ag;have gg:=U;obtain⟨_,ca,g3,g4,g5,l2,g7,_,_,aDC⟩:=gg;rw[decide_eq_true U];refine et rfl (ah b0 (aP hO (ae.length+0) (aK (aA rfl)) (v:=bl m.cE) rfl (avi hO (by omega) ?_)));clear hO;intro H dS eP hO jh;refine Dz hO GN jh (by grind[vG,tm,yp]) ?_;clear hO GN jh;intro H dD dR hO jG;rw[nil_append]at jG;refine ah b0 (aP hO (ae.length+0) (aK (aA rfl)) (v:=bQ .u64 m.eb) rfl (GG (size:=8) hO (by omega) (by omega) ?_));clear hO;intro H dS eP hO jh;refine Dz hO jG jh (by grind[vG,tm,yp]) ?_;clear hO jG jh;intro H dD dR hO jG;refine ah b0 (aP hO (ae.length+0) (aK (aA rfl)) (v:=int m.cU) rfl (bV (DA (by omega) (by omega)) (GG (size:=4) hO (by omega) (by omega) ?_)));clear hO;intro H dS eP hO jh;refine Dz hO jG jh (by grind[vG,tm,yp]) ?_;clear hO jG jh;intro H dD dR hO jG;refine ah b0 (aP hO (ae.length+0) (aK (aA rfl)) (v:=int m.bx) rfl (bV (DA (by omega) (by omega)) (GG (size:=2) hO (by omega) (by omega) ?_)));clear hO;intro H dS eP hO jh;refine Dz hO jG jh (by grind[vG,tm,yp]) ?_;clear hO jG jh;intro H xW vB hO GN;refine ah b0 (ah (xU hO (ae.length+0) (aK (aA rfl)) (by omega) (by grind)) (tf hO GN (aX:=m.cD) (.inr ⟨cC,0+4,3,by rw[ok.cX],.inr rfl,.inr ⟨ae.length+0,_,aA rfl,by rw[ok.cX];exact adW ok.cX⟩⟩) (by simp[vG,tm,yp,ok.cX];omega) ?_))
 clear hO;intro H adX o5 hO adY;refine ah b0 (aP hO (ae.length+0) (aK (aA rfl)) rb (bV aD.bP ?_))
 replace hO:aj H (ae++bB adX o5):=aj.cd hO
 refine aqs (fun k aF aa=>∃(y:Nat) (GO:Value) (rQ:List Value),y<=m.bo.length/\k=m.bo.length-y/\aF=[bq,GO,aT,int m.bo.length,int y]/\aj aa (ae++bB GO rQ)/\e8 GO (vG m.cE++kc 8 m.eb++kc 4 m.cU.toNat++kc 2 m.bx.toNat++m.cD++(m.bo.take y).flatten) rQ) _ _ ?_ m.bo.length _ _ ⟨0,adX,o5,by omega,by omega,rfl,hO,by simpa using adY⟩;clear hO adY;rintro k aF H ⟨y,GO,rQ,a8,rfl,rfl,hO,Re⟩;unfold aac
 try simp only[cu,cv]
 refine ah ez (bz (fun h=>?_) (fun h=>?_));have a8:y<m.bo.length:=by omega
 obtain⟨cF,cc,BR,jw,rfl,bh⟩:=aD.aZ (by omega);refine ah (h4 (by omega) (by omega)) ?_;have zL:=ok.dN _ (getElem_mem a8);refine hG hO BR (aK bh) (Rb ok.dN a8) (by simp[zL]) (by omega) ?_;rw[zI];refine c4 hO ?_;clear hO;intro yq H hO;refine e7 hO (_+0) (aA rfl) (by simp) (by simp[zL]) (lG _) ?_;clear hO;intro H hO
 replace hO:=hO.cb
 refine ah (xU hO (_+0) (aA rfl) (by omega) (by simp[zL])) ?_;refine wA (aX:=m.bo[y]) hO Re (by
  have h1:=Rc (m.bo.take y) fun x al=>ok.dN x (mem_of_mem_take al)
  rw[length_take]at h1;have:=ok.n;simp only[length_append,vG,tm,yp,ok.cX,h1,zL];omega) zL.symm (.inr rfl) ?_
 clear hO;intro H v9 uq hO avk
 repeat refine bD ?_
 refine⟨m.bo.length-(y+1),by omega,y+1,v9,uq,by omega,rfl,rfl,hO,?_⟩;rw[asm a8,<- append_assoc];exact avk;have e:y=m.bo.length:=by omega
 subst e;rw[take_of_length_le (Nat.le_refl _)]at Re;exact ag H GO rQ hO Re;rw[if_neg U]at ag;rw[decide_eq_false U];exact fg rfl (ag H _ [] (aj.cd hO) GN)
end J
namespace J
open Go Go.Ab
variable[cr:bW]
variable{H:ar}{ae:List (Nat×ay)}{ab:VH}{v:Value}{ak b:List Int}{j p:Nat}{e:Int}{a:dm}{bo:List (List Int)}
def adZ:List o2:=List.replicate 32 (.i .u8)
theorem ad0:qW P 100 52=some adZ:=by rfl
theorem K6{s:List Int}(h:s.length=32):jP adZ (a1 s):=by have:=Qn s;rw[h]at this;exact this
theorem avl{a b:List Int}(c:Bool)(bp:a.length=32)(an:b.length=32):(au P .eql 52 c).f (agg (a1 a)) (agg (a1 b))=some (.bool (decide (a=b))):=by rw[alN ad0 (by rfl) (by rfl) (K6 bp) (K6 an),KH]
theorem K7{a b:List Int}(c:Bool)(bp:a.length=32)(an:b.length=32):(au P .neq 52 c).f (agg (a1 a)) (agg (a1 b))=some (.bool (decide (a≠b))):=by rw[Wz ad0 (by rfl) (by rfl) (K6 bp) (K6 an),KH];simp
def ad1(a b:dm):Prop:=a.cE=b.cE/\a.eb=b.eb/\a.cU=b.cU/\a.bx=b.bx/\a.cD=b.cD/\a.bo=b.bo
instance (a b:dm):Decidable (ad1 a b):=by unfold ad1;exact inferInstance
theorem avm{a b:List UInt8}:(a==b)=decide (a=b):=by grind
def zM(ak:List Int)(e:Int):Int:=if e=0/\0<ak.length then 52 else e
theorem avn(hO:aj H ae)(bh:ae[j]?=some (p,js v e))(hv:b3 ae v ak)(ag:ab (int (zM ak e)) H):az P 258 [ai p 0] H ab:=by
 apply arU;unfold abN;refine aU (aP hO j bh rfl (ah fl ?_));unfold zM at ag;refine bz (fun h=>?_) (fun h=>?_);refine aU (aP hO j bh rfl (bV hv.bP ?_))
 repeat refine bD ?_
 refine bz (fun h2=>?_) (fun h2=>?_);rw[if_pos ⟨h,by omega⟩]at ag;exact ag;rw[if_neg (by omega)]at ag;exact aU (aP hO j bh rfl ag)
 repeat (first|refine bD ?_|refine wB ?_)
 rw[if_neg (fun a6=>h a6.1)]at ag;exact aP hO j bh rfl ag
end J
namespace J
open Go Go.Ab
variable[cr:bW]
variable{H:ar}{ae:List (Nat×ay)}{ab:VH}{v x:Value}{ak aX:List Int}{j p n k gK:Nat}{e:Int}
def gU(ak:List Int):List UInt8:=ak.map fun n=>UInt8.ofNat n.toNat
def sK(ak:List Int)(e:Int):Nat:=h6 (kd ak e 2)
def kr(ak:List Int)(e:Int):List Int:=kd (oq ak e 2) (lX ak e 2) (sK ak e)
def j4(ak:List Int)(e:Int):List Int:=oq (oq ak e 2) (lX ak e 2) (sK ak e)
def kH(ak:List Int)(e:Int):Int:=lX (oq ak e 2) (lX ak e 2) (sK ak e)
def wV(ak:List Int)(e:Int)(gK:Nat):Prop:=lX ak e 2=0/\gK<sK ak e
instance (ak:List Int) (e:Int) (gK:Nat):Decidable (wV ak e gK):=by unfold wV;exact inferInstance
def vH(ak:List Int)(e:Int)(gK:Nat):List Int:=if wV ak e gK then []else kr ak e
def ox(ak:List Int)(e:Int)(gK:Nat):List Int:=if wV ak e gK then []else j4 ak e
def re(ak:List Int)(e:Int)(gK:Nat):Int:=if wV ak e gK then 52 else kH ak e
theorem ad2(an:cl ak)(e:Int)(n:Nat):cl (kd ak e n):=b3.bytes an n e
theorem zN(an:cl ak)(e:Int)(n:Nat):cl (oq ak e n):=by
 unfold oq;split;exact fun x al=>an x (mem_of_mem_drop al)
 intro x al;cases al
theorem K8(ak:List Int)(e:Int)(n:Nat):(oq ak e n).length<=ak.length:=by grind[oq]
theorem ad3{k:Nat}(an:cl ak)(e:Int):h6 (kd ak e k)<256^k:=by grind[KE,ad2,KF,Nat.lt_of_lt_of_le,Nat.pow_le_pow_right]
theorem avo(an:cl ak)(e:Int):sK ak e<65536:=ad3 an e
theorem qj.trans{dS dD v3:Value}{rL F0 JG:List Int}(h1:qj dS rL dD F0)(h2:qj dD F0 v3 JG):qj dS rL v3 JG:=fun ae h=>h2 ae (h1 ae h)
theorem avp(hO:aj H ae)(bh:ae[j]?=some (p,js v e))(hv:b3 ae v ak)(an:cl ak)(al:ak.length<=1000000)
  (ag:∀aa dD,aj aa (ae.set j (p,js dD (re ak e gK)))->qj v ak dD (ox ak e gK)->ab (bl (gU (vH ak e gK))) aa):az P 256 [ai p 0,int gK] H ab:=by
 apply arS;unfold abL;have aR:=avo an e;refine Gs (k:=2) (by omega) hO bh hv an ?_;intro H dS hO i1;have Rf:=Kz (y:=(p,js dS (lX ak e 2))) bh;have jh:=i1 _ (KA (c0:=js dS (lX ak e 2)) (jf:=p) hv bh (b3.kz hv));rw[show h6 (kd ak e 2)=sK ak e from rfl];refine bV (Dy (k:=.u64) (by omega)) (e6 (fun aF aa=>aF=[ai p 0,int (sK ak e),.bool (decide (wV ak e gK))]/\H=aa) ?_ ?_);refine aU (aP hO j Rf (v:=int (lX ak e 2)) rfl (ah fl (bz (fun h=>?_) (fun h=>?_))));exact ah kQ (ah (hT h) (⟨by simp_all[wV],rfl⟩));exact ah (ho h) (⟨by simp_all[wV],rfl⟩);rintro aF aa ⟨rfl,rfl⟩
 try simp only[cu,cv]
 unfold re ox vH at ag;refine bz (fun h=>?_) (fun h=>?_);simp only[if_pos h]at ag;refine ack hO Rf ?_;intro H hO;rw[set_set,if_pos h.1]at hO;refine KC (ak:=[]) hO (Kz bh) .nil (by omega) ?_;intro H v3 v4 hO qm i4;rw[set_set]at hO;have bb:lX [] 52 (sK ak e)=52:=by rfl
 have bt:oq [] 52 (sK ak e)=[]:=by rfl
 have dZ:kd [] 52 (sK ak e)=[]:=by rfl
 rw[bb]at hO;rw[bt]at i4;rw[dZ]at qm;exact bV (b3.bl hO (qm _ .nil)) (ag H v4 hO (fun ae _=>i4 ae .nil));simp only[if_neg h]at ag;refine KC hO Rf jh (by omega) ?_;intro H v3 v4 hO qm i4;rw[set_set]at hO;exact bV (b3.bl hO (qm _ (i1 _ (KA (c0:=js v4 (kH ak e)) (jf:=p) hv bh (b3.kz hv))))) (ag H v4 hO (i1.trans i4))
def mA:List Int:=List.replicate 32 0
def nk(ak:List Int)(e:Int):List Int:=if e=0/\32<=ak.length then ak.take 32 else mA
theorem wW:(nk ak e).length=32:=by
 unfold nk;split
 simp_all
 rfl
theorem ad4(an:cl ak):cl (nk ak e):=by
 unfold nk;split;exact fun x al=>an x (mem_of_mem_take al)
 exact GC
theorem K9:cQ P 52=a1 mA:=by rfl
theorem avq:(a1 mA).take 0++(a1 (kd ak e 32)++(a1 mA).drop (0+(kd ak e 32).length))=a1 (nk ak e):=by
 unfold nk kd;split
 simp_all[mA]
 rfl
theorem ad5(hO:aj H ae)(bh:ae[j]?=some (p,js v e))(hv:b3 ae v ak)(al:ak.length<=1000000)
  (ag:∀aa dD,aj aa (ae.set j (p,js dD (lX ak e 32)))->qj v ak dD (oq ak e 32)->ab (agg (a1 (nk ak e))) aa):az P 257 [ai p 0] H ab:=by
 apply arT;unfold abM;have qO:=(List.getElem?_eq_some_iff.1 bh).1;rw[K9];refine ja hO.z ?_;intro bw H hO;refine ja hO ?_;intro eX H hO
 replace hO:aj H (ae++[(bw,⟨a1 mA,true⟩),(eX,⟨a1 mA,true⟩)]):=hO
 refine ah (GH hO 1 rfl (by rfl) (by omega)) (asA (n:=32) hO (aK bh) hv.app (by omega) al ?_);intro br dD aH b5 eh jR dd;rw[show aco (ae++[(bw,(⟨a1 mA,true⟩:ay)),(eX,⟨a1 mA,true⟩)]) j p ak e 32 dD=ae.set j (p,js dD (lX ak e 32))++[(bw,⟨a1 mA,true⟩),(eX,⟨a1 mA,true⟩)]from set_append_left _ _ qO]at eh;refine⟨gu hO (ae.length+1) (aA rfl) eh ((ae.set j (p,js dD (lX ak e 32))).length+1) (aK (aA rfl)) (zA _),?_⟩
 replace ag:=ag (dD:=dD)
 generalize ae.set j (p,js dD (lX ak e 32))=ae at*;have s7:=KF ak e 32;refine QU eh (i:=ae.length+1) (aK (aA rfl)) (aX:=kd ak e 32) dd.hF.app' s7 (by simp[mA]) ?_;intro H hO;rw[set_append_left _ _ (by simp),Go.Ab.cb,avq]at hO
 replace hO:aj H (ae++[(bw,⟨a1 mA,true⟩),(eX,⟨a1 (nk ak e),true⟩)]):=hO.left
 refine iQ hO 1 rfl (by simp[wW]) (by omega) (kq hO 0 rfl (by rfl) (by simp[wW]) (lG _) ?_);intro H hO;exact iQ hO 0 rfl (by simp[wW]) (by omega) (ag H hO.left jR)
end J
namespace J
open Go Go.Ab
variable[cr:bW]
variable{H:ar}{ae:List (Nat×ay)}{ab:VH}{v x aT ko:Value}{b:List Int}{p q n k gK:Nat}{ao:List Value}{l:List UInt8}{bo:List (List Int)}
abbrev jk:=List Int×Int
def ej(n:Nat)(s:jk):jk:=(oq s.1 s.2 n,lX s.1 s.2 n)
def lr(n:Nat)(s:jk):List Int:=kd s.1 s.2 n
def aw(s:jk):List Int:=nk s.1 s.2
def jx:Nat->jk->jk
 | 0,s=>s
 | n+1,s=>ej 32 (jx n s)
def jH:Nat->jk->List (List Int)
 | 0,_=>[]
 | n+1,s=>jH n s++[aw (jx n s)]
def iR(t:List Int)(s:jk):dm:=⟨gU t,h6 (lr 8 s),(h6 (lr 4 (ej 8 s)):Int),(h6 (lr 2 (ej 4 (ej 8 s))):Int),aw (ej 2 (ej 4 (ej 8 s))),[]⟩
def jy(s:jk):jk:=ej 32 (ej 2 (ej 4 (ej 8 s)))
def cT:dm:=⟨[],0,0,0,mA,[]⟩
def sL(h:dm)(c:List (List Int)):dm:={h with bo:=c}
def me(h:dm):Nat:=(min (lY h.cU h.bx) 65).toNat
def BS(t:List Int)(s:jk):dm:=sL (iR t s) (jH (me (iR t s)) (jy s))
def GP(t:List Int)(s:jk):jk:=jx (me (iR t s)) (jy s)
def La(t:List Int)(s:jk):Prop:=zM (GP t s).1 (GP t s).2=0/\en (BS t s)
instance (t:List Int) (s:jk):Decidable (La t s):=by unfold La;exact inferInstance
def BT(t:List Int)(s:jk):dm×Int:=if La t s then(BS t s,0)else(cT,131)
def mf(b:List Int):dm×Int:=BT (vH b 0 96) (ox b 0 96,re b 0 96)
theorem mB{s:jk}(h:cl s.1){n:Nat}:cl (ej n s).1:=zN h _ _
theorem GQ{s:jk}{n:Nat}:(ej n s).1.length<=s.1.length:=K8 _ _ _
theorem ad6{s:jk}(h:cl s.1):∀n,cl (jx n s).1
 | 0=>h
 | n+1=>mB (ad6 h n)
theorem ad7{s:jk}:∀n,(jx n s).1.length<=s.1.length
 | 0=>Nat.le_refl _
 | n+1=>Nat.le_trans GQ (ad7 n)
theorem Lb{s:jk}:∀n,(jH n s).length=n
 | 0=>rfl
 | n+1=>by show(jH n s++[_]).length=_;rw[length_append,Lb n];rfl
theorem ad8{s:jk}:∀n,∀x∈jH n s,x.length=32
 | 0,_,h=>by cases h
 | n+1,x,h=>by
  rcases mem_append.1 (show x∈jH n s++[aw (jx n s)]from h)with h|h
  exact ad8 n x h;rw[mem_singleton.1 h];exact wW
theorem ad9{s:jk}(an:cl s.1):∀n,∀x∈jH n s,cl x
 | 0,_,h=>by cases h
 | n+1,x,h=>by
  rcases mem_append.1 (show x∈jH n s++[aw (jx n s)]from h)with h|h
  exact ad9 an n x h;rw[mem_singleton.1 h];exact ad4 (ad6 an n)
theorem Ei{s:jk}(an:cl s.1)(k:Nat):h6 (lr k s)<256^k:=ad3 an s.2
theorem aea{t:List Int}{s:jk}(an:cl s.1)(ht:t.length<=10000){n:Nat}(aR:n<=10000){lu:jk}(cj:cl lu.1):(sL (iR t s) (jH n lu)).b6:=by
 have hM:=Ei an 8;have bk:=Ei (s:=ej 8 s) (mB an) 4;have h2:=Ei (s:=ej 4 (ej 8 s)) (mB (mB an)) 2;refine⟨wW,ad4 (mB (mB (mB an))),ad8 n,ad9 cj n,hM,?_,?_,?_,?_⟩;show-9223372036854775808<=((h6 (lr 4 (ej 8 s)):Nat):Int)/\((h6 (lr 4 (ej 8 s)):Nat):Int)<=9223372036854775807;omega;show-9223372036854775808<=((h6 (lr 2 (ej 4 (ej 8 s))):Nat):Int)/\((h6 (lr 2 (ej 4 (ej 8 s))):Nat):Int)<=9223372036854775807;omega;show(jH n lu).length<=_
 grind[Lb]
 show(gU t).length<=_
 simp_all[gU]
theorem BU:cT.b6:=⟨rfl,GC,(by intro x h;cases h),(by intro x h;cases h),by decide,by decide,by decide,by decide,by decide⟩
theorem yr:cQ P 55=bM cT bq:=by rfl
theorem Lc:(c9 P 55).f []=some (agg (bM cT bq)):=by rfl
theorem avr(s:ByteArray)(n:Nat)(x y:Int):(c9 P 55).f [(0,.string s),(1,bQ .u64 n),(2,int x),(3,int y)]=some (agg (bM ⟨s.data.toList,n,x,y,mA,[]⟩ bq)):=by rfl
theorem aeb(h:List Int)(aE:h.length=32)(H:ar):(eg P 53 1).f [(0,agg (a1 h))] H=some (aC H.next 0 1 65,H.push (a1 h)):=by
 match h,aE with
 | [a0,c1,c2,a3,a4,a5,kC,lW,nu,a9,Rh,Ri,Rj,Rk,Rl,Rm,Bu,Rn,Ro,Rp,a20,a21,Rq,Rr,Rs,Rt,Ru,Rv,Rw,Rx,Ry,Rz],_=>rfl
theorem avs{h:dm}{d:List Int}(aO:h.cD.length=32)(aE:d.length=32):(bM h aT).take (0+4)++(cZ (agg (a1 d))++(bM h aT).drop (0+4+32))=bM {h with cD:=d} aT:=by show [bl h.cE,bQ .u64 h.eb,int h.cU,int h.bx]++(a1 d++(a1 h.cD++[aT]).drop 32)=_;rw[drop_append_of_le_length (by simp[aO]),drop_of_length_le (by simp[aO])];rfl
theorem avt{h:dm}(aO:h.cD.length=32):(bM h aT).set (0+36) ko=bM h ko:=by show bl h.cE::bQ .u64 h.eb::int h.cU::int h.bx::(a1 h.cD++[aT]).set 32 ko=_;rw[set_append_right _ _ (by simp[aO])];simp[aO];rfl
theorem aec{l:List (List Int)}(h:il 32 v l.length (fA l)):eY (bB v (fA l)) v l:=by
 rcases h with⟨rfl,aN,_⟩|⟨p,rfl|rfl,_⟩
 exact .inl ⟨rfl,length_eq_zero_iff.1 aN⟩;exact .inr ⟨p,_,0,true,rfl,rfl⟩;exact .inr ⟨p,_,0,true,rfl,rfl⟩
theorem RA{l:List (List Int)}{x:List Int}:fA (l++[x])=fA l++a1 x:=by simp[fA]
theorem RB{size n:Nat}(h:il size v n ao):fE v=true/\eA v=true:=by rcases h with⟨rfl,_⟩|⟨p,rfl|rfl,_⟩<;>exact⟨rfl,rfl⟩
theorem avu(hO:aj H ae)(hv:b3 ae v b)(an:cl b)(al:b.length<=9000)
  (ag:∀aa aT,aj aa (ae++bB aT (fA (mf b).1.bo))->eY (bB aT (fA (mf b).1.bo)) aT (mf b).1.bo->ab (.tuple [agg (bM (mf b).1 aT),int (mf b).2].toArray) aa):az P 232 [v] H ab:=by
 apply ary;unfold abq;rw[yr];refine ja hO.z ?_;intro bw H hO;refine acj hO hv.app ?_;intro H dC hO
 replace hO:aj H (ae++[(bw,⟨bM cT bq,true⟩),(dC,js v 0)]):=hO.as
 have s7:(vH b 0 96).length<=10000:=by grind[vH,kr,kd,K8]
 refine avp (gK:=96) hO (aA (k:=1) rfl) hv.app an (by omega) ?_;intro H dS hO i1
 replace hO:aj H (ae++[(bw,⟨bM cT bq,true⟩),(dC,js dS (re b 0 96))]):=hO.cb
 replace hv:=i1 _ hv
 have je:cl (ox b 0 96):=by unfold ox j4;split;intro x h;cases h;exact zN (zN an _ _) _ _
 have mR:(ox b 0 96).length<=b.length:=by grind[ox,j4,K8]
 unfold mf at ag
 replace hO:aj H (ae++[(bw,⟨bM cT bq,true⟩),(dC,js dS (ox b 0 96,re b 0 96).2)]):=hO
 replace hv:b3 ae dS (ox b 0 96,re b 0 96).1:=hv
 replace je:cl (ox b 0 96,re b 0 96).1:=je
 replace mR:(ox b 0 96,re b 0 96).1.length<=b.length:=mR
 generalize vH b 0 96=t at*;generalize ((ox b 0 96,re b 0 96):jk)=s at*;have hM:=Ei je 8;refine Gs (k:=8) (by omega) hO (aA (k:=1) rfl) hv.app je ?_;intro H dD hO jR
 replace hO:aj H (ae++[(bw,⟨bM cT bq,true⟩),(dC,js dD (ej 8 s).2)]):=hO.cb
 replace hv:b3 ae dD (ej 8 s).1:=jR _ hv
 have bk:=Ei (s:=ej 8 s) (mB je) 4;refine Gs (k:=4) (by omega) hO (aA (k:=1) rfl) hv.app (mB je) ?_;intro H v3 hO qm
 replace hO:aj H (ae++[(bw,⟨bM cT bq,true⟩),(dC,js v3 (ej 4 (ej 8 s)).2)]):=hO.cb
 replace hv:b3 ae v3 (ej 4 (ej 8 s)).1:=qm _ hv
 refine bV (Dy (k:=.u64) (show h6 (lr 4 (ej 8 s))<=_ by omega)) ?_;have h2:=Ei (s:=ej 4 (ej 8 s)) (mB (mB je)) 2;refine Gs (k:=2) (by omega) hO (aA (k:=1) rfl) hv.app (mB (mB je)) ?_;intro H v4 hO i4
 replace hO:aj H (ae++[(bw,⟨bM cT bq,true⟩),(dC,js v4 (ej 2 (ej 4 (ej 8 s))).2)]):=hO.cb
 replace hv:b3 ae v4 (ej 2 (ej 4 (ej 8 s))).1:=i4 _ hv
 refine bV (Dy (k:=.u64) (show h6 (lr 2 (ej 4 (ej 8 s)))<=_ by omega)) (ah (avr _ _ _ _) (ja hO ?_));intro fo H hO;refine kq hO 2 rfl (by rfl) (by rfl) (nf rfl) ?_;intro H hO
 replace hO:aj H (ae++[(bw,⟨bM cT bq,true⟩),(dC,js v4 (ej 2 (ej 4 (ej 8 s))).2),(fo,⟨bM ⟨gU t,h6 (lr 8 s),(h6 (lr 4 (ej 8 s)):Int),(h6 (lr 2 (ej 4 (ej 8 s))):Int),mA,[]⟩ bq,true⟩)]):=hO
 have PH:(ej 2 (ej 4 (ej 8 s))).1.length<=9000:=Nat.le_trans GQ (Nat.le_trans GQ (Nat.le_trans GQ (by omega)));refine ad5 hO (aA (k:=1) rfl) hv.app (by omega) ?_;intro H v5 hO kA
 replace hO:aj H (ae++[(bw,⟨bM cT bq,true⟩),(dC,js v5 (jy s).2),(fo,⟨bM ⟨gU t,h6 (lr 8 s),(h6 (lr 4 (ej 8 s)):Int),(h6 (lr 2 (ej 4 (ej 8 s))):Int),mA,[]⟩ bq,true⟩)]):=hO.cb
 replace hv:b3 ae v5 (jy s).1:=kA _ hv
 refine ah b0 (o0 hO (ae.length+2) (aA rfl) (show(a1 (nk _ _)).length=32 by simp_all[wW]) (by show 0+4+32<=(bM _ _).length;rw[el rfl];omega) (lG _) ?_);intro H hO;rw[avs rfl wW]at hO
 replace hO:aj H (ae++[(bw,⟨bM cT bq,true⟩),(dC,js v5 (jy s).2),(fo,⟨bM (iR t s) bq,true⟩)]):=hO.cb
 have aO:(iR t s).cD.length=32:=wW;have avv:cl (jy s).1:=mB (mB (mB (mB je)));have aDD:(jy s).1.length<=9000:=Nat.le_trans GQ PH;refine ah b0 (cw hO 2 rfl (v:=int (iR t s).cU) rfl (ah b0 (cw hO 2 rfl (v:=int (iR t s).bx) rfl ?_)));have aDE:(iR t s).cU<=4294967295:=by show((h6 (lr 4 (ej 8 s)):Nat):Int)<=_;omega
 have aDF:(iR t s).bx<=65535:=by show((h6 (lr 2 (ej 4 (ej 8 s))):Nat):Int)<=_;omega
 refine adS (by omega) (by omega) (bV vr ?_);have IH:=Q9 (s:=(iR t s).cU) (c:=(iR t s).bx);have avw:me (iR t s)<=65:=by grind[me]
 rw[show min (lY (iR t s).cU (iR t s).bx) 65=((me (iR t s):Nat):Int) by grind[me]];have eL:∀n,n<=65->(sL (iR t s) (jH n (jy s))).b6:=fun n aR=>aea je s7 (by omega) avv
 have avx:zM (jx (me (iR t s)) (jy s)).1 (jx (me (iR t s)) (jy s)).2=0/\en (sL (iR t s) (jH (me (iR t s)) (jy s)))->∀aa aT,aj aa (ae++bB aT (fA (jH (me (iR t s)) (jy s))))->eY (bB aT (fA (jH (me (iR t s)) (jy s)))) aT (jH (me (iR t s)) (jy s))->ab (.tuple [agg (bM (sL (iR t s) (jH (me (iR t s)) (jy s))) aT),int 0].toArray) aa:=by intro h;rw[show BT t s=(BS t s,0)from if_pos h]at ag;exact ag
 have avy:¬(zM (jx (me (iR t s)) (jy s)).1 (jx (me (iR t s)) (jy s)).2=0/\en (sL (iR t s) (jH (me (iR t s)) (jy s))))->∀aa,aj aa ae->ab (.tuple [agg (bM cT bq),int 131].toArray) aa:=by intro h aa hO;rw[show BT t s=(cT,131)from if_neg h]at ag;exact ag aa bq hO.z (.inl ⟨rfl,rfl⟩)
 generalize me (iR t s)=N at*;generalize iR t s=h at*;generalize jy s=lu at*;refine arx (fun k aF aa=>∃(y:Nat) (aT v:Value),y<=N/\k=N-y/\aF=[ai bw 0,int 0,ai dC 0,ai fo 0,int N,int y]/\aj aa ((ae++[(bw,⟨bM cT bq,true⟩),(dC,js v (jx y lu).2),(fo,⟨bM h aT,true⟩)])++bB aT (fA (jH y lu)))/\il 32 aT y (fA (jH y lu))/\b3 ae v (jx y lu).1) _ _ ?_ N _ _ ⟨0,bq,v5,by omega,by omega,rfl,hO.z,.nil,hv⟩;rintro k aF H ⟨y,aT,v,a8,rfl,rfl,hO,zO,hv⟩;unfold abp
 try simp only[cu,cv]
 refine ah ez (bz (fun dy=>?_) (fun dy=>?_));have a8:y<N:=by omega
 obtain⟨kY,kR⟩:=RB zO;refine ah b0 (aP hO (ae.length+2) (aK (aA rfl)) (q8 aO) (ad5 hO (aK (aA (k:=1) rfl)) hv.app.app (Nat.le_trans (ad7 y) (by omega)) ?_));intro br xW eh KM;rw[set_append_left _ _ (by simp),Go.Ab.cb]at eh
 replace eh:aj br ((ae++[(bw,⟨bM cT bq,true⟩),(dC,js xW (jx (y+1) lu).2),(fo,⟨bM h aT,true⟩)])++bB aT (fA (jH y lu))):=eh
 refine⟨gu hO (ae.length+2) (aK (aA rfl)) eh (ae.length+2) (aK (aA rfl)) (yn kY),?_⟩;refine gj eh (aeb _ wW _) ?_;intro q H hO;refine DU hO zO (by simp[wW]) (by omega) (lG _) (by omega) (by omega) ?_;intro nS H hO zP
 replace hO:aj H ((ae++[(bw,⟨bM cT bq,true⟩),(dC,js xW (jx (y+1) lu).2),(fo,⟨bM h aT,true⟩)])++bB nS (fA (jH (y+1) lu))):=by show aj H (_++bB nS (fA (jH y lu++[aw (jx y lu)])));rw[RA];exact hO
 replace zP:il 32 nS (y+1) (fA (jH (y+1) lu)):=by show il 32 nS (y+1) (fA (jH y lu++[aw (jx y lu)]));rw[RA];exact zP
 refine ah b0 (fm hO (ae.length+2) (aK (aA rfl)) (RB zP).2 (by grind[el]) (avt aO) ?_);intro H hO;rw[set_append_left _ _ (by simp),Go.Ab.cb]at hO
 repeat refine bD ?_
 exact⟨N-(y+1),by omega,y+1,nS,xW,by omega,rfl,rfl,hO,zP,KM _ hv⟩;have lI:y=N:=by omega
 subst lI;refine km rfl ?_
 try simp only[cu,cv]
 have JC:=Lb (s:=lu) y;have lT:eY (bB aT (fA (jH y lu))) aT (sL h (jH y lu)).bo:=aec (by rw[JC];exact zO);have BV:=eL y avw;refine e6 (fun aF aa=>aF=[ai bw 0,ai fo 0,.bool (decide (¬(zM (jx y lu).1 (jx y lu).2=0/\en (sL h (jH y lu)))))]/\aj aa ((ae++[(bw,⟨bM cT bq,true⟩),(dC,js v (jx y lu).2),(fo,⟨bM h aT,true⟩)])++bB aT (fA (jH y lu)))) ?_ ?_;refine avn hO (aK (aA (k:=1) rfl)) hv.app.app (ah ik (bz (fun h1=>?_) (fun h1=>?_)));exact ah (hT h1) (⟨by simp_all,hO⟩);refine hG hO (ae.length+2) (aK (aA rfl)) (show _=bM (sL h (jH y lu)) aT from by rw[drop_zero];exact take_of_length_le (by grind[el])) (el aO) (by omega) (Eg BV lT.app' hO ?_);intro H hO;refine ah jF (ah (ho h1) (⟨?_,hO⟩))
 simp_all
 rintro aF H ⟨rfl,hO⟩
 try simp only[cu,cv]
 refine bz (fun h1=>?_) (fun h1=>?_);refine ah Lc ?_
 replace hO:=hO.left
 refine kq hO 0 rfl (by rfl) (by rfl) (nf rfl) ?_;intro H hO;exact iQ hO 0 rfl (by rfl) (by omega) (avy h1 H hO.left);refine hG hO (ae.length+2) (aK (aA rfl)) (show _=bM (sL h (jH y lu)) aT from by rw[drop_zero];exact take_of_length_le (by grind[el])) (el aO) (by omega) (e7 hO (ae.length+0) (aK (aA rfl)) (by rfl) (el aO) (nf (RB zO).2) ?_);intro H hO;rw[set_append_left _ _ (by simp),Go.Ab.cb]at hO;exact hG hO (ae.length+0) (aK (aA rfl)) (show _=bM (sL h (jH y lu)) aT from by simp_all[take_of_length_le,el,sL]) (el aO) (by omega) (avx (Classical.not_not.1 h1) H aT (aj.cd hO) lT)
end J
namespace J
open Go Go.Ab
variable[cr:bW]
variable{ae bX:List (Nat×ay)}{v x:Value}{b:List Int}{j p o n:Nat}{l:List UInt8}{m a:dm}
def qo(ae:List (Nat×ay))(v:Value):Prop:=v=bq\/∃(p o n c j:Nat) (b:ay),v=aC p o n c/\ae[j]?=some (p,b)/\b.cells.all fE=true/\(b.wr=true\/b.cells≠[])
theorem qo.app(h:qo ae v):qo (ae++bX) v:=by
 rcases h with h|⟨p,o,n,c,j,b,h1,h2,aB⟩
 exact .inl h;exact .inr ⟨p,o,n,c,j,b,h1,aK h2,aB⟩
def sM:Nat->jk->Nat
 | 0,_=>0
 | f+1,s=>if s.1=[]then 0 else sM f (ej 32 s)+1
theorem RC{s:jk}:∀n,jx n (ej 32 s)=jx (n+1) s
 | 0=>rfl
 | n+1=>by show ej 32 (jx n (ej 32 s))=_;rw[RC n];rfl
def Ej(t:List Int)(s:jk):dm:=sL (iR t s) (jH (sM 65 (jy s)) (jy s))
def Ek(b t:List Int)(s:jk):Prop:=(jx (sM 65 (jy s)) (jy s)).2=0/\sJ (Ej t s)=b/\b≠[]
instance (b t:List Int) (s:jk):Decidable (Ek b t s):=by unfold Ek;exact inferInstance
def Ld(b t:List Int)(s:jk):dm×Int:=if Ek b t s then(Ej t s,0)else(cT,131)
def RD(b:List Int):dm×Int:=Ld b (kr b 0) (j4 b 0,kH b 0)
theorem avz{a b:List Int}(bp:cl a)(an:cl b)(h:gU a=gU b):a=b:=by have h1:=Ra a bp;have h2:=Ra b an;rw[<- h1,<- h2];exact congrArg sI h
theorem GR(y n:Nat):cl (kc y n):=by intro x al;obtain⟨i,_,rfl⟩:=mem_map.1 al;omega
theorem avA:∀ {l:List (List Int)},(∀x∈l,cl x)->cl l.flatten:=by
 intro l h x al
 grind[mem_flatten]
theorem avB(ok:m.b6):cl (sJ m):=by unfold sJ;split;exact nc (nc (nc (nc (nc (nc (GR _ _) ave) (GR _ _)) (GR _ _)) (GR _ _)) ok.avc) (avA ok.fW);intro x h;cases h
end J
namespace J
open Go Go.Ab
variable[cr:bW]
variable{ak bs b t:List Int}{n:Nat}{e:Int}{l:List UInt8}{m:dm}{s:jk}
theorem avC(k n:Nat):kc (k+1) n=((n%256:Nat):Int)::kc k (n/256):=by
 unfold kc;rw[range_succ_eq_map,map_cons,map_map]
 congr 1
 simp;refine map_congr_left fun i _=>?_
 show((n/256^(i+1)%256:Nat):Int)=_;rw[Nat.pow_succ,Nat.mul_comm,Nat.div_div_eq_div_mul]
theorem RE:∀(bs:List Int),cl bs->kc bs.length (h6 bs)=bs
 | [],_=>rfl
 | x::r,h=>by
  have al:=h x mem_cons_self;have a7:=RE r fun y a8=>h y (mem_cons_of_mem _ a8)
  show kc (r.length+1) (x.toNat+256*h6 r)=x::r;rw[avC,show(x.toNat+256*h6 r)/256=h6 r by omega,a7,show(x.toNat+256*h6 r)%256=x.toNat by omega]
  congr 1;omega
theorem pR(h:(ej n s).2=0):s.2=0/\s.1=lr n s++(ej n s).1/\(lr n s).length=n:=by
 have aD:s.2=0/\n<=s.1.length:=by
  have h:lX s.1 s.2 n=0:=h
  grind[lX]
 refine⟨aD.1,?_,?_⟩;show s.1=kd s.1 s.2 n++oq s.1 s.2 n
 simp_all[kd,oq]
 show(kd s.1 s.2 n).length=n
 simp_all[kd]
theorem aed(h:(ej 32 s).2=0):aw s=lr 32 s:=by
 obtain⟨h1,h2,aB⟩:=pR h;have aE:32<=s.1.length:=by simp_all
 show nk s.1 s.2=kd s.1 s.2 32
 simp_all[nk,kd]
theorem GS:∀n,(jx n s).2=0->s.2=0/\s.1=(jH n s).flatten++(jx n s).1
 | 0,h=>⟨h,rfl⟩
 | n+1,h=>by
  obtain⟨h1,h2,aB⟩:=pR (s:=jx n s) (n:=32) h;obtain⟨b7,ca⟩:=GS n h1;refine⟨b7,?_⟩;show s.1=(jH n s++[aw (jx n s)]).flatten++(jx (n+1) s).1;rw[flatten_append,append_assoc,aed h]
  conv=>lhs;rw[ca,h2]
  simp;rfl
def El(m:dm):List Int:=vG m.cE++kc 8 m.eb++kc 4 m.cU.toNat++kc 2 m.bx.toNat++m.cD++m.bo.flatten
theorem aee(h:en m):sJ m=El m:=if_pos h
theorem avD:El m≠[]:=by
 intro h;have:=congrArg List.length h
 grind[El,tm]
theorem Le{s:jk}{k:Nat}(h:(ej k s).2=0)(an:cl s.1):kc k (h6 (lr k s))=lr k s:=by grind[pR,RE]
theorem avE{t:List Int}{s:jk}{N:Nat}(jC:cl s.1)(ht:cl t)(s7:t.length<65536)(h:(jx N (jy s)).2=0):
  s.2=0/\kc 2 t.length++t++s.1=El (sL (iR t s) (jH N (jy s)))++(jx N (jy s)).1:=by
 obtain⟨cj,h0⟩:=GS N h;have aef:=mB (n:=8) jC;have aeg:=mB (n:=4) aef;have py:=mB (n:=2) aeg;obtain⟨bk,iX,pK⟩:=pR (s:=ej 2 (ej 4 (ej 8 s))) (n:=32) cj;obtain⟨aB,dZ,kI⟩:=pR (s:=ej 4 (ej 8 s)) (n:=2) bk;obtain⟨h2,bt,ns⟩:=pR (s:=ej 8 s) (n:=4) aB;obtain⟨h1,bb,lU⟩:=pR (s:=s) (n:=8) h2;refine⟨h1,?_⟩;have aDG:=Le (k:=8) h2 jC;have aDH:=Le (k:=4) aB aef;have e0:=Le (k:=2) bk aeg;have aDI:aw (ej 2 (ej 4 (ej 8 s)))=lr 32 (ej 2 (ej 4 (ej 8 s))):=aed cj;show _=(kc 2 (gU t).length++sI (gU t))++kc 8 (h6 (lr 8 s))++kc 4 ((h6 (lr 4 (ej 8 s)):Nat):Int).toNat++kc 2 ((h6 (lr 2 (ej 4 (ej 8 s))):Nat):Int).toNat++aw (ej 2 (ej 4 (ej 8 s)))++(jH N (jy s)).flatten++(jx N (jy s)).1
 grind[Int.toNat_natCast,gU,Ra,jy]
theorem aeh:∀(N f:Nat) (s:jk),N<=f->(jx N s).2=0->(jx N s).1=[]->sM f s=N
 | 0,f,s,_,_,h=>by
  cases f with
  | zero=>rfl
  | succ f=>unfold sM;rw[if_pos (show s.1=[]from h)]
 | N+1,0,s,h,_,_=>by omega
 | N+1,f+1,s,hf,he,U=>by
  rw[<- RC N]at he U;have a7:=aeh N f (ej 32 s) (by omega) he U;have cj:=(GS N he).1;obtain⟨_,ca,g3⟩:=pR cj;unfold sM;rw[if_neg,a7];intro aN
  simp_all
theorem aei:∀(f:Nat) (s:jk),sM f s<f->(jx (sM f s) s).1=[]
 | 0,s,h=>by omega
 | f+1,s,h=>by unfold sM at h⊢;split;assumption;rename_i aN;rw[if_neg aN]at h;have a7:=aei f (ej 32 s) (by omega);rw[RC]at a7;exact a7
theorem aej:∀(n:Nat) (l:List UInt8),l.length<=n->l.length<=4*(sH n l).length
 | 0,l,h=>by omega
 | n+1,l,h=>by
  unfold sH;split
  simp_all
  rename_i aN;have aM:=K4 aN;have aDJ:pQ l<=4:=by
   unfold pQ;split;omega
   grind[Q2]
  have a7:=aej n (l.drop (pQ l)) (by grind)
  grind
theorem RF(h:ra l=0):l.length<=96:=by
 unfold ra at h;rw[<- adR]at h;unfold GK at h;split at h;omega;have:=aej l.length l (Nat.le_refl _)
 grind[q7]
theorem avF(h:zM ak e=0):e=0/\ak=[]:=by
 unfold zM at h;split at h;omega
 simp_all
theorem aek(an:cl b)(h:kH b 0=0):kc 2 (kr b 0).length++kr b 0++j4 b 0=b/\(kr b 0).length=sK b 0/\lX b 0 2=0:=by
 obtain⟨h1,h2,aB⟩:=pR (s:=(oq b 0 2,lX b 0 2)) (n:=sK b 0) h;obtain⟨b7,ca,g3⟩:=pR (s:=(b,0)) (n:=2) h1;have JS:(kr b 0).length=sK b 0:=aB;refine⟨?_,JS,h1⟩;have aM:=Le (s:=(b,0)) (k:=2) h1 an
 grind[sK,lr,oq,kr,j4]
theorem avG(an:cl b):mf b=RD b:=by
 have AT:cl (kr b 0):=ad2 (zN an _ _) _ _;have Gg:cl (j4 b 0):=zN (zN an _ _) _ _;unfold mf RD;by_cases bS:La (vH b 0 96) (ox b 0 96,re b 0 96)
 -- the fz reads EW
 have rB:=bS;obtain⟨h1,h2⟩:=rB;obtain⟨aB,bk⟩:=avF h1;have jW:¬wV b 0 96:=by
  intro jW;have:(ox b 0 96,re b 0 96).2=0:=by have cj:=(GS _ aB).1;exact(pR (pR (pR (pR cj).1).1).1).1
  simp_all[re]
 have bb:vH b 0 96=kr b 0:=if_neg jW;have bt:ox b 0 96=j4 b 0:=if_neg jW;have dZ:re b 0 96=kH b 0:=if_neg jW;rw[bb,bt,dZ]at bS h1 h2 aB bk⊢;have s7:(kr b 0).length<65536:=by
  have dh:=RF h2.1;have:(gU (kr b 0)).length<=96:=dh
  grind[gU]
 obtain⟨r1,r2⟩:=avE (t:=kr b 0) (s:=(j4 b 0,kH b 0)) Gg AT s7 aB;obtain⟨bO,q2,dz⟩:=aek an r1;have nT:me (iR (kr b 0) (j4 b 0,kH b 0))<=65:=by grind[me]
 have ma:sM 65 (jy (j4 b 0,kH b 0))=me (iR (kr b 0) (j4 b 0,kH b 0)):=aeh _ _ _ nT aB bk;have Lf:Ej (kr b 0) (j4 b 0,kH b 0)=BS (kr b 0) (j4 b 0,kH b 0):=by simp_all[Ej,BS]
 have A5:(jx (sM 65 (jy (j4 b 0,kH b 0))) (jy (j4 b 0,kH b 0)))=GP (kr b 0) (j4 b 0,kH b 0):=by simp_all[GP]
 have mw:El (BS (kr b 0) (j4 b 0,kH b 0))=b:=by have avH:(jx (me (iR (kr b 0) (j4 b 0,kH b 0))) (jy (j4 b 0,kH b 0))).1=[]:=bk;rw[avH,append_nil]at r2;exact r2.symm.trans bO
 have U:Ek b (kr b 0) (j4 b 0,kH b 0):=by
  unfold Ek
  grind[aee,avD]
 simp_all[BT,Ld]
 -- neither akx the document
 have U:¬Ek b (kr b 0) (j4 b 0,kH b 0):=by
  rintro⟨h1,h2,aB⟩;have aQ:en (Ej (kr b 0) (j4 b 0,kH b 0)):=by
   refine Classical.byContradiction fun bk=>aB ?_
   simp_all[sJ]
  have s7:(kr b 0).length<=96:=by
   have dh:=RF aQ.1;have:(gU (kr b 0)).length<=96:=dh
   simp_all[gU]
  have cj:=(GS _ h1).1;have a8:kH b 0=0:=(pR (pR (pR (pR cj).1).1).1).1;obtain⟨bO,q2,dz⟩:=aek an a8;have jW:¬wV b 0 96:=fun h=>by have:=h.2;omega
  have hlen:(Ej (kr b 0) (j4 b 0,kH b 0)).bo.length=sM 65 (jy (j4 b 0,kH b 0)):=Lb _;have y5:=aQ.2.2.2.2.2.2.2.2.1;have zQ:=aQ.2.2.2.2.2.2.2.2.2;rw[hlen]at y5 zQ;have nT:me (iR (kr b 0) (j4 b 0,kH b 0))=sM 65 (jy (j4 b 0,kH b 0)):=by
   have y5:(sM 65 (jy (j4 b 0,kH b 0)):Int)=lY (iR (kr b 0) (j4 b 0,kH b 0)).cU (iR (kr b 0) (j4 b 0,kH b 0)).bx:=y5
   grind[me]
  have I3:=aei 65 (jy (j4 b 0,kH b 0)) (by omega);refine bS ?_;rw[show vH b 0 96=kr b 0 from if_neg jW,show ox b 0 96=j4 b 0 from if_neg jW,show re b 0 96=kH b 0 from if_neg jW];refine⟨?_,?_⟩;unfold GP;rw[nT,I3,h1];rfl;unfold BS;rw[nT];exact aQ
 simp_all[BT,Ld]
theorem avI(an:cl b){m:dm}(h:mf b=(m,0)):en m/\sJ m=b:=by
 rw[avG an]at h;unfold RD Ld at h;split at h;rename_i U;cases h;refine⟨?_,U.2.1⟩;refine Classical.byContradiction fun bk=>U.2.2 ?_
 rw[<- U.2.1];simp_all[sJ];cases h
theorem avJ{b:List Int}(h:(mf b).2≠0):mf b=(cT,131):=by
 unfold mf BT at h⊢
 grind
theorem ael(b:List Int):(mf b).2=0\/mf b=(cT,131):=by grind[avJ]
end J
namespace J
open Go Go.Ab
variable[cr:bW]
variable{H:ar}{ae bX:List (Nat×ay)}{ab:VH}{v w x:Value}{ak aX b:List Int}{j p q o n k:Nat}{ao:List Value}
theorem Lg(h:b3 ae v ak){i t:Nat}(aR:i<=t)(ht:t<=ak.length):∃aH,gL 1 v (some (int i)) (some (int t)) none=some aH/\qj v ak aH ((ak.take t).drop i):=by
 rcases h with⟨rfl,rfl⟩|⟨p,o,c,rfl,aD,_⟩
 have ht:t=0:=by simp_all
 subst ht;have aq:i=0:=by omega
 subst aq;exact⟨bq,rfl,.none⟩;have he:∃b5,(b5=2\/b5=3)/\gL 1 (aC p o ak.length c) (some (int i)) (some (int t)) none=some (aC p (o+i) (t-i) b5):=by
  rcases aD with rfl|rfl
  simp_all[gL,QX,KW,r9,ru]
  refine⟨cond (Nat.beq t ak.length) 3 2,by grind,?_⟩
  simp_all[gL,QX,KW,r9,ru]
 obtain⟨b5,gx,he⟩:=he;refine⟨_,he,fun hp h=>?_⟩;rcases h with⟨h,_⟩|⟨jf,dd,Qj,jn,_,h⟩
 cases h;cases jn;have hlen:((ak.take t).drop i).length=t-i:=by simp_all
 refine .inr ⟨p,o+i,b5,by rw[hlen],gx,?_⟩;rcases h with rfl|⟨j,b,h1,h2⟩
 simp_all
 refine .inr ⟨j,b,h1,?_⟩;have:=congrArg (List.drop i) (congrArg (List.take t) h2);rw[take_take,Nat.min_eq_left ht,drop_take,drop_drop]at this
 simp_all
theorem qo.app'(h:qo bX v):qo (ae++bX) v:=by
 rcases h with h|⟨p,o,n,c,j,b,h1,h2,aB⟩
 exact .inl h;exact .inr ⟨p,o,n,c,ae.length+j,b,h1,aA h2,aB⟩
theorem e8.wX(h:e8 v ak ao):qo (bB v ao) v:=by
 rcases h with⟨rfl,_⟩|⟨p,rfl|⟨rfl,_⟩,h2,aB,bk⟩
 exact .inl rfl;exact .inr ⟨p,0,_,_,0,_,rfl,rfl,bk,.inl rfl⟩;exact .inr ⟨p,0,_,_,0,_,rfl,rfl,bk,.inl rfl⟩
theorem qo.slice(h:qo ae v){fc aq:Option Value}(aw:gL 1 v fc aq none=some w):qo ae w:=by
 rcases h with rfl|⟨p,o,n,c,j,b,rfl,h2,aB⟩
 ·unfold gL at aw;simp only at aw
  repeat' (split at aw)
  all_goals first|(cases aw;done)|(cases aw;exact .inl rfl)
 ·unfold gL at aw;simp only at aw
  repeat' (split at aw)
  all_goals first|(cases aw;done)|(cases aw;exact .inr ⟨p,_,_,_,j,b,rfl,h2,aB⟩)
def lL(b:List Int):Int×Int:=
 if b.length<4\/b.take 2≠[66,85]then(0,141)else if 2304<h6 ((b.take 4).drop 2)+36 then(0,141)else(((h6 ((b.take 4).drop 2)+36:Nat):Int),0)
theorem avK{aX:List Int}(hO:aj H ae)(hv:b3 ae v ak)(aM:b3 ae w aX)(al:cl ak)(a8:cl aX)(ag:ab (.bool (decide (ak=aX))) H):az P 270 [v,w] H ab:=by apply ar2;unfold abV;refine bV (b3.bl hO hv) (bV (b3.bl hO aM) (ah (show _=some (.bool (decide (ak=aX)))from ?_) ag));show(au P .eql 9 false).f (bl (gU ak)) (bl (gU aX))=_;rw[QZ,avm,decide_eq_decide.2 ⟨fun h=>avz al a8 h,fun h=>by rw[h]⟩]
theorem avL{aX:List Int}(hO:aj H ae)(hv:b3 ae v ak)(aM:b3 ae w aX)(al:cl ak)(a8:cl aX)(aE:aX.length<=ak.length)(ag:ab (.bool (decide (ak.take aX.length=aX))) H):az P 252 [v,w] H ab:=by apply arM;unfold abE;refine bV hv.bP (bV aM.bP (ah ss (rK (by omega) (bV aM.bP ?_))));obtain⟨aH,bb,i1⟩:=wM hv aE;exact ah bb (avK hO (i1 _ hv) aM (fun x h=>al x (mem_of_mem_take h)) a8 (ah (hT (by omega)) ag))
theorem aem(H:ar):(eg P 22 2).f [(0,.int .u8 66),(1,.int .u8 85)] H=some (aC H.next 0 2 3,H.push (a1 [66,85])):=by rfl
theorem avM{b:List Int}(an:cl b):h6 ((b.take 4).drop 2)<65536:=by
 have h1:=KE ((b.take 4).drop 2) fun x al=>an x (mem_of_mem_take (mem_of_mem_drop al))
 have h2:((b.take 4).drop 2).length<=2:=by grind
 exact Nat.lt_of_lt_of_le h1 (Nat.pow_le_pow_right (n:=256) (by omega) h2)
theorem avN(hO:aj H ae)(hv:b3 ae v b)(an:cl b)(aE:b.length<=1000000)(ag:∀aa,aj aa ae->ab (.tuple [int (lL b).1,int (lL b).2].toArray) aa):az P 229 [v] H ab:=by
 apply ars;unfold abh;refine e6 (fun aF aa=>aF=[v,.bool (decide (b.length<4\/b.take 2≠[66,85]))]/\aj aa ae) ?_ ?_;refine bV hv.bP (ah ez (bz (fun h=>?_) (fun h=>?_)));exact ah (hT h) (⟨by grind,hO⟩);refine gj hO (aem _) ?_;intro q H hO;refine K2 hO 0 rfl (by omega) (avL (aX:=[66,85]) hO hv.app (yk 0 rfl (.inr rfl) rfl) an (by intro x al;grind) (by grind) (ah jF (ah (ho h) (⟨?_,hO.left⟩))))
 grind[decide_eq_false]
 rintro aF H ⟨rfl,hO⟩
 try simp only[cu,cv]
 unfold lL at ag;refine bz (fun h=>?_) (fun h=>?_);rw[if_pos h]at ag;exact ag H hO;rw[if_neg h]at ag;obtain⟨dD,bt,jR⟩:=Lg hv (i:=2) (t:=4) (by omega) (by omega);refine ah bt (acj hO (jR _ hv) ?_);intro H p hO;have py:cl ((b.take 4).drop 2):=fun x al=>an x (mem_of_mem_take (mem_of_mem_drop al))
 have dy:=avM an;refine Gs (k:=2) (by omega) hO (aA (k:=0) rfl) ((jR _ hv).app) py ?_;intro H v3 hO qm;have avO:kd ((b.take 4).drop 2) 0 2=(b.take 4).drop 2:=by simp_all[kd,take_of_length_le]
 rw[avO];generalize h6 ((b.take 4).drop 2)=N at*;refine bV (Dy (k:=.u64) (by omega)) (ah (v:=int ((N+36:Nat):Int)) (by grind[jg]) (ah kQ ?_))
 replace hO:=hO.cb.left
 refine bz (fun h2=>?_) (fun h2=>?_);rw[if_pos (by omega)]at ag;exact ag H hO;rw[if_neg (by omega)]at ag;exact ag H hO
end J
namespace J
open Go Go.Ab
variable[cr:bW]
variable{H:ar}{ae:List (Nat×ay)}{ab:VH}{v w aT:Value}{ak aX b key ms:List Int}{j q o n k:Nat}{ao bu:List Value}{m:dm}{bo:List (List Int)}
def wY(m:dm):List Int:=[66,85]++kc 2 (sJ m).length++sJ m
def qp(key:List Int)(m:dm):List Int:=wY m++q4 key (wY m)
theorem RG(ok:m.b6)(h:en m):(sJ m).length=m.cE.length+48+32*m.bo.length/\m.cE.length<=96/\m.bo.length<=64:=by have h1:=Rc m.bo ok.dN;have h2:=RF h.1;have aB:=h.2.2.2.2.2.2.2.2.2;rw[aee h];refine⟨?_,h2,aB⟩;simp only[El,vG,length_append,tm,yp,ok.cX,h1];omega
theorem Lh{k b:List Int}:(q4 k b).length=32:=rfl
theorem aen{k b:List Int}:cl (q4 k b):=Ed
theorem aeo(ok:m.b6):cl (wY m):=nc (nc (by simp_all) (GR _ _)) (avB ok)
theorem aep(ok:m.b6)(h:en m):(wY m).length=m.cE.length+52+32*m.bo.length:=by grind[RG,wY,tm]
theorem avP(hO:aj H ae)(hv:b3 ae v key)(aM:b3 ae w ms)(hb:qo ae w)(an:cl key)(hm:cl ms)(aE:key.length<=1000000)(sD:ms.length<=1000000)(ag:yc ae ab (ms++q4 key ms)):az P 146 [v,w] H ab:=by
 apply aqu;unfold aae;refine auS hO hv aM an hm (by omega) (by omega) ?_;intro H hO;rw[K9];refine ja hO.z ?_;intro fo H hO;refine kq hO 0 rfl (by rfl) (by rfl) (lG _) ?_;intro br eh
 replace eh:aj br (ae++[(fo,⟨a1 (q4 key ms),true⟩)]):=eh
 have avQ:fo<br.next:=eh.lt _ (mem_append_right _ mem_cons_self);refine gj eh (yd _) ?_;intro yq cB de;have NR:fo<cB.next:=de.lt (fo,⟨a1 (q4 key ms),true⟩) (by simp);have avR:aj cB ((ae++[(fo,(⟨a1 (q4 key ms),true⟩:ay))])++bB (aC yq 0 0 3) []):=de;refine tf (ak:=[]) (v:=aC yq 0 0 3) (ao:=[]) avR (.inr ⟨yq,.inr ⟨rfl,rfl⟩,rfl,zero_le _,rfl⟩) aM.app (by grind) ?_;intro iN v3 ij lo hn;refine ah (xU lo (ae.length+0) (aK (aA rfl)) (by omega) (by simp[Lh])) ?_;have da:yq≠fo:=aj.KY de (i:=(ae++[(fo,(⟨a1 (q4 key ms),true⟩:ay))]).length+0) (j:=ae.length+0) (aA rfl) (aK (aA rfl)) (by simp);have IQ:pG (b9 [aC yq 0 0 3,w]) (b9 [ai fo 0]):=by
  have bb:Nat.beq yq fo=false:=by grind[eq_of_beq_eq_true]
  rcases hb with rfl|⟨Li,o,n,c,A1,aDK,rfl,h2,aB⟩
  show nJ [yq] [fo]=true
  grind[nJ,j0,sb]
  have ajp:Li≠fo:=aj.KY eh (i:=A1) (j:=ae.length+0) (aK h2) (aA rfl) (by grind);have bt:Nat.beq Li fo=false:=by grind[eq_of_beq_eq_true]
  show nJ [yq,Li] [fo]=true
  simp_all[nJ,j0,sb]
 refine⟨IQ,tq NR,tq avQ,?_⟩;refine tf lo hn (aX:=q4 key ms) (.inr ⟨fo,0,3,by rfl,.inr rfl,.inr ⟨ae.length+0,_,aA rfl,by rfl⟩⟩) (by grind[Lh]) ?_;intro uf v4 nv y9 fr;exact ag uf v4 nv (aj.cd y9) fr
theorem aeq(ok:m.b6)(hO:aj H ae)(hv:b3 ae v key)(aD:eY ae aT m.bo)(an:cl key)(aE:key.length<=1000000)
  (gA:¬en m->∀aa,aj aa ae->ab (.tuple [bq,int 131].toArray) aa)
  (sA:en m->∀aa aH bu,aj aa (ae++bB aH bu)->e8 aH (qp key m) bu->ab (.tuple [aH,int 0].toArray) aa):az P 70 [v,agg (bM m aT)] H ab:=by
 apply apu;unfold Y2;rw[yo];refine ja hO.z ?_;intro eX H hO;refine iQ hO 0 rfl (el ok.cX) (by omega) (Eh ok aD.app hO ?_);intro H hO;refine ah jF ?_;by_cases U:en m;obtain⟨b1,b2,hB⟩:=RG ok U;have kD:=aep ok U;rw[decide_eq_true U];refine et rfl (iQ hO 0 rfl (el ok.cX) (by omega) (avj ok aD.app hO ?_));intro H dS eP hO bZ;refine gj hO (aem _) ?_;intro q H hO;refine K2 hO 0 rfl (by omega) (bV bZ.bP (bV (DA (by omega) (by omega)) ?_));rw[Int.toNat_natCast];refine GG (size:=2) hO (by omega) (by omega) ?_;intro H dD dR hO dr;have avS:e8 (aC q 0 2 3) [66,85] (a1 [66,85]):=.inr ⟨q,.inr ⟨rfl,rfl⟩,rfl,Nat.le_refl _,rfl⟩
 replace hO:aj H (((ae++([]++[(eX,(⟨bM m aT,true⟩:ay))])++bB dS eP)++bB (aC q 0 2 3) (a1 [66,85]))++bB dD dR):=hO
 refine Dz hO avS dr (by simp[tm]) ?_;intro H v3 ij hO hn;have om:b3 (ae++([]++[(eX,(⟨bM m aT,true⟩:ay))])++bB dS eP) dS (sJ m):=bZ.hF.app';refine tf hO hn om (by grind[tm]) ?_;intro H v4 nv hO fr
 replace fr:e8 v4 (wY m) nv:=fr
 replace hO:aj H (ae++bB v4 nv):=by have aN:=hO.left.left;rw[append_assoc,append_assoc]at hO;exact hO.sub (List.Sublist.append (List.Sublist.refl _) (by rw[<- append_assoc];exact sublist_append_right _ _))
 refine avP hO hv.app fr.hF.app' (e8.wX fr).app' an (aeo ok) aE (by omega) ?_;intro H v5 pL hO kB;exact sA U H v5 pL (aj.cd hO) kB;rw[decide_eq_false U];exact fg rfl (gA U H hO.left)
end J
