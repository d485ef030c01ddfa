/- texts of the nF, e5 behind the l0 -/
import Derived.Test.YtifflnhooaophaaGreatDoorUD
set_option linter.unusedVariables false
set_option linter.unusedSimpArgs false
set_option linter.unusedSectionVars false
set_option maxHeartbeats 8000000
set_option maxRecDepth 100000
open List Nat
namespace J
open Go Go.Ab
variable[cr:bW]
variable{H:ar}{ae:List (Nat×ay)}{ab:VH}{v w x:Value}{ak aX:List Int}{j p:Nat}{e:Int}
abbrev agg(l:List Value):Value:=.agg l.toArray
theorem fs{p n:Nat}{ao:List Value}{w:Bool}{ab:VH}(h:aj H ae)(i:Nat)(aq:ae[i]?=some (p,⟨ao,w⟩))(aR:ao.length=n)(bS:0<n)(ag:ab (agg ao) H):af (bT n (ai p 0) H) ab:=by
 refine hG h i aq (show _=ao from ?_) aR bS ag
 grind
theorem e7{p n:Nat}{ao cL:List Value}{ab:VH}(h:aj H ae)(i:Nat)(aq:ae[i]?=some (p,⟨ao,true⟩))(aR:ao.length=n)(aE:cL.length=n)(h1:cL.all eA=true)
  (ag:∀aa,aj aa (ae.set i (p,⟨cL,true⟩))->ab undef aa):af (bm n (ai p 0) (agg cL) H) ab:=by
 refine o0 h i aq aE (by omega) h1 fun aa hO=>ag aa ?_
 have e:ao.take 0++(cZ (agg cL)++ao.drop (0+n))=cL:=by rw[drop_of_length_le (by omega)];show []++(cL++[])=cL;simp
 rw[e]at hO;exact hO
theorem jT{a b:Value}:ee 0 (.tuple [a,b].toArray)=some a:=rfl
theorem jU{a b:Value}:ee 1 (.tuple [a,b].toArray)=some b:=rfl
theorem aj.cd{L R:List (Nat×ay)}(h:aj H ((ae++L)++R)):aj H (ae++R):=h.sub (List.Sublist.append (sublist_append_left ae L) (List.Sublist.refl R))
abbrev yc(ae:List (Nat×ay))(ab:VH)(ak:List Int):Prop:=∀(aa:ar) (aH:Value) (bu:List Value),aj aa (ae++bB aH bu)->e8 aH ak bu->ab aH aa
theorem yc.none(h:yc ae ab [])(hO:aj H ae):ab bq H:=h H bq [] (by show aj H (ae++[]);rw[append_nil];exact hO) e8.nil
theorem acg:P.underlying 22=some (.slice 5):=by rfl
theorem yd(H:ar):(eg P 22 0).f [] H=some (aC H.next 0 0 3,H.push []):=by rfl
theorem Gr(k:IntKind)(n:Int)(H:ar):(eg P 22 1).f [(0,.int k n)] H=some (aC H.next 0 1 3,H.push [.int k n]):=by rfl
theorem asi(k eE:IntKind)(m n:Int)(H:ar):(eg P 22 2).f [(0,.int k m),(1,.int eE n)] H=some (aC H.next 0 2 3,H.push [.int k m,.int eE n]):=by rfl
theorem ach(a:Option Addr)(n c:Nat)(H:ar):(eg P 369 1).f [(0,.slice a n c)] H=some (aC H.next 0 1 3,H.push [.slice a n c]):=by rfl
theorem asj(a cq:Option Addr)(n k7 c b5:Nat)(H:ar):(eg P 369 2).f [(0,.slice a n c),(1,.slice cq k7 b5)] H=some (aC H.next 0 2 3,H.push [.slice a n c,.slice cq k7 b5]):=by rfl
theorem Kx(hO:aj H ae)(hv:b3 ae v ak)(aE:ak.length<=100000000)(ag:yc ae ab ak):az P 124 [v] H ab:=by
 apply ap5;unfold ZH;have hJ:=hv;rcases hv with⟨rfl,rfl⟩|⟨p,o,c,rfl,_⟩
 exact ah (JM acg) (fg rfl (ag.none hO));refine ah (JM acg) (et rfl (gj hO (yd _) ?_));intro q H hO;exact tf (v:=aC q 0 0 3) (ao:=[]) (ak:=[]) hO (.inr ⟨q,.inr ⟨rfl,rfl⟩,rfl,Nat.le_refl _,rfl⟩) hJ (by grind) ag
theorem asl{n:Nat}(aR:n<=8)(ag:ab (int n) H):az P 273 [int n] H ab:=by
 apply ar5;unfold abY
 repeat refine rO ?_
 rw[show max (0:Int) (min (n:Int) 8)=n by omega];exact ag
theorem asm{Ky:List (List Int)}{y:Nat}(h:y<Ky.length):(Ky.take (y+1)).flatten=(Ky.take y).flatten++Ky[y]:=by grind[take_succ_eq_append_getElem]
def kc(y n:Nat):List Int:=(List.range y).map fun i=>((n/256^i%256:Nat):Int)
theorem tm(y n:Nat):(kc y n).length=y:=by simp[kc]
theorem asn(y n:Nat):kc (y+1) n=kc y n++[((n/256^y%256:Nat):Int)]:=by simp[kc,range_succ]
def kd(ak:List Int)(e:Int)(n:Nat):List Int:=if e=0/\n<=ak.length then ak.take n else []
def oq(ak:List Int)(e:Int)(n:Nat):List Int:=if e=0/\n<=ak.length then ak.drop n else []
def lX(ak:List Int)(e:Int)(n:Nat):Int:=if e=0/\n<=ak.length then 0 else if e=0 then 51 else e
abbrev js(v:Value)(e:Int):ay:=⟨[v,int e],true⟩
theorem Kz{bK y:Nat×ay}(h:ae[j]?=some bK):(ae.set j y)[j]?=some y:=List.getElem?_set_self (List.getElem?_eq_some_iff.1 h).1
theorem KA{c0:ay}{s:Value}{jf:Nat}(h:b3 ae v ak)(bh:ae[j]?=some (p,js s e))(aw:∃a n c,s=.slice a n c):b3 (ae.set j (jf,c0)) v ak:=by
 rcases h with h|⟨bw,o,c,h1,h2,aB|⟨aci,b,aB,bk⟩⟩
 exact .inl h;exact .inr ⟨bw,o,c,h1,h2,.inl aB⟩;by_cases hjj:aci=j;subst hjj;rw[bh]at aB;cases aB;obtain⟨a,n,b5,rfl⟩:=aw;refine .inr ⟨_,o,c,h1,h2,.inl ?_⟩
 match ak,o,bk with
 | [],_,_=>rfl
 | y::r,0,bk=>simp at bk
 | y::r,1,bk=>simp at bk
 | y::r,o+2,bk=>simp at bk
 exact .inr ⟨bw,o,c,h1,h2,.inr ⟨aci,b,by grind,bk⟩⟩
theorem aso(a:Option Addr)(n c:Nat):(c9 P 419).f [(0,.slice a n c)]=some (agg [.slice a n c,int 0]):=by rfl
theorem acj(hO:aj H ae)(hv:b3 ae v ak)(ag:∀aa p,aj aa (ae++[(p,js v 0)])->ab (ai p 0) aa):az P 253 [v] H ab:=by apply arN;unfold abF;obtain⟨a,n,c,rfl⟩:=b3.kz hv;refine ah (aso _ _ _) (c4 hO ?_);intro p H hO;exact ag _ _ hO
theorem ack{x:Int}(hO:aj H ae)(bh:ae[j]?=some (p,js v e))(ag:∀aa,aj aa (ae.set j (p,js bq (if e=0 then x else e)))->ab (.tuple [].toArray) aa):az P 274 [ai p 0,int x] H ab:=by apply ar6;unfold abZ;refine aU (aP hO j bh rfl (ah fl (bz (fun h=>?_) (fun h=>?_))));rw[if_pos h]at ag;refine aU (fm hO j bh rfl (show 1<2 by omega) (show _=[v,int x]from rfl) ?_);intro H hO;refine aU (fm hO j (Kz bh) rfl (show 0<2 by omega) (show _=[bq,int x]from rfl) ?_);intro H hO;rw[set_set]at hO;exact ag _ hO;rw[if_neg h]at ag;refine aU (fm hO j bh rfl (show 0<2 by omega) (show _=[bq,int e]from rfl) ?_);intro H hO;exact ag _ hO
abbrev qj(v:Value)(ak:List Int)(aH:Value)(aX:List Int):Prop:=∀ hp:List (Nat×ay),b3 hp v ak->b3 hp aH aX
theorem qj.none{v:Value}{ak:List Int}:qj v ak bq []:=fun _ _=>.nil
theorem wM(h:b3 ae v ak){n:Nat}(aR:n<=ak.length):∃aH,gL 1 v none (some (int n)) none=some aH/\qj v ak aH (ak.take n):=by
 rcases h with⟨rfl,rfl⟩|⟨p,o,c,rfl,aD,_⟩
 have:n=0:=by simp_all
 subst this;exact⟨bq,rfl,.none⟩;obtain⟨b5,gx,he⟩:=alT (o:=o) (p:=p) (n:=ak.length) (h:=(n:Int)) (by omega) (by omega) aD;rw[Int.toNat_natCast]at he;refine⟨_,he,fun hp h=>?_⟩;rcases h with⟨h,_⟩|⟨jf,dd,Qj,jn,_,h⟩
 cases h;cases jn;refine .inr ⟨p,o,b5,by simp_all,gx,?_⟩;rcases h with rfl|⟨j,b,h1,h2⟩
 simp_all
 refine .inr ⟨j,b,h1,?_⟩;rw[length_take,Nat.min_eq_left aR];have:=congrArg (List.take n) h2;rw[take_take,Nat.min_eq_left aR]at this
 simp_all
theorem KB(h:b3 ae v ak){n:Nat}(aR:n<=ak.length):∃aH,gL 1 v (some (int n)) none none=some aH/\qj v ak aH (ak.drop n):=by
 rcases h with⟨rfl,rfl⟩|⟨p,o,c,rfl,aD,_⟩
 have:n=0:=by simp_all
 subst this;exact⟨bq,rfl,.none⟩;have an:qG ak.length (some (int (n:Int)))=some n:=by
  show(match j7 0 (n:Int)with|true=>(match Nat.ble (n:Int).toNat ak.length with|true=>some (n:Int).toNat|false=>none)|false=>none)=_
  simp_all[k9,ble_eq_true_of_le]
 have he:∃b5,(b5=2\/b5=3)/\gL 1 (aC p o ak.length c) (some (int n)) none none=some (aC p (o+n) (ak.length-n) b5):=by
  rcases aD with rfl|rfl
  simp_all[gL,n2,r9,ru]
  simp_all[gL,n2,r9,ru]
 obtain⟨b5,gx,he⟩:=he;refine⟨_,he,fun hp h=>?_⟩;rcases h with⟨h,_⟩|⟨jf,dd,Qj,jn,_,h⟩
 cases h;cases jn;refine .inr ⟨p,o+n,b5,by simp_all,gx,?_⟩;rcases h with rfl|⟨j,b,h1,h2⟩
 simp_all
 refine .inr ⟨j,b,h1,?_⟩;have:=congrArg (List.drop n) h2;rw[drop_take,drop_drop]at this
 simp_all
theorem KC{n:Nat}(hO:aj H ae)(bh:ae[j]?=some (p,js v e))(hv:b3 ae v ak)(aR:n<=1000000)
  (ag:∀aa dS dD,aj aa (ae.set j (p,js dD (lX ak e n)))->qj v ak dS (kd ak e n)->qj v ak dD (oq ak e n)->ab dS aa):az P 272 [ai p 0,int n] H ab:=by
 apply ar4;unfold abX
 repeat refine rO ?_
 rw[show max (n:Int) 0=n by omega];refine e6 (fun aF aa=>aF=[ai p 0,int n,.bool (decide (¬(e=0/\n<=ak.length)))]/\aj aa ae) ?_ ?_;refine aU (aP hO j bh rfl (ah ik (bz (fun h=>?_) (fun h=>?_))))
 repeat refine bD ?_
 exact⟨by simp_all,hO⟩;refine aU (aP hO j bh rfl (bV hv.bP ?_))
 repeat refine bD ?_
 refine⟨?_,hO⟩
 simp_all
 rintro aF H ⟨rfl,hO⟩
 try simp only[cu,cv]
 refine bz (fun h=>?_) (fun h=>?_);unfold kd oq lX at ag;rw[if_neg h,if_neg h,if_neg h]at ag;refine ack hO bh ?_;intro H hO;exact ag _ bq bq hO .none .none;have h:=Decidable.not_not.1 h;unfold kd oq lX at ag;rw[if_pos h,if_pos h,if_pos h]at ag;obtain⟨dS,bb,r1⟩:=wM hv h.2;obtain⟨dD,bt,r2⟩:=KB hv h.2;refine aU (aP hO j bh rfl (ah bb (aU (aP hO j bh rfl (ah bt (aU ?_))))));obtain⟨c2,fI,dR,rfl⟩:=b3.kz (r2 _ hv);refine fm hO j bh rfl (show 0<2 by omega) (show _=[.slice c2 fI dR,int e]from rfl) ?_;intro H hO;rw[h.1]at hO;exact ag _ dS _ hO r1 r2
theorem acm{t:At}{ab qk:VH}(h:xF P t ab)(ag:∀v H,ab v H->qk v H):xF P t qk:=by obtain⟨n,cJ,v,aa,h1,h2⟩:=h;exact⟨n,cJ,v,aa,h1,ag _ _ h2⟩
theorem asp[L:bW]{l q KD:Nat}{G:Nat->List (Nat×ay)}(cf:∀k,(G k)[KD]?=some (q,⟨[v],true⟩))(hv:∀k,b3 (G k) v ak)(al:ak.length<=1000000)
  (U:∀k (h:k<ak.length) H,aj H (G (k+1))->xF P (.round l [int k,.int .u8 ak[k]] H) fun b aa=>b=.bool true/\aj aa (G k)) (hO:aj H (G ak.length)) (ag:∀aa,aj aa (G 0)->ab (.tuple [].toArray) aa):az P 281 [uX l,ai q 0] H ab:=by
 apply asg;unfold ace;refine aP hO KD (cf _) rfl (bV (hv ak.length).bP ?_)
 repeat refine bD ?_
 refine asf (fun k aF aa=>∃y:Nat,y<=ak.length/\k=y/\aF=[uX l,ai q 0,int ((y:Int)-1)]/\aj aa (G y)) _ _ ?_ ak.length _ _ ⟨ak.length,by omega,rfl,rfl,hO⟩;rintro k aF aa ⟨y,a8,rfl,rfl,hO⟩;unfold acd
 try simp only[cu,cv]
 repeat refine bD ?_
 refine bz (fun h=>?_) (fun h=>?_);obtain⟨z,rfl⟩:∃z:Nat,k=z+1:=⟨k-1,by omega⟩;have dQ:z<ak.length:=by omega
 have asq:((z+1:Nat):Int)-1=z:=by omega
 rw[asq]at*;refine aP hO KD (cf _) rfl ?_;obtain⟨bw,o,c,BB,b,rfl,h1,h2⟩:=(hv (z+1)).at dQ
 repeat refine bD ?_
 refine aP hO BB h1 (v:=.int .u8 ak[z]) (by simp_all) (WK (acm (U z dQ _ hO) ?_));rintro b2 cB ⟨rfl,de⟩
 repeat (first|refine bD ?_|refine wB ?_)
 exact⟨_,by omega,z,by omega,rfl,rfl,de⟩;have:k=0:=by omega
 subst this
 repeat refine Bn ?_
 exact ag _ hO
def h6:List Int->Nat
 | []=>0
 | x::r=>x.toNat+256*h6 r
theorem KE:∀(ak:List Int),(∀x∈ak,0<=x/\x<=255)->h6 ak<256^ak.length
 | [],_=>by simp[h6]
 | x::r,h=>by
  have h1:=KE r fun y a8=>h y (mem_cons_of_mem _ a8)
  have h2:=h x mem_cons_self;simp only[h6,length_cons,Nat.pow_succ];omega
theorem asr{k:Nat}(h:k<ak.length):h6 (ak.drop k)=ak[k].toNat+256*h6 (ak.drop (k+1)):=by rw[drop_eq_getElem_cons h];rfl
theorem ass{a b:Nat}(an:b<256):(a*2^8)|||b=b+256*a:=by rw[Nat.mul_comm,<- two_pow_add_eq_or_of_lt (i:=8) an];omega
theorem b3.bytes(an:∀x∈ak,0<=x/\x<=255)(n:Nat)(e:Int):∀x∈kd ak e n,0<=x/\x<=255:=by grind[kd]
theorem KF(ak:List Int)(e:Int)(n:Nat):(kd ak e n).length<=n:=by grind[kd]
theorem ast[L:bW]{zy m:Nat}{b:Int}{y:Nat×ay}{X:ar->Prop}(hO:aj H (ae++[(zy,⟨[bQ .u64 m],true⟩),y]))(hm:m<256^7)(an:0<=b/\b<=255)(ag:∀aa,aj aa (ae++[(zy,⟨[bQ .u64 (b.toNat+256*m)],true⟩),y])->X aa):
  af (ax (ai zy 0) H) fun asu cB=>ad ((au P .shl 27 true).f asu (.int .u64 8)) fun asv=>af (hd .u64 (.int .u8 b) cB) fun asw acn=>ad ((au P .or 27 false).f asv asw) fun DT=>af (bm 1 (ai zy 0) DT acn) fun u asx=>X asx:=by
 refine aP hO (ae.length+0) (aA rfl) rfl (ah (Dx (n:=8) rfl (by decide)) ?_);rw[F1 an.1];refine bV (vv rfl) ?_;have h2:m*2^8%gk .u64=m*2^8:=mod_eq_of_lt (show m*2^8<2^64 by omega);have aB:b.toNat%gk .u64=b.toNat:=mod_eq_of_lt (show b.toNat<2^64 by omega);rw[h2,aB];refine ah (Bl rfl (show m*2^8<2^64 by omega) (show b.toNat<2^64 by omega)) ?_;rw[ass (by omega)];refine fm hO (ae.length+0) (aA rfl) rfl (show 0<1 by omega) (show _=[bQ .u64 (b.toNat+256*m)]from rfl) ?_;intro H hO;exact ag _ hO.cb
theorem Gs{k:Nat}(asy:k<=8)(hO:aj H ae)(bh:ae[j]?=some (p,js v e))(hv:b3 ae v ak)(an:∀x∈ak,0<=x/\x<=255)
  (ag:∀aa dD,aj aa (ae.set j (p,js dD (lX ak e k)))->qj v ak dD (oq ak e k)->ab (bQ .u64 (h6 (kd ak e k))) aa):az P 254 [ai p 0,int k] H ab:=by
 apply arP;unfold abH;refine c4 hO ?_;intro zy H hO;have qO:=(List.getElem?_eq_some_iff.1 bh).1;refine fm hO (ae.length+0) (aA rfl) rfl (show 0<1 by omega) (show _=[bQ .u64 0]from rfl) ?_;intro H hO
 replace hO:aj H (ae++[(zy,⟨[bQ .u64 0],true⟩)]):=hO.cb
 refine asl asy (KC hO (aK bh) hv.app (by omega) ?_);intro H dS dD hO r1 r2;rw[set_append_left _ _ qO]at hO;have mw:=b3.bytes an k e;have o3:=KF ak e k;have ag:=ag (dD:=dD);have r1:=r1 _ (KA (c0:=js dD (lX ak e k)) (jf:=p) hv bh (b3.kz hv));generalize ae.set j (p,js dD (lX ak e k))=qZ at*;generalize kd ak e k=bs at*;apply ar3;unfold abW;refine c4 hO ?_;intro q q0 hO;obtain⟨c1,eZ,eP,bb⟩:=b3.kz r1;have qM:cZ dS=[dS]:=by rw[bb];rfl
 rw[qM,append_assoc]at hO;have asz:∀m:Nat,b3 (qZ++[(zy,⟨[bQ .u64 m],true⟩),(q,⟨[dS],true⟩)]) dS bs:=fun m=>r1.app
 refine WJ (L:=cr) hO (f:=281) (args:=[uX (Nat.succ q0.next),ai q 0]) rfl ?_;intro T bd jq fO nP;generalize hL:iA (Nat.succ q0.next) _ cr=L at nP;refine asp (L:=L) (l:=Nat.succ q0.next) (KD:=qZ.length+1) (G:=fun m=>qZ++[(zy,⟨[bQ .u64 (h6 (bs.drop m))],true⟩),(q,⟨[dS],true⟩)]) (fun m=>aA rfl) (fun m=>asz _) (by omega) ?_ (by rw[drop_of_length_le (Nat.le_refl _)];exact nP) ?_;intro m hm H Gt;subst hL;refine WG (n:=21) Gt bd jq rfl (by decide) ?_;rw[arO];unfold abG;refine WD Gt ?_;intro cB de;have al:=mw _ (getElem_mem hm);have dy:=KE (bs.drop (m+1)) fun y a8=>mw y (mem_of_mem_drop a8)
 have xB:256^(bs.drop (m+1)).length<=256^7:=Nat.pow_le_pow_right (by omega) (by grind);refine ast (L:=iA (Nat.succ q0.next) _ cr) de (Nat.lt_of_lt_of_le dy xB) al ?_;intro iN lo;refine WE lo ?_;intro uf y9;refine⟨rfl,?_⟩;rw[asr hm];exact y9;intro cB de;subst hL;refine⟨.ready,_,by simp,de,?_⟩;intro iN lo;show af _ _;exact aP lo (qZ.length+0) (aA rfl) rfl (ag _ lo.left r2)
abbrev aco(ae:List (Nat×ay))(j p:Nat)(ak:List Int)(e:Int)(n:Nat)(dD:Value):List (Nat×ay):=ae.set j (p,js dD (lX ak e n))
theorem asA{n:Nat}(hO:aj H ae)(bh:ae[j]?=some (p,js v e))(hv:b3 ae v ak)(aR:n<=1000000)(al:ak.length<=1000000)
  (ag:∀aa dD aH bu,aj aa (aco ae j p ak e n dD++bB aH bu)->qj v ak dD (oq ak e n)->e8 aH (kd ak e n) bu->ab aH aa):az P 275 [ai p 0,int n] H ab:=by
 apply ar7;unfold ab0;refine KC hO bh hv aR ?_;intro H dS dD hO r1 r2;have aE:=KF ak e n;refine Kx hO (r1 _ (KA (c0:=js dD (lX ak e n)) (jf:=p) hv bh (b3.kz hv))) (by omega) ?_;intro aa aH bu im hJ;exact ag aa dD aH bu im r2 hJ
end J
namespace J
open Go Go.Ab
variable[cr:bW]
variable{H:ar}{ae:List (Nat×ay)}{ab:VH}{v x:Value}{ak:List Int}{e:Int}
section
variable{α:Type}{f:α->List Value}{l:List α}{n i o m:Nat}
theorem acp(aM:∀x∈l,(f x).length=n):(l.flatMap f).length=l.length*n:=by
 induction l with
 | nil=>simp
 | cons a l a7=>grind
theorem Qk(aM:∀x∈l,(f x).length=n)(h:i<l.length):∃A B,l.flatMap f=A++(f l[i]++B)/\A.length=i*n/\∀y,(l.set i y).flatMap f=A++(f y++B):=by
 refine⟨(l.take i).flatMap f,(l.drop (i+1)).flatMap f,?_,?_,fun y=>?_⟩
 grind[take_append_drop,drop_eq_getElem_cons]
 grind[acp,length_take]
 simp_all[set_eq_take_append_cons_drop]
theorem zz(aM:∀x∈l,(f x).length=n)(h:i<l.length)(hm:o+m<=n):((l.flatMap f).drop (i*n+o)).take m=((f l[i]).drop o).take m:=by obtain⟨A,B,e,bp,_⟩:=Qk aM h;have aE:=aM _ (getElem_mem h);rw[e,<- drop_drop,<- bp,drop_left,drop_append_of_le_length (by omega),take_append_of_le_length (by grind)]
theorem KG(aM:∀x∈l,(f x).length=n)(h:i<l.length){y:α}{cL:List Value}(hm:o+cL.length<=n)(a8:f y=(f l[i]).take o++(cL++(f l[i]).drop (o+cL.length))):
  (l.flatMap f).take (i*n+o)++(cL++(l.flatMap f).drop (i*n+o+cL.length))=(l.set i y).flatMap f:=by
 obtain⟨A,B,e,bp,aw⟩:=Qk aM h;have aE:=aM _ (getElem_mem h);rw[aw,a8,e,<- bp];have bb:(A++(f l[i]++B)).take (A.length+o)=A++(f l[i]).take o:=by grind[take_length_add_append]
 grind[drop_length_add_append]
theorem Ql(aM:∀x∈l,(f x).length=n)(h:i<l.length)(hm:o<n):(l.flatMap f)[i*n+o]?=(f l[i])[o]?:=by
 obtain⟨A,B,e,bp,_⟩:=Qk aM h
 grind
end
theorem _root_.Go.Ab.aj.nw{A B:List (Nat×ay)}(h:aj H ((ae++A)++B)):aj H ((ae++B)++A):=h.e4 (by rw[append_assoc,append_assoc];exact List.Perm.append_left ae perm_append_comm)
theorem acq{size bytes n q c:Nat}{ao cL:List Value}{b:Bool}(hO:aj H ((ae++bB v ao)++[(q,⟨cL,b⟩)]))(hv:il size v n ao)(aw:cL.length=size)(bS:0<size)(h1:cL.all eA=true)
  (U:(n+1)*bytes<=140737488355328) (ie:n+1<=9223372036854775807)
  (ag:∀jf aa,aj aa (ae++[(jf,⟨ao++cL,true⟩)])->il size (aC jf 0 (n+1) (2*size)) (n+1) (ao++cL)->ab (aC jf 0 (n+1) (2*size)) aa):af (fu size bytes v (aC q 0 1 c) H) ab:=by
 have de:=hO.nw;refine OB de hv bS (m:=1) rfl (cL:=cL) ?_ (by omega) U ie h1 (by omega) ?_;have hg:=hO.at ((ae++bB v ao).length+0) (aA rfl) (b:=⟨cL,b⟩) (.inr (by grind))
 simp_all[Dq,take_of_length_le]
 intro jf aa im hJ;refine ag _ _ ?_ hJ;show aj aa (ae++[(jf,⟨ao++cL,true⟩)]);exact aj.sub im (List.Sublist.append (sublist_append_left _ _) (List.Sublist.refl _))
theorem DU{size bytes n q c:Nat}{ao cL:List Value}{b:Bool}(hO:aj H ((ae++bB v ao)++[(q,⟨cL,b⟩)]))(hv:il size v n ao)(aw:cL.length=size)(bS:0<size)(h1:cL.all eA=true)
  (U:(n+1)*bytes<=140737488355328) (ie:n+1<=9223372036854775807)
  (ag:∀aH aa,aj aa (ae++bB aH (ao++cL))->il size aH (n+1) (ao++cL)->ab aH aa):af (fu size bytes v (aC q 0 1 c) H) ab:=
 acq hO hv aw bS h1 U ie fun jf aa h1 h2=>ag _ _ h1 h2
abbrev ot(s:List Int):Value:=agg (a1 s)
def o6:List Int:=List.replicate 64 255
def sB:List Int:=List.replicate 64 0
theorem nx(s:List Int):(a1 s).length=s.length:=by simp[a1]
theorem lG(s:List Int):(a1 s).all eA=true:=by simp[a1,eA]
theorem zA(ak:List Int):(a1 ak).all fE=true:=by simp[fE,sv]
theorem BC:cQ P 102=a1 sB:=by rfl
theorem Qm:(c9 P 102).f []=some (ot sB):=by rfl
def acr:List o2:=List.replicate 64 (.i .u8)
theorem asB:qW P 100 102=some acr:=by rfl
theorem Qn:∀(s:List Int),jP (List.replicate s.length (.i .u8)) (a1 s)
 | []=>trivial
 | _::s=>⟨rfl,Qn s⟩
theorem acs{s:List Int}(h:s.length=64):jP acr (a1 s):=by have:=Qn s;rw[h]at this;exact this
theorem KH:∀(a b:List Int),oj (a1 a) (a1 b)=decide (a=b)
 | [],[]=>rfl
 | [],_::_=>rfl
 | _::_,[]=>rfl
 | x::a,y::b=>by
  show(decide (x=y)&&oj (a1 a) (a1 b))=_
  simp_all[KH]
theorem acu{a b:List Int}(c:Bool)(bp:a.length=64)(an:b.length=64):(au P .neq 102 c).f (ot a) (ot b)=some (.bool (decide (a≠b))):=by rw[Wz asB (by rfl) (by rfl) (acs bp) (acs an),KH];simp
theorem asC{y:Nat}(h:y<64):(a1 (List.replicate y 255++List.replicate (64-y) 0)).set (0+((y:Int)).toNat*1) (.int .u8 255)=a1 (List.replicate (y+1) 255++List.replicate (64-(y+1)) 0):=by
 have e:0+((y:Int)).toNat*1=y:=by omega
 rw[e,show 64-y=(64-(y+1))+1 by omega,replicate_succ];have bt:a1 (List.replicate y 255++0::List.replicate (64-(y+1)) 0)=a1 (List.replicate y 255)++(.int .u8 0::a1 (List.replicate (64-(y+1)) 0)):=by simp[a1]
 simp_all[replicate_succ']
theorem DV(hO:aj H ae)(ag:∀aa,aj aa ae->ab (ot o6) aa):az P 116 [] H ab:=by
 apply apY;unfold Zz;rw[BC];refine c4 hO ?_;intro fS H hO;refine c4 hO ?_;intro cC H hO;rw[append_assoc]at hO;refine apX (fun k aF aa=>∃y:Nat,y<=64/\k=64-y/\aF=[ai fS 0,ai cC 0,int y]/\aj aa (ae++[(fS,⟨a1 sB,true⟩),(cC,⟨a1 (List.replicate y 255++List.replicate (64-y) 0),true⟩)])) _ _ ?_ 64 _ _ ⟨0,by omega,rfl,rfl,hO⟩;rintro k aF aa ⟨y,a8,rfl,rfl,hO⟩;unfold Zy
 try simp only[cu,cv]
 repeat refine bD ?_
 refine bz (fun h=>?_) (fun h=>?_);have fU:y<64:=by omega
 refine ah (fy (by omega) (by omega)) (fm hO (ae.length+1) (aA rfl) rfl (by simp_all) (asC fU) ?_);intro H hO
 repeat refine bD ?_
 exact⟨_,by omega,y+1,by omega,rfl,rfl,hO.cb⟩;have e:y=64:=by omega
 subst e
 repeat refine Bn ?_
 refine fs hO (ae.length+1) (aA rfl) (by rfl) (by omega) (e7 hO (ae.length+0) (aA rfl) (by rfl) (by rfl) (lG _) ?_);intro H hO;exact fs hO (ae.length+0) (by rw[Go.Ab.cb];exact aA rfl) (by rfl) (by omega) (ag _ (hO.cb).left)
end J
namespace J
open Go Go.Ab
variable[cr:bW]
variable{H:ar}{ae:List (Nat×ay)}{ab:VH}{w x:Value}{j:Nat}{e:Int}
structure Cell where
 wN:List Int
 fa:List Int
 lp:Int
structure bG where
 cells:List Cell
 done:List (Nat×List Int)
 o7:Int
 iP:Int
 h7:Bool
def kn(c:Cell):List Value:=a1 c.wN++(a1 c.fa++[int c.lp])
def jt(l:List Cell):List Value:=l.flatMap kn
def rR(c:Nat×List Int):List Value:=int c.1::a1 c.2
def o8(l:List (Nat×List Int)):List Value:=l.flatMap rR
structure Cell.b6 (c:Cell):Prop where
 k:c.wN.length=64
 s:c.fa.length=64
 w:0<=c.lp/\c.lp<=100000
structure bG.b6 (d:bG):Prop where
 c:∀c∈d.cells,c.b6
 n:d.cells.length<=4096
 ds:∀x∈d.done,x.1<d.cells.length/\x.2.length=64
 m:d.o7<=100000
 b:-1<=d.iP/\d.iP<=9223372036854775807
theorem vD{c:Cell}(h:c.b6):(kn c).length=129:=by simp[kn,nx,h.k,h.s]
theorem KI{c:Nat×List Int}(h:c.2.length=64):(rR c).length=65:=by simp_all[rR]
theorem asD(c:Cell):(kn c).all fE=true:=by simp[kn,fE,sv]
theorem asE(c:Cell):(kn c).all eA=true:=by simp[kn,a1,eA]
theorem asF(c:Nat×List Int):(rR c).all eA=true:=by simp[rR,a1,eA]
theorem asG(l:List Cell):(jt l).all fE=true:=by simp_all[jt,asD]
theorem acv{l:List Cell}(h:∀c∈l,c.b6):(jt l).length=l.length*129:=acp fun c aD=>vD (h c aD)
def ko(cF:Nat)(dk:Value)(d:bG):List Value:=[aC cF 0 d.cells.length 259,dk,int d.o7,int d.iP,.bool d.h7]
abbrev gX(ba cF:Nat)(dk:Value)(d:bG):List (Nat×ay):=[(ba,⟨ko cF dk d,true⟩),(cF,⟨jt d.cells,true⟩)]++bB dk (o8 d.done)
abbrev wO(dk:Value)(d:bG):Prop:=il 65 dk d.done.length (o8 d.done)
def bG.gF(d:bG)(kj:Int):Prop:=0<=kj/\kj<d.cells.length
instance (d:bG) (kj:Int):Decidable (d.gF kj):=by unfold bG.gF;infer_instance
variable{ba cF:Nat}{dk:Value}{d:bG}{a:Int}
theorem asH(hO:aj H ae)(bh:ae[j]?=some (ba,⟨ko cF dk d,true⟩))(ag:ab (int d.cells.length) H):az P 115 [ai ba 0] H ab:=by
 apply apW;unfold Zw
 repeat refine bD ?_
 refine aP hO j bh rfl ?_
 repeat refine rO ?_
 exact ag
theorem Qo(hO:aj H ae)(bh:ae[j]?=some (ba,⟨ko cF dk d,true⟩))(sA:d.gF a->ab (ai cF (a.toNat*129)) H)(gA:¬d.gF a->ab (.pointer none) H):az P 174 [ai ba 0,int a] H ab:=by
 apply aqK;unfold aay;refine e6 (fun aF aa=>aF=[ai ba 0,int a]/\aa=H/\d.gF a) ?_ ?_
 repeat refine bD ?_
 refine bz (fun h=>?_) (fun h=>?_)
 repeat (first|refine bD ?_|refine lV ?_)
 exact gA fun a6=>by have:=a6.1;omega
 repeat refine bD ?_
 refine aP hO j bh rfl ?_
 repeat (first|refine bD ?_|refine rO ?_)
 refine bz (fun h2=>?_) (fun h2=>?_);exact gA fun a6=>by have:=a6.2;omega
 exact⟨rfl,rfl,by omega,by omega⟩;rintro aF aa ⟨rfl,rfl,h⟩
 try simp only[cu,cv]
 repeat refine bD ?_
 refine aP hO j bh rfl (ah (h4 h.1 h.2) ?_);rw[Nat.zero_add];exact sA h
def lq:Cell:=⟨sB,sB,0⟩
def bG.cell(d:bG)(a:Int):Cell:=d.cells.getD a.toNat lq
theorem bG.get{d:bG}{a:Int}(h:d.gF a):∃aq:a.toNat<d.cells.length,d.cells[a.toNat]=d.cell a:=by
 have aq:a.toNat<d.cells.length:=by have:=h.1;have:=h.2;omega
 simp_all[bG.cell]
theorem bG.rS{d:bG}{a:Int}(ok:∀c∈d.cells,c.b6)(h:d.gF a):(d.cell a).b6:=by obtain⟨aq,e⟩:=bG.get h;rw[<- e];exact ok _ (getElem_mem aq)
theorem acw{d:bG}{a:Int}(ok:∀c∈d.cells,c.b6)(h:d.gF a):((jt d.cells).drop (a.toNat*129+64)).take 64=a1 (d.cell a).fa:=by obtain⟨aq,e⟩:=bG.get h;unfold jt;rw[zz (fun c aD=>vD (ok c aD)) aq (by omega),e];have ag:=(bG.rS ok h);unfold kn;rw[drop_left' (by rw[nx];exact ag.k),take_left' (by rw[nx];exact ag.s)]
theorem acx{d:bG}{a:Int}(ok:∀c∈d.cells,c.b6)(h:d.gF a):(jt d.cells)[a.toNat*129+128]?=some (int (d.cell a).lp):=by obtain⟨aq,e⟩:=bG.get h;unfold jt;rw[Ql (fun c aD=>vD (ok c aD)) aq (by omega),e];have ag:=(bG.rS ok h);unfold kn;rw[<- append_assoc,List.getElem?_append_right (by simp[nx,ag.k,ag.s])];simp[nx,ag.k,ag.s]
def bG.eT(d:bG)(a:Int):List Int×Int:=if d.gF a then((d.cell a).fa,0)else(sB,61)
theorem asI(ok:∀c∈d.cells,c.b6)(hO:aj H (ae++gX ba cF dk d))(ag:∀aa,aj aa (ae++gX ba cF dk d)->ab (.tuple [ot (d.eT a).1,int (d.eT a).2].toArray) aa):az P 150 [ai ba 0,int a] H ab:=by
 apply aqz;unfold aak;rw[BC];refine c4 hO ?_;intro cM H hO;refine Qo hO (aK (aA (k:=0) rfl)) ?_ ?_;intro h;unfold bG.eT at ag;rw[if_pos h]at ag;refine ah (show(au P .eql 296 true).f _ _=some (.bool false)from rfl) ?_
 repeat (first|refine bD ?_|refine wB ?_)
 refine hG hO (ae.length+1) (aK (aA rfl)) (acw ok h) (by rw[nx];exact(bG.rS ok h).s) (by omega) (e7 hO ((ae++gX ba cF dk d).length+0) (aA rfl) (by rfl) (by rw[nx];exact(bG.rS ok h).s) (lG _) ?_);intro H hO
 replace hO:=hO.cb
 exact fs hO ((ae++gX ba cF dk d).length+0) (aA rfl) (by rw[nx];exact(bG.rS ok h).s) (by omega) (ag _ hO.left);intro h;unfold bG.eT at ag;rw[if_neg h]at ag;refine ah (show(au P .eql 296 true).f _ _=some (.bool true)from rfl) ?_
 repeat refine lV ?_
 refine ah Qm (e7 hO ((ae++gX ba cF dk d).length+0) (aA rfl) (by rfl) (by rfl) (lG _) ?_);intro H hO
 replace hO:=hO.cb
 exact fs hO ((ae++gX ba cF dk d).length+0) (aA rfl) (by rfl) (by omega) (ag _ hO.left)
def bG.step(d:bG):bG:={d with h7:=d.h7||decide (d.iP=0),iP:=if¬(d.h7=true\/d.iP=0)/\0<d.iP then d.iP-1 else d.iP}
theorem asJ(an:-1<=d.iP/\d.iP<=9223372036854775807)(hO:aj H ae)(bh:ae[j]?=some (ba,⟨ko cF dk d,true⟩))(ag:∀aa,aj aa (ae.set j (ba,⟨ko cF dk d.step,true⟩))->ab (.bool !d.step.h7) aa):az P 175 [ai ba 0] H ab:=by
 apply aqL;unfold aaz;have qO:=(List.getElem?_eq_some_iff.1 bh).1;refine e6 (fun aF aa=>aF=[ai ba 0]/\aj aa (ae.set j (ba,⟨ko cF dk {d with h7:=d.h7||decide (d.iP=0)},true⟩))) ?_ ?_
 repeat refine bD ?_
 refine aP hO j bh rfl ?_;cases aO:d.h7 with
 | true=>
  repeat (first|refine bD ?_|refine lV ?_)
  refine fm hO j bh rfl (show 4<5 by omega) rfl ?_;intro H hO;refine⟨rfl,?_⟩;simp only[Bool.true_or];exact hO
 | false=>
  repeat (first|refine bD ?_|refine wB ?_)
  refine aP hO j bh rfl ?_
  repeat refine bD ?_
  refine fm hO j bh rfl (show 4<5 by omega) rfl ?_;intro H hO;refine⟨rfl,?_⟩;simp only[Bool.false_or];exact hO
 rintro aF H ⟨rfl,hO⟩
 try simp only[cu,cv]
 have Dp:(ae.set j (ba,(⟨ko cF dk {d with h7:=d.h7||decide (d.iP=0)},true⟩:ay)))[j]?=some (ba,⟨ko cF dk {d with h7:=d.h7||decide (d.iP=0)},true⟩):=List.getElem?_set_self qO;refine e6 (fun aF aa=>aF=[ai ba 0]/\aj aa (ae.set j (ba,⟨ko cF dk d.step,true⟩))) ?_ ?_;refine e6 (fun aF aa=>aF=[ai ba 0,.bool (decide (¬(d.h7=true\/d.iP=0)/\0<d.iP))]/\aa=H) ?_ ?_
 repeat refine bD ?_
 refine aP hO j Dp rfl (ah jF ?_);by_cases aO:d.h7=true\/d.iP=0;have e:(d.h7||decide (d.iP=0))=true:=by simp_all
 rw[show(!({d with h7:=d.h7||decide (d.iP=0)}:bG).h7)=false by grind]
 repeat (first|refine bD ?_|refine wB ?_)
 exact⟨by simp_all,rfl⟩;have e:(d.h7||decide (d.iP=0))=false:=by simp_all
 rw[show(!({d with h7:=d.h7||decide (d.iP=0)}:bG).h7)=true by simp_all]
 repeat (first|refine bD ?_|refine lV ?_)
 refine aP hO j Dp rfl ?_
 repeat refine bD ?_
 refine⟨?_,rfl⟩
 simp_all
 rintro aF aa ⟨rfl,rfl⟩
 try simp only[cu,cv]
 refine bz (fun h=>?_) (fun h=>?_)
 repeat refine bD ?_
 refine aP hO j Dp rfl (ah (mu (by grind) (by grind)) ?_)
 repeat refine bD ?_
 refine fm hO j Dp rfl (show 3<5 by omega) rfl ?_;intro H hO;rw[set_set]at hO;refine⟨trivial,?_⟩;have e:d.step={d with h7:=d.h7||decide (d.iP=0),iP:=d.iP-1}:=by simp_all[bG.step]
 rw[e];exact hO
 simp_all[bG.step,if_neg]
 rintro aF H ⟨rfl,hO⟩
 try simp only[cu,cv]
 repeat refine bD ?_
 refine aP hO j (List.getElem?_set_self qO) rfl ?_
 repeat refine bD ?_
 exact ag _ hO
end J
namespace J
open Go Go.Ab
variable[cr:bW]
variable{H:ar}{ae:List (Nat×ay)}{ab:VH}{p:Nat}{e:Int}
variable{ba cF:Nat}{dk:Value}{d:bG}{a:Int}{s:List Int}
theorem KJ(h:s.length=64):∃g:Nat->Int,s=(List.range 64).map g:=⟨fun i=>s.getD i 0,by
 apply ext_getElem?
 grind⟩
theorem asK(a:Int)(g:Nat->Int):(c9 P 300).f [(0,int a),(1,ot ((List.range 64).map g))]=some (agg (int a::a1 ((List.range 64).map g))):=by rfl
theorem asL(a:Int)(h:s.length=64):(c9 P 300).f [(0,int a),(1,ot s)]=some (agg (int a::a1 s)):=by grind[KJ,asK]
theorem asM(a:Int)(g:Nat->Int)(H:ar):(eg P 170 1).f [(0,agg (int a::a1 ((List.range 64).map g)))] H=some (aC H.next 0 1 131,H.push (int a::a1 ((List.range 64).map g))):=by rfl
theorem asN(a:Int)(h:s.length=64)(H:ar):(eg P 170 1).f [(0,agg (int a::a1 s))] H=some (aC H.next 0 1 131,H.push (int a::a1 s)):=by grind[KJ,asM]
theorem asO(g A9:Nat->Int):(c9 P 234).f [(0,ot ((List.range 64).map g)),(1,ot ((List.range 64).map A9))]=some (agg (kn ⟨(List.range 64).map g,(List.range 64).map A9,0⟩)):=by kernel_rfl
theorem asP{s cn:List Int}(h:s.length=64)(a6:cn.length=64):(c9 P 234).f [(0,ot s),(1,ot cn)]=some (agg (kn ⟨s,cn,0⟩)):=by grind[KJ,asO]
theorem asQ:cQ P 300=int 0::a1 sB:=by rfl
def bG.iW(d:bG)(a:Int)(c:Cell):bG:={d with cells:=d.cells.set a.toNat c}
def bG.put(d:bG)(a:Int)(s:List Int):bG:={d with cells:=d.cells.set a.toNat {d.cell a with fa:=s},done:=d.done++[(a.toNat,s)]}
theorem asR{c:Cell}(ok:c.b6)(h:s.length=64):kn {c with fa:=s}=(kn c).take 64++(a1 s++(kn c).drop (64+(a1 s).length)):=by unfold kn;rw[take_left' (by rw[nx];exact ok.k),<- drop_drop,drop_left' (by rw[nx];exact ok.k),drop_left' (by rw[nx,nx,ok.s,h])]
theorem asS{c:Cell}(ok:c.b6)(h:s.length=64):kn {c with wN:=s}=(kn c).take 0++(a1 s++(kn c).drop (0+(a1 s).length)):=by unfold kn;rw[take_zero,nil_append,Nat.zero_add,drop_left' (by rw[nx,nx,ok.k,h])]
theorem asT{c:Cell}(ok:c.b6)(n:Int):kn {c with lp:=n}=(kn c).take 128++([int n]++(kn c).drop (128+[int n].length)):=by
 have e:kn c=(a1 c.wN++a1 c.fa)++[int c.lp]:=by simp[kn]
 have l:(a1 c.wN++a1 c.fa).length=128:=by simp[nx,ok.k,ok.s]
 grind[kn]
theorem asU(ok:∀c∈d.cells,c.b6)(h:d.gF a)(aw:s.length=64):(jt d.cells).take (a.toNat*129+64)++(a1 s++(jt d.cells).drop (a.toNat*129+64+(a1 s).length))=jt (d.cells.set a.toNat {d.cell a with fa:=s}):=by obtain⟨aq,e⟩:=bG.get h;have eL:=bG.rS ok h;exact KG (fun c aD=>vD (ok c aD)) aq (by simp_all) (by simp_all[asR])
theorem asV(ok:∀c∈d.cells,c.b6)(h:d.gF a)(aw:s.length=64):(jt d.cells).take (a.toNat*129+0)++(a1 s++(jt d.cells).drop (a.toNat*129+0+(a1 s).length))=jt (d.cells.set a.toNat {d.cell a with wN:=s}):=by obtain⟨aq,e⟩:=bG.get h;have eL:=bG.rS ok h;exact KG (fun c aD=>vD (ok c aD)) aq (by simp_all) (by simp_all[asS])
theorem asW(ok:∀c∈d.cells,c.b6)(h:d.gF a)(n:Int):(jt d.cells).take (a.toNat*129+128)++([int n]++(jt d.cells).drop (a.toNat*129+128+1))=jt (d.cells.set a.toNat {d.cell a with lp:=n}):=by obtain⟨aq,e⟩:=bG.get h;have eL:=bG.rS ok h;exact KG (fun c aD=>vD (ok c aD)) aq (by simp) (by simp_all[asT])
theorem Qp(ok:∀c∈d.cells,c.b6)(h:d.gF a):a.toNat*129+129<=(jt d.cells).length:=by rw[acv ok];have:=h.1;have:=h.2;omega
theorem acy(ok:d.b6)(h:d.gF a)(aw:s.length=64)(aO:d.done.length<=1000000)(hO:aj H (ae++gX ba cF dk d))(hv:wO dk d)
  (ag:∀aa lH,aj aa (ae++gX ba cF lH (d.put a s))->wO lH (d.put a s)->ab (.tuple [].toArray) aa):az P 176 [ai ba 0,int a,ot s] H ab:=by
 apply aqM;unfold aaA;refine c4 hO ?_;intro fo H hO
 replace hO:aj H ((ae++[(fo,⟨a1 s,true⟩)])++gX ba cF dk d):=aj.nw hO
 have kA:(ae++[(fo,(⟨a1 s,true⟩:ay))])[ae.length+0]?=some (fo,⟨a1 s,true⟩):=aA rfl;have ed:∀ {H:ar} {bX:List (Nat×ay)},aj H ((ae++[(fo,⟨a1 s,true⟩)])++bX)->aj H (ae++bX):=fun h=>aj.cd h
 generalize ae++[(fo,(⟨a1 s,true⟩:ay))]=hp at hO kA ed
 repeat refine bD ?_
 refine aP hO (hp.length+0) (aA rfl) rfl (fs hO (ae.length+0) (aK kA) (by simp_all) (by omega) (ah (h4 h.1 h.2) ?_))
 repeat refine bD ?_
 rw[Nat.zero_add];refine o0 hO (hp.length+1) (aA rfl) (show(a1 s).length=64 by simp_all) (by have:=Qp ok.c h;omega) (lG s) ?_;intro H hO;have bb:(jt d.cells).take (a.toNat*129+64)++(a1 s++(jt d.cells).drop (a.toNat*129+64+64))=jt (d.iW a {d.cell a with fa:=s}).cells:=by have:=asU ok.c h aw;rw[nx,aw]at this;exact this
 have lU:(d.iW a {d.cell a with fa:=s}).cells.length=d.cells.length:=length_set
 replace hO:aj H (hp++gX ba cF dk (d.iW a {d.cell a with fa:=s})):=by
  have aB:aj H (hp++([(ba,⟨ko cF dk d,true⟩),(cF,⟨(jt d.cells).take (a.toNat*129+64)++(a1 s++(jt d.cells).drop (a.toNat*129+64+64)),true⟩)]++bB dk (o8 d.done))):=hO.cb;have bt:ko cF dk d=ko cF dk (d.iW a {d.cell a with fa:=s}):=by unfold ko;rw[lU];rfl
  rw[bb,bt]at aB;exact aB
 repeat refine bD ?_
 refine aP hO (hp.length+0) (aA rfl) rfl (fs hO (ae.length+0) (aK kA) (by simp_all) (by omega) (ah (asL a aw) ?_));have im:aj H ((hp++[(ba,⟨ko cF dk (d.iW a {d.cell a with fa:=s}),true⟩),(cF,⟨jt (d.iW a {d.cell a with fa:=s}).cells,true⟩)])++bB dk (o8 d.done)):=by rw[append_assoc];exact hO
 refine gj im (asN a aw _) ?_;intro q H hO;have bp:a=((a.toNat:Nat):Int):=by have:=h.1;omega
 refine DU hO hv (by grind) (by omega) (by simp[a1,eA]) (by omega) (by omega) ?_;intro lH H hO hJ;rw[append_assoc]at hO
 repeat refine bD ?_
 obtain⟨c1,eZ,eP,bb⟩:∃c1 eZ eP,lH=.slice c1 eZ eP:=by rcases hJ with⟨_,h,_⟩|⟨p,rfl|rfl,_⟩;omega;exact⟨_,_,_,rfl⟩;grind
 refine fm hO (hp.length+0) (aA rfl) (by rw[bb];rfl) (show 1<5 by omega) rfl ?_;intro H hO;have asX:o8 d.done++(int a::a1 s)=o8 (d.put a s).done:=by show _=(d.done++[(a.toNat,s)]).flatMap rR;rw[flatMap_append];show _=d.done.flatMap rR++(int ((a.toNat:Nat):Int)::a1 s++[]);rw[<- bp,append_nil];rfl
 have aB:=ed hO.cb;rw[asX]at aB hJ;refine ag _ lH aB ?_;show il 65 lH (d.done++[(a.toNat,s)]).length _;rw[length_append];exact hJ
end J
namespace J
open Go Go.Ab
variable[cr:bW]
variable{H:ar}{ae:List (Nat×ay)}{ab:VH}{w x:Value}{j:Nat}
variable{ba cF:Nat}{dk:Value}{d:bG}{a:Int}{s:List Int}
theorem bG.vn(ok:d.b6):d.step.b6:=⟨ok.c,ok.n,ok.ds,ok.m,by
 have:=ok.b;unfold bG.step
 grind⟩
theorem Qq{l:List Cell}{i:Nat}{c:Cell}(h:∀c∈l,c.b6)(aD:c.b6):∀x∈l.set i c,x.b6:=by
 intro x al;rcases mem_or_eq_of_mem_set al with a6|a6
 exact h x a6;rw[a6];exact aD
theorem bG.IG{c:Cell}(ok:d.b6)(aD:c.b6):(d.iW a c).b6:=⟨Qq ok.c aD,by show(d.cells.set _ _).length<=_;rw[length_set];exact ok.n,by intro x al;show x.1<(d.cells.set _ _).length/\_;rw[length_set];exact ok.ds x al,ok.m,ok.b⟩
theorem bG.wg(ok:d.b6)(h:d.gF a)(aw:s.length=64):(d.put a s).b6:=by
 have aD:=bG.rS ok.c h;refine⟨Qq ok.c ⟨aD.k,aw,aD.w⟩,by show(d.cells.set _ _).length<=_;rw[length_set];exact ok.n,?_,ok.m,ok.b⟩;intro x al;show x.1<(d.cells.set _ _).length/\_;rw[length_set];rcases mem_append.1 al with al|al
 exact ok.ds x al;have:x=(a.toNat,s):=by simp_all
 subst this;exact⟨by have:=h.1;have:=h.2;omega,aw⟩
def bG.gG(d:bG)(a:Int):bG×Int:=
 if¬d.gF a then(d,61)else if d.h7=true then(d,62)else if d.o7<=(d.cell a).lp then(d,64)else if d.step.h7=true then(d.step,62)
 else((d.step.iW a {d.cell a with lp:=(d.cell a).lp+1}).put a o6,0)
def bG.fz(d:bG)(a:Int)(s:List Int):bG×Int:=
 if¬d.gF a then(d,61)else if d.h7=true then(d,62)else if(d.cell a).fa≠o6 then(d,63)else if d.step.h7=true then(d.step,62)
 else(d.step.put a s,0)
theorem bG.acz{c:Cell}:(d.iW a c).gF a↔d.gF a:=by grind[bG.gF,bG.iW]
theorem bG.Qr(ok:d.b6):(d.gG a).1.b6:=by
 unfold bG.gG;by_cases h:d.gF a;rw[if_neg (fun a6=>a6 h)];split;exact ok;split;exact ok;split;exact bG.vn ok;rename_i h1 h2 aB;have aD:=bG.rS ok.c h;have aM:=aD.w;have hm:=ok.m;refine bG.wg (bG.IG (bG.vn ok) ⟨aD.k,aD.s,?_⟩) (bG.acz.2 h) rfl
 grind
 rw[if_pos h];exact ok
theorem bG.Qs(ok:d.b6)(aw:s.length=64):(d.fz a s).1.b6:=by unfold bG.fz;by_cases h:d.gF a;rw[if_neg (fun a6=>a6 h)];split;exact ok;split;exact ok;split;exact bG.vn ok;exact bG.wg (bG.vn ok) h aw;rw[if_pos h];exact ok
theorem Qt(ok:d.b6)(hO:aj H (ae++gX ba cF dk d))(ag:∀aa,aj aa (ae++gX ba cF dk d.step)->ab (.bool !d.step.h7) aa):az P 175 [ai ba 0] H ab:=by refine asJ ok.b hO (j:=ae.length+0) (aA rfl) ?_;intro aa h;exact ag aa h.cb
theorem asY(ok:d.b6)(aO:d.done.length<=1000000)(hO:aj H (ae++gX ba cF dk d))(hv:wO dk d)
  (ag:∀aa lH,aj aa (ae++gX ba cF lH (d.gG a).1)->wO lH (d.gG a).1->ab (int (d.gG a).2) aa):az P 262 [ai ba 0,int a] H ab:=by
 apply ar0;unfold abT;unfold bG.gG at ag;refine Qo hO (aA (k:=0) rfl) ?_ ?_
 ·intro h;rw[if_neg (fun a6=>a6 h)]at ag;refine ah (show(au P .eql 296 true).f _ _=some (.bool false)from rfl) ?_
  repeat (first|refine bD ?_|refine wB ?_)
  refine aP hO (ae.length+0) (aA rfl) rfl (qf (fun an=>?_) (fun an=>?_))
  ·rw[if_pos an]at ag;exact ag _ _ hO hv
  rw[if_neg (by grind)]at ag
  repeat refine bD ?_
  refine aP hO (ae.length+1) (aA rfl) (acx ok.c h) ?_
  repeat refine bD ?_
  refine aP hO (ae.length+0) (aA rfl) rfl (ah ss (bz (fun h1=>?_) (fun h1=>?_)))
  ·rw[if_pos h1]at ag;exact ag _ _ hO hv
  rw[if_neg h1]at ag;refine Qt ok hO ?_;intro H hO;refine ah jF ?_;rw[Bool.not_not];refine qf (fun h2=>?_) (fun h2=>?_)
  ·rw[if_pos h2]at ag;exact ag _ _ hO hv
  rw[if_neg (by grind)]at ag;have zB:=bG.vn ok;have aM:=(bG.rS ok.c h).w
  repeat refine bD ?_
  refine aP hO (ae.length+1) (aA rfl) (acx (d:=d.step) zB.c h) (ah (jg (by show _<=(d.cell a).lp+1;omega) (by show(d.cell a).lp+1<=_;omega)) ?_)
  repeat refine bD ?_
  refine o0 hO (ae.length+1) (aA rfl) (show([int ((d.cell a).lp+1)]:List Value).length=1 from rfl) (by have:=Qp zB.c (d:=d.step) h;omega) rfl ?_;intro H hO;have bb:=asW (d:=d.step) zB.c h ((d.cell a).lp+1)
  replace hO:aj H (ae++gX ba cF dk (d.step.iW a {d.cell a with lp:=(d.cell a).lp+1})):=by
   have aB:aj H (ae++([(ba,⟨ko cF dk d.step,true⟩),(cF,⟨(jt d.step.cells).take (a.toNat*129+128)++([int ((d.cell a).lp+1)]++(jt d.step.cells).drop (a.toNat*129+128+1)),true⟩)]++bB dk (o8 d.done))):=hO.cb;have bt:ko cF dk d.step=ko cF dk (d.step.iW a {d.cell a with lp:=(d.cell a).lp+1}):=by unfold ko;rw[show(d.step.iW a {d.cell a with lp:=(d.cell a).lp+1}).cells.length=d.step.cells.length from length_set];rfl
   rw[bb,bt]at aB;exact aB
  have KK:(d.step.iW a {d.cell a with lp:=(d.cell a).lp+1}).b6:=by
   have aD:=bG.rS ok.c h;have hm:=ok.m;refine bG.IG zB ⟨aD.k,aD.s,?_⟩
   grind
  refine DV hO ?_;intro H hO;refine acy KK (bG.acz.2 h) rfl aO hO hv ?_;intro H lH hO hJ;exact ag _ _ hO hJ
 ·intro h;rw[if_pos h]at ag;refine ah (show(au P .eql 296 true).f _ _=some (.bool true)from rfl) ?_
  repeat refine lV ?_
  exact ag _ _ hO hv
theorem asZ(ok:d.b6)(aw:s.length=64)(aO:d.done.length<=1000000)(hO:aj H (ae++gX ba cF dk d))(hv:wO dk d)
  (ag:∀aa lH,aj aa (ae++gX ba cF lH (d.fz a s).1)->wO lH (d.fz a s).1->ab (int (d.fz a s).2) aa):az P 119 [ai ba 0,int a,ot s] H ab:=by
 apply ap1;unfold ZC;unfold bG.fz at ag;refine c4 hO ?_;intro fo H hO
 replace hO:aj H ((ae++[(fo,⟨a1 s,true⟩)])++gX ba cF dk d):=aj.nw hO
 have kA:(ae++[(fo,(⟨a1 s,true⟩:ay))])[ae.length+0]?=some (fo,⟨a1 s,true⟩):=aA rfl;have ed:∀ {H:ar} {bX:List (Nat×ay)},aj H ((ae++[(fo,⟨a1 s,true⟩)])++bX)->aj H (ae++bX):=fun h=>aj.cd h
 generalize ae++[(fo,(⟨a1 s,true⟩:ay))]=hp at hO kA ed;refine Qo hO (aA (k:=0) rfl) ?_ ?_
 ·intro h;rw[if_neg (fun a6=>a6 h)]at ag;refine ah (show(au P .eql 296 true).f _ _=some (.bool false)from rfl) ?_
  repeat (first|refine bD ?_|refine wB ?_)
  refine aP hO (hp.length+0) (aA rfl) rfl (qf (fun an=>?_) (fun an=>?_))
  ·rw[if_pos an]at ag;exact ag _ _ (ed hO) hv
  rw[if_neg (by grind)]at ag
  repeat refine bD ?_
  refine hG hO (hp.length+1) (aA rfl) (acw ok.c h) (by rw[nx];exact(bG.rS ok.c h).s) (by omega) (DV hO ?_);intro cB de;refine⟨gu hO (hp.length+1) (aA rfl) de (hp.length+1) (aA rfl) (asG _),?_⟩;refine ah (acu _ (bG.rS ok.c h).s rfl) ?_;refine bz (fun h1=>?_) (fun h1=>?_)
  ·rw[if_pos h1]at ag;exact ag _ _ (ed de) hv
  rw[if_neg h1]at ag;refine Qt ok de ?_;intro H hO;refine ah jF ?_;rw[Bool.not_not];refine qf (fun h2=>?_) (fun h2=>?_)
  ·rw[if_pos h2]at ag;exact ag _ _ (ed hO) hv
  rw[if_neg (by grind)]at ag;refine fs hO (ae.length+0) (aK kA) (by simp_all) (by omega) (acy (bG.vn ok) h aw aO hO hv ?_);intro H lH hO hJ;exact ag _ _ (ed hO) hJ
 ·intro h;rw[if_pos h]at ag;refine ah (show(au P .eql 296 true).f _ _=some (.bool true)from rfl) ?_
  repeat refine lV ?_
  exact ag _ _ (ed hO) hv
def bG.zC(d:bG)(n:Int):bG:={d with iP:=max n (-1)}
theorem as0{n:Int}(hO:aj H (ae++gX ba cF dk d))(ag:∀aa,aj aa (ae++gX ba cF dk (d.zC n))->ab (.tuple [].toArray) aa):az P 33 [ai ba 0,int n] H ab:=by
 apply aoR;unfold Ym
 repeat (first|refine bD ?_|refine rO ?_)
 refine fm hO (ae.length+0) (aA rfl) rfl (show 3<5 by omega) rfl ?_;intro H hO;exact ag _ hO.cb
end J
namespace J
open Go Go.Ab
variable[cr:bW]
variable{H:ar}{ae:List (Nat×ay)}{ab:VH}{w x:Value}{p:Nat}
variable{ba cF:Nat}{dk:Value}{d:bG}{s:List Int}
def wP(ao:List Cell)(x:Nat×List Int):List Cell:=ao.set x.1 {ao.getD x.1 lq with wN:=x.2}
def j2(ao:List Cell)(l:List (Nat×List Int)):List Cell:=l.foldl wP ao
theorem as1{ao:List Cell}{x:Nat×List Int}(h:∀c∈ao,c.b6)(al:x.2.length=64)(aR:x.1<ao.length):∀c∈wP ao x,c.b6:=by
 refine Qq h ?_;have:(ao.getD x.1 lq).b6:=by rw[getD_eq_getElem?_getD,List.getElem?_eq_getElem aR];exact h _ (getElem_mem aR)
 exact⟨al,this.s,this.w⟩
theorem BD:∀(l:List (Nat×List Int)) (ao:List Cell),(j2 ao l).length=ao.length
 | [],_=>rfl
 | x::l,ao=>by show(j2 (wP ao x) l).length=_;rw[BD l];exact length_set
theorem Qu:∀(l:List (Nat×List Int)) (ao:List Cell),(∀c∈ao,c.b6)->(∀x∈l,x.1<ao.length/\x.2.length=64)->∀c∈j2 ao l,c.b6
 | [],_,h,_=>h
 | x::l,ao,h,aE=>by
  have h1:=aE x mem_cons_self;refine Qu l (wP ao x) (as1 h h1.2 h1.1) ?_;intro y a8;show y.1<(ao.set _ _).length/\_
  grind
theorem as2{l:List (Nat×List Int)}{x:Nat×List Int}{ao:List Cell}:j2 ao (l++[x])=wP (j2 ao l) x:=by simp[j2]
def bG.hj(d:bG):bG×Int:=if d.h7=true then(d,62)else if d.step.h7=true then(d.step,62)else({d.step with cells:=j2 d.cells d.done,done:=[]},0)
theorem bG.Qv(ok:d.b6):d.hj.1.b6:=by
 unfold bG.hj;split;exact ok;split;exact bG.vn ok;have zB:=bG.vn ok;refine⟨Qu _ _ ok.c ok.ds,by show(j2 _ _).length<=_;rw[BD];exact ok.n,?_,zB.m,zB.b⟩
 simp_all
theorem as3{dk:Value}{l:List (Nat×List Int)}(hv:il 65 dk l.length (o8 l)){y:Nat}(h:y<l.length):∃p c,dk=aC p 0 l.length c/\bB dk (o8 l)=[(p,⟨o8 l,true⟩)]:=by
 rcases hv with⟨rfl,aN,_⟩|⟨p,rfl|rfl,_⟩
 omega;exact⟨p,_,rfl,rfl⟩;exact⟨p,_,rfl,rfl⟩
theorem as4{l:List (Nat×List Int)}(aE:∀x∈l,x.2.length=64){y:Nat}(h:y<l.length):((o8 l).drop (y*65)).take 65=rR l[y]:=by
 have:=zz (f:=rR) (o:=0) (m:=65) (fun c aD=>KI (aE c aD)) h (by omega);unfold o8;rw[Nat.add_zero]at this
 grind[KI]
theorem as5{l:List Cell}{i:Nat}:l.getD i lq=({d with cells:=l}:bG).cell (i:Int):=by rfl
theorem as6(ok:d.b6)(aO:d.done.length<=1000000)(hO:aj H (ae++gX ba cF dk d))(hv:wO dk d)
  (ag:∀aa lH,aj aa (ae++gX ba cF lH d.hj.1)->wO lH d.hj.1->ab (int d.hj.2) aa):az P 120 [ai ba 0] H ab:=by
 apply ap3;unfold ZF;unfold bG.hj at ag;refine e6 (fun aF aa=>aF=[ai ba 0,int 0]/\d.h7=false/\d.step.h7=false/\aj aa (ae++gX ba cF dk d.step)) ?_ ?_
 ·repeat refine bD ?_
  refine aP hO (ae.length+0) (aA rfl) rfl ?_;cases an:d.h7 with
  | true=>
   rw[if_pos an]at ag
   repeat (first|refine bD ?_|refine lV ?_)
   exact ag _ _ hO hv
  | false=>
   rw[if_neg (by grind)]at ag;refine et rfl (Qt ok hO ?_);intro H hO;refine ah jF (ah mr ?_);rw[Bool.not_not];refine qf (fun h2=>?_) (fun h2=>?_)
   ·rw[if_pos h2]at ag;exact ag _ _ hO hv
   ·exact⟨rfl,rfl,h2,hO⟩
 rintro aF H ⟨rfl,an,h2,hO⟩;rw[if_neg (by grind),if_neg (by grind)]at ag
 try simp only[cu,cv]
 repeat refine bD ?_
 refine aP hO (ae.length+0) (aA rfl) rfl (bV hv.bP ?_);have zB:=bG.vn ok;have as7:∀x∈d.done,x.2.length=64:=fun x al=>(ok.ds x al).2
 refine ap2 (fun k aF aa=>∃y:Nat,y<=d.done.length/\k=d.done.length-y/\aF=[ai ba 0,int 0,dk,int d.done.length,int y]/\aj aa (ae++gX ba cF dk {d.step with cells:=j2 d.cells (d.done.take y)})) _ _ ?_ d.done.length _ _ ⟨0,by omega,rfl,rfl,hO⟩;rintro k aF aa ⟨y,a8,rfl,rfl,hO⟩;unfold ZE
 try simp only[cu,cv]
 repeat refine bD ?_
 refine bz (fun h=>?_) (fun h=>?_)
 ·have fU:y<d.done.length:=by omega
  obtain⟨p,c,bb,bt⟩:=as3 hv fU;have al:=ok.ds _ (getElem_mem fU);have jR:(gX ba cF dk {d.step with cells:=j2 d.cells (d.done.take y)})[2]?=some (p,⟨o8 d.done,true⟩):=by
   show([_,_]++bB dk (o8 d.done))[2]?=_
   grind
  rw[bb];refine ah (h4 (by omega) (by omega)) ?_;rw[show 0+((y:Nat):Int).toNat*65=y*65 by omega];rw[<- bb];refine hG hO (ae.length+2) (aA jR) (as4 as7 fU) (KI al.2) (by omega) ?_;rw[asQ];refine c4 hO ?_;intro cM H hO;refine e7 hO ((ae++gX ba cF dk {d.step with cells:=j2 d.cells (d.done.take y)}).length+0) (aA rfl) (by rfl) (KI al.2) (asF _) ?_;intro H hO
  replace hO:=aj.nw hO.cb
  replace hO:aj H ((ae++[(cM,⟨rR d.done[y],true⟩)])++gX ba cF dk {d.step with cells:=j2 d.cells (d.done.take y)}):=hO
  have i4:(ae++[(cM,(⟨rR d.done[y],true⟩:ay))])[ae.length+0]?=some (cM,⟨rR d.done[y],true⟩):=aA rfl;have ed:∀ {H:ar} {bX:List (Nat×ay)},aj H ((ae++[(cM,⟨rR d.done[y],true⟩)])++bX)->aj H (ae++bX):=fun h=>aj.cd h
  generalize ae++[(cM,(⟨rR d.done[y],true⟩:ay))]=hp at hO i4 ed
  repeat refine bD ?_
  refine aP hO (hp.length+0) (aA rfl) rfl ?_
  repeat refine bD ?_
  refine aP hO (ae.length+0) (aK i4) rfl ?_
  repeat refine bD ?_
  refine hG hO (ae.length+0) (aK i4) (show((rR d.done[y]).drop 1).take 64=a1 d.done[y].2 from ?_) (by simp_all) (by omega) ?_
  ·show(a1 d.done[y].2).take 64=_
   simp_all[take_of_length_le]
  have hh:({d.step with cells:=j2 d.cells (d.done.take y)}:bG).gF (d.done[y].1:Int):=⟨by omega,by grind[BD]⟩;have KK:∀c∈j2 d.cells (d.done.take y),c.b6:=Qu _ _ ok.c (fun x al=>ok.ds x (mem_of_mem_take al));refine ah (h4 hh.1 hh.2) ?_
  repeat refine bD ?_
  rw[Nat.zero_add];refine o0 hO (hp.length+1) (aA rfl) (show(a1 d.done[y].2).length=64 by simp_all) (by have:=Qp KK (d:={d.step with cells:=j2 d.cells (d.done.take y)}) hh;omega) (lG _) ?_;intro H hO;have dZ:=asV (d:={d.step with cells:=j2 d.cells (d.done.take y)}) KK hh al.2;rw[nx,al.2]at dZ
  replace hO:aj H (hp++gX ba cF dk {d.step with cells:=j2 d.cells (d.done.take (y+1))}):=by
   have aB:aj H (hp++([(ba,⟨ko cF dk {d.step with cells:=j2 d.cells (d.done.take y)},true⟩),(cF,⟨(jt (j2 d.cells (d.done.take y))).take ((d.done[y].1:Int).toNat*129+0)++(a1 d.done[y].2++(jt (j2 d.cells (d.done.take y))).drop ((d.done[y].1:Int).toNat*129+0+64)),true⟩)]++bB dk (o8 d.done))):=hO.cb;rw[dZ]at aB;have iX:j2 d.cells (d.done.take (y+1))=(j2 d.cells (d.done.take y)).set (d.done[y].1:Int).toNat {({d.step with cells:=j2 d.cells (d.done.take y)}:bG).cell (d.done[y].1:Int)with wN:=d.done[y].2}:=by grind[take_succ_eq_append_getElem,as2,wP,as5,Int.toNat_natCast]
   show aj H (hp++([(ba,⟨[aC cF 0 (j2 d.cells (d.done.take (y+1))).length 259,dk,int d.step.o7,int d.step.iP,.bool d.step.h7],true⟩),(cF,⟨jt (j2 d.cells (d.done.take (y+1))),true⟩)]++bB dk (o8 d.done)));rw[BD,iX];have bk:aj H (hp++([(ba,⟨[aC cF 0 (j2 d.cells (d.done.take y)).length 259,dk,int d.step.o7,int d.step.iP,.bool d.step.h7],true⟩),(cF,⟨jt ((j2 d.cells (d.done.take y)).set (d.done[y].1:Int).toNat {({d.step with cells:=j2 d.cells (d.done.take y)}:bG).cell (d.done[y].1:Int)with wN:=d.done[y].2}),true⟩)]++bB dk (o8 d.done))):=aB;rw[BD]at bk;exact bk
  repeat refine bD ?_
  exact⟨_,by omega,y+1,by omega,rfl,rfl,ed hO⟩
 ·have lI:y=d.done.length:=by omega
  subst lI
  repeat refine bD ?_
  refine fm hO (ae.length+0) (aA rfl) rfl (show 1<5 by omega) rfl ?_;intro H hO;rw[take_length]at hO;refine ag _ bq ?_ (.inl ⟨rfl,rfl,rfl⟩);have aB:aj H (ae++([(ba,⟨ko cF bq {d.step with cells:=j2 d.cells d.done,done:=[]},true⟩),(cF,⟨jt (j2 d.cells d.done),true⟩)]++bB dk (o8 d.done))):=hO.cb;exact aB.sub (List.Sublist.append (List.Sublist.refl _) (List.Sublist.append (List.Sublist.refl _) (nil_sublist _)))
end J
namespace J
open Go Go.Ab
variable[cr:bW]
variable{H:ar}{ae:List (Nat×ay)}{ab:VH}{v:Value}{aX:List Int}{e:Int}
variable{ba cF:Nat}{dk:Value}{d:bG}
theorem as8{o n c i q:Nat}{ao:List Value}{ab:VH}(hO:aj H ae)(aq:ae[i]?=some (q,⟨ao,true⟩))(hv:b3 ae v aX)(aR:aX.length<=n)(aE:o+n<=ao.length)
  (ag:∀aa,aj aa (ae.set i (q,⟨ao.take o++(a1 aX++ao.drop (o+aX.length)),true⟩))->ab (int aX.length) aa):af (qF 1 (aC q o n c) v H) ab:=by
 obtain⟨aa,aM,aw⟩:=FW hO (o:=o) (vs:=a1 aX) aq (by grind) (by simp[eA]);unfold qF;simp only[hv.mM];have hm:Nat.min aX.length n=aX.length:=Nat.min_eq_left aR;rw[hm];by_cases aN:aX.length=0;have:aX=[]:=length_eq_zero_iff.1 aN;subst this;refine bV (show some (Value.int .i64 0,H)=_ from rfl) ?_;have ag:=ag H;rw[show ao.take o++(a1 []++ao.drop (o+([]:List Int).length))=ao by simp[a1],OG aq]at ag;exact ag hO;have an:Nat.beq aX.length 0=false:=by grind[eq_of_beq_eq_true]
 rw[an];simp only[Bool.false_eq_true,if_false];rw[hv.pB hO];simp only;rw[aM];refine bV (show some (Value.int .i64 ((aX.length:Nat):Int),aa)=_ from rfl) ?_;rw[length_map]at aw;exact ag _ aw
theorem as9{hp:List (Nat×ay)}{d eQ:bG}{ao:List Value}(hO:aj H ((hp++gX ba cF dk d).set (hp.length+1) (cF,⟨ao,true⟩)))(aD:ao=jt eQ.cells)(aE:eQ.cells.length=d.cells.length)(h1:eQ.done=d.done)(h2:eQ.o7=d.o7)(aB:eQ.iP=d.iP)(bk:eQ.h7=d.h7):aj H (hp++gX ba cF dk eQ):=by
 have cj:aj H (hp++([(ba,⟨ko cF dk d,true⟩),(cF,⟨ao,true⟩)]++bB dk (o8 d.done))):=hO.cb;have e:ko cF dk d=ko cF dk eQ:=by simp_all[ko]
 rw[aD,e,<- h1]at cj;exact cj
end J
namespace J
open Go Go.Ab
variable[cr:bW]
variable{w x:Value}
variable{cF:Nat}
theorem ata:qH P 169=⟨tI 129 136 (kn lq)⟩:=by rfl
theorem acA{α:Type}(f:α->List Value)(z:α):∀n:Nat,fR n (f z)=(List.replicate n z).flatMap f
 | 0=>rfl
 | n+1=>by show hP (f z) (fR n (f z))=_;rw[iv,acA f z n,replicate_succ,flatMap_cons]
theorem atb(n:Nat)(cF:Nat)(w:Int):(c9 P 172).f [(0,aC cF 0 n 259),(2,int w),(3,.int .i64 (-1))]=some (agg [aC cF 0 n 259,bq,int w,int (-1),.bool false]):=by rfl
def ur:Cell:=⟨o6,o6,0⟩
def bG.cL(n:Nat)(w:Int):bG:=⟨List.replicate n ur,[],w,-1,false⟩
theorem atc:lq.b6:=⟨rfl,rfl,by decide⟩
theorem DW:ur.b6:=⟨rfl,rfl,by decide⟩
theorem bG.acB{n:Nat}{w:Int}(aR:n<=4096)(aM:w<=100000):(bG.cL n w).b6:=by refine⟨fun c aD=>?_,by show(List.replicate n _).length<=_;simp_all,fun x al=>(by cases al),aM,by show-1<=(-1:Int)/\(-1:Int)<=_;omega⟩;rw[(mem_replicate.1 aD).2];exact DW
end J
namespace J
open Go Go.Ab
variable[cr:bW]
variable{H:ar}{ae:List (Nat×ay)}{ab:VH}{x:Value}{p:Nat}{e:Int}
structure Op where
 eF:Int
 part:Int
 aZ:Int
 eo:Int
structure bn where
 d:bG
 hq:List (Nat×Nat)
 eo:Int
 bf:List Op
def jc(o:Op):List Value:=[int o.eF,int o.part,int o.aZ,int o.eo]
def lJ(l:List Op):List Value:=l.flatMap jc
def uu(l:List (Nat×Nat)):List Value:=l.flatMap fun x=>[int x.1,int x.2]
structure kV where
 cG:Nat
 ba:Nat
 cF:Nat
 bJ:Nat
 dk:Value
 fV:Value
def l3(L:kV)(m:bn):List Value:=[ai L.ba 0,aC L.bJ 0 m.hq.length 4,int m.eo,L.fV]
abbrev wQ(L:kV)(m:bn):List (Nat×ay):=[(L.cG,⟨l3 L m,true⟩),(L.bJ,⟨uu m.hq,true⟩)]
abbrev du(L:kV)(m:bn):List (Nat×ay):=wQ L m++(bB L.fV (lJ m.bf)++gX L.ba L.cF L.dk m.d)
structure kp (L:kV) (m:bn):Prop where
 d:wO L.dk m.d
 o:il 4 L.fV m.bf.length (lJ m.bf)
structure kV.Eq (L cA:kV):Prop where
 m:cA.cG=L.cG
 d:cA.ba=L.ba
 c:cA.cF=L.cF
 s:cA.bJ=L.bJ
structure bn.b6 (m:bn):Prop where
 d:m.d.b6
 s:∀x∈m.hq,x.1+x.2<=m.d.cells.length
 n:m.hq.length<=16
def bn.hN(m:bn)(N:Nat):Prop:=m.d.done.length<=N/\m.bf.length<=N
variable{L:kV}{m:bn}{part aZ:Int}
theorem du.BE(h:aj H (ae++du L m)):aj H (((ae++wQ L m)++bB L.fV (lJ m.bf))++gX L.ba L.cF L.dk m.d):=by rw[append_assoc,append_assoc];exact h
theorem du.KL(h:aj H (((ae++wQ L m)++bB L.fV (lJ m.bf))++gX L.ba L.cF L.dk m.d)):aj H (ae++du L m):=by rw[append_assoc,append_assoc]at h;exact h
def bn.gF(m:bn)(part:Int):Prop:=0<=part/\part<m.hq.length
instance:Decidable (m.gF part):=by unfold bn.gF;infer_instance
def bn.rT(m:bn)(part:Int):Nat×Nat:=m.hq.getD part.toNat (0,0)
def bn.size(m:bn)(part:Int):Nat:=if m.gF part then(m.rT part).2 else 0
theorem bn.acC(h:m.gF part):m.rT part∈m.hq:=by
 unfold bn.rT;have:part.toNat<m.hq.length:=by have:=h.1;have:=h.2;omega
 simp_all
theorem Qw(h:m.gF part):(uu m.hq)[part.toNat*2+0]?=some (int (m.rT part).1)/\(uu m.hq)[part.toNat*2+1]?=some (int (m.rT part).2):=by
 have aq:part.toNat<m.hq.length:=by have:=h.1;have:=h.2;omega
 have e:m.rT part=m.hq[part.toNat]:=by simp_all[bn.rT]
 unfold uu;rw[Ql (n:=2) (fun _ _=>rfl) aq (by omega),Ql (n:=2) (fun _ _=>rfl) aq (by omega),e]
 simp_all
theorem atd(hO:aj H (ae++du L m))(ag:ab (ai L.ba 0) H):az P 22 [ai L.cG 0] H ab:=by
 apply aoJ;unfold Ye
 repeat refine bD ?_
 exact aP hO (ae.length+0) (aA rfl) rfl ag
theorem acD(hO:aj H (ae++du L m))(ag:ab (.bool (decide (m.gF part))) H):az P 149 [ai L.cG 0,int part] H ab:=by
 apply aqy;unfold aaj
 repeat refine bD ?_
 refine bz (fun h=>?_) (fun h=>?_)
 repeat refine bD ?_
 refine aP hO (ae.length+0) (aA rfl) rfl ?_
 repeat (first|refine bD ?_|refine rO ?_)
 rw[decide_eq_decide.2 (show part<(m.hq.length:Int)↔m.gF part from⟨fun h2=>⟨h,h2⟩,fun h2=>h2.2⟩)];exact ag
 repeat refine bD ?_
 rw[decide_eq_false (show¬m.gF part from fun h2=>h h2.1)]at ag;exact ag
theorem acE(hO:aj H (ae++du L m))(ag:ab (int (m.size part)) H):az P 72 [ai L.cG 0,int part] H ab:=by
 apply apw;unfold Y4;refine acD hO ?_;unfold bn.size at ag;refine ah jF ?_;by_cases h:m.gF part;rw[if_pos h]at ag;rw[decide_eq_true h];refine et rfl ?_
 repeat refine bD ?_
 refine aP hO (ae.length+0) (aA rfl) rfl (ah (h4 h.1 h.2) ?_)
 repeat refine bD ?_
 rw[Nat.zero_add];exact aP hO (ae.length+1) (aA rfl) (Qw h).2 ag;rw[if_neg h]at ag;rw[decide_eq_false h];exact fg rfl ag
def bn.fH(m:bn)(part aZ:Int):Int×Int:=if¬m.gF part then(0,71)else if aZ<0\/(m.rT part).2<=aZ then(0,61)else((m.rT part).1+aZ,0)
theorem Qx(ok:m.b6)(hO:aj H (ae++du L m))(ag:ab (.tuple [int (m.fH part aZ).1,int (m.fH part aZ).2].toArray) H):az P 117 [ai L.cG 0,int part,int aZ] H ab:=by
 apply apZ;unfold ZA;refine acD hO ?_;unfold bn.fH at ag;refine ah jF ?_;by_cases h:m.gF part;rw[if_neg (fun a6=>a6 h)]at ag;rw[decide_eq_true h];refine et rfl (e6 (fun aF aa=>aF=[ai L.cG 0,int part,int aZ,.bool (decide (aZ<0\/(m.rT part).2<=aZ))]/\aa=H) ?_ ?_)
 repeat refine bD ?_
 refine bz (fun h1=>?_) (fun h1=>?_)
 repeat refine bD ?_
 exact⟨by simp_all,rfl⟩
 repeat refine bD ?_
 refine aP hO (ae.length+0) (aA rfl) rfl (ah (h4 h.1 h.2) ?_)
 repeat refine bD ?_
 rw[Nat.zero_add];refine aP hO (ae.length+1) (aA rfl) (Qw h).2 ?_
 repeat refine bD ?_
 exact⟨by grind,rfl⟩;rintro aF aa ⟨rfl,rfl⟩
 try simp only[cu,cv]
 refine bz (fun h1=>?_) (fun h1=>?_);rw[if_pos h1]at ag;exact ag;rw[if_neg h1]at ag
 repeat refine bD ?_
 refine aP hO (ae.length+0) (aA rfl) rfl (ah (h4 h.1 h.2) ?_)
 repeat refine bD ?_
 rw[Nat.zero_add];refine aP hO (ae.length+1) (aA rfl) (Qw h).1 ?_;have:=ok.s _ (bn.acC h);have:=ok.d.n
 repeat refine bD ?_
 exact ag;rw[if_pos h]at ag;rw[decide_eq_false h];exact fg rfl ag
def bn.eT(m:bn)(part aZ:Int):List Int×Int:=if(m.fH part aZ).2≠0 then(sB,(m.fH part aZ).2)else m.d.eT (m.fH part aZ).1
theorem bG.ye{d:bG}(ok:d.b6){a:Int}:(d.eT a).1.length=64:=by unfold bG.eT;by_cases h:d.gF a;rw[if_pos h];exact(bG.rS ok.c h).s;rw[if_neg h];rfl
theorem bn.ye(ok:m.b6):(m.eT part aZ).1.length=64:=by unfold bn.eT;split;rfl;exact bG.ye ok.d
theorem acF(ok:m.b6)(hO:aj H (ae++du L m))(ag:∀aa,aj aa (ae++du L m)->ab (.tuple [ot (m.eT part aZ).1,int (m.eT part aZ).2].toArray) aa):az P 73 [ai L.cG 0,int part,int aZ] H ab:=by
 apply apx;unfold Y5;rw[BC];refine c4 hO ?_;clear hO;intro gH H hO
 replace hO:=hO.nw
 have KM:(ae++[(gH,(⟨a1 sB,true⟩:ay))])[ae.length+0]?=some (gH,⟨a1 sB,true⟩):=aA rfl;refine Qx ok hO (ah jT (ah jU (ah ik ?_)));unfold bn.eT at ag;refine bz (fun h=>?_) (fun h=>?_);rw[if_pos h]at ag;refine ah Qm (e7 hO (ae.length+0) (aK KM) (by rfl) (by rfl) (lG _) ?_);clear hO;intro H hO;rw[set_append_left _ _ (by simp),Go.Ab.cb]at hO;exact fs hO (ae.length+0) (aK (aA rfl)) (by rfl) (by omega) (ag _ (aj.cd hO));rw[if_neg h]at ag
 repeat refine bD ?_
 refine aP hO ((ae++[(gH,(⟨a1 sB,true⟩:ay))]).length+0) (aA rfl) rfl (asI ok.d.c (du.BE hO) ?_);clear hO;intro H hO
 replace hO:=du.KL hO
 refine ah jT (ah jU ?_);have aE:=bG.ye ok.d (a:=(m.fH part aZ).1);refine e7 hO (ae.length+0) (aK KM) (by rfl) (by simp_all) (lG _) ?_;clear hO;intro H hO;rw[set_append_left _ _ (by simp),Go.Ab.cb]at hO;exact fs hO (ae.length+0) (aK (aA rfl)) (by simp_all) (by omega) (ag _ (aj.cd hO))
def bn.o9(m:bn)(o:Op)(e:Int):bn:=if e=0 then {m with bf:=m.bf++[{o with eo:=m.eo}]}else m
theorem ate(o:Op)(H:ar):(eg P 80 1).f [(0,agg (jc o))] H=some (aC H.next 0 1 9,H.push (jc o)):=by rfl
theorem acG(a b c:Int):(c9 P 86).f [(0,int a),(1,int b),(2,int c)]=some (agg (jc ⟨a,b,c,0⟩)):=by rfl
theorem atf(l:List Op)(o:Op):lJ l++jc o=lJ (l++[o]):=by simp[lJ]
theorem acH{o:Op}(aw:m.bf.length<=1000000000)(hO:aj H (ae++du L m))(hv:kp L m)
  (ag:∀aa cA,L.Eq cA->aj aa (ae++du cA (m.o9 o e))->kp cA (m.o9 o e)->ab (int e) aa):az P 118 [ai L.cG 0,agg (jc o),int e] H ab:=by
 apply ap0;unfold ZB;refine c4 hO ?_;clear hO;intro cM H hO
 replace hO:=hO.nw
 have i4:(ae++[(cM,(⟨jc o,true⟩:ay))])[ae.length+0]?=some (cM,⟨jc o,true⟩):=aA rfl
 replace hO:aj H ((ae++[(cM,⟨jc o,true⟩)])++du L m):=hO
 refine ah fl ?_;unfold bn.o9 at ag;refine bz (fun h=>?_) (fun h=>?_);rw[if_pos h]at ag
 repeat refine bD ?_
 refine aP hO ((ae++[(cM,(⟨jc o,true⟩:ay))]).length+0) (aA rfl) rfl ?_
 repeat refine bD ?_
 refine fm hO (ae.length+0) (aK i4) rfl (show 3<4 by omega) (show _=jc {o with eo:=m.eo}from rfl) ?_;clear hO;intro H hO;rw[set_append_left _ _ (by simp),Go.Ab.cb]at hO
 replace hO:aj H ((ae++[(cM,⟨jc {o with eo:=m.eo},true⟩)])++du L m):=hO
 clear i4;have i4:(ae++[(cM,(⟨jc {o with eo:=m.eo},true⟩:ay))])[ae.length+0]?=some (cM,⟨jc {o with eo:=m.eo},true⟩):=aA rfl;have ed:∀ {H:ar} {bX:List (Nat×ay)},aj H ((ae++[(cM,⟨jc {o with eo:=m.eo},true⟩)])++bX)->aj H (ae++bX):=fun h=>aj.cd h
 generalize ae++[(cM,(⟨jc {o with eo:=m.eo},true⟩:ay))]=hp at hO i4 ed
 repeat refine bD ?_
 refine aP hO (hp.length+0) (aA rfl) rfl (fs hO (ae.length+0) (aK i4) rfl (by omega) ?_);have im:aj H (((hp++wQ L m)++gX L.ba L.cF L.dk m.d)++bB L.fV (lJ m.bf)):=(du.BE hO).nw;refine gj im (ate _ _) ?_;clear hO im;intro q H hO;refine DU hO hv.o rfl (by omega) rfl (by omega) (by omega) ?_;clear hO;intro sC H hO wR
 repeat refine bD ?_
 obtain⟨c1,eZ,eP,bb⟩:∃c1 eZ eP,sC=.slice c1 eZ eP:=by rcases wR with⟨_,h,_⟩|⟨p,rfl|rfl,_⟩;omega;exact⟨_,_,_,rfl⟩;simp_all
 refine fm hO (hp.length+0) (aK (aK (aA rfl))) (by rw[bb];rfl) (show 3<4 by omega) rfl ?_;clear hO;intro H hO;rw[set_append_left _ _ (by simp),set_append_left _ _ (by simp),Go.Ab.cb]at hO;rw[atf]at hO wR;have aB:aj H (((hp++wQ ⟨L.cG,L.ba,L.cF,L.bJ,L.dk,sC⟩ m)++gX L.ba L.cF L.dk m.d)++bB sC (lJ (m.bf++[{o with eo:=m.eo}]))):=hO;refine ag H ⟨L.cG,L.ba,L.cF,L.bJ,L.dk,sC⟩ ⟨rfl,rfl,rfl,rfl⟩ (ed (du.KL (m:={m with bf:=m.bf++[{o with eo:=m.eo}]}) aB.nw)) ⟨hv.d,?_⟩;show il 4 sC (m.bf++[_]).length _;rw[length_append];exact wR;rw[if_neg h]at ag;exact ag _ L ⟨rfl,rfl,rfl,rfl⟩ (aj.cd hO) hv
end J
namespace J
open Go Go.Ab
variable[cr:bW]
variable{H:ar}{ae:List (Nat×ay)}{ab:VH}{x:Value}{e:Int}
variable{L:kV}{m:bn}{part aZ:Int}{s:List Int}
def bn.gG(m:bn)(part aZ:Int):bn×Int:=if(m.fH part aZ).2≠0 then(m,(m.fH part aZ).2)else(({m with d:=(m.d.gG (m.fH part aZ).1).1}:bn).o9 ⟨1,part,aZ,0⟩ (m.d.gG (m.fH part aZ).1).2,(m.d.gG (m.fH part aZ).1).2)
def bn.fz(m:bn)(part aZ:Int)(s:List Int):bn×Int:=if(m.fH part aZ).2≠0 then(m,(m.fH part aZ).2)else(({m with d:=(m.d.fz (m.fH part aZ).1 s).1}:bn).o9 ⟨2,part,aZ,0⟩ (m.d.fz (m.fH part aZ).1 s).2,(m.d.fz (m.fH part aZ).1 s).2)
def bn.hj(m:bn):bn×Int:=({m with d:=m.d.hj.1},m.d.hj.2)
theorem bG.atg{d:bG}{a:Int}:(d.gG a).1.cells.length=d.cells.length:=by unfold bG.gG;split;rfl;split;rfl;split;rfl;split;rfl;show((d.step.cells.set _ _).set _ _).length=_;rw[length_set,length_set];rfl
theorem bG.ath{d:bG}{a:Int}:(d.fz a s).1.cells.length=d.cells.length:=by unfold bG.fz;split;rfl;split;rfl;split;rfl;split;rfl;show(d.step.cells.set _ _).length=_;rw[length_set];rfl
theorem bG.ati{d:bG}:d.hj.1.cells.length=d.cells.length:=by unfold bG.hj;split;rfl;split;rfl;exact BD _ _
theorem bG.atj{d:bG}{a:Int}:(d.gG a).1.done.length<=d.done.length+1:=by
 unfold bG.gG;split
 ·simp_all
 split
 ·simp_all
 split
 ·simp_all
 split
 ·exact le_succ _
 show(d.done++[_]).length<=_;simp
theorem bG.atk{d:bG}{a:Int}:(d.fz a s).1.done.length<=d.done.length+1:=by
 unfold bG.fz;split
 ·simp_all
 split
 ·simp_all
 split
 ·simp_all
 split
 ·exact le_succ _
 show(d.done++[_]).length<=_;simp
theorem bG.atl{d:bG}:d.hj.1.done.length<=d.done.length:=by
 unfold bG.hj;split
 ·simp_all
 split
 ·exact Nat.le_refl _
 simp_all
theorem bn.KN{o:Op}:(m.o9 o e).d=m.d:=by grind[bn.o9]
theorem bn.Qy{o:Op}:(m.o9 o e).hq=m.hq:=by grind[bn.o9]
theorem bn.acI{o:Op}:(m.o9 o e).bf.length<=m.bf.length+1:=by unfold bn.o9;grind
theorem bn.atm:(m.fz part aZ s).1.hq=m.hq:=by grind[bn.fz,bn.Qy]
theorem bn.acJ{o:Op}(ok:m.b6):(m.o9 o e).b6:=⟨by rw[bn.KN];exact ok.d,by rw[bn.KN,bn.Qy];exact ok.s,by rw[bn.Qy];exact ok.n⟩
theorem bn.Qr(ok:m.b6):(m.gG part aZ).1.b6:=by unfold bn.gG;split;exact ok;exact bn.acJ ⟨bG.Qr ok.d,by rw[bG.atg];exact ok.s,ok.n⟩
theorem bn.Qs(ok:m.b6)(aw:s.length=64):(m.fz part aZ s).1.b6:=by unfold bn.fz;split;exact ok;exact bn.acJ ⟨bG.Qs ok.d aw,by rw[bG.ath];exact ok.s,ok.n⟩
theorem bn.Qv(ok:m.b6):m.hj.1.b6:=⟨bG.Qv ok.d,by show∀x∈m.hq,_<=m.d.hj.1.cells.length;rw[bG.ati];exact ok.s,ok.n⟩
theorem bn.hN.mono{N ev:Nat}(h:m.hN N)(hm:N<=ev):m.hN ev:=⟨Nat.le_trans h.1 hm,Nat.le_trans h.2 hm⟩
theorem bn.atn{N:Nat}(h:m.hN N):(m.gG part aZ).1.hN (N+1):=by unfold bn.gG;split;exact h.mono (le_succ _);refine⟨?_,Nat.le_trans bn.acI (succ_le_succ h.2)⟩;rw[bn.KN];exact Nat.le_trans bG.atj (succ_le_succ h.1)
theorem bn.acK{N:Nat}(h:m.hN N):(m.fz part aZ s).1.hN (N+1):=by unfold bn.fz;split;exact h.mono (le_succ _);refine⟨?_,Nat.le_trans bn.acI (succ_le_succ h.2)⟩;rw[bn.KN];exact Nat.le_trans bG.atk (succ_le_succ h.1)
theorem bn.acL{N:Nat}(h:m.hN N):m.hj.1.hN N:=⟨Nat.le_trans bG.atl h.1,h.2⟩
theorem kV.Eq.gl:L.Eq L:=⟨rfl,rfl,rfl,rfl⟩
theorem kV.Eq.trans{L cA acM:kV}(h:L.Eq cA)(a6:cA.Eq acM):L.Eq acM:=⟨a6.m.trans h.m,a6.d.trans h.d,a6.c.trans h.c,a6.s.trans h.s⟩
theorem du.yf{eQ:bG}{lH:Value}(h:aj H (((ae++wQ L m)++bB L.fV (lJ m.bf))++gX L.ba L.cF lH eQ)):aj H (ae++du {L with dk:=lH} {m with d:=eQ}):=du.KL (L:={L with dk:=lH}) (m:={m with d:=eQ}) h
theorem ato(ok:m.b6)(aw:m.hN 1000000)(hO:aj H (ae++du L m))(hv:kp L m)
  (ag:∀aa cA,L.Eq cA->aj aa (ae++du cA (m.gG part aZ).1)->kp cA (m.gG part aZ).1->ab (int (m.gG part aZ).2) aa):az P 238 [ai L.cG 0,int part,int aZ] H ab:=by
 apply arG;unfold aby;refine Qx ok hO (ah jT (ah jU (ah ik ?_)));unfold bn.gG at ag;refine bz (fun h=>?_) (fun h=>?_);rw[if_pos h]at ag;exact ag _ L kV.Eq.gl hO hv;rw[if_neg h]at ag;refine ah (acG _ _ _) ?_
 repeat refine bD ?_
 refine aP hO (ae.length+0) (aA rfl) rfl (asY ok.d aw.1 (du.BE hO) hv.d ?_);clear hO;intro H lH hO AO;refine acH (L:={L with dk:=lH}) (m:={m with d:=(m.d.gG (m.fH part aZ).1).1}) (by have:=aw.2;grind) (du.yf hO) ⟨AO,hv.o⟩ ?_;clear hO;intro H cA he hO hJ;exact ag _ cA ⟨he.m,he.d,he.c,he.s⟩ hO hJ
theorem acN(ok:m.b6)(aE:s.length=64)(aw:m.hN 1000000)(hO:aj H (ae++du L m))(hv:kp L m)
  (ag:∀aa cA,L.Eq cA->aj aa (ae++du cA (m.fz part aZ s).1)->kp cA (m.fz part aZ s).1->ab (int (m.fz part aZ s).2) aa):az P 56 [ai L.cG 0,int part,int aZ,ot s] H ab:=by
 apply apd;unfold YL;refine c4 hO ?_;clear hO;intro dC H hO
 replace hO:=hO.nw
 replace hO:aj H ((ae++[(dC,⟨a1 s,true⟩)])++du L m):=hO
 have pM:(ae++[(dC,(⟨a1 s,true⟩:ay))])[ae.length+0]?=some (dC,⟨a1 s,true⟩):=aA rfl;have ed:∀ {H:ar} {bX:List (Nat×ay)},aj H ((ae++[(dC,⟨a1 s,true⟩)])++bX)->aj H (ae++bX):=fun h=>aj.cd h
 generalize ae++[(dC,(⟨a1 s,true⟩:ay))]=hp at hO pM ed;refine Qx ok hO (ah jT (ah jU (ah ik ?_)));unfold bn.fz at ag;refine bz (fun h=>?_) (fun h=>?_);rw[if_pos h]at ag;exact ag _ L kV.Eq.gl (ed hO) hv;rw[if_neg h]at ag;refine ah (acG _ _ _) ?_
 repeat refine bD ?_
 refine aP hO (hp.length+0) (aA rfl) rfl (fs hO (ae.length+0) (aK pM) (by simp_all) (by omega) (asZ ok.d aE aw.1 (du.BE hO) hv.d ?_));clear hO;intro H lH hO AO;refine acH (L:={L with dk:=lH}) (m:={m with d:=(m.d.fz (m.fH part aZ).1 s).1}) (by have:=aw.2;grind) (du.yf hO) ⟨AO,hv.o⟩ ?_;clear hO;intro H cA he hO hJ;exact ag _ cA ⟨he.m,he.d,he.c,he.s⟩ (ed hO) hJ
theorem acO(ok:m.b6)(aw:m.hN 1000000)(hO:aj H (ae++du L m))(hv:kp L m)
  (ag:∀aa cA,L.Eq cA->aj aa (ae++du cA m.hj.1)->kp cA m.hj.1->ab (int m.hj.2) aa):az P 57 [ai L.cG 0] H ab:=by
 apply ape;unfold YM
 repeat refine bD ?_
 refine aP hO (ae.length+0) (aA rfl) rfl (as6 ok.d aw.1 (du.BE hO) hv.d ?_);clear hO;intro H lH hO AO;exact ag H {L with dk:=lH} ⟨rfl,rfl,rfl,rfl⟩ (du.yf hO) ⟨AO,hv.o⟩
end J
namespace J
open Go Go.Ab
variable[cr:bW]
variable{H:ar}{ae:List (Nat×ay)}{ab:VH}{v x:Value}
variable{L:kV}{m:bn}
theorem acP(hO:aj H (ae++du L m))(hv:kp L m)
  (ag:∀aa,aj aa ((ae++bB L.fV (lJ m.bf))++du {L with fV:=bq} {m with bf:=[]})->kp {L with fV:=bq} {m with bf:=[]}->ab L.fV aa):az P 30 [ai L.cG 0] H ab:=by
 apply aoP;unfold Yk
 repeat refine bD ?_
 refine aP hO (ae.length+0) (aA rfl) rfl ?_
 repeat refine bD ?_
 refine fm hO (ae.length+0) (aA rfl) rfl (show 3<4 by omega) rfl ?_;clear hO;intro H hO;have aB:aj H (ae++(wQ {L with fV:=bq} {m with bf:=[]}++(bB L.fV (lJ m.bf)++gX L.ba L.cF L.dk m.d))):=hO.cb;refine ag H ?_ ⟨hv.d,.inl ⟨rfl,rfl,rfl⟩⟩;refine aB.e4 ?_;show(ae++(wQ _ _++(bB L.fV (lJ m.bf)++gX L.ba L.cF L.dk m.d))).Perm ((ae++bB L.fV (lJ m.bf))++(wQ _ _++([]++gX L.ba L.cF L.dk m.d)));rw[append_assoc,nil_append,<- append_assoc (wQ _ _),<- append_assoc (bB _ _)];exact List.Perm.append_left ae (List.Perm.append_right _ perm_append_comm)
def mb:Nat->List Nat->List (Nat×Nat)
 | _,[]=>[]
 | n,x::l=>(n,x)::mb (n+x) l
theorem Qz:∀(l:List Nat) (n:Nat),(mb n l).length=l.length
 | [],_=>rfl
 | x::l,n=>by show(mb (n+x) l).length+1=_;rw[Qz l];rfl
theorem acQ:∀(l:List Nat) (n y:Nat) (h:y<l.length),(mb n l).take (y+1)=(mb n l).take y++[(n+(l.take y).sum,l[y])]
 | x::l,n,0,_=>by simp[mb]
 | x::l,n,y+1,h=>by have:=acQ l (n+x) y (by simpa using h);show(n,x)::(mb (n+x) l).take (y+1)=(n,x)::(mb (n+x) l).take y++[(n+(x+(l.take y).sum),_)];rw[this,Nat.add_assoc];rfl
theorem atp(ba:Nat):(c9 P 168).f [(0,ai ba 0)]=some (agg [ai ba 0,bq,int 0,bq]):=by rfl
theorem atq(a b:Int):(c9 P 232).f [(0,int a),(1,int b)]=some (agg [int a,int b]):=by rfl
theorem atr(a b:Int)(H:ar):(eg P 166 1).f [(0,agg [int a,int b])] H=some (aC H.next 0 1 5,H.push [int a,int b]):=by rfl
theorem QA:∀(l:List Nat) (y:Nat),(l.take y).sum<=l.sum
 | [],y=>by simp
 | x::l,0=>by simp
 | x::l,y+1=>by simp_all[QA]
theorem ats(l:List Nat)(y:Nat)(h:y<l.length):(l.take (y+1)).sum=(l.take y).sum+l[y]:=by grind[take_succ_eq_append_getElem]
theorem att{ba cF q c:Nat}{dk:Value}{d:bG}{iE:List Nat}{QB:Nat}{b:Bool}(ok:d.b6)(hO:aj H (ae++gX ba cF dk d))(dQ:ae[QB]?=some (q,⟨iE.map fun(n:Nat)=>int n,b⟩))(aN:0<iE.length)(mZ:iE.length<=16)
  (h1:∀n∈iE,1<=n) (aw:iE.sum<=d.cells.length) (hv:wO dk d)
  (ag:∀aa cG bJ,aj aa (ae++du ⟨cG,ba,cF,bJ,dk,bq⟩ ⟨d,mb 0 iE,0,[]⟩)->kp ⟨cG,ba,cF,bJ,dk,bq⟩ ⟨d,mb 0 iE,0,[]⟩->ab (.tuple [ai cG 0,int 0].toArray) aa):az P 54 [ai ba 0,aC q 0 iE.length c] H ab:=by
 apply apa;unfold YH;refine e6 (fun aF aa=>aF=[ai ba 0,aC q 0 iE.length c,.pointer none,int 0,.bool false]/\aa=H) ?_ ?_
 repeat (first|refine bD ?_|refine rO ?_|refine vw ?_)
 rw[decide_eq_false (by omega)];exact⟨rfl,rfl⟩;rintro aF aa ⟨rfl,rfl⟩
 try simp only[cu,cv]
 refine et rfl (ah (atp ba) (c4 hO ?_));clear hO;intro cG H hO
 replace hO:aj H (((ae++gX ba cF dk d)++[(cG,⟨[ai ba 0,bq,int 0,bq],true⟩)])++bB bq (uu [])):=by show aj H (((ae++gX ba cF dk d)++[(cG,⟨[ai ba 0,bq,int 0,bq],true⟩)])++[]);rw[append_nil];exact hO
 repeat refine rO ?_
 have atu:=ok.n;have hlen:=Qz iE 0;refine ao9 (fun k aF aa=>∃(y:Nat) (vs:Value),y<=iE.length/\k=iE.length-y/\aF=[ai ba 0,.pointer none,int 0,ai cG 0,int ((iE.take y).sum:Nat),aC q 0 iE.length c,int iE.length,int y]/\aj aa (((ae++gX ba cF dk d)++[(cG,⟨[ai ba 0,vs,int 0,bq],true⟩)])++bB vs (uu ((mb 0 iE).take y)))/\il 2 vs y (uu ((mb 0 iE).take y))/\(0<y->∃bJ,vs=aC bJ 0 y 4)) _ _ ?_ iE.length _ _ ⟨0,bq,by omega,rfl,rfl,hO,.inl ⟨rfl,rfl,rfl⟩,fun h=>absurd h (by omega)⟩;clear hO;rintro k aF H ⟨y,vs,a8,rfl,rfl,hO,tW,lk⟩;unfold YG
 try simp only[cu,cv]
 have hb:=QA iE y
 repeat refine bD ?_
 refine bz (fun h=>?_) (fun h=>?_);have fU:y<iE.length:=by omega
 have hm:=h1 _ (getElem_mem fU);have aDq:=QA iE (y+1);have ql:=ats iE y fU;refine ah (h4 (by omega) (by omega)) ?_;refine aP hO QB (aK (aK (aK dQ))) (v:=int iE[y]) (by simp_all) ?_;refine e6 (fun aF aa=>aF=[ai ba 0,.pointer none,int 0,ai cG 0,int ((iE.take y).sum:Nat),int iE[y],aC q 0 iE.length c,int iE.length,int y,.bool false]/\aa=H) ?_ ?_;refine ah ez ?_;rw[decide_eq_false (show¬((iE[y]:Nat):Int)<1 by omega)];refine et rfl (asH hO (aK (aK (aA (k:=0) rfl))) ?_)
 repeat refine bD ?_
 rw[decide_eq_false (show¬((d.cells.length:Int)-((iE.take y).sum:Nat))<((iE[y]:Nat):Int) by omega)];exact⟨rfl,rfl⟩;rintro aF aa ⟨rfl,rfl⟩
 try simp only[cu,cv]
 refine et rfl ?_
 repeat refine bD ?_
 refine aP hO ((ae++gX ba cF dk d).length+0) (aK (aA rfl)) rfl (ah (atq _ _) (gj hO (atr _ _ _) ?_));clear hO;intro q2 H hO;refine acq hO tW rfl (by omega) rfl (by omega) (by omega) ?_;clear hO;intro bJ H hO acR;have h0:uu ((mb 0 iE).take y)++[int ((iE.take y).sum:Nat),int iE[y]]=uu ((mb 0 iE).take (y+1)):=by simp_all[acQ,uu]
 rw[h0]at hO acR
 repeat refine bD ?_
 refine fm hO ((ae++gX ba cF dk d).length+0) (aK (aA rfl)) rfl (show 1<4 by omega) rfl ?_;clear hO;intro H hO;rw[set_append_left _ _ (by simp),Go.Ab.cb]at hO
 repeat refine bD ?_
 refine⟨_,by omega,y+1,_,by omega,rfl,?_,hO,acR,fun _=>⟨bJ,rfl⟩⟩
 simp_all
 have lI:y=iE.length:=by omega
 subst lI;rw[take_of_length_le (by rw[hlen];exact Nat.le_refl _)]at hO tW;obtain⟨bJ,rfl⟩:=lk aN
 repeat refine Bn ?_
 refine ag H cG bJ ?_ ⟨hv,.inl ⟨rfl,rfl,rfl⟩⟩;have aB:aj H (((ae++gX ba cF dk d)++[(cG,⟨[ai ba 0,aC bJ 0 iE.length 4,int 0,bq],true⟩)])++[(bJ,⟨uu (mb 0 iE),true⟩)]):=hO;rw[append_assoc]at aB;have bk:=aB.nw;rw[append_assoc]at bk;have ue:l3 ⟨cG,ba,cF,bJ,dk,bq⟩ ⟨d,mb 0 iE,0,[]⟩=[ai ba 0,aC bJ 0 iE.length 4,int 0,bq]:=by simp_all[l3]
 show aj H (ae++([(cG,⟨l3 ⟨cG,ba,cF,bJ,dk,bq⟩ ⟨d,mb 0 iE,0,[]⟩,true⟩),(bJ,⟨uu (mb 0 iE),true⟩)]++([]++gX ba cF dk d)));rw[ue,nil_append];exact bk
end J
namespace J
open Go Go.Ab
variable[cr:bW]
def mT(x n:Nat):Nat:=x/2^n|||x*2^(32-n)%4294967296
def pa(x:Nat)(l:List Nat):Nat:=l.foldl (fun o n=>o ^^^ mT x n) 0
def zD(b:List Int)(t:Nat):Nat:=16777216*(b.getD (4*t) 0).toNat+65536*(b.getD (4*t+1) 0).toNat+256*(b.getD (4*t+2) 0).toNat+(b.getD (4*t+3) 0).toNat
def tn(b:List Int)(w:List Nat)(t:Nat):Nat:=if t<16 then zD b t else
 (w.getD (t-16) 0+(pa (w.getD (t-15) 0) [7,18] ^^^ w.getD (t-15) 0/8)+w.getD (t-7) 0+(pa (w.getD (t-2) 0) [17,19] ^^^ w.getD (t-2) 0/1024))%4294967296
def hU(b:List Int):Nat->List Nat
 | 0=>[]
 | t+1=>hU b t++[tn b (hU b t) t]
def zE(e f g:Nat):Nat:=(e&&&f) ^^^ ((4294967295-e)&&&g)
def BF(a b c:Nat):Nat:=((a&&&b) ^^^ (a&&&c)) ^^^ (b&&&c)
structure W8 where
 a:Nat
 b:Nat
 c:Nat
 d:Nat
 e:Nat
 f:Nat
 g:Nat
 h:Nat
structure W8.b6 (x:W8):Prop where
 a:x.a<4294967296
 b:x.b<4294967296
 c:x.c<4294967296
 d:x.d<4294967296
 e:x.e<4294967296
 f:x.f<4294967296
 g:x.g<4294967296
 h:x.h<4294967296
def W8.l(x:W8):List Nat:=[x.a,x.b,x.c,x.d,x.e,x.f,x.g,x.h]
def yg(x:W8)(k w:Nat):Nat:=(x.h+pa x.e [6,11,25]+zE x.e x.f x.g+k+w)%4294967296
def KO(x:W8):Nat:=(pa x.a [2,13,22]+BF x.a x.b x.c)%4294967296
def Gu(x:W8)(k w:Nat):W8:=⟨(yg x k w+KO x)%4294967296,x.a,x.b,x.c,(x.d+yg x k w)%4294967296,x.e,x.f,x.g⟩
def j3:List Nat:=[0x428a2f98,0x71374491,0xb5c0fbcf,0xe9b5dba5,0x3956c25b,0x59f111f1,0x923f82a4,0xab1c5ed5,0xd807aa98,0x12835b01,0x243185be,0x550c7dc3,0x72be5d74,0x80deb1fe,0x9bdc06a7,0xc19bf174,
 0xe49b69c1,0xefbe4786,0x0fc19dc6,0x240ca1cc,0x2de92c6f,0x4a7484aa,0x5cb0a9dc,0x76f988da,0x983e5152,0xa831c66d,0xb00327c8,0xbf597fc7,0xc6e00bf3,0xd5a79147,0x06ca6351,0x14292967,
 0x27b70a85,0x2e1b2138,0x4d2c6dfc,0x53380d13,0x650a7354,0x766a0abb,0x81c2c92e,0x92722c85,0xa2bfe8a1,0xa81a664b,0xc24b8b70,0xc76c51a3,0xd192e819,0xd6990624,0xf40e3585,0x106aa070,
 0x19a4c116,0x1e376c08,0x2748774c,0x34b0bcb5,0x391c0cb3,0x4ed8aa4a,0x5b9cca4f,0x682e6ff3,0x748f82ee,0x78a5636f,0x84c87814,0x8cc70208,0x90befffa,0xa4506ceb,0xbef9a3f7,0xc67178f2]
def rU(w:List Nat)(x:W8):Nat->W8
 | 0=>x
 | t+1=>Gu (rU w x t) (j3.getD t 0) (w.getD t 0)
def DX(x y:W8):W8:=⟨(x.a+y.a)%4294967296,(x.b+y.b)%4294967296,(x.c+y.c)%4294967296,(x.d+y.d)%4294967296,(x.e+y.e)%4294967296,(x.f+y.f)%4294967296,(x.g+y.g)%4294967296,(x.h+y.h)%4294967296⟩
def BG(s:W8)(b:List Int):W8:=DX s (rU (hU b 64) s 64)
def BH:W8:=⟨0x6a09e667,0xbb67ae85,0x3c6ef372,0xa54ff53a,0x510e527f,0x9b05688c,0x1f83d9ab,0x5be0cd19⟩
def pN(ak:List Int):Nat->W8
 | 0=>BH
 | n+1=>BG (pN ak n) ((ak.drop (64*n)).take 64)
def mx(ak:List Int):W8:=pN ak (ak.length/64)
def BI(ak:List Int):List Int:=ak.drop (64*(ak.length/64))
def tp(n:Nat):List Int:=(List.range 8).map fun i=>((n/2^(56-8*i)%256:Nat):Int)
def na(n:Nat):Nat:=(119-n%64)%64
def vE(ak:List Int):List Int:=ak++[128]++List.replicate (na ak.length) 0++tp (8*ak.length)
def zF(w:Nat):List Int:=[((w/16777216%256:Nat):Int),((w/65536%256:Nat):Int),((w/256%256:Nat):Int),((w%256:Nat):Int)]
def ny(s:W8):List Int:=s.l.flatMap zF
def hr(ak:List Int):List Int:=ny (mx (vE ak))
theorem uv{x n:Nat}(h:x<4294967296):mT x n<4294967296:=or_lt_two_pow (n:=32) (Nat.lt_of_le_of_lt (div_le_self _ _) h) (mod_lt _ (by omega))
theorem acS{x:Nat}(h:x<4294967296):∀(l:List Nat) (o:Nat),o<4294967296->l.foldl (fun o n=>o ^^^ mT x n) o<4294967296
 | [],_,bC=>bC
 | n::l,o,bC=>acS h l _ (xor_lt_two_pow (n:=32) bC (uv h))
theorem Gv{x:Nat}{l:List Nat}(h:x<4294967296):pa x l<4294967296:=acS h l 0 (by omega)
theorem atv{e f g:Nat}(he:e<4294967296)(hf:f<4294967296)(hg:g<4294967296):zE e f g<4294967296:=
 xor_lt_two_pow (n:=32) (and_lt_two_pow (n:=32) _ hf) (and_lt_two_pow (n:=32) _ hg)
theorem atw{a b c:Nat}(an:b<4294967296)(aD:c<4294967296):BF a b c<4294967296:=
 xor_lt_two_pow (n:=32) (xor_lt_two_pow (n:=32) (and_lt_two_pow (n:=32) _ an) (and_lt_two_pow (n:=32) _ aD)) (and_lt_two_pow (n:=32) _ aD)
theorem atx{x:W8}{k w:Nat}(h:x.b6):(Gu x k w).b6:=⟨mod_lt _ (by omega),h.a,h.b,h.c,mod_lt _ (by omega),h.e,h.f,h.g⟩
theorem Gw{x:W8}{w:List Nat}(h:x.b6):∀t,(rU w x t).b6
 | 0=>h
 | t+1=>atx (Gw h t)
theorem aty{x y:W8}:(DX x y).b6:=⟨mod_lt _ (by omega),mod_lt _ (by omega),mod_lt _ (by omega),mod_lt _ (by omega),mod_lt _ (by omega),mod_lt _ (by omega),mod_lt _ (by omega),mod_lt _ (by omega)⟩
theorem atz:BH.b6:=⟨by decide,by decide,by decide,by decide,by decide,by decide,by decide,by decide⟩
theorem Gx{ak:List Int}:∀n,(pN ak n).b6
 | 0=>atz
 | n+1=>aty
theorem Gy{b:List Int}:∀t,(hU b t).length=t
 | 0=>rfl
 | t+1=>by show(hU b t++[_]).length=t+1;rw[length_append,Gy t];rfl
theorem wS{b:List Int}(h:∀x∈b,0<=x/\x<=255)(i:Nat):(b.getD i 0).toNat<256:=by grind[getElem_mem]
theorem atA{b:List Int}(h:∀x∈b,0<=x/\x<=255)(t:Nat):zD b t<4294967296:=by grind[wS,zD]
theorem atB{b:List Int}{w:List Nat}(h:∀x∈b,0<=x/\x<=255)(t:Nat):tn b w t<4294967296:=by grind[tn,atA]
theorem Gz{b:List Int}(h:∀x∈b,0<=x/\x<=255):∀t,∀x∈hU b t,x<4294967296
 | 0,x,al=>by cases al
 | t+1,x,al=>by
  rcases mem_append.1 (show x∈hU b t++[tn b (hU b t) t]from al)with al|al
  exact Gz h t x al
  simp_all[atB]
theorem BJ{w:List Nat}(h:∀x∈w,x<4294967296)(i:Nat):w.getD i 0<4294967296:=by grind[getElem_mem]
theorem acT{ak aX:List Int}:∀n,64*n<=ak.length->pN (ak++aX) n=pN ak n
 | 0,_=>rfl
 | n+1,h=>by show BG (pN (ak++aX) n) (((ak++aX).drop (64*n)).take 64)=BG (pN ak n) ((ak.drop (64*n)).take 64);rw[acT n (by omega),drop_append_of_le_length (by omega),take_append_of_le_length (by rw[length_drop];omega)]
theorem QC{ak:List Int}:(BI ak).length=ak.length%64:=by grind[BI]
theorem KP{n:Nat}:(tp n).length=8:=by rfl
theorem atC{ak:List Int}:(vE ak).length%64=0:=by grind[vE,KP,na]
theorem atD{a b c d:Nat}(bp:a<256)(an:b<256)(aD:c<256)(aO:d<256):((a*2^24%4294967296|||b*2^16%4294967296)|||c*2^8%4294967296)|||d=16777216*a+65536*b+256*c+d:=by
 have h1:∀ {x k:Nat},x<2^(32-k)->k<=32->x*2^k%4294967296=2^k*x:=by
  intro x k al ag;rw[Nat.mul_comm];refine mod_eq_of_lt ?_;have:2^k*x<2^k*2^(32-k):=Nat.mul_lt_mul_of_pos_left al (Nat.two_pow_pos k)
  rwa [<- Nat.pow_add,show k+(32-k)=32 from Nat.add_sub_cancel' ag]at this
 rw[h1 (k:=24) (Nat.lt_of_lt_of_le bp (by decide)) (by decide),h1 (k:=16) (Nat.lt_of_lt_of_le an (by decide)) (by decide),h1 (k:=8) (Nat.lt_of_lt_of_le aD (by decide)) (by decide)];rw[<- two_pow_add_eq_or_of_lt (i:=24) (show 2^16*b<2^24 from Nat.lt_of_lt_of_le (Nat.mul_lt_mul_of_pos_left an (by decide)) (by decide))];have iX:2^24*a+2^16*b=2^16*(2^8*a+b):=by omega
 rw[iX,<- two_pow_add_eq_or_of_lt (i:=16) (show 2^8*c<2^16 from Nat.lt_of_lt_of_le (Nat.mul_lt_mul_of_pos_left aD (by decide)) (by decide))];have h0:2^16*(2^8*a+b)+2^8*c=2^8*(2^8*(2^8*a+b)+c):=by omega
 rw[h0,<- two_pow_add_eq_or_of_lt (i:=8) (Nat.lt_of_lt_of_le aO (by decide))]
end J
namespace J
open Go Go.Ab
variable[cr:bW]
variable{H:ar}{ae bX:List (Nat×ay)}{ab:VH}{v w x:Value}{b:List Int}{j p:Nat}{e:Int}
abbrev u32(n:Nat):Value:=bQ .u32 n
theorem tq{p o fc aq:Nat}(h:p<fc):l8 (b9 [ai p o]) fc aq:=by
 show yO [p] fc aq=true
 simp_all[yO,j0]
theorem atE{n:Int}(h:-9223372036854775808<=n)(aR:n<0):iJ .u64 n=((18446744073709551616-n.natAbs:Nat):Int):=by obtain⟨m,rfl⟩:∃m:Nat,n=Int.negSucc m:=⟨n.natAbs-1,by omega⟩;show((18446744073709551616-1-m%18446744073709551616:Nat):Int)=_;omega
theorem atF{a n:Nat}(bp:a<4294967296)(aR:0<n)(Dl:n<32)(ag:ab (u32 (mT a n)) H):az P 282 [u32 a,int (-(n:Int))] H ab:=by
 apply ash;unfold acf;refine bV (v:=bQ .u64 (18446744073709551616-n)) (aa:=H) (by
  show some (Value.int .u64 (iJ .u64 (-(n:Int))),H)=_
  grind[atE]) ?_
 refine ah (v:=bQ .u64 (32-n)) (by
  rw[show(Value.int .u64 31)=bQ .u64 31 from rfl,vu rfl (show 18446744073709551616-n<gk .u64 from(show _<18446744073709551616 by omega)) (by decide)]
  congr 2
  have:(18446744073709551616-n)&&&31=(18446744073709551616-n)%32:=and_two_pow_sub_one_eq_mod _ 5;omega) ?_
 refine ah (Dx (k:=.u32) rfl (show 32-n<=32 by omega)) ?_;refine ah (v:=bQ .u64 n) (by
  rw[show(Value.int .u64 32)=bQ .u64 32 from rfl,OR rfl (by omega) (by decide)]
  grind) ?_
 refine ah (xT (k:=.u32) rfl (show n<=32 by omega)) (ah (Bl (k:=.u32) rfl (show a*2^(32-n)%gk .u32<gk .u32 from mod_lt _ (by decide)) (show a/2^n<4294967296 from Nat.lt_of_le_of_lt (div_le_self _ _) bp)) ?_);rw[Nat.or_comm];exact ag
theorem KQ{a:Nat}{l:List Nat}{q c j:Nat}{wr:Bool}(bp:a<4294967296)(aE:∀n∈l,0<n/\n<32)(aR:l.length<=1000)(hO:aj H ae)(bh:ae[j]?=some (q,(⟨l.map fun(n:Nat)=>int n,wr⟩:ay)))(ag:ab (u32 (pa a l)) H):
  az P 278 [u32 a,aC q 0 l.length c] H ab:=by
 apply asc;unfold ab7;refine bV xL (asb (fun k aF aa=>aa=H/\∃y:Nat,y<=l.length/\k=l.length-y/\aF=[u32 a,.int .u32 0,u32 (pa a (l.take y)),aC q 0 l.length c,int l.length,int y]) _ _ ?_ l.length _ _ ⟨rfl,0,by omega,rfl,rfl⟩);rintro k aF aa ⟨rfl,y,a8,rfl,rfl⟩;unfold ab6
 try simp only[cu,cv]
 refine ah ez (bz (fun h=>?_) (fun h=>?_));have fU:y<l.length:=by omega
 obtain⟨h1,h2⟩:=aE _ (getElem_mem fU);refine ah (h4 (by omega) (by omega)) (aP hO j bh (v:=int (l[y]:Nat)) (by simp[fU]) ?_);refine ah (v:=int (-(l[y]:Int))) (by
  show some (Value.int .i64 (iJ .i64 (0-(l[y]:Int))))=_
  grind[xM]) ?_
 refine atF bp h1 h2 (ah (mV (k:=.u32) rfl (Gv bp) (uv bp)) ?_)
 repeat refine bD ?_
 refine⟨_,by omega,(by rfl),y+1,by omega,rfl,?_⟩
 grind[pa,take_succ_eq_append_getElem]
 have lI:y=l.length:=by omega
 subst lI;rw[take_of_length_le (Nat.le_refl _)];exact km rfl ag
def i7(x:W8):List Value:=x.l.map fun(n:Nat)=>u32 n
theorem acU:cQ P 389=List.replicate 8 (u32 0):=by rfl
theorem acV:cQ P 424=List.replicate 64 (u32 0):=by rfl
theorem atG(hO:aj H ae)(ag:∀aa p,aj aa (ae++[(p,⟨j3.map fun(n:Nat)=>u32 n,true⟩)])->ab (ai p 0) aa):az P 277 [] H ab:=by apply asa;unfold ab4;exact ah (v:=agg (j3.map fun(n:Nat)=>u32 n)) (by rfl) (c4 hO fun p aa=>ag aa p)
theorem atH(hO:aj H ae)(ag:∀aa,aj aa ae->ab (agg (i7 BH)) aa):az P 259 [] H ab:=by
 apply arV;unfold abO;rw[acU];refine c4 hO ?_;intro p H hO;refine ah (v:=agg (i7 BH)) (by rfl) (e7 hO (ae.length+0) (aA rfl) rfl rfl rfl ?_);intro H hO
 replace hO:=hO.cb
 exact fs hO (ae.length+0) (aA rfl) rfl (by omega) (ag _ hO.left)
theorem acW(a b:Int)(H:ar):(eg P 48 2).f [(0,.int .i64 a),(1,.int .i64 b)] H=some (aC H.next 0 2 3,H.push [int a,int b]):=by rfl
theorem acX(a b c:Int)(H:ar):(eg P 48 3).f [(0,.int .i64 a),(1,.int .i64 b),(2,.int .i64 c)] H=some (aC H.next 0 3 3,H.push [int a,int b,int c]):=by rfl
def kW(w:List Nat):List Value:=(w.map fun(n:Nat)=>u32 n)++List.replicate (64-w.length) (u32 0)
theorem DY{w:List Nat}(h:w.length<=64):(kW w).length=64:=by grind[kW]
theorem GA{w:List Nat}{i:Nat}(h:i<w.length):(kW w)[i]?=some (u32 (w.getD i 0)):=by simp_all[kW,List.getElem?_append_left]
theorem atI{w:List Nat}{n:Nat}(h:w.length<64):(kW w).set w.length (u32 n)=kW (w++[n]):=by
 unfold kW;rw[set_append_right _ _ (by simp)];simp;obtain⟨m,hm⟩:∃m,64-w.length=m+1:=⟨63-w.length,by omega⟩
 grind
theorem acY{w:List Nat}:(kW w).all fE=true:=by simp[kW,fE,sv]
theorem DZ{ab:VH}(hO:aj H ae)(h:b3 ae v b)(an:∀x∈b,0<=x/\x<=255){i:Int}{n:Nat}(aR:i=n)(aq:n<b.length)(ag:ab (bQ .u8 (b.getD n 0).toNat) H):ad (gd 1 v (int i)) fun t=>af (ax t H) ab:=by
 obtain⟨p,o,c,j,nz,rfl,h1,h2⟩:=h.at aq;subst aR;refine ah (h4 (by omega) (by omega)) ?_;rw[Int.toNat_natCast,Nat.mul_one];refine aP hO j h1 (v:=.int .u8 b[n]) h2 ?_;have e:b.getD n 0=b[n]:=by simp_all
 rw[e]at ag;have:=an _ (getElem_mem aq);have bt:(Value.int .u8 b[n])=bQ .u8 (b[n]).toNat:=F1 this.1;rw[bt];exact ag
theorem atJ(hO:aj H ae)(hv:b3 ae v b)(an:∀x∈b,0<=x/\x<=255)(aE:b.length=64)(ag:∀aa,aj aa ae->ab (agg (kW (hU b 64))) aa):az P 276 [v] H ab:=by
 apply ar9;unfold ab3;rw[acV];refine c4 hO ?_;intro bw H hO;refine c4 hO ?_;intro eX H hO;rw[append_assoc]at hO
 replace hO:aj H (ae++[(bw,⟨List.replicate 64 (u32 0),true⟩),(eX,⟨kW [],true⟩)]):=hO
 refine ar8 (fun k aF aa=>∃(y:Nat) (bX:List (Nat×ay)),y<=64/\k=64-y/\aF=[v,ai bw 0,ai eX 0,int y]/\aj aa (ae++([(bw,⟨List.replicate 64 (u32 0),true⟩),(eX,⟨kW (hU b y),true⟩)]++bX))) _ _ ?_ 64 _ _ ⟨0,[],by omega,rfl,rfl,by rw[append_nil];exact hO⟩;rintro k aF H ⟨y,bX,a8,rfl,rfl,hO⟩;unfold ab2
 try simp only[cu,cv]
 have D0:=Gy (b:=b) y;have qm:∀ {w:List Nat} {R KR:List (Nat×ay)},((ae++([(bw,(⟨List.replicate 64 (u32 0),true⟩:ay)),(eX,⟨kW w,true⟩)]++R))++KR)[ae.length+1]?=some (eX,⟨kW w,true⟩):=aK (aA rfl);have BK:∀ {w:List Nat} {R:List (Nat×ay)},(ae++([(bw,(⟨List.replicate 64 (u32 0),true⟩:ay)),(eX,⟨kW w,true⟩)]++R))[ae.length+1]?=some (eX,⟨kW w,true⟩):=aA rfl;refine ah ez (bz (fun h=>?_) (fun h=>?_));have ed:∀ {aa:ar} {R:List (Nat×ay)} {n:Nat},n=tn b (hU b y) y->aj aa ((ae++([(bw,(⟨List.replicate 64 (u32 0),true⟩:ay)),(eX,⟨kW (hU b y),true⟩)]++R)).set (ae.length+1) (eX,⟨(kW (hU b y)).set (0+y*1) (u32 n),true⟩))->aj aa (ae++([(bw,⟨List.replicate 64 (u32 0),true⟩),(eX,⟨kW (hU b (y+1)),true⟩)]++R)):=by
  intro aa R n aR a6;have h2:=a6.cb;subst aR;have e:(kW (hU b y)).set (0+y*1) (u32 (tn b (hU b y) y))=kW (hU b (y+1)):=by grind[atI,hU]
  rw[e]at h2;exact h2
 refine ah ez (bz (fun mZ=>?_) (fun mZ=>?_));have tb:=wS an (4*y);have b7:=wS an (4*y+1);have ca:=wS an (4*y+2);have g3:=wS an (4*y+3);have xn:(au P .mul 3 true).f (.int .i64 4) (int y)=some (int ((4*y:Nat):Int)):=by grind[xN]
 refine ah xn (DZ hO hv.app an rfl (by omega) (bV (vv (eE:=.u32) rfl) ?_));rw[show∀n,n<256->n%gk .u32=n from fun n aR=>mod_eq_of_lt (show n<4294967296 by omega)]<;>try exact tb
 refine ah (Dx (k:=.u32) (n:=24) rfl (by decide)) (ah xn (ah (jg (by omega) (by omega)) (DZ hO hv.app an (n:=4*y+1) (by omega) (by omega) (bV (vv (eE:=.u32) rfl) ?_))));rw[mod_eq_of_lt (show(b.getD (4*y+1) 0).toNat<gk .u32 from(show _<4294967296 by omega))];refine ah (Dx (k:=.u32) (n:=16) rfl (by decide)) (ah (Bl (k:=.u32) rfl (mod_lt _ (by decide)) (mod_lt _ (by decide))) (ah xn (ah (jg (by omega) (by omega)) (DZ hO hv.app an (n:=4*y+2) (by omega) (by omega) (bV (vv (eE:=.u32) rfl) ?_)))));rw[mod_eq_of_lt (show(b.getD (4*y+2) 0).toNat<gk .u32 from(show _<4294967296 by omega))];refine ah (Dx (k:=.u32) (n:=8) rfl (by decide)) (ah (Bl (k:=.u32) rfl (or_lt_two_pow (n:=32) (mod_lt _ (by decide)) (mod_lt _ (by decide))) (mod_lt _ (by decide))) (ah xn (ah (jg (by omega) (by omega)) (DZ hO hv.app an (n:=4*y+3) (by omega) (by omega) (bV (vv (eE:=.u32) rfl) ?_)))));rw[mod_eq_of_lt (show(b.getD (4*y+3) 0).toNat<gk .u32 from(show _<4294967296 by omega))];refine ah (Bl (k:=.u32) rfl (or_lt_two_pow (n:=32) (or_lt_two_pow (n:=32) (mod_lt _ (by decide)) (mod_lt _ (by decide))) (mod_lt _ (by decide))) (show _<4294967296 by omega)) (ah (fy (by omega) (by omega)) ?_);rw[Int.toNat_natCast];refine fm hO (ae.length+1) BK rfl (by grind[DY]) rfl ?_;intro H hO
 replace hO:=ed (R:=bX) (by unfold tn zD;rw[if_pos (by omega)];exact atD tb b7 ca g3) hO
 repeat refine bD ?_
 exact⟨_,by omega,y+1,bX,by omega,rfl,rfl,hO⟩;have dy:∀i,(hU b y).getD i 0<4294967296:=BJ (Gz an y);have IU:eX<H.next:=hO.lt (eX,⟨kW (hU b y),true⟩) (mem_of_getElem? BK);have ke:∀ {br:ar} {R:List (Nat×ay)} {o:Nat},aj br ((ae++([(bw,(⟨List.replicate 64 (u32 0),true⟩:ay)),(eX,⟨kW (hU b y),true⟩)]++bX))++R)->ea (dV br br) (b9 [ai eX o]):=fun h1=>gu h1 (ae.length+1) qm h1 (ae.length+1) qm acY
 refine ah (mu (by omega) (by omega)) (ah (fy (by omega) (by omega)) ?_);rw[show((y:Int)-15).toNat=y-15 by omega];refine aP hO (ae.length+1) BK (v:=u32 ((hU b y).getD (y-15) 0)) (by grind[GA]) (ah (mu (by omega) (by omega)) (ah (fy (by omega) (by omega)) ?_));rw[show((y:Int)-2).toNat=y-2 by omega];refine aP hO (ae.length+1) BK (v:=u32 ((hU b y).getD (y-2) 0)) (by grind[GA]) (ah (mu (by omega) (by omega)) (ah (fy (by omega) (by omega)) ?_));rw[show((y:Int)-16).toNat=y-16 by omega];refine aP hO (ae.length+1) BK (v:=u32 ((hU b y).getD (y-16) 0)) (by grind[GA]) (gj hO (acW _ _ _) ?_);intro q H hO;refine KQ (l:=[7,18]) (dy _) (by simp_all) (by simp) hO (j:=_+0) (aA rfl) (⟨ke hO,?_⟩);refine ah (xT (k:=.u32) (n:=3) rfl (by decide)) (ah (mV (k:=.u32) rfl (Gv (dy _)) (Nat.lt_of_le_of_lt (div_le_self _ _) (dy _))) (ah (sy (k:=.u32) rfl) (ah (mu (by omega) (by omega)) (ah (fy (by omega) (by omega)) ?_))));rw[show((y:Int)-7).toNat=y-7 by omega];refine aP hO (ae.length+1) qm (v:=u32 ((hU b y).getD (y-7) 0)) (by grind[GA]) (⟨ke hO,tq IU,?_⟩);refine ah (sy (k:=.u32) rfl) (gj hO (acW _ _ _) ?_);intro q2 H hO;refine KQ (l:=[17,19]) (dy _) (by simp_all) (by simp) hO (j:=_+0) (aA rfl) ?_;rw[append_assoc (ae++_)]at hO;refine⟨ke hO,ke hO,?_⟩;refine ah (xT (k:=.u32) (n:=10) rfl (by decide)) (ah (mV (k:=.u32) rfl (Gv (dy _)) (Nat.lt_of_le_of_lt (div_le_self _ _) (dy _))) (ah (sy (k:=.u32) rfl) (ah (fy (by omega) (by omega)) ?_)))
 rw[Int.toNat_natCast];rw[append_assoc ae,append_assoc [_,_]]at hO;refine fm hO (ae.length+1) BK rfl (by grind[DY]) rfl ?_;intro H hO
 replace hO:=ed (R:=_) (by
  unfold tn;rw[if_neg (by omega)];generalize pa ((hU b y).getD (y-15) 0) [7,18] ^^^ (hU b y).getD (y-15) 0/2^3=X;generalize pa ((hU b y).getD (y-2) 0) [17,19] ^^^ (hU b y).getD (y-2) 0/2^10=h5;have zG:gk .u32=4294967296:=rfl
  simp_all) hO
 repeat refine bD ?_
 exact⟨_,by omega,y+1,_,by omega,rfl,rfl,hO⟩;have lI:y=64:=by omega
 subst lI;refine km rfl ?_
 try simp only[cu,cv]
 refine fs hO (ae.length+1) BK (DY (by omega)) (by omega) (e7 hO (ae.length+0) (aA rfl) (by simp) (DY (by omega)) (by simp[kW,eA]) ?_);intro H hO
 replace hO:=hO.cb
 exact fs hO (ae.length+0) (aA rfl) (DY (by omega)) (by omega) (ag _ hO.left)
end J
namespace J
open Go Go.Ab
variable[cr:bW]
variable{H:ar}{ae bX:List (Nat×ay)}{ab:VH}{v w x:Value}{b:List Int}{j:Nat}{e:Int}
theorem atK{o n c i q dr fI dR:Nat}{ao:List Value}{ab:VH}(hO:aj H ae)(aq:ae[i]?=some (q,⟨ao,true⟩))(aR:fI<=n)(bS:0<fI)(aE:o+n<=ao.length)(sD:dr+fI<=ao.length)(h1:ao.all eA=true)
  (ag:∀aa,aj aa (ae.set i (q,⟨ao.take o++((ao.drop dr).take fI++ao.drop (o+fI)),true⟩))->ab (int fI) aa):af (qF 1 (aC q o n c) (aC q dr fI dR) H) ab:=by
 have hlen:((ao.drop dr).take fI).length=fI:=by grind
 obtain⟨aa,aM,aw⟩:=FW hO (o:=o) (vs:=(ao.drop dr).take fI) aq (by omega) (by grind);unfold qF;simp only[show mM (aC q dr fI dR)=some fI from rfl];have hm:Nat.min fI n=fI:=Nat.min_eq_left aR;rw[hm];have an:Nat.beq fI 0=false:=by grind[eq_of_beq_eq_true]
 rw[an];simp only[Bool.false_eq_true,if_false];have hg:=hO.at i aq (.inl rfl);have he:r7 H 1 fI (aC q dr fI dR)=some ((ao.drop dr).take (fI*1)):=Dq hg (by simp_all);rw[he,Nat.mul_one];simp only;rw[aM];refine bV (show some (Value.int .i64 ((fI:Nat):Int),aa)=_ from rfl) ?_;rw[hlen]at aw;exact ag _ aw
theorem atL(x:W8):(i7 x).all fE=true:=rfl
theorem KS(x:W8):(i7 x).all eA=true:=rfl
theorem atM:(j3.map fun(n:Nat)=>u32 n).all fE=true:=by rfl
theorem atN{i:Nat}(h:i<64):(j3.map fun(n:Nat)=>u32 n)[i]?=some (u32 (j3.getD i 0)):=by
 have aE:j3.length=64:=rfl
 grind
theorem atO(i:Nat):j3.getD i 0<4294967296:=BJ (by decide) i
theorem atP(x:W8)(k w:Nat):
  ((((x.h+pa x.e [6,11,25])%4294967296+zE x.e x.f x.g)%4294967296+k)%4294967296+w)%4294967296=yg x k w:=by
 simp_all[yg]
theorem atQ{bw cM fo yh dC:Nat}{s:W8}{gQ:List Nat}{bL:LX}{cy:LN}(aw:s.b6)(aM:∀x∈gQ,x<4294967296)(D0:gQ.length=64){acZ ac0:Nat}(cj:ae[acZ]?=some (fo,⟨kW gQ,true⟩))(mZ:ae[ac0]?=some (yh,⟨j3.map fun(n:Nat)=>u32 n,true⟩))
  (hO:aj H (ae++[(dC,⟨i7 s,true⟩)])) (ag:∀aa bX,aj aa ((ae++[(dC,⟨i7 (rU gQ s 64),true⟩)])++bX)->bL 0 [ai bw 0,ai cM 0,ai dC 0] aa):
  eI P true 97 Qh 148 [ai bw 0,ai cM 0,ai fo 0,ai yh 0,ai dC 0,int 0] H bL cy:=by
 refine arW (fun k aF aa=>∃(y:Nat) (bX:List (Nat×ay)),y<=64/\k=64-y/\aF=[ai bw 0,ai cM 0,ai fo 0,ai yh 0,ai dC 0,int y]/\aj aa ((ae++[(dC,⟨i7 (rU gQ s y),true⟩)])++bX)) _ _ ?_ 64 _ _ ⟨0,[],by omega,rfl,rfl,by rw[append_nil];exact hO⟩;rintro k aF H ⟨y,bX,a8,rfl,rfl,hO⟩;unfold abP
 try simp only[cu,cv]
 refine ah ez (bz (fun h=>?_) (fun h=>?_))
 rotate_left
 ·have lI:y=64:=by omega
  subst lI;exact ag _ _ hO
 have ga:=Gw (w:=gQ) aw y;have atS:gQ.getD y 0<4294967296:=BJ aM y;have bA:rU gQ s (y+1)=Gu (rU gQ s y) (j3.getD y 0) (gQ.getD y 0):=rfl;generalize rU gQ s y=x at*;have pM:∀ {R:List (Nat×ay)},(((ae++[(dC,(⟨i7 x,true⟩:ay))])++bX)++R)[ae.length+0]?=some (dC,⟨i7 x,true⟩):=aK (aK (aA rfl));have KT:((ae++[(dC,(⟨i7 x,true⟩:ay))])++bX)[ae.length+0]?=some (dC,⟨i7 x,true⟩):=aK (aA rfl);have kA:∀ {R:List (Nat×ay)},(((ae++[(dC,(⟨i7 x,true⟩:ay))])++bX)++R)[acZ]?=some (fo,⟨kW gQ,true⟩):=aK (aK (aK cj));have i16:∀ {R:List (Nat×ay)},(((ae++[(dC,(⟨i7 x,true⟩:ay))])++bX)++R)[ac0]?=some (yh,⟨j3.map fun(n:Nat)=>u32 n,true⟩):=aK (aK (aK mZ));have ac1:dC<H.next:=hO.lt _ (mem_of_getElem? KT);have atT:fo<H.next:=hO.lt _ (mem_of_getElem? (aK (aK cj)));have atU:yh<H.next:=hO.lt _ (mem_of_getElem? (aK (aK mZ)));have BL:∀ {br:ar} {R:List (Nat×ay)} {o:Nat},aj br (((ae++[(dC,(⟨i7 x,true⟩:ay))])++bX)++R)->ea (dV br br) (b9 [ai dC o]):=fun h1=>gu h1 _ pM h1 _ pM (atL x)
 have atV:∀ {br:ar} {R:List (Nat×ay)} {o:Nat},aj br (((ae++[(dC,(⟨i7 x,true⟩:ay))])++bX)++R)->ea (dV br br) (b9 [ai fo o]):=fun h1=>gu h1 _ kA h1 _ kA acY
 have atW:∀ {br:ar} {R:List (Nat×ay)} {o:Nat},aj br (((ae++[(dC,(⟨i7 x,true⟩:ay))])++bX)++R)->ea (dV br br) (b9 [ai yh o]):=fun h1=>gu h1 _ i16 h1 _ i16 atM
 have zG:gk .u32=4294967296:=rfl;refine ah (fy (by omega) (by omega)) (aP hO _ KT (v:=u32 x.a) rfl (ah (fy (by omega) (by omega)) (aP hO _ KT (v:=u32 x.e) rfl (ah (fy (by omega) (by omega)) (aP hO _ KT (v:=u32 x.h) rfl (gj hO (acX _ _ _ _) ?_))))));intro q cB hO;refine KQ (l:=[6,11,25]) ga.e (by simp_all) (by simp) hO (j:=_+0) (aA rfl) (⟨BL hO,?_⟩);refine ah (sy (k:=.u32) rfl) (ah (fy (by omega) (by omega)) (aP hO _ pM (v:=u32 x.f) rfl (⟨BL hO,tq ac1,?_⟩)));refine ah (vu (k:=.u32) rfl ga.e ga.f) (ah (alP (k:=.u32) rfl ga.e) (ah (fy (by omega) (by omega)) (aP hO _ pM (v:=u32 x.g) rfl (⟨BL hO,tq ac1,?_⟩))));have da:gk .u32-1-x.e<gk .u32:=by omega
 refine ah (vu (k:=.u32) rfl da ga.g) (ah (mV (k:=.u32) rfl (and_lt_two_pow (n:=32) _ ga.f) (and_lt_two_pow (n:=32) _ ga.g)) (ah (sy (k:=.u32) rfl) (ah Wa (ah (fy (by omega) (by omega)) ?_))));rw[Int.toNat_natCast];refine aP hO _ i16 (v:=u32 (j3.getD y 0)) (by grind[atN]) (⟨atW hO,tq atU,?_⟩);refine ah (sy (k:=.u32) rfl) (ah (fy (by omega) (by omega)) ?_);rw[Int.toNat_natCast];refine aP hO _ kA (v:=u32 (gQ.getD y 0)) (by grind[GA]) (⟨atV hO,tq atT,?_⟩);refine ah (sy (k:=.u32) rfl) ?_;have atX:=atP x (j3.getD y 0) (gQ.getD y 0);rw[zG,show(x.e&&&x.f) ^^^ ((4294967296-1-x.e)&&&x.g)=zE x.e x.f x.g from rfl,atX];have KU:dC<cB.next:=hO.lt _ (mem_of_getElem? pM);refine gj hO (acX _ _ _ _) ?_;intro q2 iN hO;refine KQ (l:=[2,13,22]) ga.a (by simp_all) (by simp) hO (j:=_+0) (aA rfl) ?_;rw[append_assoc (_++bX)]at hO;refine ah (fy (by omega) (by omega)) (aP hO _ pM (v:=u32 x.b) rfl (⟨BL hO,tq KU,?_⟩));refine ah (vu (k:=.u32) rfl ga.a ga.b) (ah (fy (by omega) (by omega)) (aP hO _ pM (v:=u32 x.c) rfl (⟨BL hO,tq KU,?_⟩)));refine ah (vu (k:=.u32) rfl ga.a ga.c) (ah (mV (k:=.u32) rfl (and_lt_two_pow (n:=32) _ ga.b) (and_lt_two_pow (n:=32) _ ga.c)) (ah (fy (by omega) (by omega)) (aP hO _ pM (v:=u32 x.b) rfl (⟨BL hO,tq KU,?_⟩))));refine ah (fy (by omega) (by omega)) (aP hO _ pM (v:=u32 x.c) rfl (⟨BL hO,tq KU,?_⟩))
 refine ah (vu (k:=.u32) rfl ga.b ga.c) (ah (mV (k:=.u32) rfl (xor_lt_two_pow (n:=32) (and_lt_two_pow (n:=32) _ ga.b) (and_lt_two_pow (n:=32) _ ga.c)) (and_lt_two_pow (n:=32) _ ga.c)) (ah (sy (k:=.u32) rfl) ?_));rw[zG,show((x.a&&&x.b) ^^^ (x.a&&&x.c)) ^^^ (x.b&&&x.c)=BF x.a x.b x.c from rfl,show(pa x.a [2,13,22]+BF x.a x.b x.c)%4294967296=KO x from rfl];have hg:=hO.at _ pM (.inl rfl);refine ah (show l1 8 1 (ai dC 0) (some (int 1)) none none iN=some (aC dC 1 7 3) by unfold l1;simp only[hg];rfl) (ah (show l1 8 1 (ai dC 0) none (some (int 7)) none iN=some (aC dC 0 7 2) by unfold l1;simp only[hg];rfl) (atK hO pM (by omega) (by omega) (show 1+7<=8 by omega) (show 0+7<=8 by omega) (KS x) ?_));intro uf hO;have QD:∀ {c b5:List Value} {R:List (Nat×ay)},((((ae++[(dC,(⟨c,true⟩:ay))])++bX)++R).set (ae.length+0) (dC,⟨b5,true⟩))=(((ae++[(dC,(⟨b5,true⟩:ay))])++bX)++R):=by simp_all
 have QE:∀ {c:List Value} {R:List (Nat×ay)},(((ae++[(dC,(⟨c,true⟩:ay))])++bX)++R)[ae.length+0]?=some (dC,⟨c,true⟩):=aK (aK (aA rfl));rw[QD]at hO;refine ah (fy (by omega) (by omega)) (aP hO _ QE (v:=u32 x.d) rfl (ah (sy (k:=.u32) rfl) (ah (fy (by omega) (by omega)) (fm hO _ QE rfl (show 4<8 by omega) (show _=[u32 x.a,u32 x.a,u32 x.b,u32 x.c,u32 ((x.d+yg x (j3.getD y 0) (gQ.getD y 0))%4294967296),u32 x.e,u32 x.f,u32 x.g]from rfl) ?_))));intro acn hO;rw[QD]at hO;refine ah (sy (k:=.u32) rfl) (ah (fy (by omega) (by omega)) (fm hO _ QE rfl (show 0<8 by omega) (show _=i7 (Gu x (j3.getD y 0) (gQ.getD y 0))from rfl) ?_));intro xX hO;rw[QD]at hO
 repeat refine bD ?_
 rw[append_assoc (ae++_),<- bA]at hO;exact⟨64-(y+1),by omega,y+1,_,by omega,rfl,rfl,hO⟩
end J
namespace J
open Go Go.Ab
variable[cr:bW]
variable{H:ar}{ae bX:List (Nat×ay)}{ab:VH}{v w x:Value}{b:List Int}
theorem ac2{l:List Value}{i:Nat}{v:Value}(h:l[i]?=some v):i<l.length:=(List.getElem?_eq_some_iff.1 h).1
def rV(a b:List Nat)(y:Nat):List Nat:=(List.range a.length).map fun i=>if i<y then(a.getD i 0+b.getD i 0)%4294967296 else a.getD i 0
theorem ac3{a b:List Nat}{y:Nat}:(rV a b y).length=a.length:=by simp_all[rV]
theorem KV{a b:List Nat}{y i:Nat}(h:i<a.length):(rV a b y)[i]?=some (if i<y then(a.getD i 0+b.getD i 0)%4294967296 else a.getD i 0):=by simp_all[rV]
theorem ac4{a b:List Nat}{y:Nat}(h:y<a.length):(rV a b y).set y ((a.getD y 0+b.getD y 0)%4294967296)=rV a b (y+1):=by
 apply ext_getElem?;intro i;rw[List.getElem?_set];by_cases aq:i<a.length;rw[KV aq,KV aq];by_cases he:y=i
 simp_all[ac3]
 grind
 simp_all[ac3]
theorem ac5{s R:W8}:rV s.l R.l 8=(DX s R).l:=rfl
theorem atY{s R:W8}{bw cM dC:Nat}{T:List (Nat×ay)}{bL:LX}{cy:LN}(pM:T[2]?=some (dC,⟨i7 R,true⟩))
  (hO:aj H (ae++([(bw,⟨i7 s,true⟩),(cM,⟨List.replicate 8 (u32 0),true⟩)]++T)))
  (ag:∀aa,aj aa (ae++([(bw,⟨i7 (DX s R),true⟩),(cM,⟨List.replicate 8 (u32 0),true⟩)]++T))->bL 2 [ai bw 0,ai cM 0] aa):
  eI P true 97 Qi 20 [ai bw 0,ai cM 0,ai dC 0,int 0] H bL cy:=by
 refine arX (fun k aF aa=>∃(y:Nat),y<=8/\k=8-y/\aF=[ai bw 0,ai cM 0,ai dC 0,int y]/\aj aa (ae++([(bw,⟨(rV s.l R.l y).map fun(n:Nat)=>u32 n,true⟩),(cM,⟨List.replicate 8 (u32 0),true⟩)]++T))) _ _ ?_ 8 _ _ ⟨0,by omega,rfl,rfl,hO⟩;rintro k aF H ⟨y,a8,rfl,rfl,hO⟩;unfold abQ
 try simp only[cu,cv]
 have Kb:s.l.length=8:=rfl;have ac6:R.l.length=8:=rfl;refine ah ez (bz (fun h=>?_) (fun h=>?_));have zH:y<8:=by omega
 have zG:gk .u32=4294967296:=rfl;have c1:((rV s.l R.l y).map fun(n:Nat)=>u32 n)[0+y*1]?=some (u32 (s.l.getD y 0)):=by simp_all[KV]
 have c2:(i7 R)[0+y*1]?=some (u32 (R.l.getD y 0)):=by simp_all[i7]
 have a3:((rV s.l R.l y).map fun(n:Nat)=>u32 n).set (0+y*1) (u32 ((s.l.getD y 0+R.l.getD y 0)%4294967296))=(rV s.l R.l (y+1)).map fun(n:Nat)=>u32 n:=by grind[ac4,map_set]
 refine ah (fy (by omega) (by omega)) ?_;rw[Int.toNat_natCast];refine aP hO (ae.length+0) (aA rfl) c1 (ah (fy (by omega) (by omega)) ?_);rw[Int.toNat_natCast];refine aP hO (ae.length+(2+2)) (aA (aA (ae:=[_,_]) pM)) c2 (ah (sy (k:=.u32) rfl) (ah (fy (by omega) (by omega)) ?_));rw[Int.toNat_natCast,zG];refine fm hO (ae.length+0) (aA rfl) rfl (ac2 c1) a3 ?_;intro H hO
 replace hO:=hO.cb
 repeat refine bD ?_
 exact⟨_,by omega,y+1,by omega,rfl,rfl,hO⟩;have lI:y=8:=by omega
 subst lI;rw[ac5]at hO;exact ag _ hO
theorem atZ{s:W8}(aw:s.b6)(hO:aj H ae)(hv:b3 ae v b)(an:∀x∈b,0<=x/\x<=255)(aE:b.length=64)(ag:∀aa,aj aa ae->ab (agg (i7 (BG s b))) aa):az P 260 [agg (i7 s),v] H ab:=by
 apply arY;unfold abR;refine c4 hO ?_;intro bw H hO;rw[acU];refine c4 hO ?_;intro cM H hO;rw[append_assoc]at hO
 replace hO:aj H (ae++[(bw,⟨i7 s,true⟩),(cM,⟨List.replicate 8 (u32 0),true⟩)]):=hO
 refine atJ hO hv.app an aE ?_;intro H hO;refine atG hO ?_;intro H yh hO;rw[acV];refine c4 hO ?_;intro fo H hO;have D0:(hU b 64).length=64:=Gy 64;refine e7 hO (_+0) (aA rfl) (by simp) (DY (by omega)) (by simp[kW,eA]) ?_;intro H hO
 replace hO:=hO.cb
 refine fs hO (ae.length+0) (aK (aK (aA rfl))) rfl (by omega) (c4 hO ?_);intro dC H hO;refine e7 hO (_+0) (aA rfl) (by simp) rfl (KS s) ?_;intro H hO
 replace hO:=hO.cb
 refine atQ (gQ:=hU b 64) aw (Gz an 64) D0 (aA (k:=0) rfl) (aK (aA (k:=0) rfl)) hO ?_;intro H bX hO;refine km rfl ?_
 try simp only[cu,cv]
 generalize aQ:rU (hU b 64) s 64=R at*;have bC:=Gw (w:=hU b 64) aw 64;have hm:BG s b=DX s R:=by simp_all[BG]
 replace hO:aj H (ae++([(bw,⟨i7 s,true⟩),(cM,⟨List.replicate 8 (u32 0),true⟩)]++([(yh,⟨j3.map fun(n:Nat)=>u32 n,true⟩)]++([(fo,⟨kW (hU b 64),true⟩)]++([(dC,⟨i7 R,true⟩)]++bX))))):=by have h2:=hO;simp only[append_assoc]at h2;exact h2
 obtain⟨T,bd⟩:∃T,T=([(yh,(⟨j3.map fun(n:Nat)=>u32 n,true⟩:ay))]++([(fo,⟨kW (hU b 64),true⟩)]++([(dC,⟨i7 R,true⟩)]++bX))):=⟨_,rfl⟩;have pM:T[2]?=some (dC,⟨i7 R,true⟩):=by rw[bd];rfl
 rw[<- bd]at hO;refine atY pM hO ?_;intro H hO;rw[<- hm]at hO;refine km rfl ?_
 try simp only[cu,cv]
 refine fs hO (ae.length+0) (aA rfl) rfl (by omega) (e7 hO (ae.length+1) (aA rfl) rfl rfl (KS _) ?_);intro H hO
 replace hO:=hO.cb
 exact fs hO (ae.length+1) (aA rfl) rfl (by omega) (ag _ hO.left)
end J
namespace J
open Go Go.Ab
variable[cr:bW]
variable{H:ar}{ae:List (Nat×ay)}{ab:VH}{v w x:Value}{ak aX jj b:List Int}{j p ba:Nat}{e:Int}{ao:List Value}
def q1(v:Value)(ak:List Int)(ao:List Value):Prop:=
 (v=bq/\ak=[]/\ao=[])\/∃p o,(v=aC p o ak.length 2\/v=aC p o ak.length 3)/\(ao.drop o).take ak.length=a1 ak/\o+ak.length<=ao.length/\ao.all fE=true
theorem e8.o(h:e8 v ak ao):q1 v ak ao:=by
 rcases h with h|⟨p,h1,h2,aB,bk⟩
 exact .inl h;refine .inr ⟨p,0,?_,by simp_all,by omega,bk⟩
 grind
theorem q1.hF(h:q1 v ak ao):b3 (bB v ao) v ak:=by
 rcases h with⟨rfl,rfl,_⟩|⟨p,o,h1|h1,h2,aB,bk⟩
 exact .nil;subst h1;exact .inr ⟨p,o,2,rfl,.inl rfl,.inr ⟨0,⟨ao,true⟩,rfl,h2⟩⟩;subst h1;exact .inr ⟨p,o,3,rfl,.inr rfl,.inr ⟨0,⟨ao,true⟩,rfl,h2⟩⟩
theorem at0(hO:aj H (ae++bB v ao))(hv:q1 v ak ao)(al:b3 ae x aX)(aE:ak.length+aX.length<=1000000000)
  (ag:∀aa aH bu,aj aa (ae++bB aH bu)->q1 aH (ak++aX) bu->ab aH aa):af (fu 1 1 v x H) ab:=by
 rcases hv with⟨rfl,rfl,rfl⟩|⟨p,o,hv,h2,aB,bk⟩
 exact tf (ak:=[]) hO .nil al aE fun aa aH bu h1 h2=>ag aa aH bu h1 (e8.o h2)
 unfold fu;simp only[al.mM,al.app.pB hO];by_cases a8:aX=[];subst a8;rw[append_nil]at ag;have e:qE 1 1 v ([]:List Value) 0 H=some (v,H):=by unfold qE;rcases hv with rfl|rfl<;>rfl
 exact bV (show qE 1 1 v ([]:List Value) 0 H=some (v,H)from e) (ag _ _ _ hO (.inr ⟨p,o,hv,h2,aB,bk⟩));have Bi:0<aX.length:=length_pos_iff.2 a8;have qR:Nat.beq aX.length 0=false:=by grind[eq_of_beq_eq_true]
 have h1:(a1 aX).all eA=true:=by simp[eA]
 have xO:∀p,q1 (aC p 0 (ak.length+aX.length) 2) (ak++aX) (a1 ak++a1 aX):=fun p=>by
  refine .inr ⟨p,0,.inl (by simp_all),?_,by simp,by simp[fE,sv]⟩
  grind
 unfold qE;have pH:bB v ao=[(p,⟨ao,true⟩)]:=by rcases hv with rfl|rfl<;>rfl
 rw[pH]at hO;have aq:(ae++[(p,(⟨ao,true⟩:ay))])[ae.length]?=some (p,⟨ao,true⟩):=by simp
 have nL:=hO.at _ aq (.inl rfl);rcases hv with rfl|rfl
 have zj:=hO.gG aq;have he:(ae++[(p,(⟨ao,true⟩:ay))]).eraseIdx ae.length=ae:=by grind
 rw[he]at zj;simp only[qR,Bool.false_eq_true,if_false];rw[if_pos (wz (by omega) (by omega))];rw[if_neg (show¬Nat.beq 2 (2*1+1)=true by decide),if_pos (show Nat.beq 2 (2*1)=true by decide)];unfold Am;rw[nL];have e:(ar.nZ H p ⟨ao,true⟩&&(Nat.ble (o+ak.length*1) (fG ao)&&jM eA (a1 aX)))=true:=by unfold ar.nZ;rw[hO.ck,gE,j0,h1,lR,lR,decide_eq_true (by omega:o+ak.length*1<=ao.length)];simp
 simp only[e];have bt:hP (qD (p1 ao (o+ak.length*1)) o) (a1 aX)=a1 ak++a1 aX:=by simp_all[iv,nh,mj,drop_take]
 rw[bt];exact bV (show lO (a1 ak++a1 aX) (ak.length+aX.length) (2*1) (H.set p none)=some (aC H.next 0 (ak.length+aX.length) 2,(H.set p none).push (a1 ak++a1 aX))from rfl) (ag _ _ _ (zj.push _) (xO _));simp only[qR,Bool.false_eq_true,if_false];rw[if_pos (wz (by omega) (by omega))];rw[if_pos (show Nat.beq 3 (2*1+1)=true by decide)];unfold yH;have dZ:(if Nat.beq ak.length 0=true then some []else r5 H p o (ak.length*1))=some (a1 ak):=by simp_all[AA,xb,mj,nh,gE]
 rw[dZ];simp only[iv];exact bV (show lO (a1 ak++a1 aX) (ak.length+aX.length) (2*1) H=some (aC H.next 0 (ak.length+aX.length) 2,H.push (a1 ak++a1 aX))from rfl) (ag _ _ _ (hO.left.push _) (xO _))
theorem KW{len n:Nat}(h:n<=len):qG len (some (int (n:Int)))=some n:=by
 show(match j7 0 (n:Int)with|true=>(match Nat.ble (n:Int).toNat len with|true=>some (n:Int).toNat|false=>none)|false=>none)=_
 simp_all[k9,ble_eq_true_of_le]
theorem at1(h:q1 v ak ao){n:Nat}(aR:n<=ak.length)(bS:0<n):∃aH,gL 1 v (some (int n)) none none=some aH/\q1 aH (ak.drop n) ao/\bB aH ao=bB v ao:=by
 rcases h with⟨rfl,rfl,_⟩|⟨p,o,hv,h2,aB,bk⟩
 simp_all
 have an:=KW aR;have ed:∀c,(c=2\/c=3)->gL 1 (aC p o ak.length c) (some (int n)) none none=some (aC p (o+n) (ak.length-n) c):=by simp_all[gL,n2,r9,ru]
 have aO:(ao.drop (o+n)).take (ak.drop n).length=a1 (ak.drop n):=by
  have:=congrArg (List.drop n) h2;rw[drop_take,drop_drop]at this
  simp_all
 rcases hv with rfl|rfl
 exact⟨_,ed 2 (.inl rfl),.inr ⟨p,o+n,.inl (by simp_all),aO,by grind,bk⟩,rfl⟩;exact⟨_,ed 3 (.inr rfl),.inr ⟨p,o+n,.inr (by simp_all),aO,by grind,bk⟩,rfl⟩
def sE(s:W8)(fK:Value)(n:Nat):List Value:=i7 s++[fK,bQ .u64 n]
abbrev nb(ba:Nat)(s:W8)(fK:Value)(n:Nat)(ao:List Value):List (Nat×ay):=[(ba,⟨sE s fK n,true⟩)]++bB fK ao
theorem QF(h:q1 v ak ao):∃a n c,v=.slice a n c:=by rcases h with⟨rfl,_⟩|⟨p,o,rfl|rfl,_⟩<;>exact⟨_,_,_,rfl⟩
theorem nc{a b:List Int}(bp:∀x∈a,0<=x/\x<=255)(an:∀x∈b,0<=x/\x<=255):∀x∈a++b,0<=x/\x<=255:=fun x al=>by grind
theorem at5{fK:Value}(hO:aj H (ae++nb ba (mx ak) fK ak.length ao))(hv:q1 fK (BI ak) ao)(aM:b3 ae w aX)(al:∀x∈ak,0<=x/\x<=255)(a8:∀x∈aX,0<=x/\x<=255)(aE:ak.length<=100000000)(sD:aX.length<=100000000)
  (ag:∀aa BM bu,aj aa (ae++nb ba (mx (ak++aX)) BM (ak++aX).length bu)->q1 BM (BI (ak++aX)) bu->ab (.tuple [].toArray) aa):az P 235 [ai ba 0,w] H ab:=by
 apply arC;unfold abw;rw[<- append_assoc]at hO;refine aU (aP hO (ae.length+0) (aK (aA rfl)) (v:=bQ .u64 ak.length) rfl (bV aM.bP (bV (DA (by omega) (by omega)) ?_)));rw[Int.toNat_natCast];refine ah (sy (k:=.u64) rfl) ?_;rw[mod_eq_of_lt (show ak.length+aX.length<gk .u64 from(show _<18446744073709551616 by omega))];refine aU (fm hO (ae.length+0) (aK (aA rfl)) rfl (show 9<10 by omega) (show _=sE (mx ak) fK (ak.length+aX.length)from rfl) ?_);intro H hO;rw[set_append_left _ _ (by simp),Go.Ab.cb]at hO
 replace hO:aj H ((ae++[(ba,⟨sE (mx ak) fK (ak.length+aX.length),true⟩)])++bB fK ao):=hO
 refine aU (aP hO (ae.length+0) (aK (aA rfl)) (v:=fK) rfl ?_);have D9:=QC (ak:=ak);refine at0 hO hv aM.app (by omega) ?_;intro H yi kR hO jG;refine aU ?_;obtain⟨a0,hc,pw,ic⟩:=QF jG;refine fm hO (ae.length+0) (aK (aA rfl)) (by rw[ic];rfl) (show 8<10 by omega) (show _=sE (mx ak) yi (ak.length+aX.length)from rfl) ?_;intro H hO;rw[set_append_left _ _ (by simp),Go.Ab.cb]at hO
 replace hO:aj H ((ae++[(ba,⟨sE (mx ak) yi (ak.length+aX.length),true⟩)])++bB yi kR):=hO
 have ob:(ak++aX).length=ak.length+aX.length:=length_append;have dQ:=nc al a8;have bb:mx ak=pN (ak++aX) (ak.length/64):=(acT _ (by omega)).symm;have bt:BI ak++aX=(ak++aX).drop (64*(ak.length/64)):=by grind[BI]
 rw[bb]at hO;rw[bt]at jG;rw[<- ob]at hO;generalize aDr:ak++aX=jj at*;refine arB (fun k aF aa=>∃(m:Nat) (fK:Value) (ao:List Value),64*m<=jj.length/\k=jj.length/64-m/\aF=[ai ba 0]/\aj aa ((ae++[(ba,⟨sE (pN jj m) fK jj.length,true⟩)])++bB fK ao)/\q1 fK (jj.drop (64*m)) ao) _ _ ?_ (jj.length/64-ak.length/64) _ _ ⟨ak.length/64,yi,kR,by omega,rfl,rfl,hO,jG⟩;rintro k aF H ⟨m,fK,ao,hm,rfl,rfl,hO,hv⟩;unfold abv
 try simp only[cu,cv]
 refine aU (aP hO (ae.length+0) (aK (aA rfl)) (v:=fK) rfl (bV hv.hF.bP (ah ss ?_)));rw[length_drop];refine bz (fun h=>?_) (fun h=>?_);refine aU (hG hO (ae.length+0) (aK (aA rfl)) (show _=i7 (pN jj m)from rfl) rfl (by omega) (aU (aP hO (ae.length+0) (aK (aA rfl)) (v:=fK) rfl ?_)));obtain⟨at6,at7,a7⟩:=wM (n:=64) hv.hF (by grind);refine ah at7 ?_;have lT:b3 ((ae++[(ba,(⟨sE (pN jj m) fK jj.length,true⟩:ay))])++bB fK ao) at6 ((jj.drop (64*m)).take 64):=(a7 _ hv.hF).app';refine atZ (Gx m) hO lT (fun x al=>dQ x (mem_of_mem_drop (mem_of_mem_take al))) (by grind) ?_;intro H hO;refine aU (o0 hO (ae.length+0) (aK (aA rfl)) (show(cZ (agg (i7 (BG (pN jj m) ((jj.drop (64*m)).take 64))))).length=8 from rfl) (show 0+8<=10 by omega) (KS _) ?_);intro H hO;rw[set_append_left _ _ (by simp),Go.Ab.cb]at hO
 replace hO:aj H ((ae++[(ba,⟨sE (pN jj (m+1)) fK jj.length,true⟩)])++bB fK ao):=hO
 refine aU (aP hO (ae.length+0) (aK (aA rfl)) (v:=fK) rfl ?_);obtain⟨v3,dZ,hn,hB⟩:=at1 (n:=64) hv (by grind) (by omega);refine ah dZ (aU ?_);obtain⟨a0,hc,pw,ic⟩:=QF hn;refine fm hO (ae.length+0) (aK (aA rfl)) (by rw[ic];rfl) (show 8<10 by omega) (show _=sE (pN jj (m+1)) v3 jj.length from rfl) ?_
 grind[drop_drop]
 have em:m=jj.length/64:=by omega
 subst em;refine km rfl (ag H fK ao ?_ hv);rw[<- append_assoc];exact hO
theorem at8(s:W8)(a:Option Addr)(n c:Nat)(m:Nat):(c9 P 391).f [(0,agg (i7 s)),(1,.slice a n c),(2,bQ .u64 m)]=some (agg (sE s (.slice a n c) m)):=by rfl
theorem at9(s:W8):(c9 P 391).f [(0,agg (i7 s))]=some (agg (sE s bq 0)):=by rfl
theorem KX(hO:aj H ae)(ag:∀aa ba,aj aa (ae++nb ba (mx []) bq ([]:List Int).length [])->ab (ai ba 0) aa):az P 234 [] H ab:=by apply arA;unfold abt;refine atH hO ?_;intro H hO;refine ah (at9 _) (c4 hO ?_);intro ba H hO;exact ag H ba hO
theorem aj.KY{i j p q:Nat}{b c0:ay}(h:aj H ae)(aq:ae[i]?=some (p,b))(bh:ae[j]?=some (q,c0))(p9:i≠j):p≠q:=by
 intro e;subst e;have eZ:(ae.map (·.1))[i]?=some p:=by simp_all
 have fI:(ae.map (·.1))[j]?=some p:=by simp_all
 have dy:i<(ae.map (·.1)).length:=by grind
 exact p9 ((List.getElem?_inj dy h.su).1 (eZ.trans fI.symm))
theorem QG{p o:Nat}{fK:Value}{bK:List Value}(hO:aj H ((ae++[(p,(⟨bK,true⟩:ay))])++bB fK ao))(hv:q1 fK ak ao):pG (b9 [ai p o]) (b9 [.slice none 0 0,fK])/\pG (b9 [.slice none 0 0,fK]) (b9 [ai p o]):=by
 rcases hv with⟨rfl,_,_⟩|⟨q,dr,hv,_⟩
 exact⟨(by first|rfl|trivial),(by first|rfl|trivial)⟩;have pH:bB fK ao=[(q,⟨ao,true⟩)]:=by rcases hv with rfl|rfl<;>rfl
 rw[pH]at hO;have da:p≠q:=aj.KY hO (i:=ae.length+0) (j:=(ae++[(p,(⟨bK,true⟩:ay))]).length+0) (aK (aA rfl)) (aA rfl) (by simp);have bb:Nat.beq p q=false:=by grind[eq_of_beq_eq_true]
 have bt:Nat.beq q p=false:=by grind[eq_of_beq_eq_true]
 rcases hv with rfl|rfl
 exact⟨by show nJ [p] [q]=true;grind[nJ,j0,sb],by show nJ [q] [p]=true;grind[nJ,j0,sb]⟩;exact⟨by show nJ [p] [q]=true;grind[nJ,j0,sb],by show nJ [q] [p]=true;grind[nJ,j0,sb]⟩
end J
namespace J
open Go Go.Ab
variable[cr:bW]
variable{H:ar}{ae bX:List (Nat×ay)}{ab:VH}{v w x:Value}{ak bs:List Int}{ba:Nat}{ao:List Value}
theorem aua{s:W8}{fK:Value}{n:Nat}(hO:aj H ((ae++nb ba s fK n ao)++bX))(hv:q1 fK ak ao)(aE:ak.length<=1000000000)
  (ag:∀aa ac7 BM bu,aj aa (((ae++nb ba s fK n ao)++bX)++nb ac7 s BM n bu)->q1 BM ak bu->ab (ai ac7 0) aa):az P 251 [ai ba 0] H ab:=by
 apply arL;unfold abD;have hA:aj H ((ae++[(ba,⟨sE s fK n,true⟩)])++bB fK ao):=by rw[append_assoc];exact hO.left
 have IQ:=QG (o:=8) hA hv;have aub:=QG (o:=9) hA hv;have auc:=QG (o:=0) hA hv;have oa:∀ {R:List (Nat×ay)},(((ae++nb ba s fK n ao)++bX)++R)[ae.length+0]?=some (ba,⟨sE s fK n,true⟩):=aK (aK (aA rfl));have QH:((ae++nb ba s fK n ao)++bX)[ae.length+0]?=some (ba,⟨sE s fK n,true⟩):=aK (aA rfl);have dy:ba<H.next:=hO.lt _ (mem_of_getElem? QH);refine aU (hG hO _ QH (show _=i7 s from rfl) rfl (by omega) (aU (aP hO _ QH (v:=fK) rfl ?_)));have lT:b3 ((ae++nb ba s fK n ao)++bX) fK ak:=by
  have h1:b3 (ae++nb ba s fK n ao) fK ak:=by rw[<- append_assoc];exact hv.hF.app'
  exact h1.app
 have de:aj H (((ae++nb ba s fK n ao)++bX)++bB bq []):=by rw[show bB bq []=[]from rfl,append_nil];exact hO
 refine tf (ak:=[]) de .nil lT (by simpa using aE) ?_;intro cB yi kR hO jG;refine⟨auc.1,?_⟩;refine aU (aP hO _ oa (v:=bQ .u64 n) rfl (⟨aub.2,tq dy,?_⟩));have bC:=e8.o jG;obtain⟨a0,hc,pw,ic⟩:=QF bC;refine ah (by rw[ic];exact at8 s a0 hc pw n) ?_;rw[<- ic];refine c4 hO ?_;intro GB H hO;exact ag H GB yi kR (hO.e4 (by rw[append_assoc];exact List.Perm.append_left _ perm_append_comm)) bC
def ou(bs:List Int):List Value:=a1 bs++List.replicate (32-bs.length) (bQ .u8 0)
theorem ac8{bs:List Int}(h:bs.length<=32):(ou bs).length=32:=by grind[ou]
theorem ac9{bs:List Int}{x:Int}(h:bs.length<32):(ou bs).set bs.length (.int .u8 x)=ou (bs++[x]):=by
 unfold ou;rw[set_append_right _ _ (by simp)];obtain⟨m,hm⟩:∃m,32-bs.length=m+1:=⟨31-bs.length,by omega⟩
 grind
theorem ada{s:W8}:(ny s).length=32:=rfl
theorem adb:∀(l:List Nat) (m i:Nat),m<l.length->i<4->(l.flatMap zF)[4*m+i]?=(zF (l.getD m 0))[i]?
 | [],_,_,h,_=>absurd h (not_lt_zero _)
 | a::l,0,i,_,aq=>by rw[flatMap_cons,Nat.mul_zero,Nat.zero_add,List.getElem?_append_left (show i<(zF a).length from aq)];rfl
 | a::l,m+1,i,h,aq=>by rw[flatMap_cons,List.getElem?_append_right (show(zF a).length<=4*(m+1)+i by show 4<=_;omega),show 4*(m+1)+i-(zF a).length=4*m+i by show _-4=_;omega,adb l m i (by grind) aq];rfl
theorem aud{w i:Nat}(h:i<4):(zF w)[i]?=some (((w/2^(24-8*i)%256:Nat):Int)):=by
 rcases i with _|_|_|_|i
 rfl;rfl;rfl;show some ((w%256:Nat):Int)=some (((w/2^0%256:Nat):Int))
 simp_all
 omega
theorem ade{s:W8}{m i:Nat}(hm:m<8)(aq:i<4):(ny s).take (4*m+i)++[((s.l.getD m 0/2^(24-8*i)%256:Nat):Int)]=(ny s).take (4*m+i+1):=by
 have h1:=adb s.l m i (show m<8 from hm) aq
 simp_all[aud,take_add_one,ny]
theorem adf{n i:Nat}(h:i<8):(tp n)[i]?=some (((n/2^(56-8*i)%256:Nat):Int)):=by simp_all[tp]
theorem adg{n:Nat}:∀x∈tp n,0<=x/\x<=255:=by intro x al;obtain⟨i,_,rfl⟩:=mem_map.1 al;omega
theorem Ea{x:Int}(h:0<=x/\x<=255):∀y∈ [x],0<=y/\y<=255:=fun y a8=>by simp_all
theorem GC{n:Nat}:∀y∈List.replicate n (0:Int),0<=y/\y<=255:=fun y a8=>by simp_all
theorem Eb(x:Int)(H:ar):(eg P 22 1).f [(0,.int .u8 x)] H=some (aC H.next 0 1 3,H.push [.int .u8 x]):=by rfl
theorem QI{q c:Nat}{x:Int}(aD:c=2\/c=3):b3 (ae++[(q,(⟨[.int .u8 x],true⟩:ay))]) (aC q 0 1 c) [x]:=.inr ⟨q,0,c,rfl,aD,.inr ⟨ae.length+0,_,aA rfl,rfl⟩⟩
theorem zI:cQ P 52=List.replicate 32 (bQ .u8 0):=by rfl
end J
namespace J
open Go Go.Ab
variable[cr:bW]
variable{H:ar}{ae:List (Nat×ay)}{ab:VH}{v w x:Value}{ak aX jj:List Int}{ba:Nat}{e:Int}{ao:List Value}
structure ju (ba:Nat) (ak:List Int) (L:List (Nat×ay)):Prop where
 aDs::
 cJ:∃fK ao,L=nb ba (mx ak) fK ak.length ao/\q1 fK (BI ak) ao
theorem yj{L:List (Nat×ay)}(hO:aj H (ae++L))(aO:ju ba ak L)(aM:b3 ae w aX)(al:∀x∈ak,0<=x/\x<=255)(a8:∀x∈aX,0<=x/\x<=255)(aE:ak.length<=100000000)(sD:aX.length<=100000000)
  (ag:∀aa cA,aj aa (ae++cA)->ju ba (ak++aX) cA->ab (.tuple [].toArray) aa):az P 235 [ai ba 0,w] H ab:=by
 obtain⟨fK,ao,rfl,hv⟩:=aO.cJ;exact at5 hO hv aM al a8 aE sD fun aa BM bu h1 h2=>ag aa _ h1 ⟨BM,bu,rfl,h2⟩
theorem GD{L:List (Nat×ay)}{y:Nat×ay}(hO:aj H ((ae++L)++[y])):aj H ((ae++[y])++L):=hO.e4 (by rw[append_assoc,append_assoc];exact List.Perm.append_left _ perm_append_comm)
theorem KZ{L:List (Nat×ay)}{y:Nat×ay}(hO:aj H ((ae++[y])++L)):aj H (ae++L):=hO.sub (by rw[append_assoc];exact List.Sublist.append (List.Sublist.refl _) (sublist_append_right _ _))
theorem aue{L:List (Nat×ay)}{bw n:Nat}{bL:LX}{cy:LN}(hO:aj H (ae++L))(aO:ju ba (ak++[128]) L)(al:∀x∈ak,0<=x/\x<=255)(aE:ak.length<=90000000)
  (ag:∀aa cA,aj aa (ae++cA)->ju ba (ak++[128]++List.replicate (na ak.length) 0) cA->bL 0 [ai bw 0,ai ba 0,bQ .u64 n] aa):
  eI P true 67 Qc 28 [ai bw 0,ai ba 0,bQ .u64 n] H bL cy:=by
 refine arl (fun k aF aa=>∃(y:Nat) (L:List (Nat×ay)),y<=na ak.length/\k=na ak.length-y/\aF=[ai bw 0,ai ba 0,bQ .u64 n]/\aj aa (ae++L)/\ju ba (ak++[128]++List.replicate y 0) L) _ _ ?_ (na ak.length) _ _ ⟨0,L,by omega,rfl,rfl,hO,by rw[replicate_zero,append_nil];exact aO⟩;rintro k aF H ⟨y,L,a8,rfl,rfl,hO,aO⟩;unfold abc
 try simp only[cu,cv]
 obtain⟨fK,ao,rfl,hv⟩:=aO.cJ;have hlen:(ak++[128]++List.replicate y (0:Int)).length=ak.length+1+y:=by grind
 have QJ:na ak.length<64:=mod_lt _ (by decide);refine aU (aP hO (ae.length+0) (aA rfl) (v:=fK) rfl (bV hv.hF.bP (ah ik ?_)));rw[QC,hlen];refine bz (fun h=>?_) (fun h=>?_);have dy:y<na ak.length:=by grind[na]
 refine gj hO (Eb 0 _) ?_;intro q H hO;have de:=GD hO;refine yj de aO (QI (.inr rfl)) (nc (nc al (Ea (by decide))) GC) (Ea (by decide)) (by omega) (by simp) ?_;intro H L hO aO;rw[append_assoc _ (List.replicate y 0),<- replicate_succ']at aO
 grind[KZ]
 have a8:y=na ak.length:=by grind[na]
 subst a8;exact ag H _ hO aO
theorem auf{L:List (Nat×ay)}{bw n:Nat}{bL:LX}{cy:LN}(hO:aj H (ae++L))(aO:ju ba jj L)(al:∀x∈jj,0<=x/\x<=255)(aE:jj.length<=95000000)(aR:n<18446744073709551616)
  (ag:∀aa cA,aj aa (ae++cA)->ju ba (jj++tp n) cA->bL 2 [ai bw 0,ai ba 0] aa):
  eI P true 67 Qd 12 [ai bw 0,ai ba 0,bQ .u64 n,int 0] H bL cy:=by
 refine arn (fun k aF aa=>∃(y:Nat) (L:List (Nat×ay)),y<=8/\k=8-y/\aF=[ai bw 0,ai ba 0,bQ .u64 n,int y]/\aj aa (ae++L)/\ju ba (jj++(tp n).take y) L) _ _ ?_ 8 _ _ ⟨0,L,by omega,rfl,rfl,hO,by rw[take_zero,append_nil];exact aO⟩;rintro k aF H ⟨y,L,a8,rfl,rfl,hO,aO⟩;unfold abd
 try simp only[cu,cv]
 refine ah ez (bz (fun h=>?_) (fun h=>?_));have zH:y<8:=by omega
 refine ah (v:=int ((8*y:Nat):Int)) (by grind[xN]) (ah (v:=int ((56-8*y:Nat):Int)) (by grind[mu]) (ah (xT (k:=.u64) rfl (show 56-8*y<=64 by omega)) (bV (vv (eE:=.u8) rfl) (gj hO (Eb _ _) ?_))));intro q H hO;have de:=GD hO;have an:(0:Int)<=((n/2^(56-8*y)%gk .u8:Nat):Int)/\((n/2^(56-8*y)%gk .u8:Nat):Int)<=255:=by have:=mod_lt (n/2^(56-8*y)) (show gk .u8>0 by decide);have e:gk .u8=256:=rfl;omega
 refine yj de aO (QI (.inr rfl)) (nc al fun x al=>adg x (mem_of_mem_take al)) (Ea an) (by grind) (by simp) ?_;intro H L hO aO;have e:(tp n).take y++[((n/2^(56-8*y)%gk .u8:Nat):Int)]=(tp n).take (y+1):=by rw[take_add_one,adf zH];rfl
 rw[append_assoc,e]at aO
 repeat refine bD ?_
 exact⟨8-(y+1),by omega,y+1,L,by omega,rfl,rfl,KZ hO,aO⟩;have a8:y=8:=by omega
 subst a8;rw[take_of_length_le (by rw[KP];omega)]at aO;exact ag H L hO aO
theorem aug{s:W8}{bw gH m:Nat}{v4 v5:Value}{bL:LX}{cy:LN}(hm:m<8)(hO:aj H (ae++[(gH,⟨ou ((ny s).take (4*m)),true⟩)]))
  (ag:∀aa,aj aa (ae++[(gH,⟨ou ((ny s).take (4*(m+1))),true⟩)])->bL 6 [ai bw 0,ai gH 0,v4,v5] aa):
  eI P true 67 Qf 105553116266564 [ai bw 0,ai gH 0,int m,u32 (s.l.getD m 0),v4,v5,int 0] H bL cy:=by
 refine arp (fun k aF aa=>∃(y:Nat),y<=4/\k=4-y/\aF=[ai bw 0,ai gH 0,int m,u32 (s.l.getD m 0),v4,v5,int y]/\aj aa (ae++[(gH,⟨ou ((ny s).take (4*m+y)),true⟩)])) _ _ ?_ 4 _ _ ⟨0,by omega,rfl,rfl,hO⟩;rintro k aF H ⟨y,a8,rfl,rfl,hO⟩;unfold abf
 try simp only[cu,cv]
 refine ah ez (bz (fun h=>?_) (fun h=>?_));have adh:y<4:=by omega
 have hlen:((ny s).take (4*m+y)).length=4*m+y:=by grind[ada]
 refine ah (v:=int ((4*m:Nat):Int)) (by grind[xN]) (ah (v:=int ((4*m+y:Nat):Int)) (by grind[jg]) (ah (v:=int ((8*y:Nat):Int)) (by grind[xN]) (ah (v:=int ((24-8*y:Nat):Int)) (by grind[mu]) (ah (xT (k:=.u32) rfl (show 24-8*y<=32 by omega)) (bV (vv (eE:=.u8) rfl) (ah (fy (by omega) (by omega)) ?_))))));rw[Int.toNat_natCast];refine fm hO (ae.length+0) (aA rfl) rfl (show 0+(4*m+y)*1<(ou ((ny s).take (4*m+y))).length by grind[ac8]) (show _=ou ((ny s).take (4*m+y+1))from ?_) ?_;rw[<- ade hm adh,<- ac9 (by omega),hlen,show 0+(4*m+y)*1=4*m+y by omega];rfl;intro H hO
 replace hO:=hO.cb
 repeat refine bD ?_
 exact⟨4-(y+1),by omega,y+1,by omega,rfl,rfl,hO⟩;have a8:y=4:=by omega
 subst a8;exact ag H hO
theorem auh{s:W8}{m:Nat}(h:m<8):HR 8 1 (Cu P 338).f (agg (i7 s)) (int m)=some (u32 (s.l.getD m 0)):=by
 rcases m with _|_|_|_|_|_|_|_|m
 rfl;rfl;rfl;rfl;rfl;rfl;rfl;rfl;omega
theorem aui{s:W8}{bw gH:Nat}{bL:LX}{cy:LN}(hO:aj H (ae++[(gH,⟨ou [],true⟩)]))
  (ag:∀aa,aj aa (ae++[(gH,⟨a1 (ny s),true⟩)])->bL 4 [ai bw 0,ai gH 0] aa):
  eI P true 67 Qe 68 [ai bw 0,ai gH 0,agg (i7 s),int 0] H bL cy:=by
 refine aro (fun k aF aa=>∃(y:Nat),y<=8/\k=8-y/\aF=[ai bw 0,ai gH 0,agg (i7 s),int y]/\aj aa (ae++[(gH,⟨ou ((ny s).take (4*y)),true⟩)])) _ _ ?_ 8 _ _ ⟨0,by omega,rfl,rfl,hO⟩;rintro k aF H ⟨y,a8,rfl,rfl,hO⟩;unfold abe
 try simp only[cu,cv]
 refine ah ez (bz (fun h=>?_) (fun h=>?_));have zH:y<8:=by omega
 refine ah (auh zH) (aug zH hO ?_);intro H hO;refine km rfl ?_
 try simp only[cu,cv]
 repeat refine bD ?_
 exact⟨8-(y+1),by omega,y+1,by omega,rfl,rfl,hO⟩;have a8:y=8:=by omega
 subst a8;have e:ou ((ny s).take (4*8))=a1 (ny s):=by rfl
 rw[e]at hO;exact ag H hO
end J
namespace J
open Go Go.Ab
variable[cr:bW]
variable{H:ar}{ae:List (Nat×ay)}{ab:VH}{v x:Value}{ak:List Int}{j ba:Nat}{ao:List Value}
theorem K0{L:List (Nat×ay)}(hO:aj H (ae++L))(aO:ju ba ak L)(al:∀x∈ak,0<=x/\x<=255)(aE:ak.length<=80000000)
  (ag:∀aa,aj aa (ae++L)->ab (agg (a1 (hr ak))) aa):az P 228 [ai ba 0] H ab:=by
 obtain⟨fK,ao,rfl,hv⟩:=aO.cJ;apply arq;unfold abg;rw[zI];refine c4 hO ?_;intro bw H hO;have D9:=QC (ak:=ak);refine aua hO hv (by omega) ?_;intro H GB yi kR hO jG;have pq:ju GB ak (nb GB (mx ak) yi ak.length kR):=⟨yi,kR,rfl,jG⟩;refine aU (aP hO (_+0) (aA rfl) (v:=bQ .u64 ak.length) rfl ?_);refine ah (v:=bQ .u64 (8*ak.length)) (by rw[show(Value.int .u64 8)=bQ .u64 8 from rfl,OQ (k:=.u64) rfl,mod_eq_of_lt (show ak.length*8<gk .u64 from(show _<18446744073709551616 by omega)),Nat.mul_comm]) ?_;refine gj hO (Eb 128 _) ?_;intro q H hO;have de:=GD hO;refine yj de pq (QI (.inr rfl)) al (Ea (by decide)) (by omega) (by simp) ?_;intro H L hO pq;refine aue (KZ hO) pq al (by omega) ?_;intro H L hO pq;refine km rfl ?_
 try simp only[cu,cv]
 have QJ:na ak.length<64:=mod_lt _ (by decide);have auj:∀x∈ak++[128]++List.replicate (na ak.length) 0,0<=x/\x<=255:=nc (nc al (Ea (by decide))) GC;refine auf hO pq auj (by grind) (by omega) ?_;intro H L hO pq;refine km rfl ?_
 try simp only[cu,cv]
 replace pq:ju GB (vE ak) L:=pq
 obtain⟨aDt,Ec,rfl,adi⟩:=pq.cJ;refine c4 hO ?_;intro gH H hO;refine aU (hG hO (_+0) (aK (aA rfl)) (show _=i7 (mx (vE ak))from rfl) rfl (by omega) (aui hO ?_));intro H hO;refine km rfl ?_
 try simp only[cu,cv]
 refine hG hO (_+0) (aA rfl) (show _=a1 (hr ak)from rfl) rfl (by omega) ?_;have jR:∀ {R KR:List (Nat×ay)},((((ae++nb ba (mx ak) fK ak.length ao)++[(bw,(⟨List.replicate 32 (bQ .u8 0),true⟩:ay))])++R)++KR)[(ae++nb ba (mx ak) fK ak.length ao).length+0]?=some (bw,⟨List.replicate 32 (bQ .u8 0),true⟩):=aK (aK (aA rfl));refine o0 hO _ jR rfl (show 0+32<=32 by omega) (show(a1 (hr ak)).all eA=true by rfl) ?_;intro H hO;rw[set_append_left _ _ (by simp),set_append_left _ _ (by simp),Go.Ab.cb]at hO;exact hG hO ((ae++nb ba (mx ak) fK ak.length ao).length+0) (aK (aK (aA rfl))) (show _=a1 (hr ak)from rfl) rfl (by omega) (ag H hO.left.left.left)
theorem adj(a:Option Addr)(n c:Nat)(H:ar):(eg P 369 1).f [(0,.slice a n c)] H=some (aC H.next 0 1 3,H.push [.slice a n c]):=by rfl
theorem QK{q:Nat}(hO:aj H ae)(cf:ae[j]?=some (q,(⟨[v],true⟩:ay)))(hv:b3 ae v ak)(al:∀x∈ak,0<=x/\x<=255)(aE:ak.length<=80000000)
  (ag:∀aa,aj aa ae->ab (agg (a1 (hr ak))) aa):az P 204 [aC q 0 1 3] H ab:=by
 apply aaY;unfold Qa;rw[zI];refine c4 hO ?_;intro bw H hO;refine KX hO ?_;intro H ba hO;have aO:ju ba [] (nb ba (mx []) bq ([]:List Int).length []):=⟨bq,[],rfl,.inl ⟨rfl,rfl,rfl⟩⟩;refine bV xL ?_;generalize (nb ba (mx []) bq ([]:List Int).length [])=L at*;refine aaX (fun k aF aa=>∃(y:Nat) (L:List (Nat×ay)),y<=1/\k=1-y/\aF=[ai bw 0,ai ba 0,aC q 0 1 3,int 1,int y]/\aj aa ((ae++[(bw,⟨List.replicate 32 (bQ .u8 0),true⟩)])++L)/\ju ba (if y=0 then []else ak) L) _ _ ?_ 1 _ _ ⟨0,L,by omega,rfl,rfl,hO,aO⟩;rintro k aF H ⟨y,L,a8,rfl,rfl,hO,aO⟩;unfold P0
 try simp only[cu,cv]
 refine ah ez (bz (fun h=>?_) (fun h=>?_));have vF:y=0:=by omega
 subst vF;refine ah (h4 (by omega) (by omega)) (aP hO j (aK (aK cf)) (v:=v) rfl (yj hO aO hv.app (by simp_all) al (by simp) (by omega) ?_));intro H L hO aO
 repeat refine bD ?_
 exact⟨0,by omega,1,L,by omega,rfl,rfl,hO,aO⟩;have vF:y=1:=by omega
 subst vF;refine km rfl ?_
 try simp only[cu,cv]
 refine K0 hO aO al aE ?_;intro H hO;refine o0 hO (ae.length+0) (aK (aA rfl)) rfl (show 0+32<=32 by omega) (show(a1 (hr ak)).all eA=true by rfl) ?_;intro H hO;rw[set_append_left _ _ (by simp),Go.Ab.cb]at hO;exact hG hO (ae.length+0) (aK (aA rfl)) (show _=a1 (hr ak)from rfl) rfl (by omega) (ag H hO.left.left)
end J
namespace J
open Go Go.Ab
variable[cr:bW]
variable{H:ar}{ae:List (Nat×ay)}{ab:VH}{v:Value}{ao:List Value}{L:kV}{m:bn}{part aZ:Int}
def bn.q3(m:bn)(part:Int)(n:Nat):List Int:=(List.range n).flatMap fun(i:Nat)=>(m.eT part i).1
def bn.all(m:bn)(part:Int):List Int:=m.q3 part (m.size part)
theorem bn.adk{n:Nat}:m.q3 part (n+1)=m.q3 part n++(m.eT part n).1:=by simp_all[bn.q3,range_succ]
theorem bn.QL(ok:m.b6):∀n,(m.q3 part n).length=64*n
 | 0=>rfl
 | n+1=>by rw[bn.adk,length_append,bn.QL ok n,bn.ye ok];omega
theorem bn.GF(ok:m.b6):m.size part<=4096:=by unfold bn.size;split;rename_i h;have h1:=ok.s _ (bn.acC h);have h2:=ok.d.n;omega;omega
theorem adl(ok:m.b6)(hO:aj H (ae++du L m))(ag:∀aa v ao,aj aa ((ae++du L m)++bB v ao)->e8 v (m.all part) ao->ab v aa):az P 18 [ai L.cG 0,int part] H ab:=by
 apply aoG;unfold Yb;have fj:=bn.GF ok (part:=part);refine acE hO (aoF (fun k aF aa=>∃(y:Nat) (v:Value) (ao:List Value),y<=m.size part/\k=m.size part-y/\aF=[ai L.cG 0,int part,bq,v,int (m.size part),int y]/\aj aa ((ae++du L m)++bB v ao)/\e8 v (m.q3 part y) ao) _ _ ?_ (m.size part) _ _ ⟨0,bq,[],by omega,rfl,rfl,by rw[show bB bq []=[]from rfl,append_nil];exact hO,.nil⟩);rintro k aF H ⟨y,v,ao,a8,rfl,rfl,hO,hv⟩;unfold Ya
 try simp only[cu,cv]
 refine ah ez (bz (fun h=>?_) (fun h=>?_));have fU:y<m.size part:=by omega
 refine acF ok hO.nw ?_;intro H hO;have D9:=bn.ye ok (part:=part) (aZ:=y);refine ah jT (ah jU ?_);rw[BC];refine c4 hO ?_;intro dC H hO
 replace hO:aj H (((ae++du L m)++[(dC,⟨a1 sB,true⟩)])++bB v ao):=hO.e4 (by classical exact perm_iff_count.2 fun _=>by grind)
 refine e7 hO ((ae++du L m).length+0) (aK (aA rfl)) (by rfl) (by simp_all) (lG _) ?_;intro H hO;rw[set_append_left _ _ (by simp),Go.Ab.cb]at hO
 replace hO:aj H (((ae++du L m)++[(dC,⟨a1 (m.eT part y).1,true⟩)])++bB v ao):=hO
 refine ah (xU hO ((ae++du L m).length+0) (aK (aA rfl)) (by omega) (by simp_all)) ?_;have lT:b3 ((ae++du L m)++[(dC,(⟨a1 (m.eT part y).1,true⟩:ay))]) (aC dC 0 64 3) (m.eT part y).1:=.inr ⟨dC,0,3,by rw[D9],.inr rfl,.inr ⟨(ae++du L m).length+0,_,aA rfl,by simp_all[take_of_length_le]⟩⟩;refine tf hO hv lT (by grind[bn.QL]) ?_;intro H dD kR hO jG;rw[<- bn.adk]at jG
 repeat refine bD ?_
 grind[aj.cd]
 have fU:y=m.size part:=by omega
 subst fU;exact km rfl (ag H v ao hO hv)
end J
