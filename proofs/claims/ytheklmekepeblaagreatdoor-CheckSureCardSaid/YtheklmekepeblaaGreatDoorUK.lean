/- texts of the proof, one behind the other -/
import Derived.Test.YtheklmekepeblaaGreatDoorUJ
set_option linter.unusedVariables false
set_option linter.unusedSimpArgs false
set_option linter.unusedSectionVars false
set_option maxRecDepth 100000
namespace J
open Go Go.Ab
variable{H:Heap}{Γ Γ0 Γ1 Γ2 Δ G L S T X F:List (Nat × Blk)}{K:VH}{v w x cv dv kv wv:Value}{xs ys zs b key wr:List Int}{i j p q o n k c p7 rA rB rC:Nat}{e er:Int}{cs cs':List Value}{l pr:List UInt8}{m sd:Mf}{t:Tm}{A B C:Ring}{s:Ck}
theorem zlx(h:CkSt S F s A B C c kv H)(hk:∀ v H' B',Ring.Same B B'→CkSt S F (s.popB s.bk.tail) A B' C c kv H'→K v H'):wCall P zPa [ptr B.r 0] H K:=by
 obtain⟨sv,sp,T,h,hO⟩:=h
 have ⟨h1,h2,h3,h4,h5,h6,h7,h8,h9,h10,h11,h12⟩:=h
 refine zMm (i:=3) (j:=2) hO rfl rfl (by omega) h6.rg ?_ ?_
 ·intro he
  have hb:s.bk=[]:=List.length_eq_zero_iff.1 (by rw[← h6.len,he]; rfl)
  have e:s.popB s.bk.tail=s:=by unfold Ck.popB; rw[hb]; show ({ s with bk:=[] }:Ck)=s; rw[← hb]
  rw[e] at hk
  exact hk _ H B .rfl' ⟨sv,sp,T,h,hO⟩
 ·intro a er hes H' cs' hg hO'
  obtain⟨a1,rest,hb⟩:∃ a rest,s.bk=a::rest:=by
   cases hb:s.bk with
   | nil=>have:=h6.len; rw[hes,hb] at this; simp at this
   | cons a rest=>exact⟨a,rest,rfl⟩
  have h6':=h6
  rw[hb] at h6' hk
  obtain⟨_,hr⟩:=h6'.rest hes hg
  exact hk _ H' _ zkg ⟨sv,sp,T,⟨h1,h2,h3,h4,h5,hr,h7,h8,h9,h10,h11,h12⟩,zsJ hO'⟩
theorem zGD(h:CkSt S F s A B C c kv H)(hk:∀ v H' C',Ring.Same C C'→CkSt S F (s.popO s.ou.tail) A B C' c kv H'→K v H'):wCall P zPa [ptr C.r 0] H K:=by
 obtain⟨sv,sp,T,h,hO⟩:=h
 have ⟨h1,h2,h3,h4,h5,h6,h7,h8,h9,h10,h11,h12⟩:=h
 refine zMm (i:=5) (j:=4) hO rfl rfl (by omega) h7.rg ?_ ?_
 ·intro he
  have hb:s.ou=[]:=List.length_eq_zero_iff.1 (by rw[← h7.len,he]; rfl)
  have e:s.popO s.ou.tail=s:=by unfold Ck.popO; rw[hb]; show ({ s with ou:=[] }:Ck)=s; rw[← hb]
  rw[e] at hk
  exact hk _ H C .rfl' ⟨sv,sp,T,h,hO⟩
 ·intro a er hes H' cs' hg hO'
  obtain⟨a1,rest,hb⟩:∃ a rest,s.ou=a::rest:=by
   cases hb:s.ou with
   | nil=>have:=h7.len; rw[hes,hb] at this; simp at this
   | cons a rest=>exact⟨a,rest,rfl⟩
  have h7':=h7
  rw[hb] at h7' hk
  obtain⟨_,hr⟩:=h7'.rest hes hg
  exact hk _ H' _ zkg ⟨sv,sp,T,⟨h1,h2,h3,h4,h5,h6,hr,h8,h9,h10,h11,h12⟩,ztJ hO'⟩
def AgS(p7 rA rB rC c:Nat)(kv v wv:Value)(b wr:List Int)(s:Ck)(H:Heap):Prop:=∃ S A B C,A.r=rA∧B.r=rB∧C.r=rC∧A.n=1∧CkSt S [] s A B C c kv H∧RdB S v b∧(b≠[]→Stay S v)∧RdB S wv wr∧∃ (j:Nat) (cvm:Value),S[j]?=some (p7,⟨mfC (mkF zMb 3 64 b) cvm,true⟩)∧RdH S cvm (mkF zMb 3 64 b).cks
theorem zts(h:AgS p7 rA rB rC c kv v wv b wr s H)(hk:∀ H',AgS p7 rA rB rC c kv v wv b wr s.step.2 H'→K (.bool s.step.1) H'):wCall P zua [ptr c 0] H K:=by
 obtain⟨S,A,B,C,r1,r2,r3,n1,hS,h1,h2,h3,jm,cvm,h4,h5⟩:=h
 refine zEc hS ?_
 intro H' X A' B' C' q1 q2 q3 hS
 exact hk H' ⟨S++X,A',B',C',q1.r.trans r1,q2.r.trans r2,q3.r.trans r3,q1.n.trans n1,hS,h1.app,fun h=>(h2 h).app,h3.app,jm,cvm,zAa h4,h5.app⟩
theorem zYv(h:AgS p7 rA rB rC c kv v wv b wr s H)(h0:s.ain=[])(hb:By b)(hl:b.length≤1000){lo hi:Nat}(a:Int)(hlo:lo≤hi)(hhi:hi≤b.length)
  (hk:∀ H',AgS p7 rA rB rC c kv v wv b wr (s.push (a,(b.take hi).drop lo)) H'→K (.bool true) H') :
 opP (zVa 1 v (some (int lo)) (some (int hi)) none) fun t104=>
 opP ((zDa P 35).f [(0,int a),(1,t104)]) fun t105=>
 wCall P zsa [ptr rA 0,t105] H K:=by
 obtain⟨S,A,B,C,rfl,r2,r3,n1,hS,h1,h2,h3,jm,cvm,h4,h5⟩:=h
 obtain⟨w,hw,hin⟩:=zUl h1 hlo hhi
 refine zaa hw ?_
 have hw1:=hin _ h1
 obtain⟨aw,nw',cw,rfl⟩:=hw1.shape
 refine zaa (bPc _ _ _ _) ?_
 refine zqj (p:=(a,(b.take hi).drop lo)) hS ⟨_,rfl,hw1,By.drop (By.take hb),fun hne=>Stay.slice (h2 (by intro e; apply hne; subst e; simp)) hw⟩ (by show ((b.take hi).drop lo).length≤1000000; rw[List.length_drop,List.length_take]; omega) ?_
 intro b1 H A1 sA ht hf hS
 obtain rfl:=znu hf (by rw[n1,h0]; decide)
 exact hk H ⟨S,A1,B,C,sA.r,r2,r3,sA.n.trans n1,hS,h1,h2,h3,jm,cvm,h4,h5⟩
theorem zKB(h:AgS p7 rA rB rC c kv v wv b wr s H)(hk:K (int s.bk.length) H):wCall P zya [ptr rB 0] H K:=by
 obtain⟨S,A,B,C,rfl,rfl,rfl,n1,hS,h1,h2,h3,jm,cvm,h4,h5⟩:=h
 exact zmG hS hk
theorem zLB(h:AgS p7 rA rB rC c kv v wv b wr s H)(hk:K (int s.ou.length) H):wCall P zya [ptr rC 0] H K:=by
 obtain⟨S,A,B,C,rfl,rfl,rfl,n1,hS,h1,h2,h3,jm,cvm,h4,h5⟩:=h
 exact zWv hS hk
theorem zmx(h:AgS p7 rA rB rC c kv v wv b wr s H)(hk:K (int s.wants) H):wCall P zGa [ptr c 0] H K:=by
 obtain⟨S,A,B,C,rfl,rfl,rfl,n1,hS,h1,h2,h3,jm,cvm,h4,h5⟩:=h
 exact zfo hS hk
theorem zqG(h:AgS p7 rA rB rC c kv v wv b wr s H)(hk:K (.bool s.dn) H):wCall P zob [ptr c 0] H K:=by
 obtain⟨S,A,B,C,rfl,rfl,rfl,n1,hS,h1,h2,h3,jm,cvm,h4,h5⟩:=h
 exact zVv hS hk
theorem zMB{K2:Value→VH}{a:Sn}{rest:List Sn}(h:AgS p7 rA rB rC c kv v wv b wr s H)(hb:s.bk=a::rest)
  (hk:∀ (H':Heap) (p:Nat) (cv x:Value) (Γ:List (Nat × Blk)) (j:Nat),AgS p7 rA rB rC c kv v wv b wr (s.popB rest) H'→St H' Γ→Γ[j]?=some (p,⟨int a.kd::int a.at'::int a.hd::(mfC a.mf cv++[x]),true⟩)→RdB Γ x a.by1→a.mf.Ok→K2 (.bool true) (ptr p 0) H') :
 wCall P zTa [ptr rB 0] H fun t H1=>opP (zFc 0 t) fun t113=>opP (zFc 1 t) fun t114=>zNb (zc P 54) H1 fun t21 H15=>opW (zla 41 t21 t113 H15) fun _ H17=>K2 t114 t21 H17:=by
 obtain⟨S,A,B,C,rfl,rfl,rfl,n1,hS,h1,h2,h3,jm,cvm,h4,h5⟩:=h
 refine zYl hS (fun e=>by rw[hb] at e; cases e) ?_
 intro a' rest' he H B' el sB hel hS
 rw[hb] at he
 cases he
 obtain⟨cv,x,rfl,_,hm,hx,_⟩:=zlf hel
 have row:=hel.row
 refine zaa zHj ?_
 refine zaa zIj ?_
 rw[zcT]
 refine zsj hS zRb.1 row.1 row.2 ?_
 intro p H hS
 exact hk H p cv x _ _ ⟨_,A,B',C,rfl,sB.r,rfl,n1,hS,h1.app,fun h=>(h2 h).app,h3.app,jm,cvm,zAa h4,h5.app⟩ (zKp hS) (zza (k:=0) rfl) hx.app hm
theorem zou{K2:Value→VH}{a:Sn}{rest:List Sn}(h:AgS p7 rA rB rC c kv v wv b wr s H)(hb:s.ou=a::rest)
  (hk:∀ (H':Heap) (p:Nat) (cv x:Value) (Γ:List (Nat × Blk)) (j:Nat),AgS p7 rA rB rC c kv v wv b wr (s.popO rest) H'→St H' Γ→Γ[j]?=some (p,⟨int a.kd::int a.at'::int a.hd::(mfC a.mf cv++[x]),true⟩)→RdB Γ x a.by1→a.mf.Ok→K2 (.bool true) (ptr p 0) H') :
 wCall P zTa [ptr rC 0] H fun t H1=>opP (zFc 0 t) fun t113=>opP (zFc 1 t) fun t114=>zNb (zc P 54) H1 fun t21 H15=>opW (zla 41 t21 t113 H15) fun _ H17=>K2 t114 t21 H17:=by
 obtain⟨S,A,B,C,rfl,rfl,rfl,n1,hS,h1,h2,h3,jm,cvm,h4,h5⟩:=h
 refine zrj hS (fun e=>by rw[hb] at e; cases e) ?_
 intro a' rest' he H B' el sB hel hS
 rw[hb] at he
 cases he
 obtain⟨cv,x,rfl,_,hm,hx,_⟩:=zlf hel
 have row:=hel.row
 refine zaa zHj ?_
 refine zaa zIj ?_
 rw[zcT]
 refine zsj hS zRb.1 row.1 row.2 ?_
 intro p H hS
 exact hk H p cv x _ _ ⟨_,A,B,B',rfl,rfl,sB.r,n1,hS,h1.app,fun h=>(h2 h).app,h3.app,jm,cvm,zAa h4,h5.app⟩ (zKp hS) (zza (k:=0) rfl) hx.app hm
structure AgM (b:List Int) (N:Nat):Prop where
 r:zIa (mkF zMb 3 64 b)
 len:(mkF zMb 3 64 b).cks.length=N
 b1:1≤b.length
 b6:b.length≤600
 lo:∀ i,i < N→i * 64 < b.length
 hi:b.length≤N * 64
theorem agM(hr:zIa (mkF zMb 3 64 b))(hl:b.length≤600):∃ N,AgM b N∧N≤64:=by
 have h0:=hr
 obtain⟨_,_,_,s1,s2,_,_,_,hc,hn⟩:=hr
 have s1:(1:Int)≤((b.length:Nat):Int):=s1
 have hc:(((mkF zMb 3 64 b).cks.length:Nat):Int)=cnt ((b.length:Nat):Int) 64:=hc
 refine⟨(mkF zMb 3 64 b).cks.length,⟨h0,rfl,by omega,hl,?_,?_⟩,hn⟩
 ·intro i hi
  unfold cnt at hc
  rw[if_neg (by omega)] at hc
  omega
 ·unfold cnt at hc
  rw[if_neg (by omega)] at hc
  omega
theorem AgM.span{N i:Nat}(h:AgM b N)(hi:i < N):zsf (mkF zMb 3 64 b) (i:Int)=(((i * 64:Nat):Int),((min 64 (b.length - i * 64):Nat):Int)):=by
 have h1:=h.lo i hi
 unfold zsf
 rw[if_neg (by rintro (h2|h2|h2); exact h2 h.r; omega; rw[h.len] at h2; omega)]
 show ((i:Int) * 64,min (64:Int) (((b.length:Nat):Int) - (i:Int) * 64))=_
 congr 1 <;> omega
theorem AgM.chunk{N i:Nat}(h:AgM b N)(hi:i < N):(b.take (i * 64+min 64 (b.length - i * 64))).drop (i * 64)=(b.drop (i * 64)).take 64:=by
 have h1:=h.lo i hi
 rw[List.drop_take,show i * 64+min 64 (b.length - i * 64) - i * 64=min 64 (b.length - i * 64) by omega]
 by_cases h2:64≤b.length - i * 64
 ·rw[show min 64 (b.length - i * 64)=64 by omega]
 ·rw[List.take_of_length_le (by rw[List.length_drop]; omega),List.take_of_length_le (by rw[List.length_drop]; omega)]
theorem AgM.sha{N i:Nat}(h:AgM b N)(hi:i < N):(mkF zMb 3 64 b).cks.getD i []=J.sha ((b.drop (i * 64)).take 64):=zku (C:=64) (by show i < (mkF zMb 3 64 b).cks.length; rw[h.len]; exact hi)
def tmG:Tm:=⟨[67,79,82,69],3,600⟩
theorem zmK:(zDa P 25).f [(0,.string ⟨#[67,79,82,69]⟩),(2,.int .i64 600),(1,.int .u64 3)]=some (agg (tmC tmG)):=by kernel_rfl
theorem zrG{N:Nat}(h:AgM b N):zLn (mkF zMb 3 64 b) tmG=0:=by
 refine zdJ.2 ⟨h.r,by show zjf zMb=zjf [67,79,82,69]; kernel_rfl,?_,?_⟩
 ·show ¬ (3:Nat) < 3; omega
 ·show ¬ ((b.length:Nat):Int) > 600
  have:=h.b6; omega
def agC(b:List Int)(i:Nat)(ain:List (Int × List Int))(bk ou:List Sn):Ck:=⟨[],tmG,ain,bk,ou,1,1,mkF zMb 3 64 b,some (b.take (i * 64),i),false,0⟩
end J
set_option maxRecDepth 100000
namespace J
open Go Go.Ab
variable{H:Heap}{Γ Γ0 Γ1 Γ2 Δ G L S T X F:List (Nat × Blk)}{K:VH}{v w x cv dv kv wv:Value}{xs ys zs b key wr:List Int}{i j p q o n k c p7 rA rB rC N:Nat}{e er at':Int}{cs cs':List Value}{l pr all:List UInt8}{m sd:Mf}{t:Tm}{A B C:Ring}{s:Ck}
abbrev fr(i:Nat):Nat:=i * 64
abbrev nn(b:List Int)(i:Nat):Nat:=min 64 (b.length - i * 64)
theorem zHD(hm:AgM b N)(hi:i < N):(agC b i [((i:Int),(b.take (fr i+nn b i - 1)).drop (fr i))] [] []).step=(true,agC b i [] [.again i] []):=by
 unfold agC
 have h1:=hm.lo i hi
 rw[zIp (by decide) (by decide) (by rw[hm.len]; omega),zIB ?_]
 ·rfl
 ·rintro⟨h2,_⟩
  rw[hm.span hi,List.length_drop,List.length_take] at h2
  simp only[fr,nn] at h2
  omega
theorem zID(hm:AgM b N)(hi:i < N){a:Int}(ha:a≠i):(agC b i [(a,ys)] [] []).step=(true,agC b i [] [] []):=by
 unfold agC
 exact step_skip (by decide) (by decide) (by rw[hm.len]; omega) ha
theorem zJD(hm:AgM b N)(hi:i < N):(agC b i [((i:Int),(b.take (fr i+nn b i)).drop (fr i))] [] []).step=(true,agC b (i+1) [] [] [.body i ((b.drop (i * 64)).take 64)]):=by
 unfold agC
 have h1:=hm.lo i hi
 rw[hm.chunk hi]
 rw[zIp (by decide) (by decide) (by rw[hm.len]; omega),zhx ⟨?_,?_⟩]
 ·rw[show (i+1) * 64=i * 64+64 by omega,List.take_add]; rfl
 ·rw[hm.span hi,List.length_take,List.length_drop]
 ·rw[hm.sha hi]
theorem zpu(hm:AgM b N)(hi:i < N):(agC b i [] [] []).wants=i:=by
 unfold Ck.wants agC
 simp only
 rw[if_neg (by rw[hm.len]; omega)]
set_option maxHeartbeats 4000000 in
theorem zZv{times:Nat}{Qx:LX}{Qr:LN}{sv:Value}(hm:AgM b N)(hN:N≤64)(hi:i < N)(hb:By b)(ht:times≤4)(hS:AgS p7 rA rB rC c kv v wv b wr (agC b i [] [] []) H)
  (hk:∀ H',AgS p7 rA rB rC c kv v wv b wr (agC b i [] [] []) H'→Qx 2 [v,wv,x,.bool false,ptr p7 0,ptr rA 0,ptr rB 0,ptr rC 0,ptr c 0,sv,int i,int (fr i:Nat),int (nn b i:Nat),int N,int i] H') :
  ztb P true 239 zSd 7083549724304468342983 [v,wv,x,.bool false,ptr p7 0,ptr rA 0,ptr rB 0,ptr rC 0,ptr c 0,sv,int i,int (fr i:Nat),int (nn b i:Nat),int times,int 0,int N,int i] H Qx Qr:=by
 have h1:=hm.lo i hi
 have h6:=hm.b6
 refine zYh (fun k l H=>∃ y:Nat,y≤times∧k=times - y∧l=[v,wv,x,.bool false,ptr p7 0,ptr rA 0,ptr rB 0,ptr rC 0,ptr c 0,sv,int i,int (fr i:Nat),int (nn b i:Nat),int times,int y,int N,int i]∧AgS p7 rA rB rC c kv v wv b wr (agC b i [] [] []) H) _ _ ?_ times _ _ ⟨0,Nat.zero_le _,rfl,rfl,hS⟩
 clear hS
 rintro k l H ⟨y,hy,rfl,rfl,hS⟩
 unfold zYf
 try simp only[zja,zka]
 refine zaa zMa ?_
 refine zoa (fun h=>?_) (fun h=>?_)
 ·refine zaa (zoc (by simp only[fr,nn]; omega) (by simp only[fr,nn]; omega)) ?_
  refine zaa (zBb (by simp only[fr,nn]; omega) (by simp only[fr,nn]; omega)) ?_
  rw[show ((fr i:Nat):Int)+((nn b i:Nat):Int) - 1=((fr i+nn b i - 1:Nat):Int) by simp only[fr,nn]; omega]
  refine zYv hS rfl hb (by omega) (i:Int) (by simp only[fr,nn]; omega) (by simp only[fr,nn]; omega) ?_
  clear hS
  intro H hS
  replace hS:AgS p7 rA rB rC c kv v wv b wr (agC b i [((i:Int),(b.take (fr i+nn b i - 1)).drop (fr i))] [] []) H:=hS
  refine zts hS ?_
  clear hS
  rw[zHD hm hi]
  intro H hS
  refine zaa zJb ?_
  refine zKb rfl ?_
  refine zMB hS (a:=.again i) (rest:=[]) rfl ?_
  clear hS
  intro H p cv1 x1 Γ j hS hO hj hx hok
  replace hS:AgS p7 rA rB rC c kv v wv b wr (agC b i [] [] []) H:=hS
  refine zaa zJb ?_
  refine zKb rfl ?_
  refine zaa zba ?_
  refine zpa hO j hj (v:=int 1) rfl ?_
  refine zaa zeb ?_
  refine zaa zbb ?_
  refine zhc (fun h=>h rfl) ?_
  refine zaa zba ?_
  refine zpa hO j hj (v:=int i) rfl ?_
  refine zaa zeb ?_
  refine zaa (zsb (fun h=>h rfl)) ?_
  refine zhc (fun h=>h rfl) ?_
  refine zLB hS ?_
  refine zaa zeb ?_
  refine zaa (zsb (fun h=>h rfl)) ?_
  refine zhc (fun h=>h rfl) ?_
  refine zmx hS ?_
  rw[zpu hm hi]
  refine zaa zeb ?_
  refine zaa (zsb (fun h=>h rfl)) ?_
  refine zhc (fun h=>h rfl) ?_
  refine zaa (zCe (b:=1) (by omega)) ?_
  exact⟨times - (y+1),by omega,y+1,by omega,rfl,rfl,hS⟩
 ·exact hk H hS
def zus(b:List Int)(i:Nat):Value:=zJx (b.take (i * 64))
theorem zKD(i:Nat)(hl:b.length≤1000):(zna P .add 9 false).f (zus b i) (zJx ((b.drop (i * 64)).take 64))=some (zus b (i+1)):=by
 have:=zIv 9 false ((b.take (i * 64)).map fun n=>UInt8.ofNat n.toNat) (((b.drop (i * 64)).take 64).map fun n=>UInt8.ofNat n.toNat) (by simp only[List.length_map,List.length_take,List.length_drop]; omega)
 rw[← List.map_append,← List.take_add,show i * 64+64=(i+1) * 64 by omega] at this
 exact this
end J
set_option maxRecDepth 100000
namespace J
open Go Go.Ab
variable{H:Heap}{Γ Γ0 Γ1 Γ2 Δ G L S T X F:List (Nat × Blk)}{K:VH}{v w x cv dv kv wv:Value}{xs ys zs b key wr:List Int}{i j p q o n k c p7 rA rB rC N:Nat}{e er a':Int}{cs cs':List Value}{l pr all:List UInt8}{m sd:Mf}{t:Tm}{A B C:Ring}{s:Ck}
set_option maxHeartbeats 8000000 in
theorem zJy{Nn:LN}{Qx:LX}{Qr:LN}(hm:AgM b N)(hN:N≤64)(hi:i < N)(hb:By b)(hw:By wr)(hat:0≤a'∧a'≤255)(hS:AgS p7 rA rB rC c kv v wv b wr (agC b i [] [] []) H)
  (hk:∀ H',AgS p7 rA rB rC c kv v wv b wr (agC b (i+1) [] [] []) H'→Nn [v,wv,.int .u8 a',.bool false,ptr p7 0,ptr rA 0,ptr rB 0,ptr rC 0,ptr c 0,zus b (i+1),int N,int ((i+1:Nat):Int)] H') :
  zOc [v,wv,.int .u8 a',.bool false,ptr p7 0,ptr rA 0,ptr rB 0,ptr rC 0,ptr c 0,zus b i,int N,int i] H Nn Qx Qr:=by
 have h1:=hm.lo i hi
 have h6:=hm.b6
 unfold zOc
 try simp only[zja,zka]
 refine zaa zMa ?_
 refine zsc (by omega) ?_
 have mok:(mkF zMb 3 64 b).Ok:=zju (by decide) (by decide) (by omega) (by decide) (by
  have:=hm.len; unfold mkF at this; rw[zhi] at this; rw[this]; omega)
 obtain⟨S,A,B,C,r1,r2,r3,n1,hS,g1,g2,g3,jm,cvm,g4,g5⟩:=hS
 obtain⟨R,hO⟩:=hS.st'
 refine zFa hO jm (zAa g4) (cs:=mfC (mkF zMb 3 64 b) cvm) (by show (mfC (mkF zMb 3 64 b) cvm).take 37=_; exact List.take_of_length_le (by rw[zta mok.dl]; omega)) (zta mok.dl) (by omega) ?_
 obtain⟨sv,sp,T,hck,hO0⟩:=hS
 clear hO
 refine zBp mok g5.app.app hO0 ?_
 clear hO0
 intro H hO0
 have hS:AgS p7 rA rB rC c kv v wv b wr (agC b i [] [] []) H:=⟨S,A,B,C,r1,r2,r3,n1,⟨sv,sp,T,hck,hO0⟩,g1,g2,g3,jm,cvm,g4,g5⟩
 rw[hm.span hi]
 refine zaa zHj ?_
 refine zaa zIj ?_
 refine zEa (fun l' H'=>∃ times:Nat,times≤4∧l'=[v,wv,.int .u8 a',.bool false,ptr p7 0,ptr rA 0,ptr rB 0,ptr rC 0,ptr c 0,zus b i,int i,int ((i * 64:Nat):Int),int ((min 64 (b.length - i * 64):Nat):Int),int times,int N,int i]∧H=H') ?_ ?_
 ·refine zxa g3.lenSl ?_
  refine zaa zMa ?_
  refine zoa (fun hlt=>?_) (fun hlt=>?_)
  ·obtain⟨pw,ow,cw,jw,bw,e1,e2,e3⟩:=g3.at (i:=i) (by omega)
   have hx:=hw _ (List.getElem_mem (show i < wr.length by omega))
   obtain⟨z,hz⟩:∃ z:Nat,wr[i]'(by omega)=z:=⟨(wr[i]'(by omega)).toNat,by omega⟩
   refine zaa (by rw[e1]; exact zpb (by omega) (by omega)) ?_
   rw[Int.toNat_natCast,Nat.mul_one]
   refine zpa hO0 jw (zAa (zAa e2)) e3 ?_
   refine zxa (zgv (by omega) (by omega)) ?_
   rw[hz]
   refine zaa (zns (b:=4) (by omega)) ?_
   exact⟨z % 4,by omega,rfl,rfl⟩
  ·exact⟨0,by omega,rfl,rfl⟩
 rintro l' H' ⟨times,ht,rfl,rfl⟩
 try simp only[zja,zka]
 refine zZv hm hN hi hb ht hS ?_
 clear hS hck hO0 g1 g2 g3 g4 g5
 intro H hS
 refine zSa rfl ?_
 refine zaa (zCe (b:=1) (by omega)) ?_
 refine zxa (zgv (by omega) (by omega)) ?_
 refine zaa (zoc (by omega) (by omega)) ?_
 refine zaa (zoc (by simp only[fr,nn]; omega) (by simp only[fr,nn]; omega)) ?_
 rw[show ((fr i:Nat):Int)+((nn b i:Nat):Int)=((fr i+nn b i:Nat):Int) by simp only[fr,nn]; omega]
 refine zYv hS rfl hb (by omega) (((i+1:Nat):Int)+a') (by simp only[fr,nn]; omega) (by simp only[fr,nn]; omega) ?_
 clear hS
 intro H hS
 replace hS:AgS p7 rA rB rC c kv v wv b wr (agC b i [(((i+1:Nat):Int)+a',(b.take (fr i+nn b i)).drop (fr i))] [] []) H:=hS
 refine zEa (fun l' H'=>l'=[v,wv,.int .u8 a',.bool false,ptr p7 0,ptr rA 0,ptr rB 0,ptr rC 0,ptr c 0,zus b i,int i,int ((fr i:Nat):Int),int ((nn b i:Nat):Int),int N,int i]∧AgS p7 rA rB rC c kv v wv b wr (agC b i [] [] []) H') ?_ ?_
 ·refine zts hS ?_
  clear hS
  rw[zID hm hi (by omega)]
  intro H hS
  refine zaa zJb ?_
  refine zKb rfl ?_
  refine zKB hS ?_
  refine zaa zeb ?_
  refine zaa zbb ?_
  refine zhc (fun h=>h rfl) ?_
  refine zLB hS ?_
  refine zaa zeb ?_
  refine zaa (zsb (fun h=>h rfl)) ?_
  refine zhc (fun h=>h rfl) ?_
  refine zmx hS ?_
  rw[zpu hm hi]
  refine zaa zeb ?_
  refine zaa (zsb (fun h=>h rfl)) ?_
  refine zhc (fun h=>h rfl) ?_
  exact⟨rfl,hS⟩
 clear hS
 rintro l' H ⟨rfl,hS⟩
 try simp only[zja,zka]
 refine zaa (zoc (by simp only[fr,nn]; omega) (by simp only[fr,nn]; omega)) ?_
 rw[show ((fr i:Nat):Int)+((nn b i:Nat):Int)=((fr i+nn b i:Nat):Int) by simp only[fr,nn]; omega]
 refine zYv hS rfl hb (by omega) (i:Int) (by simp only[fr,nn]; omega) (by simp only[fr,nn]; omega) ?_
 clear hS
 intro H hS
 replace hS:AgS p7 rA rB rC c kv v wv b wr (agC b i [((i:Int),(b.take (fr i+nn b i)).drop (fr i))] [] []) H:=hS
 refine zEa (fun l' H'=>l'=[v,wv,.int .u8 a',.bool false,ptr p7 0,ptr rA 0,ptr rB 0,ptr rC 0,ptr c 0,zus b i,int N,int i]∧AgS p7 rA rB rC c kv v wv b wr (agC b (i+1) [] [] [.body i ((b.drop (i * 64)).take 64)]) H') ?_ ?_
 ·refine zts hS ?_
  clear hS
  rw[zJD hm hi]
  intro H hS
  refine zaa zJb ?_
  refine zKb rfl ?_
  refine zKB hS ?_
  refine zaa zeb ?_
  refine zaa zbb ?_
  refine zhc (fun h=>h rfl) ?_
  exact⟨rfl,hS⟩
 clear hS
 rintro l' H ⟨rfl,hS⟩
 try simp only[zja,zka]
 refine zou hS (a:=.body i ((b.drop (i * 64)).take 64)) (rest:=[]) rfl ?_
 clear hS
 intro H p cv1 x1 Γ j hS hO hj hx hok
 replace hS:AgS p7 rA rB rC c kv v wv b wr (agC b (i+1) [] [] []) H:=hS
 refine zYb ?_
 refine zaa zJb ?_
 refine zKb rfl ?_
 refine zaa zba ?_
 refine zpa hO j hj (v:=int 3) rfl ?_
 refine zaa zeb ?_
 refine zaa zbb ?_
 refine zhc (fun h=>h rfl) ?_
 try simp only[zja,zka]
 refine zaa zba ?_
 refine zpa hO j hj (zUv hok.dl _ _ _) ?_
 refine zxa (RdB.str (xs:=(b.drop (i * 64)).take 64) hO hx) ?_
 refine zaa (zKD i (by omega)) ?_
 refine zaa (zCe (b:=1) (by omega)) ?_
 exact hk H hS
set_option maxHeartbeats 8000000 in
theorem cagain_main(hO:St H G)(hv:RdB G v b)(hst:b≠[]→Stay G v)(hb:By b)(hwv:RdB G wv wr)(hwr:By wr)(hat:0≤a'∧a'≤255):wCall P zbd [v,wv,.int .u8 a'] H fun v _=>v=.bool true:=by
 apply zMk; unfold zli
 refine ztj hO ?_
 clear hO
 intro H hO
 refine zaa zJb ?_
 refine zKb rfl ?_
 refine zEa (fun l' H'=>l'=[v,wv,.int .u8 a',.bool false]∧H=H'∧b.length≤600) ?_ ?_
 ·refine zxa hv.lenSl ?_
  refine zaa zKc ?_
  refine zoa (fun h=>?_) (fun h=>?_)
  ·repeat (first|refine oi ?_|refine ow ?_|refine wy ?_|refine wn ?_|refine wt ?_|refine wf' ?_|refine cy ?_|refine cn ?_)
   rfl
  refine zxa hwv.lenSl ?_
  refine zaa zKc ?_
  refine zaa (zsb h) ?_
  refine zoa (fun h2=>?_) (fun h2=>?_)
  ·rfl
  ·exact⟨rfl,rfl,by omega⟩
 rintro l' H' ⟨rfl,rfl,hl⟩
 try simp only[zja,zka]
 have hok:∀ N,AgM b N→N≤64→(mkF zMb 3 64 b).Ok:=fun N hm hN=>zju (by decide) (by decide) (by omega) (by decide) (by
  have:=hm.len; unfold mkF at this; rw[zhi] at this; rw[this]; omega)
 refine zHp (pr:=zMb) (ver:=3) (ck:=64) hO hv hb (by omega) (by decide) (by decide) (by decide) ?_ ?_
 ·clear hO
  intro _ H hO
  refine zaa zHj ?_
  refine zaa zIj ?_
  rw[zcM]
  refine nw hO.z ?_
  clear hO
  intro p7 H hO
  refine sw hO 0 rfl (by rfl) (by rfl) (by rfl) ?_
  clear hO
  intro H hO
  refine zaa zeb ?_
  refine zsc (by decide) ?_
  trivial
 clear hO
 intro hr H cv hO hcv
 obtain⟨N,hm,hN⟩:=agM hr hl
 have mok:=hok N hm hN
 refine zaa zHj ?_
 refine zaa zIj ?_
 rw[zcM]
 refine nw hO ?_
 clear hO
 intro p7 H hO
 rw[← List.append_assoc] at hO
 refine zva hO (_+0) (zza rfl) (by rfl) (zta mok.dl) (zlc hcv.one) ?_
 clear hO
 intro H hO
 replace hO:=hO.set_r
 replace hO:St H ((G++zRa cv (hsC (mkF zMb 3 64 b).cks))++[(p7,⟨mfC (mkF zMb 3 64 b) cv,true⟩)]):=hO
 refine zaa zeb ?_
 refine zhc (fun h=>h rfl) ?_
 refine zHa hO (_+0) (zza rfl) (zta mok.dl) (by omega) ?_
 refine zAe (key:=[]) mok hO (.inl ⟨rfl,rfl⟩) hcv.app'.app (fun x hx=>by cases hx) (by decide) (fun h=>absurd hr h) ?_
 clear hO
 intro _ H hv' hcs hO hh
 refine zaa zHj ?_
 refine zaa zIj ?_
 have q1:RdB (((G++zRa cv (hsC (mkF zMb 3 64 b).cks))++[(p7,⟨mfC (mkF zMb 3 64 b) cv,true⟩)])++zRa hv' hcs) v b:=hv.app.app.app
 have q2:b≠[]→Stay (((G++zRa cv (hsC (mkF zMb 3 64 b).cks))++[(p7,⟨mfC (mkF zMb 3 64 b) cv,true⟩)])++zRa hv' hcs) v:=fun h=>(hst h).app.app.app
 have q3:RdB (((G++zRa cv (hsC (mkF zMb 3 64 b).cks))++[(p7,⟨mfC (mkF zMb 3 64 b) cv,true⟩)])++zRa hv' hcs) wv wr:=hwv.app.app.app
 have q4:∃ (j:Nat) (cvm:Value),(((G++zRa cv (hsC (mkF zMb 3 64 b).cks))++[(p7,(⟨mfC (mkF zMb 3 64 b) cv,true⟩:Blk))])++zRa hv' hcs)[j]?=some (p7,⟨mfC (mkF zMb 3 64 b) cvm,true⟩)∧RdH (((G++zRa cv (hsC (mkF zMb 3 64 b).cks))++[(p7,⟨mfC (mkF zMb 3 64 b) cv,true⟩)])++zRa hv' hcs) cvm (mkF zMb 3 64 b).cks:=⟨_,cv,zAa (zza (k:=0) rfl),hcv.app'.app.app⟩
 have q5:RdB (((G++zRa cv (hsC (mkF zMb 3 64 b).cks))++[(p7,⟨mfC (mkF zMb 3 64 b) cv,true⟩)])++zRa hv' hcs) hv' (zXa [] (mkF zMb 3 64 b)):=hh.rd.app'
 have q6:Stay (((G++zRa cv (hsC (mkF zMb 3 64 b).cks))++[(p7,⟨mfC (mkF zMb 3 64 b) cv,true⟩)])++zRa hv' hcs) hv':=(OwnB.stay hh).app'
 generalize ((G++zRa cv (hsC (mkF zMb 3 64 b).cks))++[(p7,(⟨mfC (mkF zMb 3 64 b) cv,true⟩:Blk))])++zRa hv' hcs=S at *
 refine zFD hO ?_
 clear hO
 intro H A B C h3 hO
 refine zaa zmK ?_
 refine zOj (Γ:=S) (key:=[]) (t:=tmG) hO (List.Perm.refl _) (.inl ⟨rfl,rfl⟩) (fun x hx=>by cases hx) (by decide) (by decide) h3.a h3.b h3.c h3.ea h3.eb h3.ec ?_
 clear hO
 intro H X kv c hS
 have e1:A.n=1:=h3.na
 have e2:B.n=1:=h3.nb
 have e3:C.n=1:=h3.nc
 have hl:=zJp (key:=[]) mok hr
 have hhb:By (zXa [] (mkF zMb 3 64 b)):=zss mok
 have hopen:zdb [] (zXa [] (mkF zMb 3 64 b))=(mkF zMb 3 64 b,((zXa [] (mkF zMb 3 64 b)).length:Int),0):=by
  have:=zKm (key:=[]) mok hr []
  rwa [List.append_nil] at this
 obtain⟨ah,nh,ch,rfl⟩:=q5.shape
 refine zaa (bPc _ _ _ _) ?_
 refine zqj (p:=(-1,zXa [] (mkF zMb 3 64 b))) hS ⟨_,rfl,q5.app,hhb,fun _=>q6.app⟩ (by show (zXa [] (mkF zMb 3 64 b)).length≤1000000; omega) ?_
 clear hS
 intro b1 H A1 sA ht hf hS
 obtain rfl:=znu hf (by rw[e1]; show (0:Nat)≠1; decide)
 rw[e2,e3] at hS
 replace hS:CkSt (S++X) [] ⟨[],tmG,[(-1,zXa [] (mkF zMb 3 64 b))],[],[],1,1,m0,none,false,0⟩ A1 B C c kv H:=hS
 refine zEc hS ?_
 clear hS
 rw[zZl (by decide) (by decide),zgx hopen (zrG hm)]
 intro H X1 A2 B1 C1 s1' s2' s3' hS
 refine zaa zJb ?_
 refine zKb rfl ?_
 rw[← s2'.r,← s3'.r]
 refine zlx hS ?_
 clear hS
 intro vb H B2 sB hS
 refine zGD hS ?_
 clear hS
 intro vc H C2 sC hS
 replace hS:CkSt ((S++X)++X1) [] (agC b 0 [] [] []) A2 B2 C2 c kv H:=hS
 obtain⟨jm,cvm,g4,g5⟩:=q4
 obtain⟨R,hO⟩:=hS.st'
 refine zaa zba ?_
 refine zpa hO jm (zAa (zAa (zAa g4))) (zzf mok.dl) ?_
 refine zxa g5.lenSl ?_
 rw[hm.len]
 have hI:AgS p7 A2.r B1.r C1.r c kv v wv b wr (agC b 0 [] [] []) H:=⟨_,A2,B2,C2,rfl,sB.r,sC.r,by rw[s1'.n,sA.n,e1],hS,q1.app.app,fun h=>(q2 h).app.app,q3.app.app,jm,cvm,zAa (zAa g4),g5.app.app⟩
 rw[show A.r=A2.r by rw[s1'.r,sA.r]]
 clear hS hO
 refine zXh (fun k l H=>∃ i:Nat,i≤N∧k=N - i∧l=[v,wv,.int .u8 a',.bool false,ptr p7 0,ptr A2.r 0,ptr B1.r 0,ptr C1.r 0,ptr c 0,zus b i,int N,int i]∧AgS p7 A2.r B1.r C1.r c kv v wv b wr (agC b i [] [] []) H) _ _ ?_ N _ _ ⟨0,Nat.zero_le _,rfl,rfl,hI⟩
 clear hI
 rintro k l H ⟨i,hi,rfl,rfl,hS⟩
 by_cases hlt:i < N
 ·refine zJy hm hN hlt hb hwr hat hS ?_
  intro H hS
  exact⟨N - (i+1),by omega,i+1,hlt,rfl,rfl,hS⟩
 have ei:i=N:=by omega
 subst ei
 unfold zOc
 try simp only[zja,zka]
 refine zaa zMa ?_
 refine zhc (by omega) ?_
 refine zSa rfl ?_
 try simp only[zja,zka]
 have hall:b.take (i * 64)=b:=List.take_of_length_le hm.hi
 have hend:(agC b i [] [] []).step=(true,(⟨[],tmG,[],[],[.fin],1,1,mkF zMb 3 64 b,some (b.take (i * 64),i),true,0⟩:Ck)):=by
  unfold agC
  exact step_end (by decide) hm.len.symm (by rw[hall]; rfl)
 refine zYb ?_
 refine zts hS ?_
 clear hS
 rw[hend]
 intro H hS
 refine zaa zJb ?_
 refine zKb rfl ?_
 refine zqG hS ?_
 refine zaa zJb ?_
 refine zaa zbb ?_
 refine zKb rfl ?_
 try simp only[zja,zka]
 refine zou hS (a:=.fin) (rest:=[]) rfl ?_
 clear hS
 intro H p cv1 x1 Γ j hS hO hj hx hok'
 refine zhd rfl ?_
 refine zaa zba ?_
 refine zpa hO j hj (v:=int 4) rfl ?_
 refine zaa zYa ?_
 refine zaa zQb ?_
 refine zsc rfl ?_
 obtain⟨S2,A9,B9,C9,_,_,_,_,hS9,g1,_⟩:=hS
 refine zxa (RdB.str (zKp hS9) g1) ?_
 unfold zus
 rw[hall]
 refine zaa (zOC _ _ _) ?_
 refine zaa (zub rfl) ?_
 refine zhd rfl ?_
 refine zDE hS9 ?_
 refine zaa zYa ?_
 refine zaa zQb ?_
 rfl
end J
set_option maxRecDepth 100000
namespace J
open Go Go.Ab
variable{b key:List Int}{m sd:Mf}{t:Tm}{s:Ck}{w:List Sn}{hs:List (List Int)}{cl:List (List Int)}
def zZe(i:Nat):List (List Int)→List Sn
 | []=>[]
 | c::r=>.body i c::zZe (i+1) r
theorem zdr:∀ (cl:List (List Int)) (i:Nat) (c:List Int),zZe i (cl++[c])=zZe i cl++[.body ((i+cl.length:Nat):Int) c]
 | [],i,c=>rfl
 | d::r,i,c=>by
  show _::zZe (i+1) (r++[c])=_::(zZe (i+1) r++_)
  rw[zdr r (i+1) c,show i+1+r.length=i+(d::r).length by simp; omega]
theorem zmf:∀ (cl:List (List Int)) (i:Nat),(zZe i cl).length=cl.length
 | [],i=>rfl
 | d::r,i=>by simp[zZe,zmf r (i+1)]
theorem zqu:∀ (cl:List (List Int)) (i j:Nat) (h:j < cl.length),(zZe i cl)[j]?=some (.body ((i+j:Nat):Int) cl[j])
 | d::r,i,0,h=>rfl
 | d::r,i,j+1,h=>by
  have:=zqu r (i+1) j (by simpa using h)
  rw[show i+1+j=i+(j+1) by omega] at this
  simpa [zZe] using this
def zCI(sd:Mf)(cl:List (List Int)):Prop:=∀ i (h:i < cl.length),(cl[i].length:Int)=(zsf sd i).2∧sha cl[i]=sd.cks.getD i []∧By cl[i]
def zNB(key:List Int)(sd:Mf)(h:List Int):Prop:=(zXa key sd).length≤h.length∧h.take (zXa key sd).length=zXa key sd
structure Went (hs:List (List Int)) (s:Ck) (tot:List Sn) (cl:List (List Int)):Prop where
 str:s.hs=some (cl.flatten,cl.length)
 r:zIa s.sd
 ok:s.sd.Ok
 adm:zLn s.sd s.t=0
 head:∃ h ∈ hs,zNB s.key s.sd h
 bods:zCI s.sd cl
 le:cl.length≤s.sd.cks.length
 dn:s.dn=true→cl.length=s.sd.cks.length∧sha cl.flatten=s.sd.dg
 tot:tot=.go ((zXa s.key s.sd).length:Int) s.sd::(zZe 0 cl++if s.dn=true then [.fin] else [])
def Tot(hs:List (List Int))(s:Ck)(tot:List Sn):Prop:=(s.hs=none∧s.dn=false∧tot=[])∨∃ cl,Went hs s tot cl
def InH(hs:List (List Int))(s:Ck):Prop:=∀ p ∈ s.ain,By p.2∧p.2.length≤1000000∧(p.1=-1→p.2 ∈ hs)
theorem Tot.more{tot:List Sn}{x:List Int}(h:Tot hs s tot):Tot (hs++[x]) s tot:=by
 rcases h with h|⟨cl,h⟩
 ·exact .inl h
 ·obtain⟨y,hy,hg⟩:=h.head
  exact .inr ⟨cl,⟨h.str,h.r,h.ok,h.adm,⟨y,List.mem_append_left _ hy,hg⟩,h.bods,h.le,h.dn,h.tot⟩⟩
theorem Tot.pop{tot:List Sn}{r:List Sn}(h:Tot hs s tot):Tot hs (s.popO r) tot:=by
 rcases h with h|⟨cl,h⟩
 ·exact .inl h
 ·exact .inr ⟨cl,⟨h.str,h.r,h.ok,h.adm,h.head,h.bods,h.le,h.dn,h.tot⟩⟩
theorem Tot.popB{tot:List Sn}{r:List Sn}(h:Tot hs s tot):Tot hs (s.popB r) tot:=by
 rcases h with h|⟨cl,h⟩
 ·exact .inl h
 ·exact .inr ⟨cl,⟨h.str,h.r,h.ok,h.adm,h.head,h.bods,h.le,h.dn,h.tot⟩⟩
theorem Tot.push{tot:List Sn}{p:Int × List Int}(h:Tot hs s tot):Tot hs (s.push p) tot:=by
 rcases h with h|⟨cl,h⟩
 ·exact .inl h
 ·exact .inr ⟨cl,⟨h.str,h.r,h.ok,h.adm,h.head,h.bods,h.le,h.dn,h.tot⟩⟩
theorem InH.more{x:List Int}(h:InH hs s):InH (hs++[x]) s:=fun p hp=>⟨(h p hp).1,(h p hp).2.1,fun e=>List.mem_append_left _ ((h p hp).2.2 e)⟩
theorem zLD(ht:Tot hs s (w++s.ou))(hi:InH hs s):Tot hs s.step.2 (w++s.step.2.ou)∧InH hs s.step.2:=by
 unfold Ck.step
 by_cases he:s.er≠0∨s.dn=true
 ·rw[if_pos he]; exact⟨ht,hi⟩
 rw[if_neg he]
 have hdn:s.dn=false:=by
  cases h:s.dn with
  | false=>rfl
  | true=>exact absurd (.inr h) he
 rcases ht with⟨h1,h2,h3⟩|⟨cl,h⟩
 ·rw[h1]
  simp only
  cases ha:s.ain with
  | nil=>exact⟨.inl ⟨h1,h2,h3⟩,hi⟩
  | cons p r=>
   simp only
   by_cases hf:s.bk.length=s.nb∨s.ou.length=s.nc
   ·rw[if_pos hf]; exact⟨.inl ⟨h1,h2,h3⟩,hi⟩
   rw[if_neg hf]
   have hi2:InH hs (s.pop r):=fun q hq=>hi q (by rw[ha]; exact List.mem_cons_of_mem _ hq)
   by_cases hp:p.1=-1
   ·rw[if_pos hp]
    obtain⟨hb,hl,hin⟩:=hi p (by rw[ha]; exact .head _)
    have ho:=zLm (key:=s.key) hb hl
    have hin:=hin hp
    unfold Ck.opens
    show Tot hs (if (zdb s.key p.2).2.2≠0 then _ else if zLn (zdb s.key p.2).1 s.t≠0 then _ else _) _∧_
    by_cases h4:(zdb s.key p.2).2.2≠0
    ·rw[if_pos h4,if_pos (show (zdb (s.pop r).key p.2).2.2≠0 from h4)]
     exact⟨.inl ⟨h1,h2,h3⟩,hi2⟩
    rw[if_neg h4,if_neg (show ¬ (zdb (s.pop r).key p.2).2.2≠0 from h4)]
    by_cases h5:zLn (zdb s.key p.2).1 s.t≠0
    ·rw[if_pos h5,if_pos (show zLn (zdb (s.pop r).key p.2).1 (s.pop r).t≠0 from h5)]
     exact⟨.inl ⟨h1,h2,h3⟩,hi2⟩
    rw[if_neg h5,if_neg (show ¬ zLn (zdb (s.pop r).key p.2).1 (s.pop r).t≠0 from h5)]
    obtain⟨g1,g2,g3,g4,g5,g6⟩:=ho.resolve_right (by rintro⟨_,_,h|h|h⟩ <;> (rw[h] at h4; exact h4 (by decide)))
    refine⟨.inr ⟨[],⟨rfl,g2,g3,Classical.not_not.1 h5,⟨p.2,hin,g5,g6⟩,fun i h=>absurd h (by simp),Nat.zero_le _,fun h=>?_,?_⟩⟩,hi2⟩
    ·have h:s.dn=true:=h
     rw[hdn] at h; cases h
    ·show w++(s.ou++[.go (zdb s.key p.2).2.1 (zdb s.key p.2).1])=.go ((zXa s.key (zdb s.key p.2).1).length:Int) (zdb s.key p.2).1::([]++if s.dn=true then [.fin] else [])
     rw[← List.append_assoc,h3,g4,hdn]; rfl
   ·rw[if_neg hp]
    exact⟨.inl ⟨h1,h2,h3⟩,hi2⟩
 ·rw[h.str]
  simp only
  have htot:=h.tot
  rw[hdn] at htot
  simp only[Bool.false_eq_true,if_false,List.append_nil] at htot
  by_cases hw:cl.length=s.sd.cks.length
  ·rw[if_pos hw]
   unfold Ck.ends
   by_cases h2:s.ou.length=s.nc
   ·rw[if_pos h2]
    exact⟨.inr ⟨cl,h⟩,hi⟩
   rw[if_neg h2]
   by_cases h3:sha cl.flatten=s.sd.dg
   ·rw[if_pos h3]
    refine⟨.inr ⟨cl,⟨h.str,h.r,h.ok,h.adm,h.head,h.bods,h.le,fun _=>⟨hw,h3⟩,?_⟩⟩,hi⟩
    show w++(s.ou++[.fin])=_
    rw[← List.append_assoc,htot]
    rfl
   ·rw[if_neg h3]
    exact⟨.inr ⟨cl,⟨h.str,h.r,h.ok,h.adm,h.head,h.bods,h.le,h.dn,h.tot⟩⟩,hi⟩
  rw[if_neg hw]
  cases ha:s.ain with
  | nil=>exact⟨.inr ⟨cl,h⟩,hi⟩
  | cons p r=>
   simp only
   by_cases hf:s.bk.length=s.nb∨s.ou.length=s.nc
   ·rw[if_pos hf]; exact⟨.inr ⟨cl,h⟩,hi⟩
   rw[if_neg hf]
   have hi2:InH hs (s.pop r):=fun q hq=>hi q (by rw[ha]; exact List.mem_cons_of_mem _ hq)
   by_cases hp:p.1=cl.length
   ·rw[if_pos hp]
    obtain⟨hb,hl,hin⟩:=hi p (by rw[ha]; exact .head _)
    unfold Ck.takes
    by_cases h4:(p.2.length:Int)=(zsf s.sd cl.length).2∧sha p.2=s.sd.cks.getD cl.length []
    ·rw[if_pos (show (p.2.length:Int)=(zsf (s.pop r).sd cl.length).2∧sha p.2=(s.pop r).sd.cks.getD cl.length [] from h4)]
     refine⟨.inr ⟨cl++[p.2],⟨?_,h.r,h.ok,h.adm,h.head,?_,?_,fun hd=>?_,?_⟩⟩,hi2⟩
     ·show some (cl.flatten++p.2,cl.length+1)=_
      simp
     ·intro i hi'
      by_cases hlt:i < cl.length
      ·rw[List.getElem_append_left hlt]; exact h.bods i hlt
      ·have:i=cl.length:=by simp at hi'; omega
       subst this
       simp only[List.getElem_append_right (Nat.le_refl _),Nat.sub_self,List.getElem_cons_zero]
       exact⟨h4.1,h4.2,hb⟩
     ·have:=h.le
      show (cl++[p.2]).length≤s.sd.cks.length
      simp; omega
     ·have hd:s.dn=true:=hd
      rw[hdn] at hd; cases hd
     ·show w++(s.ou++[.body cl.length p.2])=.go ((zXa s.key s.sd).length:Int) s.sd::(zZe 0 (cl++[p.2])++if s.dn=true then [.fin] else [])
      rw[← List.append_assoc,htot,hdn,zdr]
      simp
    ·rw[if_neg (show ¬ ((p.2.length:Int)=(zsf (s.pop r).sd cl.length).2∧sha p.2=(s.pop r).sd.cks.getD cl.length []) from h4)]
     exact⟨.inr ⟨cl,⟨h.str,h.r,h.ok,h.adm,h.head,h.bods,h.le,h.dn,h.tot⟩⟩,hi2⟩
   ·rw[if_neg hp]
    exact⟨.inr ⟨cl,⟨h.str,h.r,h.ok,h.adm,h.head,h.bods,h.le,h.dn,h.tot⟩⟩,hi2⟩
theorem zvs(hr:zIa sd):∀ n,n≤cl.length→cl.length≤sd.cks.length→zCI sd cl→((cl.take n).flatten.length:Int)=min ((n:Int) * sd.ck) sd.sz
 | 0,_,_,_=>by
  have:=hr.2.2.2.1
  simp; omega
 | n+1,hn,hle,hb=>by
  have ih:=zvs hr n (by omega) hle hb
  have h1:=(hb n (by omega)).1
  have h2:=zWl (i:=(n:Int)) hr (by omega) (by omega)
  rw[List.take_succ_eq_append_getElem (by omega),List.flatten_append,List.length_append]
  unfold zsf at h1
  rw[if_neg (by rintro (h|h|h); exact h hr; omega; omega)] at h1
  simp only[List.flatten_cons,List.flatten_nil,List.append_nil]
  have e:((n+1:Nat):Int) * sd.ck=(n:Int) * sd.ck+sd.ck:=by rw[Int.natCast_add,Int.add_mul]; simp
  rw[e]
  have hck:=hr.2.2.2.2.2.1
  rw[Int.natCast_add,ih,h1]
  generalize (n:Int) * sd.ck=Z at *
  rcases Classical.em ((n:Int)=(sd.cks.length:Int) - 1) with h3|h3
  ·have:=h2.2.2.1 h3; omega
  ·have:=h2.2.2.2 h3; omega
theorem zMD(hr:zIa sd)(h:cl.length=sd.cks.length)(hb:zCI sd cl):(cl.flatten.length:Int)=sd.sz:=by
 have h1:=zvs hr cl.length (Nat.le_refl _) (by omega) hb
 rw[List.take_length] at h1
 rw[h1]
 have hn:0 < sd.cks.length:=by
  have h2:=hr.2.2.2.2.2.2.2.2.1
  have h3:=hr.2.2.2.1
  have h4:=hr.2.2.2.2.2.1
  unfold cnt at h2
  rw[if_neg (by omega)] at h2
  have:=Int.ediv_nonneg (show 0≤sd.sz - 1 by omega) (show 0≤sd.ck by omega)
  omega
 have h2:=zWl (i:=(sd.cks.length:Int) - 1) hr (by omega) (by omega)
 have h3:=h2.2.2.1 rfl
 have e:(cl.length:Int) * sd.ck=((sd.cks.length:Int) - 1) * sd.ck+sd.ck:=by rw[h,Int.sub_mul]; omega
 rw[e]
 generalize ((sd.cks.length:Int) - 1) * sd.ck=Z at *
 omega
end J
set_option maxRecDepth 100000
namespace J
open Go Go.Ab
variable{H:Heap}{Γ Γ0 Γ1 Γ2 Δ G L S T X F F1 F2:List (Nat × Blk)}{K:VH}{v w' x cv dv kv kw av wv hv:Value}{xs ys zs b key wr:List Int}{i j p q o n k c p2 rA rB rC N:Nat}{e er x0 x1 x2:Int}{cs cs' new el:List Value}{l pr all:List UInt8}{m sd:Mf}{t:Tm}{A B C:Ring}{s:Ck}{w:List Sn}{hs:List (List Int)}{acts:List ActP}
theorem CkSt.swapF(h:CkSt S (F1++F2) s A B C c kv H):CkSt S (F2++F1) s A B C c kv H:=by
 obtain⟨sv,sp,T,h,hO⟩:=h
 refine⟨sv,sp,T,h,hO.perm ?_⟩
 generalize mB A B C c (ckC kv s.t A.r B.r C.r s.sd sv sp s.dn s.er) T=M
 exact (by classical exact List.perm_iff_count.2 fun _=>by simp only[List.count_append,List.count_nil,List.set_cons_zero]; omega)
theorem zGE{size bytes c0:Nat}{r:R}(h:CkSt S (zRa v cs++F2) s A B C c kv H)(hv:Own size v n cs)(hs:new.length=size)(hp:0 < size)(h1:new.all oneCell=true)(hb:(n+1) * bytes≤140737488355328)(hn:n+1≤9223372036854775807)
  (hr:r=some (Go.Ab.sl H.next 0 1 c0,H.push new)) (hk:∀ H' v',CkSt S (zRa v' (cs++new)++F2) s A B C c kv H'→Own size v' (n+1) (cs++new)→K v' H') :
  opW r fun t80 H14=>opW (zqa size bytes v t80 H14) K:=by
 obtain⟨sv,sp,T,h,hO⟩:=h
 generalize hM:mB A B C c (ckC kv s.t A.r B.r C.r s.sd sv sp s.dn s.er) T=M at hO
 refine zCa hO hr ?_
 clear hO
 intro q H hO
 have hO2:St H (((S++(F2++M))++zRa v cs)++[(q,⟨new,true⟩)]):=by
  refine hO.perm ?_
  generalize zRa v cs=V
  exact (by classical exact List.perm_iff_count.2 fun _=>by simp only[List.count_append,List.count_nil,List.set_cons_zero]; omega)
 clear hO
 refine zei hO2 hv hs hp h1 hb hn ?_
 clear hO2
 intro v1 H hO hv1
 refine hk H v1 ⟨sv,sp,T,h,?_⟩ hv1
 rw[hM]
 refine hO.perm ?_
 generalize zRa v1 (cs++new)=V
 exact (by classical exact List.perm_iff_count.2 fun _=>by simp only[List.count_append,List.count_nil,List.set_cons_zero]; omega)
theorem zND:s.step.2.key=s.key∧s.step.2.t=s.t:=by
 unfold Ck.step
 split
 ·exact⟨rfl,rfl⟩
 split
 ·split
  ·unfold Ck.ends
   split
   ·exact⟨rfl,rfl⟩
   split <;> exact⟨rfl,rfl⟩
  ·split
   ·exact⟨rfl,rfl⟩
   split
   ·exact⟨rfl,rfl⟩
   ·dsimp only
    split
    ·unfold Ck.takes
     split <;> exact⟨rfl,rfl⟩
    ·exact⟨rfl,rfl⟩
 ·split
  ·exact⟨rfl,rfl⟩
  split
  ·exact⟨rfl,rfl⟩
  ·dsimp only
   split
   ·unfold Ck.opens
    split
    ·exact⟨rfl,rfl⟩
    split <;> exact⟨rfl,rfl⟩
   ·exact⟨rfl,rfl⟩
def StR(h:List Int)(el:List Value):Prop:=el=[zJx h]∧By h
def SuS(rA rB rC c p2:Nat)(kv kw:Value)(key:List Int)(t:Tm)(x0 x1 x2:Int)(av:Value)(acts:List ActP)(wv hv:Value)(w:List Sn)(hs:List (List Int))(s:Ck)(H:Heap):Prop:=
 ∃ S A B C wcs hcs,∃ j:Nat,A.r=rA∧B.r=rB∧C.r=rC∧CkSt S (zRa wv wcs++zRa hv hcs) s A B C c kv H∧Row 41 (ToldR S) wv w wcs∧Row 1 StR hv hs hcs∧S[j]?=some (p2,⟨wdC kw t [x0,x1,x2],true⟩)∧RdB S kw key∧RdA S av acts
structure SuP (key:List Int) (t:Tm) (w:List Sn) (hs:List (List Int)) (s:Ck):Prop where
 key:s.key=key
 t:s.t=t
 tot:Tot hs s (w++s.ou)
 inh:InH hs s
theorem zsG{tot:List Sn}(h:Tot hs s tot):tot.length≤66:=by
 rcases h with⟨_,_,rfl⟩|⟨cl,h⟩
 ·simp
 ·have h1:=h.le
  have h2:=h.r.2.2.2.2.2.2.2.2.2
  rw[h.tot]
  simp only[List.length_cons,List.length_append,zmf]
  split <;> simp <;> omega
set_option maxHeartbeats 4000000 in
theorem zKy{Qx:LX}{Qr:LN}{n0 i0:Value}(hS:SuS rA rB rC c p2 kv kw key t x0 x1 x2 av acts wv hv w hs s H)(hP:SuP key t w hs s)
  (hk:∀ wv' w' s' H',SuS rA rB rC c p2 kv kw key t x0 x1 x2 av acts wv' hv w' hs s' H'→SuP key t w' hs s'→s'.ou=[]→s'.ain=s.ain→Qx 2 [ptr p2 0,.bool false,ptr rA 0,ptr rB 0,ptr rC 0,ptr c 0,wv',hv,av,n0,i0] H') :
  ztb P true 217 zse 30786325579764 [ptr p2 0,.bool false,ptr rA 0,ptr rB 0,ptr rC 0,ptr c 0,wv,hv,av,n0,i0] H Qx Qr:=by
 refine zyi (fun k l H=>∃ wv w s',k=s'.ou.length∧s'.ain=s.ain∧l=[ptr p2 0,.bool false,ptr rA 0,ptr rB 0,ptr rC 0,ptr c 0,wv,hv,av,n0,i0]∧SuS rA rB rC c p2 kv kw key t x0 x1 x2 av acts wv hv w hs s' H∧SuP key t w hs s') _ _ ?_ s.ou.length _ _ ⟨wv,w,s,rfl,rfl,rfl,hS,hP⟩
 clear hS hP
 rintro k l H ⟨wv,w,s1,rfl,hain,rfl,hS,hP⟩
 unfold zGg
 try simp only[zja,zka]
 have hSS:=hS
 obtain⟨S,A,B,C,wcs,hcs,j,rfl,rfl,rfl,hS,g1,g2,g3,g4,g5⟩:=hS
 refine zWv hS ?_
 refine zaa zKc ?_
 refine zoa (fun h=>?_) (fun h=>?_)
 ·refine zrj hS (fun e=>by rw[e] at h; simp at h) ?_
  clear hS
  intro a rest he H C' el sC hel hS
  have row:=hel.row
  refine zaa zHj ?_
  refine zaa zIj ?_
  rw[zcT]
  refine zsj hS zRb.1 row.1 row.2 ?_
  clear hS
  intro p13 H hS
  obtain⟨R,hO⟩:=hS.st'
  refine zFa hO (S.length+0) (zAa (zza rfl)) (cs:=el) (by show el.take 41=_; exact List.take_of_length_le (by rw[row.1]; omega)) row.1 (by omega) ?_
  clear hO
  have hlen:=zsG hP.tot
  rw[List.length_append] at hlen
  refine zGE hS g1.own row.1 (by omega) row.2 (by omega) (by omega) (zVJ row.1 _) ?_
  clear hS
  intro H wv' hS hv'
  refine⟨rest.length,by rw[he]; simp,wv',w++[a],s1.popO rest,rfl,hain,rfl,?_,⟨hP.key,hP.t,?_,hP.inh⟩⟩
  ·exact⟨_,A,B,C',_,hcs,j,rfl,rfl,sC.r,hS,(g1.imp fun _ _=>ToldR.app).more hel.app row.2 hv',g2,zAa g3,g4.app,g5.app⟩
  ·have:=hP.tot
   rw[he] at this
   show Tot hs (s1.popO rest) ((w++[a])++rest)
   rw[List.append_assoc]
   exact this.pop
 ·refine hk wv w s1 H hSS hP (List.length_eq_zero_iff.1 (by omega)) hain
end J
set_option maxRecDepth 100000
namespace J
open Go Go.Ab
variable{H:Heap}{Γ Γ0 Γ1 Γ2 Δ G L S T X F F1 F2:List (Nat × Blk)}{K:VH}{v w' x cv dv kv kw av wv hv:Value}{xs ys zs b key wr:List Int}{i j p q o n k c p2 rA rB rC N:Nat}{e er x0 x1 x2:Int}{cs cs' new el:List Value}{l pr all:List UInt8}{m sd:Mf}{t:Tm}{A B C:Ring}{s:Ck}{w:List Sn}{hs:List (List Int)}{acts:List ActP}
theorem znK(x:ByteArray)(H:Heap):(zia P 43 1).f [(0,.string x)] H=some (Go.Ab.sl H.next 0 1 3,H.push [.string x]):=by kernel_rfl
def zOB(rA rB rC c p2:Nat)(wv hv av:Value)(n i:Nat):List Value:=[ptr p2 0,.bool false,ptr rA 0,ptr rB 0,ptr rC 0,ptr c 0,wv,hv,av,int n,int i]
set_option maxHeartbeats 8000000 in
theorem zPB{Nn:LN}{Qx:LX}{Qr:LN}(hb:∀ a ∈ acts,a.p.2.length≤2500)(hlen:acts.length≤80)(hi:i < acts.length)(hhl:hs.length≤i)
  (hS:SuS rA rB rC c p2 kv kw key t x0 x1 x2 av acts wv hv w hs s H) (hP:SuP key t w hs s) (hou:s.ou=[])
  (hk:∀ wv' hv' w' hs' s' H',hs'.length≤i+1→SuS rA rB rC c p2 kv kw key t x0 x1 x2 av acts wv' hv' w' hs' s' H'→SuP key t w' hs' s'→s'.ou=[]→Nn (zOB rA rB rC c p2 wv' hv' av acts.length (i+1)) H') :
  zfd (zOB rA rB rC c p2 wv hv av acts.length i) H Nn Qx Qr:=by
 unfold zOB
 unfold zfd
 try simp only[zja,zka]
 refine zaa zMa ?_
 refine zsc (by omega) ?_
 obtain⟨S,A,B,C,wcs,hcs,j,rfl,rfl,rfl,hS,g1,g2,g3,g4,g5⟩:=hS
 obtain⟨p,c9,ja,wb,cs,x,e1,e2,e3,e4⟩:=g5.at' hi
 have hbl:=hb _ (List.getElem_mem hi)
 refine zaa (by rw[e1]; exact zpb (by omega) (by omega)) ?_
 rw[Int.toNat_natCast]
 obtain⟨R,hO⟩:=hS.st'
 refine zFa hO ja (zAa e2) e3 rfl (by omega) ?_
 clear hO
 obtain⟨a0,n0,c00,rfl⟩:=e4.shape
 rw[zfI]
 refine zsj hS rfl rfl rfl ?_
 clear hS
 intro p12 H hS
 refine zaa zba ?_
 refine ckl hS (S.length+0) (zza rfl) (v:=int acts[i].k) rfl ?_
 refine zaa zYa ?_
 refine zoa (fun k1=>?_) (fun k1=>?_)
 ·refine zYb ?_
  refine zaa zba ?_
  obtain⟨R,hO⟩:=hS.st'
  refine zFa hO (S.length+0) (zAa (zza rfl)) (cs:=[int acts[i].p.1,.slice a0 n0 c00]) rfl rfl (by omega) ?_
  clear hO
  refine zqj (p:=acts[i].p) hS e4.app (by omega) ?_
  clear hS
  intro b H A' sA ht hf hS
  cases b with
  | false=>
   refine zKb rfl ?_
   refine zaa zbb ?_
   try simp only[zja,zka]
   refine zKb rfl ?_
   refine zaa (zCe (b:=1) (by omega)) ?_
   exact hk wv hv w hs s H (by omega) ⟨_,A',B,C,wcs,hcs,j,sA.r,rfl,rfl,hS,g1.imp fun _ _=>ToldR.app,g2,zAa g3,g4.app,g5.app⟩ hP hou
  | true=>
   refine zhd rfl ?_
   refine zaa zba ?_
   refine zaa zba ?_
   refine ckl hS (S.length+0) (zza rfl) (v:=int acts[i].p.1) rfl ?_
   refine zaa zYa ?_
   refine zaa zQb ?_
   try simp only[zja,zka]
   replace hS:CkSt (S++[(p12,⟨[int acts[i].k,int acts[i].p.1,.slice a0 n0 c00],true⟩)]) (zRa wv wcs++zRa hv hcs) (s.push acts[i].p) A' B C c kv H:=hS
   have hby:By acts[i].p.2:=by
    obtain⟨v',h1,_,h2,_⟩:=e4
    exact h2
   refine zoa (fun hm=>?_) (fun hm=>?_)
   ·refine zaa zba ?_
    refine zaa zba ?_
    refine ckl hS (S.length+0) (zza rfl) (v:=.slice a0 n0 c00) rfl ?_
    obtain⟨R,hO⟩:=hS.st'
    refine zxa (RdB.str hO e4.rd.app.app) ?_
    clear hO
    refine zGE hS.swapF g2.own (new:=[zJx acts[i].p.2]) rfl (by omega) rfl (by omega) (by omega) (znK _ _) ?_
    clear hS
    intro H hv' hS hown
    refine zaa (zCe (b:=1) (by omega)) ?_
    refine hk wv hv' w (hs++[acts[i].p.2]) _ H (by simp; omega) ⟨_,A',B,C,wcs,_,j,sA.r,rfl,rfl,hS.swapF,g1.imp fun _ _=>ToldR.app,g2.more ⟨rfl,hby⟩ rfl hown,zAa g3,g4.app,g5.app⟩ ⟨hP.key,hP.t,?_,?_⟩ hou
    ·show Tot (hs++[acts[i].p.2]) (s.push acts[i].p) (w++s.ou)
     exact hP.tot.more.push
    ·intro q hq
     rcases List.mem_append.1 (show q ∈ s.ain++[acts[i].p] from hq) with hq|hq
     ·exact hP.inh.more q hq
     ·rw[List.mem_singleton.1 hq]
      exact⟨hby,by omega,fun _=>by simp⟩
   ·refine zaa (zCe (b:=1) (by omega)) ?_
    refine hk wv hv w hs _ H (by omega) ⟨_,A',B,C,wcs,hcs,j,sA.r,rfl,rfl,hS,g1.imp fun _ _=>ToldR.app,g2,zAa g3,g4.app,g5.app⟩ ⟨hP.key,hP.t,?_,?_⟩ hou
    ·show Tot hs (s.push acts[i].p) (w++s.ou)
     exact hP.tot.push
    ·intro q hq
     rcases List.mem_append.1 (show q ∈ s.ain++[acts[i].p] from hq) with hq|hq
     ·exact hP.inh q hq
     ·rw[List.mem_singleton.1 hq]
      exact⟨hby,by omega,fun h=>absurd h hm⟩
 ·refine zEc hS ?_
  clear hS
  intro H X A' B' C' q1 q2 q3 hS
  obtain⟨k1',k2'⟩:=zLD hP.tot hP.inh
  have hk12:=zND (s:=s)
  have hS':SuS A.r B.r C.r c p2 kv kw key t x0 x1 x2 av acts wv hv w hs s.step.2 H:=⟨_,A',B',C',wcs,hcs,j,q1.r,q2.r,q3.r,hS,g1.imp fun _ _ h=>h.app.app,g2,zAa (zAa g3),g4.app.app,g5.app.app⟩
  refine zKy hS' ⟨hk12.1.trans hP.key,hk12.2.trans hP.t,k1',k2'⟩ ?_
  clear hS hS'
  intro wv' w' s' H hS hP' hou' hain
  refine zSa rfl ?_
  obtain⟨S,A9,B9,C9,wcs,hcs,j,r1,r2,r3,hS,g1,g2,g3,g4,g5⟩:=hS
  rw[← r2]
  refine zlx hS ?_
  clear hS
  intro vb H B8 sB hS
  refine zaa (zCe (b:=1) (by omega)) ?_
  rw[r2]
  exact hk wv' hv w' hs _ H (by omega) ⟨S,A9,B8,C9,wcs,hcs,j,r1,sB.r.trans r2,r3,hS,g1,g2,g3,g4,g5⟩ ⟨hP'.key,hP'.t,hP'.tot.popB,hP'.inh⟩ hou'
end J
set_option maxRecDepth 100000
namespace J
open Go Go.Ab
variable{H:Heap}{Γ Γ0 Γ1 Γ2 Δ G L S T X F F1 F2:List (Nat × Blk)}{K:VH}{v w' x cv dv kv kw av wv hv tv:Value}{xs ys zs b key wr:List Int}{i j p q o n k c p2 p15 N:Nat}{e er x0 x1 x2:Int}{cs cs' new el wcs hcs:List Value}{l pr all:List UInt8}{m sd:Mf}{t:Tm}{A B C:Ring}{s:Ck}{w:List Sn}{hs:List (List Int)}{acts:List ActP}{cl:List (List Int)}
theorem Row.at'{α:Type}{size:Nat}{P:α→List Value→Prop}{l:List α}(h:Row size P v l cs)(hp:∀ a el,P a el→el.length=size)(hi:i < l.length):∃ el,P l[i] el∧(cs.drop (i * size)).take size=el:=by
 obtain⟨_,⟨es,rfl,h3⟩,_⟩:=h
 exact h3.get hp i hi
theorem cell_of{size f:Nat}(h:(cs.drop o).take size=el)(hf:f < size)(hv:el[f]?=some v):cs[o+f]?=some v:=by
 rw[← h,List.getElem?_take,if_pos hf,List.getElem?_drop] at hv
 exact hv
theorem ztG{size f n:Nat}(h:(cs.drop o).take size=el)(hf:f+n≤size):(cs.drop (o+f)).take n=(el.drop f).take n:=by
 rw[← h,List.drop_take,List.take_take,Nat.min_eq_left (by omega),List.drop_drop]
theorem Row.sl'{α:Type}{size:Nat}{P:α→List Value→Prop}{l:List α}(h:Row size P v l cs)(hl:0 < l.length):∃ p c,v=Go.Ab.sl p 0 l.length c∧(c=2 * size∨c=2 * size+1)∧zRa v cs=[(p,⟨cs,true⟩)]:=by
 rcases h.own with⟨_,h,_⟩|⟨p,h|h,_⟩
 ·omega
 ·exact⟨p,_,h,.inl rfl,by rw[h]; rfl⟩
 ·exact⟨p,_,h,.inr rfl,by rw[h]; rfl⟩
theorem zuG{n:Nat}(h:n≤xs.length):zbf (zJx xs) none (some (int n)) none=some (zJx (xs.take n)):=by
 have:=zSw (l:=xs.map fun n=>UInt8.ofNat n.toNat) (n:=n) (by simpa using h)
 rw[← List.map_take] at this
 exact this
theorem zOD:zIo (zJx xs) H=some (int xs.length,H):=by
 have:=zsp (H:=H) (l:=xs.map fun n=>UInt8.ofNat n.toNat)
 rw[List.length_map] at this
 exact this
set_option maxHeartbeats 4000000 in
theorem zLy{Qx:LX}{Qr:LN}{want:List Int}(hO:St H Γ)(hr:Row 1 StR hv hs hcs)(hm:∀ y ∈ zRa hv hcs,y ∈ Γ)(hw:RdB Γ tv want)(hwd:want=zXa key sd)(hl:hs.length≤1000)
  (hk:∀ bb:Bool,((∃ h ∈ hs,zNB key sd h)→bb=true)→Qx 4 [ptr p2 0,.bool false,wv,ptr p15 0,tv,.bool bb] H) :
  ztb P true 217 zdd 360980 [ptr p2 0,.bool false,wv,ptr p15 0,tv,int 0,.bool false,hv,int hs.length,int 0] H Qx Qr:=by
 refine zwi (fun k l H'=>H'=H∧∃ (i:Nat) (bb:Bool),i≤hs.length∧k=hs.length - i∧((∃ h ∈ hs.take i,zNB key sd h)→bb=true)∧l=[ptr p2 0,.bool false,wv,ptr p15 0,tv,int 0,.bool bb,hv,int hs.length,int i]) _ _ ?_ hs.length _ _ ⟨rfl,0,false,Nat.zero_le _,rfl,(by simp),rfl⟩
 rintro k l H' ⟨rfl,i,bb,hi,rfl,hbb,rfl⟩
 unfold zEg
 try simp only[zja,zka]
 refine zaa zMa ?_
 refine zoa (fun h=>?_) (fun h=>?_)
 ·have hi2:i < hs.length:=by omega
  obtain⟨ph,c,hvv,hc,hout⟩:=hr.sl' (by omega)
  obtain⟨el,⟨rfl,hby⟩,hcell⟩:=hr.at' (i:=i) (fun a el h=>by obtain⟨rfl,_⟩:=h; rfl) hi2
  have hmem:=hm (ph,⟨hcs,true⟩) (by rw[hout]; simp)
  obtain⟨jh,hjh⟩:=List.mem_iff_getElem?.1 hmem
  refine zaa (by rw[hvv]; exact zpb (by omega) (by omega)) ?_
  rw[Int.toNat_natCast]
  refine zpa hO jh hjh (v:=zJx hs[i]) (by
   have:=cell_of (f:=0) hcell (by omega) rfl
   rw[Nat.zero_add]
   exact this) ?_
  have next:∀ b2:Bool,(bb=true→b2=true)→(zNB key sd hs[i]→b2=true)→((∃ h ∈ hs.take (i+1),zNB key sd h)→b2=true):=by
   rintro b2 h1 h2 ⟨y,hy,hg⟩
   rw[List.take_succ_eq_append_getElem hi2] at hy
   rcases List.mem_append.1 hy with hy|hy
   ·exact h1 (hbb ⟨y,hy,hg⟩)
   ·rw[List.mem_singleton.1 hy] at hg; exact h2 hg
  cases hbv:bb with
  | true=>
   refine zhd rfl ?_
   refine zaa zQb ?_
   refine zaa (zCe (b:=1) (by omega)) ?_
   exact⟨hs.length - (i+1),by omega,rfl,i+1,true,hi2,rfl,next true (fun _=>rfl) (fun _=>rfl),rfl⟩
  | false=>
   refine zKb rfl ?_
   refine zaa zYa ?_
   refine zsc rfl ?_
   refine zxa zOD ?_
   refine zxa hw.lenSl ?_
   refine zaa zOh ?_
   refine zaa (zub rfl) ?_
   refine zoa (fun hge=>?_) (fun hge=>?_)
   ·refine zxa hw.lenSl ?_
    refine zaa (zuG (by omega)) ?_
    refine zxa (RdB.str hO hw) ?_
    refine zaa (str_eq _ _ _ _) ?_
    refine zaa (zub hge) ?_
    refine zaa zbb ?_
    refine zaa (zCe (b:=1) (by omega)) ?_
    refine⟨hs.length - (i+1),by omega,rfl,i+1,_,hi2,rfl,next _ (fun h=>by rw[hbv] at h; cases h) ?_,rfl⟩
    rintro⟨h1,h2⟩
    rw[← hwd] at h2
    rw[h2]
    simp
   ·refine zaa (zsb hge) ?_
    refine zaa zbb ?_
    refine zaa (zCe (b:=1) (by omega)) ?_
    refine⟨hs.length - (i+1),by omega,rfl,i+1,false,hi2,rfl,next _ (fun h=>by rw[hbv] at h; cases h) ?_,rfl⟩
    rintro⟨h1,h2⟩
    rw[← hwd] at h1
    omega
 ·refine hk bb ?_
  have:i=hs.length:=by omega
  subst this
  rw[List.take_length] at hbb
  exact hbb
structure SuF (Γ:List (Nat × Blk)) (sd:Mf) (cl:List (List Int)) (w:List Sn) (pw p15:Nat) (cv:Value) (wcs:List Value):Prop where
 r:zIa sd
 ok:sd.Ok
 bods:zCI sd cl
 le:cl.length≤sd.cks.length
 al:∃ es,wcs=es.flatten∧Al (ToldR Γ) w es
 jw:∃ j:Nat,Γ[j]?=some (pw,⟨wcs,true⟩)
 j15:∃ j:Nat,Γ[j]?=some (p15,⟨mfC sd cv,true⟩)
 cv:RdH Γ cv sd.cks
theorem SuF.app{pw:Nat}(h:SuF Γ sd cl w pw p15 cv wcs):SuF (Γ++Δ) sd cl w pw p15 cv wcs:=by
 obtain⟨es,h1,h2⟩:=h.al
 obtain⟨j1,h3⟩:=h.jw
 obtain⟨j2,h4⟩:=h.j15
 exact⟨h.r,h.ok,h.bods,h.le,⟨es,h1,h2.imp fun _ _=>ToldR.app⟩,⟨j1,zAa h3⟩,⟨j2,zAa h4⟩,h.cv.app⟩
set_option maxHeartbeats 8000000 in
theorem zQB{Qx:LX}{Qr:LN}{pw c':Nat}{a0:Sn}{fin:Bool}{allv:Value}{acs:List Value}(hO:St H (Γ++zRa allv acs))(hall:OwnB allv [] acs)(hF:SuF Γ sd cl (a0::(zZe 0 cl++if fin=true then [.fin] else [])) pw p15 cv wcs)
  (hfin:fin=true→cl.length=sd.cks.length∧sha cl.flatten=sd.dg) (hn:n=(zZe 0 cl++if fin=true then [Sn.fin] else []).length)
  (hk:∀ H,Qx 6 [.bool false] H) (hr:∀ H,Qr [.bool true] H) :
  ztb P true 217 zed 16 [.bool false,ptr p15 0,allv,Go.Ab.sl pw (0+1 * 41) n c',int n,int 0] H Qx Qr:=by
 have hcl64:cl.length≤64:=by have h1:=hF.r; have h2:=hF.le; unfold zIa at h1; omega
 have hblen:∀ i,i≤cl.length→(cl.take i).flatten.length≤65536:=by
  intro i hi
  have h1:=zvs hF.r i hi hF.le hF.bods
  have h2:=hF.r.2.2.2.2.1
  omega
 refine zxi (fun k l H=>∃ (i:Nat) (allv:Value) (acs:List Value) (Γ:List (Nat × Blk)),i≤cl.length∧i≤n∧k=n - i∧l=[.bool false,ptr p15 0,allv,Go.Ab.sl pw (0+1 * 41) n c',int n,int i]∧St H (Γ++zRa allv acs)∧OwnB allv (cl.take i).flatten acs∧SuF Γ sd cl (a0::(zZe 0 cl++if fin=true then [.fin] else [])) pw p15 cv wcs) _ _ ?_ n _ _ ⟨0,allv,acs,Γ,Nat.zero_le _,Nat.zero_le _,rfl,rfl,hO,hall,hF⟩
 clear hO hall hF
 rintro k l H ⟨i,allv,acs,Γ,hi,hin,rfl,rfl,hO,hall,hF⟩
 have hcb:By (cl.take i).flatten:=by
  intro x hx
  obtain⟨c1,h1,h2⟩:=List.mem_flatten.1 hx
  obtain⟨jj,hjj,rfl⟩:=List.mem_iff_getElem.1 (List.mem_of_mem_take h1)
  exact (hF.bods jj hjj).2.2 x h2
 unfold zFg
 try simp only[zja,zka]
 refine zaa zMa ?_
 refine zoa (fun h=>?_) (fun h=>?_)
 ·obtain⟨es,rfl,hal⟩:=hF.al
  obtain⟨jw,hjw⟩:=hF.jw
  obtain⟨j15,hj15⟩:=hF.j15
  have hcv:=hF.cv
  have hlt:i+1 < (a0::(zZe 0 cl++if fin=true then [Sn.fin] else [])).length:=by simp only[List.length_cons]; omega
  obtain⟨el,hel,hcell⟩:=hal.get (size:=41) (fun a el h=>h.len) (i+1) hlt
  have row:=hel.row
  refine zaa (zpb (by omega) (by omega)) ?_
  rw[Int.toNat_natCast]
  refine zFa hO jw (zAa hjw) (cs:=el) (by
   show (es.flatten.drop (0+1 * 41+i * 41)).take 41=_
   rw[show 0+1 * 41+i * 41=(i+1) * 41 by omega]
   exact hcell) row.1 (by omega) ?_
  rw[zcT]
  refine zhb hO ?_
  clear hO
  intro p23 H hO
  refine zva hO (_+0) (zza rfl) zRb.1 row.1 row.2 ?_
  clear hO
  intro H hO
  replace hO:=swp hO.set_r
  have hF2:=hF.app (Δ:=[(p23,⟨el,true⟩)])
  have h23:((Γ++[(p23,(⟨el,true⟩:Blk))])++zRa allv acs)[Γ.length+0]?=some (p23,⟨el,true⟩):=zAa (zza rfl)
  refine zaa zba ?_
  refine zpa hO j15 (zAa (zAa hj15)) (zzf hF.ok.dl) ?_
  refine zxa hcv.lenSl ?_
  refine zaa zYa ?_
  have hgetw:(a0::(zZe 0 cl++if fin=true then [Sn.fin] else []))[i+1]?=(zZe 0 cl++if fin=true then [Sn.fin] else [])[i]?:=rfl
  have hgete:(a0::(zZe 0 cl++if fin=true then [Sn.fin] else []))[i+1]?=some (a0::(zZe 0 cl++if fin=true then [Sn.fin] else []))[i+1]:=List.getElem?_eq_getElem hlt
  refine zoa (fun hq=>?_) (fun hq=>?_)
  ·have hic:i=cl.length:=by have:=hF.le; omega
   have hf:fin=true:=by
    cases hf:fin with
    | true=>rfl
    | false=>
     rw[hf] at hn
     simp only[Bool.false_eq_true,if_false,List.append_nil,zmf] at hn
     omega
   have hw1:(a0::(zZe 0 cl++if fin=true then [Sn.fin] else []))[i+1]=Sn.fin:=by
    apply Option.some.inj
    rw[← hgete,hgetw,hic,hf]
    rw[List.getElem?_append_right (by rw[zmf]; omega),zmf]
    simp
   rw[hw1] at hel
   obtain⟨cv4,x4,rfl,_⟩:=zlf hel
   obtain⟨f1,f2⟩:=hfin hf
   have htake:cl.take i=cl:=by rw[hic]; exact List.take_length
   rw[htake] at hall hcb
   refine zaa zba ?_
   refine zpa hO _ h23 (v:=int 4) rfl ?_
   refine zaa zYa ?_
   refine zsc rfl ?_
   have hO1:=hO
   have hl1:=hblen cl.length (Nat.le_refl _)
   rw[List.take_length] at hl1
   refine zig hO hall.rd.app' hcb (by omega) ?_
   clear hO
   intro H hO
   refine zaa zba ?_
   refine zFa hO j15 (zAa (zAa hj15)) (zUA hF.ok.dl) (by rw[zoj]; exact hF.ok.dl) (by omega) ?_
   refine⟨zFb hO1 j15 (zAa (zAa hj15)) hO j15 (zAa (zAa hj15)) (zce hcv.simple),?_⟩
   refine zaa (eqH _ zDb hF.ok.dl) ?_
   refine zaa (zub rfl) ?_
   refine zsc f2 ?_
   refine zxa hall.lenSl ?_
   refine zaa zba ?_
   refine zpa hO j15 (zAa (zAa hj15)) (v:=int sd.sz) rfl ?_
   refine zaa zYa ?_
   refine zaa (zub f2) ?_
   rw[decide_eq_true (zMD hF.r f1 hF.bods)]
   exact hr H
  ·have hic:i < cl.length:=by
    rcases Nat.lt_or_ge i cl.length with h2|h2
    ·exact h2
    ·exfalso
     have hic:i=cl.length:=by omega
     cases hf:fin with
     | true=>have:=(hfin hf).1; omega
     | false=>
      rw[hf] at hn
      simp only[Bool.false_eq_true,if_false,List.append_nil,zmf] at hn
      omega
   have hw1:(a0::(zZe 0 cl++if fin=true then [Sn.fin] else []))[i+1]=Sn.body (i:Int) cl[i]:=by
    apply Option.some.inj
    rw[← hgete,hgetw,List.getElem?_append_left (by rw[zmf]; omega),zqu cl 0 i hic,Nat.zero_add]
   rw[hw1] at hel
   obtain⟨bv,rfl,hbv,hbb⟩:=hel
   obtain⟨b1,b2,b3⟩:=hF.bods i hic
   have hsp:=zex (w:=i) hF.r
   have hcks:i < sd.cks.length:=by have:=hF.le; omega
   have hgd:sd.cks.getD i []=sd.cks[i]:=by simp[hcks]
   have hc32:=hF.ok.cl _ (List.getElem_mem hcks)
   refine zaa zba ?_
   refine zpa hO _ h23 (v:=int 3) rfl ?_
   refine zaa zeb ?_
   refine zhc (fun h=>h rfl) ?_
   refine zaa zba ?_
   refine zpa hO _ h23 (v:=int i) rfl ?_
   refine zaa zeb ?_
   refine zaa (zsb (fun h=>h rfl)) ?_
   refine zhc (fun h=>h rfl) ?_
   refine zaa zba ?_
   refine zpa hO _ h23 (zUv zTv _ _ _) ?_
   have hO1:=hO
   refine zig hO hbv.app.app hbb (by omega) ?_
   clear hO
   intro H hO
   refine zaa zba ?_
   refine zpa hO j15 (zAa (zAa hj15)) (zzf hF.ok.dl) ?_
   refine⟨zFb hO1 j15 (zAa (zAa hj15)) hO j15 (zAa (zAa hj15)) (zce hcv.simple),?_⟩
   obtain⟨pc,cc,jc,wc,rfl,hjc⟩:=hcv.pos (by omega)
   refine zaa (zpb (by omega) (by omega)) ?_
   rw[Int.toNat_natCast]
   refine zFa hO jc (zAa (zAa hjc)) (cs:=by8 sd.cks[i]) (by
    have:=zSF hF.ok.cl hcks
    rwa [Int.toNat_natCast] at this) (by rw[zoj]; exact hc32) (by omega) ?_
   refine⟨zFb hO1 jc (zAa (zAa hjc)) hO jc (zAa (zAa hjc)) zar (.inr fun e=>by
    have e:hsC sd.cks=[]:=e
    have h9:=zNv hF.ok.cl
    rw[e,List.length_nil] at h9
    omega),?_⟩
   refine zaa (neH _ zDb hc32) ?_
   refine zaa (zsb (fun h=>h rfl)) ?_
   refine zhc (fun h=>h (by rw[b2,hgd])) ?_
   refine zaa zba ?_
   refine zpa hO _ h23 (zUv zTv _ _ _) ?_
   have hl2:=hblen i (by omega)
   refine zSc hO hall hbv.app (by omega) ?_
   clear hO
   intro H allv' acs' hO hall'
   refine zaa (zCe (b:=1) (by omega)) ?_
   refine⟨n - (i+1),by omega,i+1,allv',acs',_,hic,by omega,rfl,rfl,hO,?_,hF2⟩
   rw[List.take_succ_eq_append_getElem hic,List.flatten_append]
   simpa using hall'
 ·exact hk H
end J
set_option maxRecDepth 100000
namespace J
open Go Go.Ab
variable{H:Heap}{Γ Γ0 Γ1 Γ2 Δ G L S T X F F1 F2:List (Nat × Blk)}{v w' x cv dv kv kw av wv hv tv:Value}{xs ys zs b key wr:List Int}{i j p q o n k c p2 p15 N rA rB rC:Nat}{e er x0 x1 x2:Int}{cs cs' new el wcs hcs:List Value}{l pr all:List UInt8}{m sd:Mf}{t:Tm}{A B C:Ring}{s:Ck}{w:List Sn}{hs:List (List Int)}{acts:List ActP}{cl:List (List Int)}
theorem zoK(H:Heap):(zia P 22 0).f [] H=some (Go.Ab.sl H.next 0 0 3,H.push []):=by kernel_rfl
theorem zpK(H:Heap):(zia P 43 0).f [] H=some (Go.Ab.sl H.next 0 0 3,H.push []):=by kernel_rfl
theorem zjJ(q:Nat):OwnB (Go.Ab.sl q 0 0 3) [] []:=.inr ⟨q,.inr ⟨rfl,rfl⟩,rfl,Nat.le_refl _,rfl⟩
set_option maxHeartbeats 8000000 in
theorem zPD{K:VH}{Qr0:Prop}(hkey:By key)(hkl:key.length≤200)(htl:t.pr.length≤200)(hhl:hs.length≤80)(hS:SuS rA rB rC c p2 kv kw key t x0 x1 x2 av acts wv hv w hs s H)(hP:SuP key t w hs s)(hou:s.ou=[])(hK:∀ H,K (.bool true) H) :
 opW (lenSl wv H) fun t86 H32=>
 opP ((zna P .eql 3 true).f t86 (.int .i64 0)) fun t87=>
 wIf t87 (
 K (.bool true) H32) (
 opP (zYc 41 wv (.int .i64 0)) fun t89=>
 opP (zfa 3 t89) fun t90=>
 opW (zma 37 t90 H32) fun t91 H37=>
 zNb (zc P 52) H37 fun t15 H39=>
 opW (zla 37 t15 t91 H39) fun u H41=>
 opP (zfa 0 (ptr p2 0)) fun t93=>
 opW (zca t93 H41) fun t94 H44=>
 opW (zma 37 t15 H44) fun t95 H46=>
 wCall P zod [t94,t95] H46 fun t96 H48=>
 opP (zFc 0 t96) fun t97=>
 opP (zFc 1 t96) fun t98=>
 opW (lenSl hv H48) fun t100 H52=>
 ztb P true 217 zdd 360980 [ptr p2 0,.bool false,wv,t15,t97,t98,(.bool false),hv,t100,(.int .i64 0)] H52 (fun id l_1 H54=>
 cond (Nat.beq id 4) (
 zec (fun J=>
 opP (zYc 41 (nth l_1 2) (.int .i64 0)) fun t128=>
 opP (zfa 0 t128) fun t129=>
 opW (zca t129 H54) fun t130 H59=>
 opP ((zna P .neq 3 true).f t130 (.int .i64 2)) fun t131=>
 wIf t131 (
 opP (zga t131 (.bool true) undef) fun t135=>
 opP (zga t135 (.bool true) undef) fun t144=>
 opP (zga t144 (.bool true) undef) fun t151=>
 opP (zga t151 (.bool true) undef) fun t160=>
 wIf t160 (
 K (.bool false) H59) (
 J [(nth l_1 1),(nth l_1 2),(nth l_1 3)] H59)) (
 opP (unA .not (nth l_1 5)) fun t134=>
 opP (zga t131 (.bool true) t134) fun t135_1=>
 wIf t135_1 (
 opP (zga t135_1 (.bool true) undef) fun t144_1=>
 opP (zga t144_1 (.bool true) undef) fun t151_1=>
 opP (zga t151_1 (.bool true) undef) fun t160_1=>
 wIf t160_1 (
 K (.bool false) H59) (
 J [(nth l_1 1),(nth l_1 2),(nth l_1 3)] H59)) (
 opP (zYc 41 (nth l_1 2) (.int .i64 0)) fun t138=>
 opP (zfa 2 t138) fun t139=>
 opW (zca t139 H59) fun t140 H73=>
 opW (lenSl (nth l_1 4) H73) fun t142 H75=>
 opP ((zna P .neq 3 false).f t140 t142) fun t143=>
 opP (zga t135_1 (.bool true) t143) fun t144_2=>
 wIf t144_2 (
 opP (zga t144_2 (.bool true) undef) fun t151_2=>
 opP (zga t151_2 (.bool true) undef) fun t160_2=>
 wIf t160_2 (
 K (.bool false) H75) (
 J [(nth l_1 1),(nth l_1 2),(nth l_1 3)] H75)) (
 opW (zma 37 (nth l_1 3) H75) fun t146 H81=>
 opP (zfa 1 (nth l_1 0)) fun t147=>
 opW (zma 3 t147 H81) fun t148 H84=>
 wCall P zGf [t146,t148] H84 fun t149 H86=>
 opP ((zna P .neq 3 true).f t149 (.int .i64 0)) fun t150=>
 opP (zga t144_2 (.bool true) t150) fun t151_3=>
 wIf t151_3 (
 opP (zga t151_3 (.bool true) undef) fun t160_3=>
 wIf t160_3 (
 K (.bool false) H86) (
 J [(nth l_1 1),(nth l_1 2),(nth l_1 3)] H86)) (
 opW (lenSl (nth l_1 2) H86) fun t154 H91=>
 opP (zfa 36 (nth l_1 3)) fun t155=>
 opW (zca t155 H91) fun t156 H94=>
 opW (lenSl t156 H94) fun t157 H96=>
 opP ((zna P .add 3 true).f t157 (.int .i64 2)) fun t158=>
 opP ((zna P .gtr 3 false).f t154 t158) fun t159=>
 opP (zga t151_3 (.bool true) t159) fun t160_4=>
 wIf t160_4 (
 K (.bool false) H96) (
 J [(nth l_1 1),(nth l_1 2),(nth l_1 3)] H96)))))) (fun l_2 H101=>
 opW ((zia P 22 0).f [] H101) fun t161 H103=>
 opP (zVa 41 (nth l_2 1) (some (.int .i64 1)) none none) fun t163=>
 opW (lenSl t163 H103) fun t164 H106=>
 ztb P true 217 zed 16 [(nth l_2 0),(nth l_2 2),t161,t163,t164,(.int .i64 0)] H106 (fun id l_3 H108=>
 cond (Nat.beq id 6) (
 K (.bool true) H108) (
 False)) (fun l_3 H108=>
 K (nth l_3 0) H108))) (
 False)) (fun l_1 H54=>
 K (nth l_1 1) H54)):=by
 obtain⟨S,A,B,C,wcs,hcs,j,r1,r2,r3,hS,g1,g2,g3,g4,g5⟩:=hS
 refine zxa g1.own.lenSl ?_
 refine zaa zYa ?_
 refine zoa (fun h0=>hK H) (fun h0=>?_)
 have htot:=hP.tot
 rw[hou,List.append_nil] at htot
 obtain⟨cl,hW⟩:=htot.resolve_left (by rintro⟨_,_,rfl⟩; exact h0 rfl)
 have hwl:=hW.tot
 have hkk:=hP.key
 have htt:=hP.t
 rw[hkk] at hwl
 have hhead:=hW.head
 rw[hkk] at hhead
 have hadm:=hW.adm
 rw[htt] at hadm
 have ok:=hW.ok
 obtain⟨sv,sp,T,hck,hO⟩:=hS
 have hO:=hO.left
 clear hck
 have hbods:=hW.bods
 have hr:=hW.r
 have hle:=hW.le
 have hdn:=hW.dn
 clear hP htot hW hkk htt hou
 subst hwl
 have hc64:cl.length≤64:=by have h1:=hr; unfold zIa at h1; omega
 obtain⟨pw,cw,rfl,hcw,hout⟩:=g1.sl' (by simp)
 obtain⟨el,hel,hcell⟩:=g1.at' (i:=0) (fun a el h=>h.len) (by simp)
 obtain⟨cv,rfl,hcv,_⟩:=hel
 have hpart:(wcs.drop (0+(0:Int).toNat * 41+3)).take 37=mfC s.sd cv:=by
  have:=ztG (f:=3) (n:=37) hcell (by omega)
  rw[show 0+(0:Int).toNat * 41+3=0 * 41+3 from rfl,this]
  exact zeI ok.dl _ _ _
 have hmemw:(pw,(⟨wcs,true⟩:Blk)) ∈ S++(zRa (Go.Ab.sl pw 0 (Sn.go ((zXa key s.sd).length:Int) s.sd::(zZe 0 cl++if s.dn=true then [Sn.fin] else [])).length cw) wcs++zRa hv hcs):=by
  rw[hout]; simp
 have hmemh:∀ y ∈ zRa hv hcs,y ∈ S++(zRa (Go.Ab.sl pw 0 (Sn.go ((zXa key s.sd).length:Int) s.sd::(zZe 0 cl++if s.dn=true then [Sn.fin] else [])).length cw) wcs++zRa hv hcs):=by
  intro y hy; simp[hy]
 obtain⟨jw,hjw⟩:=List.mem_iff_getElem?.1 hmemw
 refine zaa (zpb (by omega) (by simp; omega)) ?_
 refine zaa zba ?_
 refine zFa hO jw hjw hpart (zta ok.dl) (by omega) ?_
 rw[zcM]
 refine zhb hO ?_
 clear hO
 intro p15 H hO
 refine zva hO (_+0) (zza rfl) (by rfl) (zta ok.dl) (zlc hcv.one) ?_
 clear hO
 intro H hO
 replace hO:=hO.set_r
 have j15:=zza (Γ:=S++(zRa (Go.Ab.sl pw 0 (Sn.go ((zXa key s.sd).length:Int) s.sd::(zZe 0 cl++if s.dn=true then [Sn.fin] else [])).length cw) wcs++zRa hv hcs)) (L:=[(p15,(⟨mfC s.sd cv,true⟩:Blk))]) (k:=0) rfl
 generalize hΓ:S++(zRa (Go.Ab.sl pw 0 (Sn.go ((zXa key s.sd).length:Int) s.sd::(zZe 0 cl++if s.dn=true then [Sn.fin] else [])).length cw) wcs++zRa hv hcs)=Γ at *
 have hsub:∀ y ∈ S,y ∈ Γ:=by intro y hy; rw[← hΓ]; exact List.mem_append_left _ hy
 have g3':∃ j:Nat,Γ[j]?=some (p2,⟨wdC kw t [x0,x1,x2],true⟩):=zfx g3 hsub
 obtain⟨j2,g3'⟩:=g3'
 have g4':=g4.mono hsub
 have hcv':=hcv.mono hsub
 refine zaa zba ?_
 refine zpa hO j2 (zAa g3') (v:=kw) rfl ?_
 refine zHa hO _ j15 (zta ok.dl) (by omega) ?_
 refine zAe (key:=key) ok hO g4'.app hcv'.app hkey (by omega) (fun h=>absurd hr h) ?_
 clear hO
 intro _ H tv tcs hO hh
 refine zaa zHj ?_
 refine zaa zIj ?_
 refine zxa g2.own.lenSl ?_
 have hht:RdB ((Γ++[(p15,⟨mfC s.sd cv,true⟩)])++zRa tv tcs) tv (zXa key s.sd):=hh.rd.app'
 refine zLy (sd:=s.sd) (key:=key) hO g2 (fun y hy=>List.mem_append_left _ (List.mem_append_left _ (hmemh y hy))) hht rfl (by omega) ?_
 intro bb hbb
 have hbb:bb=true:=hbb hhead
 subst hbb
 refine zSa rfl ?_
 try simp only[zja,zka]
 have hw0:∀ {f:Nat} {v:Value},f < 41→(int 2::int 0::int ((zXa key s.sd).length:Int)::(mfC s.sd cv++[zwa]))[f]?=some v→wcs[0+(0:Int).toNat * 41+f]?=some v:=fun hf hv=>by
  have:=cell_of hcell hf hv
  simpa using this
 refine zEa (fun l' H'=>l'=[.bool false,Go.Ab.sl pw 0 (Sn.go ((zXa key s.sd).length:Int) s.sd::(zZe 0 cl++if s.dn=true then [Sn.fin] else [])).length cw,ptr p15 0]∧St H' ((Γ++[(p15,⟨mfC s.sd cv,true⟩)])++zRa tv tcs)) ?_ ?_
 ·refine zaa (zpb (by omega) (by simp; omega)) ?_
  refine zaa zba ?_
  refine zpa hO jw (zAa (zAa hjw)) (hw0 (f:=0) (by omega) rfl) ?_
  refine zaa zeb ?_
  refine zhc (fun h=>h rfl) ?_
  refine zaa zJb ?_
  refine zaa (zsb (fun h=>h rfl)) ?_
  refine zKb rfl ?_
  refine zaa (zpb (by omega) (by simp; omega)) ?_
  refine zaa zba ?_
  refine zpa hO jw (zAa (zAa hjw)) (hw0 (f:=2) (by omega) rfl) ?_
  refine zxa hht.lenSl ?_
  refine zaa zeb ?_
  refine zaa zbb ?_
  refine zhc (fun h=>h rfl) ?_
  refine zHa hO _ (zAa j15) (zta ok.dl) (by omega) ?_
  refine zaa zba ?_
  refine zFa hO j2 (zAa (zAa g3')) (cs:=tmC t) rfl rfl (by omega) ?_
  refine zMn ok hcv'.app.app (by omega) hO ?_
  clear hO
  intro H hO
  rw[hadm]
  refine zaa zeb ?_
  refine zaa (zsb (fun h=>h rfl)) ?_
  refine zhc (fun h=>h rfl) ?_
  refine zxa zke ?_
  refine zaa zba ?_
  refine zpa hO _ (zAa j15) (zzf ok.dl) ?_
  refine zxa hcv'.lenSl ?_
  refine zaa (zCe (b:=2) (by have:=ok.n; omega)) ?_
  refine zaa zKc ?_
  refine zaa (zsb (fun h=>h rfl)) ?_
  refine zhc ?_ ?_
  ·simp only[List.length_cons,List.length_append,zmf]
   split <;> simp <;> omega
  ·exact⟨rfl,hO⟩
 clear hO
 rintro l' H ⟨rfl,hO⟩
 try simp only[zja,zka]
 refine zCa hO (zoK _) ?_
 clear hO
 intro q H hO
 rw[List.length_cons]
 obtain⟨c',hsl⟩:=zkG (size:=41) (p:=pw) (n:=(zZe 0 cl++if s.dn=true then [Sn.fin] else []).length) (c:=cw) (H:=H) (by omega) hcw
 refine zaa hsl ?_
 refine zxa zke ?_
 obtain⟨es,hes,hal⟩:=g1.al
 refine zQB (a0:=.go ((zXa key s.sd).length:Int) s.sd) (fin:=s.dn) (acs:=[]) hO (zjJ q) ⟨hr,ok,hbods,hle,⟨es,hes,hal.imp fun a el h=>?_⟩,⟨jw,zAa (zAa hjw)⟩,⟨_,zAa j15⟩,hcv'.app.app⟩ hdn rfl ?_ ?_
 ·have h:ToldR Γ a el:=by rw[← hΓ]; exact h.app
  exact h.app.app
 ·intro H
  refine zSa rfl ?_
  exact hK H
 ·intro H
  exact hK H
end J
set_option maxRecDepth 100000
namespace J
open Go Go.Ab
variable{H:Heap}{G:List (Nat × Blk)}{kv kw av:Value}{key:List Int}{x0 x1 x2:Int}{t:Tm}{acts:List ActP}
theorem zvG{q:Nat}:Own 41 (Go.Ab.sl q 0 0 83) 0 []:=.inr ⟨q,.inr rfl,rfl⟩
theorem zwG{q:Nat}:Own 1 (Go.Ab.sl q 0 0 3) 0 []:=.inr ⟨q,.inr rfl,rfl⟩
set_option maxHeartbeats 8000000 in
theorem zaw{K:VH}(hK:∀ H,K (.bool true) H)(hO:St H G)(hv:RdB G kw key)(hb:By key)(ha:RdA G av acts) :
  wCall P zLb [agg (wdC kw t [x0,x1,x2]),av] H K:=by
 apply zpl; unfold zUi
 rw[zkf]
 refine nw hO.z ?_
 clear hO
 intro p2 H hO
 replace hO:St H (G++[(p2,⟨wdC kw t [x0,x1,x2],true⟩)]):=hO
 refine ztj hO ?_
 clear hO
 intro H hO
 refine zaa zJb ?_
 refine zKb rfl ?_
 refine zHa hO (G.length+0) (zza rfl) (n:=7) rfl (by omega) ?_
 refine zEy (rs:=[x0,x1,x2]) rfl hO hv.app ha.app ?_ ?_
 ·clear hO
  intro H hO
  refine zhd rfl ?_
  exact hK H
 clear hO
 intro b1 b2 b3 b4 H hO
 refine zKb rfl ?_
 refine zFD hO ?_
 clear hO
 intro H A B C h3 hO
 refine zaa zba ?_
 refine zpa hO (G.length+0) (zAa (zza rfl)) (v:=kw) rfl ?_
 refine zaa zba ?_
 refine zFa hO (G.length+0) (zAa (zza rfl)) (cs:=tmC t) rfl rfl (by omega) ?_
 refine zOj hO (List.Perm.refl _) hv.app hb (by omega) (by omega) h3.a h3.b h3.c h3.ea h3.eb h3.ec ?_
 clear hO
 intro H X kv c hS
 obtain⟨sv,sp,T,hck,hO⟩:=hS
 refine zCa hO (zUJ _) ?_
 clear hO
 intro q H hO
 refine zCa hO (zpK _) ?_
 clear hO
 intro q2 H hO
 obtain⟨es,ha1,ha2⟩:=ha
 refine zxa ha1.lenSl ?_
 have ha:RdA G av acts:=⟨es,ha1,ha2⟩
 have hS:SuS A.r B.r C.r c p2 kv kw key t x0 x1 x2 av acts (Go.Ab.sl q 0 0 83) (Go.Ab.sl q2 0 0 3) [] [] (Ck.new key t B.n C.n) H:=by
  refine⟨(G++[(p2,⟨wdC kw t [x0,x1,x2],true⟩)])++X,A,B,C,[],[],G.length+0,rfl,rfl,rfl,⟨sv,sp,T,hck,?_⟩,⟨zvG,⟨[],rfl,.nil⟩,rfl⟩,⟨zwG,⟨[],rfl,.nil⟩,rfl⟩,zAa (zza rfl),hv.app.app,ha.app.app⟩
  refine hO.perm ?_
  show List.Perm _ ((_++([(q,(⟨[],true⟩:Blk))]++[(q2,⟨[],true⟩)]))++_)
  generalize mB A B C c (ckC kv (Ck.new key t B.n C.n).t A.r B.r C.r (Ck.new key t B.n C.n).sd sv sp (Ck.new key t B.n C.n).dn (Ck.new key t B.n C.n).er) T=M
  exact (by classical exact List.perm_iff_count.2 fun _=>by simp only[List.count_append,List.count_nil,List.set_cons_zero]; omega)
 have hP:SuP key t [] [] (Ck.new key t B.n C.n):=⟨rfl,rfl,.inl ⟨rfl,rfl,rfl⟩,fun p hp=>by cases hp⟩
 clear hO hck
 refine zvi (fun k l H=>∃ (i:Nat) (wv hv:Value) (w:List Sn) (hs:List (List Int)) (s:Ck),k=acts.length - i∧i≤acts.length∧l=zOB A.r B.r C.r c p2 wv hv av acts.length i∧hs.length≤i∧SuS A.r B.r C.r c p2 kv kw key t x0 x1 x2 av acts wv hv w hs s H∧SuP key t w hs s∧s.ou=[]) _ _ ?_ acts.length _ _ ⟨0,_,_,_,_,_,rfl,Nat.zero_le _,rfl,Nat.zero_le _,hS,hP,rfl⟩
 clear hS hP
 rintro k l H ⟨i,wv,hv',w,hs,s,rfl,hi,rfl,hhl,hS,hP,hou⟩
 by_cases hlt:i < acts.length
 ·refine zPB b4 b3 hlt hhl hS hP hou ?_
  intro wv' hv' w' hs' s' H hh hS hP hou
  exact⟨acts.length - (i+1),by omega,i+1,wv',hv',w',hs',s',rfl,hlt,rfl,hh,hS,hP,hou⟩
 ·unfold zOB
  unfold zfd
  try simp only[zja,zka]
  refine zaa zMa ?_
  refine zhc (by omega) ?_
  refine zSa rfl ?_
  exact zPD (Qr0:=True) hb b1 b2 (by omega) hS hP hou hK
theorem csure_main(hO:St H G)(hv:RdB G kw key)(hb:By key)(ha:RdA G av acts) :
  wCall P zLb [agg (wdC kw t [x0,x1,x2]),av] H fun v _=>v=.bool true:=zaw (fun _=>rfl) hO hv hb ha
end J
