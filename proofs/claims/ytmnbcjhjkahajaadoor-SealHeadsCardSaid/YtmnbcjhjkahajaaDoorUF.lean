/- texts of the proof, one behind the other -/
import Derived.Test.YtmnbcjhjkahajaaDoorUE
set_option linter.unusedVariables false
set_option linter.unusedSimpArgs false
set_option linter.unusedSectionVars false
set_option maxRecDepth 100000
namespace J
open Go Go.Ab
variable{H:Heap}{Γ Γ0 Γ2 Δ G L:List (Nat × Blk)}{K:VH}{v w x cv dv:Value}{xs ys zs bs b key ms:List Int}{j p q o n k mx:Nat}{e:Int}{cs cs':List Value}{l:List UInt8}{m a:Mf}{cks:List (List Int)}
abbrev Rs:=List Int × Int
def tk(n:Nat)(s:Rs):Rs:=(tkR s.1 s.2 n,tkE s.1 s.2 n)
def tb(n:Nat)(s:Rs):List Int:=tkB s.1 s.2 n
def hs(s:Rs):List Int:=hsh s.1 s.2
def tkn:Nat→Rs→Rs
 | 0,s=>s
 | n+1,s=>tk 32 (tkn n s)
def hsL:Nat→Rs→List (List Int)
 | 0,_=>[]
 | n+1,s=>hsL n s++[hs (tkn n s)]
def zwe(t:List Int)(s:Rs):Mf:=⟨ob t,leV (tb 8 s),(leV (tb 4 (tk 8 s)):Int),(leV (tb 2 (tk 4 (tk 8 s))):Int),hs (tk 2 (tk 4 (tk 8 s))),[]⟩
def pS5(s:Rs):Rs:=tk 32 (tk 2 (tk 4 (tk 8 s)))
def m0:Mf:=⟨[],0,0,0,z32,[]⟩
def zJb(h:Mf)(c:List (List Int)):Mf:={ h with cks:=c }
def pN(h:Mf):Nat:=(min (cnt h.sz h.ck) 65).toNat
def pM(t:List Int)(s:Rs):Mf:=zJb (zwe t s) (hsL (pN (zwe t s)) (pS5 s))
def pF(t:List Int)(s:Rs):Rs:=tkn (pN (zwe t s)) (pS5 s)
def pOk(t:List Int)(s:Rs):Prop:=zEv (pF t s).1 (pF t s).2=0∧zlb (pM t s)
instance (t:List Int) (s:Rs):Decidable (pOk t s):=by unfold pOk; exact inferInstance
def zXz(t:List Int)(s:Rs):Mf × Int:=if pOk t s then (pM t s,0) else (m0,131)
def zSb(b:List Int):Mf × Int:=zXz (tXb b 0 96) (tXr b 0 96,tXe b 0 96)
theorem zHc{s:Rs}(h:By s.1){n:Nat}:By (tk n s).1:=zQi h _ _
theorem zlk{s:Rs}{n:Nat}:(tk n s).1.length≤s.1.length:=zHg _ _ _
theorem zYz{s:Rs}(h:By s.1):∀ n,By (tkn n s).1
 | 0=>h
 | n+1=>zHc (zYz h n)
theorem znt{s:Rs}:∀ n,(tkn n s).1.length≤s.1.length
 | 0=>Nat.le_refl _
 | n+1=>Nat.le_trans zlk (znt n)
theorem zfl{s:Rs}:∀ n,(hsL n s).length=n
 | 0=>rfl
 | n+1=>by show (hsL n s++[_]).length=_; rw[List.length_append,zfl n]; rfl
theorem zZz{s:Rs}:∀ n,∀ x ∈ hsL n s,x.length=32
 | 0,_,h=>by cases h
 | n+1,x,h=>by
  rcases List.mem_append.1 (show x ∈ hsL n s++[hs (tkn n s)] from h) with h|h
  ·exact zZz n x h
  ·rw[List.mem_singleton.1 h]; exact zuc
theorem zaA{s:Rs}(hb:By s.1):∀ n,∀ x ∈ hsL n s,By x
 | 0,_,h=>by cases h
 | n+1,x,h=>by
  rcases List.mem_append.1 (show x ∈ hsL n s++[hs (tkn n s)] from h) with h|h
  ·exact zaA hb n x h
  ·rw[List.mem_singleton.1 h]; exact zWz (zYz hb n)
theorem zCq{s:Rs}(hb:By s.1)(k:Nat):leV (tb k s) < 256 ^ k:=zVz hb s.2
theorem zLx{t:List Int}{s:Rs}(hb:By s.1)(ht:t.length≤10000){n:Nat}(hn:n≤10000){s5:Rs}(h5:By s5.1):(zJb (zwe t s) (hsL n s5)).Ok:=by
 have h8:=zCq hb 8
 have h4:=zCq (s:=tk 8 s) (zHc hb) 4
 have h2:=zCq (s:=tk 4 (tk 8 s)) (zHc (zHc hb)) 2
 refine⟨zuc,zWz (zHc (zHc (zHc hb))),zZz n,zaA h5 n,h8,?_,?_,?_,?_⟩
 ·show -9223372036854775808≤((leV (tb 4 (tk 8 s)):Nat):Int)∧((leV (tb 4 (tk 8 s)):Nat):Int)≤9223372036854775807
  omega
 ·show -9223372036854775808≤((leV (tb 2 (tk 4 (tk 8 s))):Nat):Int)∧((leV (tb 2 (tk 4 (tk 8 s))):Nat):Int)≤9223372036854775807
  omega
 ·show (hsL n s5).length≤_
  rw[zfl]; exact hn
 ·show (ob t).length≤_
  simpa [ob] using ht
theorem zMx:m0.Ok:=⟨rfl,zNn,(by intro x h; cases h),(by intro x h; cases h),by decide,by decide,by decide,by decide,by decide⟩
theorem zcM:zc P 29=mfC m0 zua:=by kernel_rfl
theorem bM0:(zbb P 29).f []=some (agg (mfC m0 zua)):=by kernel_rfl
theorem bM4(s:ByteArray)(n:Nat)(x y:Int):(zbb P 29).f [(0,.string s),(1,zsb .u64 n),(2,int x),(3,int y)]=some (agg (mfC ⟨s.data.toList,n,x,y,z32,[]⟩ zua)):=by kernel_rfl
theorem zED(a0 a1 a2 a3 a4 a5 a6 a7 a8 a9 a10 a11 a12 a13 a14 a15 a16 a17 a18 a19 a20 a21 a22 a23 a24 a25 a26 a27 a28 a29 a30 a31:Int)(H:Heap):(zga P 27 1).f [(0,.agg #[(.int .u8 a0),(.int .u8 a1),(.int .u8 a2),(.int .u8 a3),(.int .u8 a4),(.int .u8 a5),(.int .u8 a6),(.int .u8 a7),(.int .u8 a8),(.int .u8 a9),(.int .u8 a10),(.int .u8 a11),(.int .u8 a12),(.int .u8 a13),(.int .u8 a14),(.int .u8 a15),(.int .u8 a16),(.int .u8 a17),(.int .u8 a18),(.int .u8 a19),(.int .u8 a20),(.int .u8 a21),(.int .u8 a22),(.int .u8 a23),(.int .u8 a24),(.int .u8 a25),(.int .u8 a26),(.int .u8 a27),(.int .u8 a28),(.int .u8 a29),(.int .u8 a30),(.int .u8 a31)])] H=some (sl H.next 0 1 65,H.push [(.int .u8 a0),(.int .u8 a1),(.int .u8 a2),(.int .u8 a3),(.int .u8 a4),(.int .u8 a5),(.int .u8 a6),(.int .u8 a7),(.int .u8 a8),(.int .u8 a9),(.int .u8 a10),(.int .u8 a11),(.int .u8 a12),(.int .u8 a13),(.int .u8 a14),(.int .u8 a15),(.int .u8 a16),(.int .u8 a17),(.int .u8 a18),(.int .u8 a19),(.int .u8 a20),(.int .u8 a21),(.int .u8 a22),(.int .u8 a23),(.int .u8 a24),(.int .u8 a25),(.int .u8 a26),(.int .u8 a27),(.int .u8 a28),(.int .u8 a29),(.int .u8 a30),(.int .u8 a31)]):=by kernel_rfl
theorem zRD(h:List Int)(hl:h.length=32)(H:Heap):(zga P 27 1).f [(0,agg (by8 h))] H=some (sl H.next 0 1 65,H.push (by8 h)):=by
 match h,hl with
 | [a0,a1,a2,a3,a4,a5,a6,a7,a8,a9,a10,a11,a12,a13,a14,a15,a16,a17,a18,a19,a20,a21,a22,a23,a24,a25,a26,a27,a28,a29,a30,a31],_=>exact zED a0 a1 a2 a3 a4 a5 a6 a7 a8 a9 a10 a11 a12 a13 a14 a15 a16 a17 a18 a19 a20 a21 a22 a23 a24 a25 a26 a27 a28 a29 a30 a31 H
theorem zru{h:Mf}{d:List Int}(hd:h.dg.length=32)(hl:d.length=32):(mfC h cv).take (0+4)++(zCa (agg (by8 d))++(mfC h cv).drop (0+4+32))=mfC { h with dg:=d } cv:=by
 show [str h.pr,zsb .u64 h.ver,int h.sz,int h.ck]++(by8 d++(by8 h.dg++[cv]).drop 32)=_
 rw[List.drop_append_of_le_length (by simp[hd]),List.drop_of_length_le (by simp[hd])]
 rfl
theorem zbs{h:Mf}(hd:h.dg.length=32):(mfC h cv).set (0+36) dv=mfC h dv:=by
 show str h.pr::zsb .u64 h.ver::int h.sz::int h.ck::(by8 h.dg++[cv]).set 32 dv=_
 rw[List.set_append_right _ _ (by simp[hd])]
 simp[hd]
 rfl
theorem zot{l:List (List Int)}(h:Own 32 v l.length (hsC l)):RdH (zMa v (hsC l)) v l:=by
 rcases h with⟨rfl,h0,_⟩|⟨p,rfl|rfl,_⟩
 ·exact .inl ⟨rfl,List.length_eq_zero_iff.1 h0⟩
 ·exact .inr ⟨p,_,0,true,rfl,rfl⟩
 ·exact .inr ⟨p,_,0,true,rfl,rfl⟩
theorem zxm{l:List (List Int)}{x:List Int}:hsC (l++[x])=hsC l++by8 x:=by simp[hsC]
theorem zZd{size n:Nat}(h:Own size v n cs):zpb v=true∧oneCell v=true:=by
 rcases h with⟨rfl,_⟩|⟨p,rfl|rfl,_⟩ <;> exact⟨rfl,rfl⟩
set_option maxHeartbeats 4000000 in
theorem zzv(hO:St H Γ)(hv:RdB Γ v b)(hb:By b)(hx:b.length≤9000)
  (hk:∀ H' cv,St H' (Γ++zMa cv (hsC (zSb b).1.cks))→RdH (zMa cv (hsC (zSb b).1.cks)) cv (zSb b).1.cks→K (.tuple [agg (mfC (zSb b).1 cv),int (zSb b).2].toArray) H'):wCall P zZc [v] H K:=by
 apply zPk; unfold zzi
 rw[zcM]
 refine nw hO.z ?_
 clear hO
 intro p2 H hO
 refine zeu hO hv.app ?_
 clear hO
 intro H p7 hO
 replace hO:St H (Γ++[(p2,⟨mfC m0 zua,true⟩),(p7,rdr v 0)]):=hO.as
 have htl:(tXb b 0 96).length≤10000:=by
  unfold tXb tYb
  split
  ·simp
  ·have h1:∀ (xs:List Int) (e:Int) (n:Nat),(tkB xs e n).length≤xs.length:=fun xs e n=>by
    unfold tkB
    split
    ·rw[List.length_take]; omega
    ·simp
   have:=h1 (tkR b 0 2) (tkE b 0 2) (tN b 0)
   have:=zHg b 0 2
   omega
 refine zyv (mx:=96) hO (zxa (k:=1) rfl) hv.app hb (by omega) ?_
 clear hO
 intro H v1 hO i1
 replace hO:St H (Γ++[(p2,⟨mfC m0 zua,true⟩),(p7,rdr v1 (tXe b 0 96))]):=hO.set_r
 replace hv:=i1 _ hv
 have hb1:By (tXr b 0 96):=by
  unfold tXr tYr
  split
  ·intro x h; cases h
  ·exact zQi (zQi hb _ _) _ _
 have hl1:(tXr b 0 96).length≤b.length:=by
  unfold tXr tYr
  split
  ·simp
  ·exact Nat.le_trans (zHg _ _ _) (zHg _ _ _)
 unfold zSb at hk
 replace hO:St H (Γ++[(p2,⟨mfC m0 zua,true⟩),(p7,rdr v1 (tXr b 0 96,tXe b 0 96).2)]):=hO
 replace hv:RdB Γ v1 (tXr b 0 96,tXe b 0 96).1:=hv
 replace hb1:By (tXr b 0 96,tXe b 0 96).1:=hb1
 replace hl1:(tXr b 0 96,tXe b 0 96).1.length≤b.length:=hl1
 generalize tXb b 0 96=t at *
 generalize ((tXr b 0 96,tXe b 0 96):Rs)=s at *
 clear i1 hb
 have h8:=zCq hb1 8
 refine zaf (k:=8) (by omega) hO (zxa (k:=1) rfl) hv.app hb1 ?_
 clear hO
 intro H v2 hO i2
 replace hO:St H (Γ++[(p2,⟨mfC m0 zua,true⟩),(p7,rdr v2 (tk 8 s).2)]):=hO.set_r
 replace hv:RdB Γ v2 (tk 8 s).1:=i2 _ hv
 have h4:=zCq (s:=tk 8 s) (zHc hb1) 4
 refine zaf (k:=4) (by omega) hO (zxa (k:=1) rfl) hv.app (zHc hb1) ?_
 clear hO i2
 intro H v3 hO i3
 replace hO:St H (Γ++[(p2,⟨mfC m0 zua,true⟩),(p7,rdr v3 (tk 4 (tk 8 s)).2)]):=hO.set_r
 replace hv:RdB Γ v3 (tk 4 (tk 8 s)).1:=i3 _ hv
 refine zra (zUw (k:=.u64) (show leV (tb 4 (tk 8 s))≤_ by omega)) ?_
 have h2:=zCq (s:=tk 4 (tk 8 s)) (zHc (zHc hb1)) 2
 refine zaf (k:=2) (by omega) hO (zxa (k:=1) rfl) hv.app (zHc (zHc hb1)) ?_
 clear hO i3
 intro H v4 hO i4
 replace hO:St H (Γ++[(p2,⟨mfC m0 zua,true⟩),(p7,rdr v4 (tk 2 (tk 4 (tk 8 s))).2)]):=hO.set_r
 replace hv:RdB Γ v4 (tk 2 (tk 4 (tk 8 s))).1:=i4 _ hv
 refine zra (zUw (k:=.u64) (show leV (tb 2 (tk 4 (tk 8 s)))≤_ by omega)) ?_
 refine zaa (bM4 _ _ _ _) ?_
 refine nw hO ?_
 clear hO i4
 intro p5 H hO
 refine sw hO 2 rfl (by rfl) (by rfl) (zqb rfl) ?_
 clear hO
 intro H hO
 replace hO:St H (Γ++[(p2,⟨mfC m0 zua,true⟩),(p7,rdr v4 (tk 2 (tk 4 (tk 8 s))).2),(p5,⟨mfC ⟨ob t,leV (tb 8 s),(leV (tb 4 (tk 8 s)):Int),(leV (tb 2 (tk 4 (tk 8 s))):Int),z32,[]⟩ zua,true⟩)]):=hO
 have hl4:(tk 2 (tk 4 (tk 8 s))).1.length≤9000:=Nat.le_trans zlk (Nat.le_trans zlk (Nat.le_trans zlk (by omega)))
 refine zas hO (zxa (k:=1) rfl) hv.app (by omega) ?_
 clear hO
 intro H v5 hO i5
 replace hO:St H (Γ++[(p2,⟨mfC m0 zua,true⟩),(p7,rdr v5 (pS5 s).2),(p5,⟨mfC ⟨ob t,leV (tb 8 s),(leV (tb 4 (tk 8 s)):Int),(leV (tb 2 (tk 4 (tk 8 s))):Int),z32,[]⟩ zua,true⟩)]):=hO.set_r
 replace hv:RdB Γ v5 (pS5 s).1:=i5 _ hv
 refine zaa zda ?_
 refine zmf hO (Γ.length+2) (zxa rfl) (show (by8 (hsh _ _)).length=32 by rw[zVs]; exact zuc) (by show 0+4+32≤(mfC _ _).length; rw[zwa rfl]; omega) (zoc _) ?_
 clear hO i5
 intro H hO
 rw[zru rfl zuc] at hO
 replace hO:St H (Γ++[(p2,⟨mfC m0 zua,true⟩),(p7,rdr v5 (pS5 s).2),(p5,⟨mfC (zwe t s) zua,true⟩)]):=hO.set_r
 have hd:(zwe t s).dg.length=32:=zuc
 have hb5:By (pS5 s).1:=zHc (zHc (zHc (zHc hb1)))
 have hl5:(pS5 s).1.length≤9000:=Nat.le_trans zlk hl4
 refine zaa zda ?_
 refine ld hO 2 rfl (v:=int (zwe t s).sz) rfl ?_
 refine zaa zda ?_
 refine ld hO 2 rfl (v:=int (zwe t s).ck) rfl ?_
 have hsz0:(zwe t s).sz≤4294967295:=by show ((leV (tb 4 (tk 8 s)):Nat):Int)≤_; omega
 have hck0:(zwe t s).ck≤65535:=by show ((leV (tb 2 (tk 4 (tk 8 s))):Nat):Int)≤_; omega
 refine zpp (by omega) (by omega) ?_
 refine zra zBA ?_
 have hc0:=zrv (s:=(zwe t s).sz) (c:=(zwe t s).ck)
 have hpn:pN (zwe t s)≤65:=by unfold pN; omega
 rw[show min (cnt (zwe t s).sz (zwe t s).ck) 65=((pN (zwe t s):Nat):Int) by unfold pN; omega]
 have hok:∀ n,n≤65→(zJb (zwe t s) (hsL n (pS5 s))).Ok:=fun n hn=>zLx hb1 htl (by omega) hb5
 have hkG:zEv (tkn (pN (zwe t s)) (pS5 s)).1 (tkn (pN (zwe t s)) (pS5 s)).2=0∧zlb (zJb (zwe t s) (hsL (pN (zwe t s)) (pS5 s)))→∀ H' cv,St H' (Γ++zMa cv (hsC (hsL (pN (zwe t s)) (pS5 s))))→RdH (zMa cv (hsC (hsL (pN (zwe t s)) (pS5 s)))) cv (hsL (pN (zwe t s)) (pS5 s))→K (.tuple [agg (mfC (zJb (zwe t s) (hsL (pN (zwe t s)) (pS5 s))) cv),int 0].toArray) H':=by
  intro h
  rw[show zXz t s=(pM t s,0) from if_pos h] at hk
  exact hk
 have hkB:¬ (zEv (tkn (pN (zwe t s)) (pS5 s)).1 (tkn (pN (zwe t s)) (pS5 s)).2=0∧zlb (zJb (zwe t s) (hsL (pN (zwe t s)) (pS5 s))))→∀ H',St H' Γ→K (.tuple [agg (mfC m0 zua),int 131].toArray) H':=by
  intro h H' hO
  rw[show zXz t s=(m0,131) from if_neg h] at hk
  exact hk H' zua hO.z (.inl ⟨rfl,rfl⟩)
 clear hk
 generalize pN (zwe t s)=N at *
 generalize zwe t s=h at *
 generalize pS5 s=s5 at *
 clear h8 h4 h2 hl4
 refine zvh (fun k l' H'=>∃ (y:Nat) (cv v:Value),y≤N∧k=N - y∧l'=[ptr p2 0,int 0,ptr p7 0,ptr p5 0,int N,int y]∧St H' ((Γ++[(p2,⟨mfC m0 zua,true⟩),(p7,rdr v (tkn y s5).2),(p5,⟨mfC h cv,true⟩)])++zMa cv (hsC (hsL y s5)))∧Own 32 cv y (hsC (hsL y s5))∧RdB Γ v (tkn y s5).1) _ _ ?_ N _ _ ⟨0,zua,v5,by omega,by omega,rfl,hO.z,.nil,hv⟩
 clear hO hv
 rintro k l' H ⟨y,cv,v,hy,rfl,rfl,hO,how,hv⟩
 unfold zUf
 try simp only[zea,zfa]
 refine zaa zNa ?_
 refine zia (fun hlt=>?_) (fun hlt=>?_)
 ·have hy:y < N:=by omega
  obtain⟨cs1,cs2⟩:=zZd how
  refine zaa zda ?_
  refine zla hO (Γ.length+2) (zHa (zxa rfl)) (zKh hd) ?_
  refine zas hO (zHa (zxa (k:=1) rfl)) hv.app.app (Nat.le_trans (znt y) (by omega)) ?_
  intro H1 v6 hO1 i6
  rw[List.set_append_left _ _ (by simp),Go.Ab.set_r] at hO1
  replace hO1:St H1 ((Γ++[(p2,⟨mfC m0 zua,true⟩),(p7,rdr v6 (tkn (y+1) s5).2),(p5,⟨mfC h cv,true⟩)])++zMa cv (hsC (hsL y s5))):=hO1
  refine⟨zjc hO (Γ.length+2) (zHa (zxa rfl)) hO1 (Γ.length+2) (zHa (zxa rfl)) (zYd cs1),?_⟩
  clear hO
  refine zya hO1 (zRD _ zuc _) ?_
  clear hO1
  intro q H hO
  refine zgj hO how (by simp[zuc]) (by omega) (zoc _) (by omega) (by omega) ?_
  clear hO
  intro cv2 H hO how2
  replace hO:St H ((Γ++[(p2,⟨mfC m0 zua,true⟩),(p7,rdr v6 (tkn (y+1) s5).2),(p5,⟨mfC h cv,true⟩)])++zMa cv2 (hsC (hsL (y+1) s5))):=by
   show St H (_++zMa cv2 (hsC (hsL y s5++[hs (tkn y s5)])))
   rw[zxm]; exact hO
  replace how2:Own 32 cv2 (y+1) (hsC (hsL (y+1) s5)):=by
   show Own 32 cv2 (y+1) (hsC (hsL y s5++[hs (tkn y s5)]))
   rw[zxm]; exact how2
  refine zaa zda ?_
  refine zKa hO (Γ.length+2) (zHa (zxa rfl)) (zZd how2).2 (by rw[zwa hd]; omega) (zbs hd) ?_
  clear hO
  intro H hO
  rw[List.set_append_left _ _ (by simp),Go.Ab.set_r] at hO
  repeat (first|refine oi ?_|refine ow ?_|refine wy ?_|refine wn ?_|refine wt ?_|refine wf' ?_|refine cy ?_|refine cn ?_)
  exact⟨N - (y+1),by omega,y+1,cv2,v6,by omega,rfl,rfl,hO,how2,i6 _ hv⟩
 ·have ey:y=N:=by omega
  subst ey
  refine zSa rfl ?_
  try simp only[zea,zfa]
  have hll:=zfl (s:=s5) y
  have hrd:RdH (zMa cv (hsC (hsL y s5))) cv (zJb h (hsL y s5)).cks:=zot (by rw[hll]; exact how)
  have oky:=hok y hpn
  refine zva (fun l' H'=>l'=[ptr p2 0,ptr p5 0,.bool (decide (¬ (zEv (tkn y s5).1 (tkn y s5).2=0∧zlb (zJb h (hsL y s5)))))]∧St H' ((Γ++[(p2,⟨mfC m0 zua,true⟩),(p7,rdr v (tkn y s5).2),(p5,⟨mfC h cv,true⟩)])++zMa cv (hsC (hsL y s5)))) ?_ ?_
  ·refine zIx hO (zHa (zxa (k:=1) rfl)) hv.app.app ?_
   refine zaa zYa ?_
   refine zia (fun h1=>?_) (fun h1=>?_)
   ·refine zaa (zIa h1) ?_
    exact⟨by rw[decide_eq_true (show ¬ (zEv (tkn y s5).1 (tkn y s5).2=0∧zlb (zJb h (hsL y s5))) from fun h2=>h1 h2.1)],hO⟩
   ·refine zGa hO (Γ.length+2) (zHa (zxa rfl)) (show _=mfC (zJb h (hsL y s5)) cv from by rw[List.drop_zero]; exact List.take_of_length_le (by rw[zwa hd]; omega)) (zwa hd) (by omega) ?_
    refine zqp oky hrd.app' hO ?_
    clear hO
    intro H hO
    refine zaa zLg ?_
    refine zaa (zab h1) ?_
    refine⟨?_,hO⟩
    have h1':zEv (tkn y s5).1 (tkn y s5).2=0:=Classical.not_not.1 h1
    by_cases hr:zlb (zJb h (hsL y s5))
    ·rw[decide_eq_true hr,decide_eq_false (show ¬ ¬ (zEv (tkn y s5).1 (tkn y s5).2=0∧zlb (zJb h (hsL y s5))) from fun h2=>h2 ⟨h1',hr⟩)]; rfl
    ·rw[decide_eq_false hr,decide_eq_true (show ¬ (zEv (tkn y s5).1 (tkn y s5).2=0∧zlb (zJb h (hsL y s5))) from fun h2=>hr h2.2)]; rfl
  clear hO
  rintro l' H ⟨rfl,hO⟩
  try simp only[zea,zfa]
  refine zia (fun h1=>?_) (fun h1=>?_)
  ·refine zaa bM0 ?_
   replace hO:=hO.left
   refine sw hO 0 rfl (by rfl) (by rfl) (zqb rfl) ?_
   clear hO
   intro H hO
   refine lw hO 0 rfl (by rfl) (by omega) ?_
   exact hkB h1 H hO.left
  ·refine zGa hO (Γ.length+2) (zHa (zxa rfl)) (show _=mfC (zJb h (hsL y s5)) cv from by rw[List.drop_zero]; exact List.take_of_length_le (by rw[zwa hd]; omega)) (zwa hd) (by omega) ?_
   refine zsa hO (Γ.length+0) (zHa (zxa rfl)) (by rfl) (zwa hd) (zqb (zZd how).2) ?_
   clear hO
   intro H hO
   rw[List.set_append_left _ _ (by simp),Go.Ab.set_r] at hO
   refine zGa hO (Γ.length+0) (zHa (zxa rfl)) (show _=mfC (zJb h (hsL y s5)) cv from by rw[List.drop_zero]; exact List.take_of_length_le (by rw[zwa (m:=zJb h (hsL y s5)) hd]; omega)) (zwa hd) (by omega) ?_
   exact hkG (Classical.not_not.1 h1) H cv (St.mid hO) hrd
end J
set_option maxRecDepth 100000
namespace J
open Go Go.Ab
variable{H:Heap}{Γ Γ0 Γ2 Δ G L:List (Nat × Blk)}{K:VH}{v w x cv dv:Value}{xs ys zs bs b key ms:List Int}{j p q o n k mx:Nat}{e:Int}{cs cs':List Value}{l:List UInt8}{m a:Mf}{cks:List (List Int)}
def Stay(Γ:List (Nat × Blk))(v:Value):Prop:=v=zua∨∃ (p o n c j:Nat) (b:Blk),v=sl p o n c∧Γ[j]?=some (p,b)∧b.cells.all zpb=true∧(b.wr=true∨b.cells≠[])
theorem Stay.app(h:Stay Γ v):Stay (Γ++Δ) v:=by
 rcases h with h|⟨p,o,n,c,j,b,h1,h2,h3⟩
 ·exact .inl h
 ·exact .inr ⟨p,o,n,c,j,b,h1,zHa h2,h3⟩
theorem Stay.same{H':Heap}(h:Stay Γ v)(hO:St H Γ)(hO':St H' (Γ++Δ)):zgb (zcb H H') (zDa [v]):=by
 rcases h with rfl|⟨p,o,n,c,j,b,rfl,h2,h3,h4⟩
 ·rfl
 ·exact zjc (o:=o) hO j h2 hO' j (zHa h2) h3 h4
def hsK:Nat→Rs→Nat
 | 0,_=>0
 | f+1,s=>if s.1=[] then 0 else hsK f (tk 32 s)+1
theorem zmk{s:Rs}:∀ n,tkn n (tk 32 s)=tkn (n+1) s
 | 0=>rfl
 | n+1=>by show tk 32 (tkn n (tk 32 s))=_; rw[zmk n]; rfl
theorem zuz{s:Rs}:∀ (f y:Nat),y < f→hsK f s=y+hsK (f - y) (tkn y s)→hsK f s=(if (tkn y s).1=[] then y else (y+1)+hsK (f - (y+1)) (tkn (y+1) s)):=by
 intro f y hy h
 obtain⟨g,hg⟩:∃ g,f - y=g+1:=⟨f - y - 1,by omega⟩
 rw[hg] at h
 rw[h,show f - (y+1)=g by omega]
 show y+(if (tkn y s).1=[] then 0 else hsK g (tk 32 (tkn y s))+1)=if (tkn y s).1=[] then y else y+1+hsK g (tk 32 (tkn y s))
 split
 ·omega
 ·omega
def rM(t:List Int)(s:Rs):Mf:=zJb (zwe t s) (hsL (hsK 65 (pS5 s)) (pS5 s))
def rOk(b t:List Int)(s:Rs):Prop:=(tkn (hsK 65 (pS5 s)) (pS5 s)).2=0∧zmb (rM t s)=b∧b≠[]
instance (b t:List Int) (s:Rs):Decidable (rOk b t s):=by unfold rOk; exact inferInstance
def zIB(b t:List Int)(s:Rs):Mf × Int:=if rOk b t s then (rM t s,0) else (m0,131)
def zRi(b:List Int):Mf × Int:=zIB b (tYb b 0) (tYr b 0,tYe b 0)
theorem zFD(a:Option Addr)(n c:Nat):(zbb P 88).f [(0,.slice a n c)]=some (agg [.slice a n c,int 0]):=by kernel_rfl
theorem bM1(s:ByteArray):(zbb P 29).f [(0,.string s)]=some (agg (mfC ⟨s.data.toList,0,0,0,z32,[]⟩ zua)):=by kernel_rfl
theorem zsu{a b:List Int}(ha:By a)(hb:By b)(h:ob a=ob b):a=b:=by
 have h1:=zGx a ha
 have h2:=zGx b hb
 rw[← h1,← h2]
 exact congrArg ub h
theorem zcs(y n:Nat):By (leN y n):=by
 intro x hx
 obtain⟨i,_,rfl⟩:=List.mem_map.1 hx
 have:=Nat.mod_lt (n / 256 ^ i) (show 256 > 0 by decide)
 omega
theorem zuB:∀ {l:List (List Int)},(∀ x ∈ l,By x)→By l.flatten:=by
 intro l h x hx
 obtain⟨y,hy,hx⟩:=List.mem_flatten.1 hx
 exact h y hy x hx
theorem zVn(ok:m.Ok):By (zmb m):=by
 unfold zmb
 split
 ·exact zRb (zRb (zRb (zRb (zRb (zRb (zcs _ _) zBD) (zcs _ _)) (zcs _ _)) (zcs _ _)) ok.db) (zuB ok.cb)
 ·intro x h; cases h
set_option maxHeartbeats 4000000 in
theorem zim(hO:St H Γ)(hv:RdB Γ v b)(hb:By b)(hx:b.length≤9000)(hst:Stay Γ v)
  (hk:∀ H' cv,St H' (Γ++zMa cv (hsC (zRi b).1.cks))→RdH (zMa cv (hsC (zRi b).1.cks)) cv (zRi b).1.cks→K (.tuple [agg (mfC (zRi b).1 cv),int (zRi b).2].toArray) H'):wCall P zJe [v] H K:=by
 apply zto; unfold zrn
 have hvb:=hv
 rw[zcM]
 refine nw hO.z ?_
 clear hO
 intro p2 H hO
 obtain⟨a0,n0,c0,e0⟩:=hv.shape
 refine zaa (by rw[e0]; exact zFD _ _ _) ?_
 rw[← e0]
 refine nw hO ?_
 clear hO
 intro p7 H hO
 replace hO:St H (Γ++[(p2,⟨mfC m0 zua,true⟩),(p7,rdr v 0)]):=hO
 have htl:(tYb b 0).length≤10000:=by
  unfold tYb
  have h1:∀ (xs:List Int) (e:Int) (n:Nat),(tkB xs e n).length≤xs.length:=fun xs e n=>by
   unfold tkB
   split
   ·rw[List.length_take]; omega
   ·simp
  have:=h1 (tkR b 0 2) (tkE b 0 2) (tN b 0)
  have:=zHg b 0 2
  omega
 refine zmt hO (zxa (k:=1) rfl) hv.app hb (by omega) ?_
 clear hO
 intro H v1 hO i1
 replace hO:St H (Γ++[(p2,⟨mfC m0 zua,true⟩),(p7,rdr v1 (tYe b 0))]):=hO.set_r
 replace hv:=i1 _ hv
 have hb1:By (tYr b 0):=zQi (zQi hb _ _) _ _
 have hl1:(tYr b 0).length≤b.length:=Nat.le_trans (zHg _ _ _) (zHg _ _ _)
 unfold zRi at hk
 replace hO:St H (Γ++[(p2,⟨mfC m0 zua,true⟩),(p7,rdr v1 (tYr b 0,tYe b 0).2)]):=hO
 replace hv:RdB Γ v1 (tYr b 0,tYe b 0).1:=hv
 replace hb1:By (tYr b 0,tYe b 0).1:=hb1
 replace hl1:(tYr b 0,tYe b 0).1.length≤b.length:=hl1
 generalize tYb b 0=t at *
 generalize ((tYr b 0,tYe b 0):Rs)=s at *
 clear i1
 refine zaa (bM1 _) ?_
 refine nw hO ?_
 clear hO
 intro p5 H hO
 refine sw hO 2 rfl (by rfl) (by rfl) (zqb rfl) ?_
 clear hO
 intro H hO
 replace hO:St H (Γ++[(p2,⟨mfC m0 zua,true⟩),(p7,rdr v1 s.2),(p5,⟨mfC ⟨ob t,0,0,0,z32,[]⟩ zua,true⟩)]):=hO
 have h8:=zCq hb1 8
 refine zvf (k:=8) (by omega) hO (zxa (k:=1) rfl) hv.app (by omega) hb1 ?_
 clear hO
 intro H v2 hO i2
 replace hO:St H (Γ++[(p2,⟨mfC m0 zua,true⟩),(p7,rdr v2 (tk 8 s).2),(p5,⟨mfC ⟨ob t,0,0,0,z32,[]⟩ zua,true⟩)]):=hO.set_r
 replace hv:RdB Γ v2 (tk 8 s).1:=i2 _ hv
 refine zaa zda ?_
 refine s1 hO 2 rfl rfl (by rw[zwa rfl]; omega) ?_
 clear hO i2
 intro H hO
 replace hO:St H (Γ++[(p2,⟨mfC m0 zua,true⟩),(p7,rdr v2 (tk 8 s).2),(p5,⟨mfC ⟨ob t,leV (tb 8 s),0,0,z32,[]⟩ zua,true⟩)]):=hO
 have hl2:(tk 8 s).1.length≤9000:=Nat.le_trans zlk (by omega)
 have h4:=zCq (s:=tk 8 s) (zHc hb1) 4
 refine zvf (k:=4) (by omega) hO (zxa (k:=1) rfl) hv.app (by omega) (zHc hb1) ?_
 clear hO
 intro H v3 hO i3
 replace hO:St H (Γ++[(p2,⟨mfC m0 zua,true⟩),(p7,rdr v3 (tk 4 (tk 8 s)).2),(p5,⟨mfC ⟨ob t,leV (tb 8 s),0,0,z32,[]⟩ zua,true⟩)]):=hO.set_r
 replace hv:RdB Γ v3 (tk 4 (tk 8 s)).1:=i3 _ hv
 refine zra (zUw (k:=.u64) (show leV (tb 4 (tk 8 s))≤_ by omega)) ?_
 refine zaa zda ?_
 refine s1 hO 2 rfl rfl (by rw[zwa rfl]; omega) ?_
 clear hO i3
 intro H hO
 replace hO:St H (Γ++[(p2,⟨mfC m0 zua,true⟩),(p7,rdr v3 (tk 4 (tk 8 s)).2),(p5,⟨mfC ⟨ob t,leV (tb 8 s),(leV (tb 4 (tk 8 s)):Int),0,z32,[]⟩ zua,true⟩)]):=hO
 have hl3:(tk 4 (tk 8 s)).1.length≤9000:=Nat.le_trans zlk hl2
 have h2:=zCq (s:=tk 4 (tk 8 s)) (zHc (zHc hb1)) 2
 refine zvf (k:=2) (by omega) hO (zxa (k:=1) rfl) hv.app (by omega) (zHc (zHc hb1)) ?_
 clear hO
 intro H v4 hO i4
 replace hO:St H (Γ++[(p2,⟨mfC m0 zua,true⟩),(p7,rdr v4 (tk 2 (tk 4 (tk 8 s))).2),(p5,⟨mfC ⟨ob t,leV (tb 8 s),(leV (tb 4 (tk 8 s)):Int),0,z32,[]⟩ zua,true⟩)]):=hO.set_r
 replace hv:RdB Γ v4 (tk 2 (tk 4 (tk 8 s))).1:=i4 _ hv
 refine zra (zUw (k:=.u64) (show leV (tb 2 (tk 4 (tk 8 s)))≤_ by omega)) ?_
 refine zaa zda ?_
 refine s1 hO 2 rfl rfl (by rw[zwa rfl]; omega) ?_
 clear hO i4
 intro H hO
 replace hO:St H (Γ++[(p2,⟨mfC m0 zua,true⟩),(p7,rdr v4 (tk 2 (tk 4 (tk 8 s))).2),(p5,⟨mfC ⟨ob t,leV (tb 8 s),(leV (tb 4 (tk 8 s)):Int),(leV (tb 2 (tk 4 (tk 8 s))):Int),z32,[]⟩ zua,true⟩)]):=hO
 have hl4:(tk 2 (tk 4 (tk 8 s))).1.length≤9000:=Nat.le_trans zlk hl3
 refine zLh hO (zxa (k:=1) rfl) hv.app (by omega) ?_
 clear hO
 intro H v5 hO i5
 replace hO:St H (Γ++[(p2,⟨mfC m0 zua,true⟩),(p7,rdr v5 (pS5 s).2),(p5,⟨mfC ⟨ob t,leV (tb 8 s),(leV (tb 4 (tk 8 s)):Int),(leV (tb 2 (tk 4 (tk 8 s))):Int),z32,[]⟩ zua,true⟩)]):=hO.set_r
 replace hv:RdB Γ v5 (pS5 s).1:=i5 _ hv
 refine zaa zda ?_
 refine zmf hO (Γ.length+2) (zxa rfl) (show (by8 (hsh _ _)).length=32 by rw[zVs]; exact zuc) (by show 0+4+32≤(mfC _ _).length; rw[zwa rfl]; omega) (zoc _) ?_
 clear hO i5
 intro H hO
 rw[zru rfl zuc] at hO
 replace hO:St H (Γ++[(p2,⟨mfC m0 zua,true⟩),(p7,rdr v5 (pS5 s).2),(p5,⟨mfC (zwe t s) zua,true⟩)]):=hO.set_r
 have hd:(zwe t s).dg.length=32:=zuc
 have hb5:By (pS5 s).1:=zHc (zHc (zHc (zHc hb1)))
 have hl5:(pS5 s).1.length≤9000:=Nat.le_trans zlk hl4
 have hok:∀ n,n≤65→(zJb (zwe t s) (hsL n (pS5 s))).Ok:=fun n hn=>zLx hb1 htl (by omega) hb5
 have hkG:(tkn (hsK 65 (pS5 s)) (pS5 s)).2=0∧zmb (zJb (zwe t s) (hsL (hsK 65 (pS5 s)) (pS5 s)))=b∧b≠[]→∀ H' cv,St H' (Γ++zMa cv (hsC (hsL (hsK 65 (pS5 s)) (pS5 s))))→RdH (zMa cv (hsC (hsL (hsK 65 (pS5 s)) (pS5 s)))) cv (hsL (hsK 65 (pS5 s)) (pS5 s))→K (.tuple [agg (mfC (zJb (zwe t s) (hsL (hsK 65 (pS5 s)) (pS5 s))) cv),int 0].toArray) H':=by
  intro h
  rw[show zIB b t s=(rM t s,0) from if_pos h] at hk
  exact hk
 have hkB:¬ ((tkn (hsK 65 (pS5 s)) (pS5 s)).2=0∧zmb (zJb (zwe t s) (hsL (hsK 65 (pS5 s)) (pS5 s)))=b∧b≠[])→∀ H',St H' Γ→K (.tuple [agg (mfC m0 zua),int 131].toArray) H':=by
  intro h H' hO
  rw[show zIB b t s=(m0,131) from if_neg h] at hk
  exact hk H' zua hO.z (.inl ⟨rfl,rfl⟩)
 clear hk
 generalize zwe t s=h at *
 generalize pS5 s=s5 at *
 clear h8 h4 h2 hl4
 refine zKj (fun k l' H'=>∃ (y:Nat) (cv vr:Value),y≤65∧k=65 - y∧l'=[v,ptr p2 0,int 0,ptr p7 0,ptr p5 0]∧St H' ((Γ++[(p2,⟨mfC m0 zua,true⟩),(p7,rdr vr (tkn y s5).2),(p5,⟨mfC h cv,true⟩)])++zMa cv (hsC (hsL y s5)))∧Own 32 cv y (hsC (hsL y s5))∧RdB Γ vr (tkn y s5).1∧hsK 65 s5=y+hsK (65 - y) (tkn y s5)) _ _ ?_ 65 _ _ ⟨0,zua,v5,by omega,by omega,rfl,hO.z,.nil,hv,by rw[Nat.zero_add]; rfl⟩
 clear hO hv
 rintro k l' H ⟨y,cv,vr,hy,rfl,rfl,hO,how,hv,hK⟩
 unfold zBi
 try simp only[zea,zfa]
 obtain⟨cs1,cs2⟩:=zZd how
 by_cases h0:(tkn y s5).1=[]
 ·refine zva (fun _ _=>False) ?_ (fun _ _ h=>h.elim)
  have hKy:hsK 65 s5=y:=by
   rw[hK]
   have:hsK (65 - y) (tkn y s5)=0:=by
    cases h65:65 - y with
    | zero=>rfl
    | succ n=>unfold hsK; rw[if_pos h0]
   omega
  refine zaa zna ?_
  refine zaa zda ?_
  refine zla hO (Γ.length+1) (zHa (zxa rfl)) (v:=vr) rfl ?_
  refine zra hv.lenSl ?_
  refine zaa zHb ?_
  refine zVc (by rw[h0]; simp) ?_
  rw[h0]
  repeat (first|refine oi ?_|refine ow ?_|refine wy ?_|refine wn ?_|refine wt ?_|refine wf' ?_|refine cy ?_|refine cn ?_)
  try simp only[zea,zfa]
  have hll:=zfl (s:=s5) y
  have hrd:RdH (zMa cv (hsC (hsL y s5))) cv (zJb h (hsL y s5)).cks:=zot (by rw[hll]; exact how)
  have oky:=hok y hy
  rw[hKy] at hkG hkB
  refine zva (fun l' H'=>l'=[ptr p2 0,ptr p5 0,.bool (decide (¬ ((tkn y s5).2=0∧zmb (zJb h (hsL y s5))=b∧b≠[])))]∧St H' ((Γ++[(p2,⟨mfC m0 zua,true⟩),(p7,rdr vr (tkn y s5).2),(p5,⟨mfC h cv,true⟩)])++zMa cv (hsC (hsL y s5)))) ?_ ?_
  ·refine zaa zna ?_
   refine zaa zda ?_
   refine zla hO (Γ.length+1) (zHa (zxa rfl)) (v:=int (tkn y s5).2) rfl ?_
   refine zaa zYa ?_
   refine zia (fun h1=>?_) (fun h1=>?_)
   ·refine zaa (zIa h1) ?_
    refine zaa ztd ?_
    exact⟨by rw[decide_eq_true (show ¬ ((tkn y s5).2=0∧zmb (zJb h (hsL y s5))=b∧b≠[]) from fun h2=>h1 h2.1)],hO⟩
   ·have h1':(tkn y s5).2=0:=Classical.not_not.1 h1
    refine zGa hO (Γ.length+2) (zHa (zxa rfl)) (show _=mfC (zJb h (hsL y s5)) cv from by rw[List.drop_zero]; exact List.take_of_length_le (by rw[zwa hd]; omega)) (zwa hd) (by omega) ?_
    refine zve oky hrd.app' hO ?_
    intro H2 v8 c8 hO2 hv8
    refine zra (RdB.str hO2 hv8.rd.app') ?_
    refine zra (RdB.str hO2 hvb.app.app.app) ?_
    have hsame:zgb (zcb H H2) (zDa [v]):=hst.app.app.same hO hO2
    refine⟨hsame,?_⟩
    refine zaa (zrp (l:=ob (zmb (zJb h (hsL y s5)))) (m:=ob b) _ _) ?_
    refine zaa (zab h1) ?_
    have hiff:ob (zmb (zJb h (hsL y s5)))=ob b↔zmb (zJb h (hsL y s5))=b:=⟨fun h=>zsu (zVn oky) hb h,fun h=>by rw[h]⟩
    refine zia (fun h3=>?_) (fun h3=>?_)
    ·refine zaa (zIa h3) ?_
     exact⟨by rw[decide_eq_true (show ¬ ((tkn y s5).2=0∧zmb (zJb h (hsL y s5))=b∧b≠[]) from fun h2=>h3 (hiff.2 h2.2.1))],hO2.left⟩
    ·refine zra hvb.lenSl ?_
     refine zaa zRa ?_
     refine zaa (zab h3) ?_
     refine⟨?_,hO2.left⟩
     have h3':=hiff.1 (Classical.not_not.1 h3)
     rw[decide_eq_decide.2 (show ((b.length:Int)=0)↔¬ ((tkn y s5).2=0∧zmb (zJb h (hsL y s5))=b∧b≠[]) from⟨fun h4 h5=>h5.2.2 (List.length_eq_zero_iff.1 (by omega)),fun h4=>by
      by_cases h5:b=[]
      ·rw[h5]; rfl
      ·exact absurd ⟨h1',h3',h5⟩ h4⟩)]
  clear hO
  rintro l' H ⟨rfl,hO⟩
  try simp only[zea,zfa]
  refine zia (fun h1=>?_) (fun h1=>?_)
  ·refine zaa bM0 ?_
   replace hO:=hO.left
   refine sw hO 0 rfl (by rfl) (by rfl) (zqb rfl) ?_
   clear hO
   intro H hO
   refine lw hO 0 rfl (by rfl) (by omega) ?_
   exact hkB h1 H hO.left
  ·refine zGa hO (Γ.length+2) (zHa (zxa rfl)) (show _=mfC (zJb h (hsL y s5)) cv from by rw[List.drop_zero]; exact List.take_of_length_le (by rw[zwa hd]; omega)) (zwa hd) (by omega) ?_
   refine zsa hO (Γ.length+0) (zHa (zxa rfl)) (by rfl) (zwa hd) (zqb (zZd how).2) ?_
   clear hO
   intro H hO
   rw[List.set_append_left _ _ (by simp),Go.Ab.set_r] at hO
   refine zGa hO (Γ.length+0) (zHa (zxa rfl)) (show _=mfC (zJb h (hsL y s5)) cv from by rw[List.drop_zero]; exact List.take_of_length_le (by rw[zwa (m:=zJb h (hsL y s5)) hd]; omega)) (zwa hd) (by omega) ?_
   exact hkG (Classical.not_not.1 h1) H cv (St.mid hO) hrd
 by_cases h1:y=65
 ·refine zva (fun _ _=>False) ?_ (fun _ _ h=>h.elim)
  have hKy:hsK 65 s5=y:=by
   rw[hK,h1]; rfl
  have hlp:0 < (tkn y s5).1.length:=List.length_pos_iff.2 h0
  refine zaa zna ?_
  refine zaa zda ?_
  refine zla hO (Γ.length+1) (zHa (zxa rfl)) (v:=vr) rfl ?_
  refine zra hv.lenSl ?_
  refine zaa zHb ?_
  refine zhb (by omega) ?_
  refine zaa zda ?_
  refine zla hO (Γ.length+2) (zHa (zxa rfl)) (zKh hd) ?_
  refine zra how.lenSl ?_
  repeat (first|refine oi ?_|refine ow ?_|refine wy ?_|refine wn ?_|refine wt ?_|refine wf' ?_|refine cy ?_|refine cn ?_)
  try simp only[zea,zfa]
  have hll:=zfl (s:=s5) y
  have hrd:RdH (zMa cv (hsC (hsL y s5))) cv (zJb h (hsL y s5)).cks:=zot (by rw[hll]; exact how)
  have oky:=hok y hy
  rw[hKy] at hkG hkB
  refine zva (fun l' H'=>l'=[ptr p2 0,ptr p5 0,.bool (decide (¬ ((tkn y s5).2=0∧zmb (zJb h (hsL y s5))=b∧b≠[])))]∧St H' ((Γ++[(p2,⟨mfC m0 zua,true⟩),(p7,rdr vr (tkn y s5).2),(p5,⟨mfC h cv,true⟩)])++zMa cv (hsC (hsL y s5)))) ?_ ?_
  ·refine zaa zna ?_
   refine zaa zda ?_
   refine zla hO (Γ.length+1) (zHa (zxa rfl)) (v:=int (tkn y s5).2) rfl ?_
   refine zaa zYa ?_
   refine zia (fun h1=>?_) (fun h1=>?_)
   ·refine zaa (zIa h1) ?_
    refine zaa ztd ?_
    exact⟨by rw[decide_eq_true (show ¬ ((tkn y s5).2=0∧zmb (zJb h (hsL y s5))=b∧b≠[]) from fun h2=>h1 h2.1)],hO⟩
   ·have h1':(tkn y s5).2=0:=Classical.not_not.1 h1
    refine zGa hO (Γ.length+2) (zHa (zxa rfl)) (show _=mfC (zJb h (hsL y s5)) cv from by rw[List.drop_zero]; exact List.take_of_length_le (by rw[zwa hd]; omega)) (zwa hd) (by omega) ?_
    refine zve oky hrd.app' hO ?_
    intro H2 v8 c8 hO2 hv8
    refine zra (RdB.str hO2 hv8.rd.app') ?_
    refine zra (RdB.str hO2 hvb.app.app.app) ?_
    have hsame:zgb (zcb H H2) (zDa [v]):=hst.app.app.same hO hO2
    refine⟨hsame,?_⟩
    refine zaa (zrp (l:=ob (zmb (zJb h (hsL y s5)))) (m:=ob b) _ _) ?_
    refine zaa (zab h1) ?_
    have hiff:ob (zmb (zJb h (hsL y s5)))=ob b↔zmb (zJb h (hsL y s5))=b:=⟨fun h=>zsu (zVn oky) hb h,fun h=>by rw[h]⟩
    refine zia (fun h3=>?_) (fun h3=>?_)
    ·refine zaa (zIa h3) ?_
     exact⟨by rw[decide_eq_true (show ¬ ((tkn y s5).2=0∧zmb (zJb h (hsL y s5))=b∧b≠[]) from fun h2=>h3 (hiff.2 h2.2.1))],hO2.left⟩
    ·refine zra hvb.lenSl ?_
     refine zaa zRa ?_
     refine zaa (zab h3) ?_
     refine⟨?_,hO2.left⟩
     have h3':=hiff.1 (Classical.not_not.1 h3)
     rw[decide_eq_decide.2 (show ((b.length:Int)=0)↔¬ ((tkn y s5).2=0∧zmb (zJb h (hsL y s5))=b∧b≠[]) from⟨fun h4 h5=>h5.2.2 (List.length_eq_zero_iff.1 (by omega)),fun h4=>by
      by_cases h5:b=[]
      ·rw[h5]; rfl
      ·exact absurd ⟨h1',h3',h5⟩ h4⟩)]
  clear hO
  rintro l' H ⟨rfl,hO⟩
  try simp only[zea,zfa]
  refine zia (fun h1=>?_) (fun h1=>?_)
  ·refine zaa bM0 ?_
   replace hO:=hO.left
   refine sw hO 0 rfl (by rfl) (by rfl) (zqb rfl) ?_
   clear hO
   intro H hO
   refine lw hO 0 rfl (by rfl) (by omega) ?_
   exact hkB h1 H hO.left
  ·refine zGa hO (Γ.length+2) (zHa (zxa rfl)) (show _=mfC (zJb h (hsL y s5)) cv from by rw[List.drop_zero]; exact List.take_of_length_le (by rw[zwa hd]; omega)) (zwa hd) (by omega) ?_
   refine zsa hO (Γ.length+0) (zHa (zxa rfl)) (by rfl) (zwa hd) (zqb (zZd how).2) ?_
   clear hO
   intro H hO
   rw[List.set_append_left _ _ (by simp),Go.Ab.set_r] at hO
   refine zGa hO (Γ.length+0) (zHa (zxa rfl)) (show _=mfC (zJb h (hsL y s5)) cv from by rw[List.drop_zero]; exact List.take_of_length_le (by rw[zwa (m:=zJb h (hsL y s5)) hd]; omega)) (zwa hd) (by omega) ?_
   exact hkG (Classical.not_not.1 h1) H cv (St.mid hO) hrd
 have hlp:0 < (tkn y s5).1.length:=List.length_pos_iff.2 h0
 refine zva (fun l' H'=>l'=[v,ptr p2 0,int 0,ptr p7 0,ptr p5 0]∧H=H') ?_ ?_
 ·refine zaa zna ?_
  refine zaa zda ?_
  refine zla hO (Γ.length+1) (zHa (zxa rfl)) (v:=vr) rfl ?_
  refine zra hv.lenSl ?_
  refine zaa zHb ?_
  refine zhb (by omega) ?_
  refine zaa zda ?_
  refine zla hO (Γ.length+2) (zHa (zxa rfl)) (zKh hd) ?_
  refine zra how.lenSl ?_
  repeat (first|refine oi ?_|refine ow ?_|refine wy ?_|refine wn ?_|refine wt ?_|refine wf' ?_|refine cy ?_|refine cn ?_)
  exact⟨(by first|rfl|trivial),(by first|rfl|trivial)⟩
 rintro l' H' ⟨rfl,rfl⟩
 try simp only[zea,zfa]
 refine zaa zda ?_
 refine zla hO (Γ.length+2) (zHa (zxa rfl)) (zKh hd) ?_
 refine zLh hO (zHa (zxa (k:=1) rfl)) hv.app.app (Nat.le_trans (znt y) (by omega)) ?_
 intro H1 v6 hO1 i6
 rw[List.set_append_left _ _ (by simp),Go.Ab.set_r] at hO1
 replace hO1:St H1 ((Γ++[(p2,⟨mfC m0 zua,true⟩),(p7,rdr v6 (tkn (y+1) s5).2),(p5,⟨mfC h cv,true⟩)])++zMa cv (hsC (hsL y s5))):=hO1
 refine⟨zjc hO (Γ.length+2) (zHa (zxa rfl)) hO1 (Γ.length+2) (zHa (zxa rfl)) (zYd cs1),?_⟩
 clear hO
 refine zya hO1 (zRD _ zuc _) ?_
 clear hO1
 intro q H hO
 refine zgj hO how (by simp[zuc]) (by omega) (zoc _) (by omega) (by omega) ?_
 clear hO
 intro cv2 H hO how2
 replace hO:St H ((Γ++[(p2,⟨mfC m0 zua,true⟩),(p7,rdr v6 (tkn (y+1) s5).2),(p5,⟨mfC h cv,true⟩)])++zMa cv2 (hsC (hsL (y+1) s5))):=by
  show St H (_++zMa cv2 (hsC (hsL y s5++[hs (tkn y s5)])))
  rw[zxm]; exact hO
 replace how2:Own 32 cv2 (y+1) (hsC (hsL (y+1) s5)):=by
  show Own 32 cv2 (y+1) (hsC (hsL y s5++[hs (tkn y s5)]))
  rw[zxm]; exact how2
 refine zaa zda ?_
 refine zKa hO (Γ.length+2) (zHa (zxa rfl)) (zZd how2).2 (by rw[zwa hd]; omega) (zbs hd) ?_
 clear hO
 intro H hO
 rw[List.set_append_left _ _ (by simp),Go.Ab.set_r] at hO
 refine⟨65 - (y+1),by omega,y+1,cv2,v6,by omega,rfl,(by first|rfl|trivial),hO,how2,i6 _ hv,?_⟩
 have:=zuz 65 y (by omega) hK
 rw[if_neg h0] at this
 exact this
end J
set_option maxRecDepth 100000
namespace J
open Go Go.Ab
variable{xs ys zs bs b t:List Int}{n:Nat}{e:Int}{l:List UInt8}{m:Mf}{s:Rs}
theorem ztu(k n:Nat):leN (k+1) n=((n % 256:Nat):Int)::leN k (n / 256):=by
 unfold leN
 rw[List.range_succ_eq_map,List.map_cons,List.map_map]
 congr 1
 ·simp
 ·refine List.map_congr_left fun i _=>?_
  show ((n / 256 ^ (i+1) % 256:Nat):Int)=_
  rw[Nat.pow_succ,Nat.mul_comm,Nat.div_div_eq_div_mul]
theorem zDq:∀ (bs:List Int),By bs→leN bs.length (leV bs)=bs
 | [],_=>rfl
 | x::r,h=>by
  have hx:=h x List.mem_cons_self
  have ih:=zDq r fun y hy=>h y (List.mem_cons_of_mem _ hy)
  show leN (r.length+1) (x.toNat+256 * leV r)=x::r
  rw[ztu,show (x.toNat+256 * leV r) / 256=leV r by omega,ih,show (x.toNat+256 * leV r) % 256=x.toNat by omega]
  congr 1; omega
theorem zhi:∀ (k n:Nat),n < 256 ^ k→leV (leN k n)=n
 | 0,n,h=>by simp at h; subst h; rfl
 | k+1,n,h=>by
  rw[ztu]
  show (((n % 256:Nat):Int)).toNat+256 * leV (leN k (n / 256))=n
  rw[zhi k (n / 256) (by rw[Nat.pow_succ] at h; omega)]
  omega
theorem zvc(h:(tk n s).2=0):s.2=0∧s.1=tb n s++(tk n s).1∧(tb n s).length=n:=by
 have hc:s.2=0∧n≤s.1.length:=by
  have h:tkE s.1 s.2 n=0:=h
  unfold tkE at h
  split at h
  ·assumption
  ·split at h
   ·omega
   ·contradiction
 refine⟨hc.1,?_,?_⟩
 ·show s.1=tkB s.1 s.2 n++tkR s.1 s.2 n
  unfold tkB tkR
  rw[if_pos hc,if_pos hc,List.take_append_drop]
 ·show (tkB s.1 s.2 n).length=n
  unfold tkB
  rw[if_pos hc,List.length_take]; omega
theorem zWn{a r:List Int}(h:a.length=n):tk n (a++r,0)=(r,0)∧tb n (a++r,0)=a:=by
 have hc:(0:Int)=0∧n≤(a++r).length:=⟨rfl,by rw[List.length_append]; omega⟩
 refine⟨?_,?_⟩
 ·show (tkR (a++r) 0 n,tkE (a++r) 0 n)=_
  unfold tkR tkE
  rw[if_pos hc,if_pos hc,← h,List.drop_left]
 ·show tkB (a++r) 0 n=a
  unfold tkB
  rw[if_pos hc,← h,List.take_left]
theorem zEq(h:(tk 32 s).2=0):hs s=tb 32 s:=by
 obtain⟨h1,h2,h3⟩:=zvc h
 have hl:32≤s.1.length:=by
  have:=congrArg List.length h2
  rw[List.length_append,h3] at this; omega
 show hsh s.1 s.2=tkB s.1 s.2 32
 unfold hsh tkB
 rw[if_pos ⟨h1,hl⟩,if_pos ⟨h1,hl⟩]
theorem znk:∀ n,(tkn n s).2=0→s.2=0∧s.1=(hsL n s).flatten++(tkn n s).1
 | 0,h=>⟨h,rfl⟩
 | n+1,h=>by
  obtain⟨h1,h2,h3⟩:=zvc (s:=tkn n s) (n:=32) h
  obtain⟨g1,g2⟩:=znk n h1
  refine⟨g1,?_⟩
  show s.1=(hsL n s++[hs (tkn n s)]).flatten++(tkn (n+1) s).1
  rw[List.flatten_append,List.append_assoc,zEq h]
  conv=>lhs; rw[g2,h2]
  simp; rfl
theorem zuu{s:Rs}:∀ n,hsL (n+1) s=hs s::hsL n (tk 32 s)
 | 0=>rfl
 | n+1=>by
  show hsL (n+1) s++[hs (tkn (n+1) s)]=hs s::(hsL n (tk 32 s)++[hs (tkn n (tk 32 s))])
  rw[zuu n,zmk n]; rfl
theorem zNx:∀ (cks:List (List Int)) (r:List Int),(∀ x ∈ cks,x.length=32)→tkn cks.length (cks.flatten++r,0)=(r,0)∧hsL cks.length (cks.flatten++r,0)=cks
 | [],r,_=>⟨rfl,rfl⟩
 | c::cs,r,h=>by
  obtain⟨i1,i2⟩:=zNx cs r fun x hx=>h x (List.mem_cons_of_mem _ hx)
  obtain⟨j1,j2⟩:=zWn (n:=32) (a:=c) (r:=cs.flatten++r) (h c List.mem_cons_self)
  rw[List.flatten_cons,List.append_assoc,List.length_cons,← zmk,zuu,j1,i1,i2,zEq (by rw[j1]),j2]
  exact⟨rfl,rfl⟩
def MB(m:Mf):List Int:=txB m.pr++leN 8 m.ver++leN 4 m.sz.toNat++leN 2 m.ck.toNat++m.dg++m.cks.flatten
theorem zMh(h:zlb m):zmb m=MB m:=if_pos h
theorem zGD:MB m≠[]:=by
 intro h
 have:=congrArg List.length h
 simp[MB,txB,zCb] at this
theorem zhD{s:Rs}{k:Nat}(h:(tk k s).2=0)(hb:By s.1):leN k (leV (tb k s))=tb k s:=by
 obtain⟨_,_,h3⟩:=zvc h
 have:=zDq (tb k s) (zKx hb s.2 k)
 rw[h3] at this; exact this
theorem zvz{t:List Int}{s:Rs}{N:Nat}(hs1:By s.1)(ht:By t)(htl:t.length < 65536)(h:(tkn N (pS5 s)).2=0) :
  s.2=0∧leN 2 t.length++t++s.1=MB (zJb (zwe t s) (hsL N (pS5 s)))++(tkn N (pS5 s)).1:=by
 obtain⟨h5,e5⟩:=znk N h
 have hb8:=zHc (n:=8) hs1
 have hb4:=zHc (n:=4) hb8
 have hb2:=zHc (n:=2) hb4
 obtain⟨h4,e4,l4⟩:=zvc (s:=tk 2 (tk 4 (tk 8 s))) (n:=32) h5
 obtain⟨h3,e3,l3⟩:=zvc (s:=tk 4 (tk 8 s)) (n:=2) h4
 obtain⟨h2,e2,l2⟩:=zvc (s:=tk 8 s) (n:=4) h3
 obtain⟨h1,e1,l1⟩:=zvc (s:=s) (n:=8) h2
 refine⟨h1,?_⟩
 have w8:=zhD (k:=8) h2 hs1
 have w4:=zhD (k:=4) h3 hb8
 have w2:=zhD (k:=2) h4 hb4
 have wh:hs (tk 2 (tk 4 (tk 8 s)))=tb 32 (tk 2 (tk 4 (tk 8 s))):=zEq h5
 show _=(leN 2 (ob t).length++ub (ob t))++leN 8 (leV (tb 8 s))++leN 4 ((leV (tb 4 (tk 8 s)):Nat):Int).toNat++leN 2 ((leV (tb 2 (tk 4 (tk 8 s))):Nat):Int).toNat++hs (tk 2 (tk 4 (tk 8 s)))++(hsL N (pS5 s)).flatten++(tkn N (pS5 s)).1
 rw[Int.toNat_natCast,Int.toNat_natCast,w8,w4,w2,wh,show ub (ob t)=t from zGx t ht,show (ob t).length=t.length by simp[ob]]
 conv=>lhs; rw[e1,e2,e3,e4]
 rw[show (tk 32 (tk 2 (tk 4 (tk 8 s)))).1=(pS5 s).1 from rfl,e5]
 simp only[List.append_assoc]
theorem zOx:∀ (N f:Nat) (s:Rs),N≤f→(tkn N s).2=0→(tkn N s).1=[]→hsK f s=N
 | 0,f,s,_,_,h=>by
  cases f with
  | zero=>rfl
  | succ f=>unfold hsK; rw[if_pos (show s.1=[] from h)]
 | N+1,0,s,h,_,_=>by omega
 | N+1,f+1,s,hf,he,hr=>by
  rw[← zmk N] at he hr
  have ih:=zOx N f (tk 32 s) (by omega) he hr
  have h5:=(znk N he).1
  obtain⟨_,g2,g3⟩:=zvc h5
  unfold hsK
  rw[if_neg,ih]
  intro h0
  rw[h0] at g2
  have:=congrArg List.length g2
  simp[g3] at this
  omega
theorem zvu:∀ (f:Nat) (s:Rs),hsK f s < f→(tkn (hsK f s) s).1=[]
 | 0,s,h=>by omega
 | f+1,s,h=>by
  unfold hsK at h ⊢
  split
  ·assumption
  ·rename_i h0
   rw[if_neg h0] at h
   have ih:=zvu f (tk 32 s) (by omega)
   rw[zmk] at ih; exact ih
theorem zPx:∀ (n:Nat) (l:List UInt8),l.length≤n→l.length≤4 * (zft n l).length
 | 0,l,h=>by omega
 | n+1,l,h=>by
  unfold zft
  split
  ·rename_i h0; rw[h0]; simp
  ·rename_i h0
   have hw:=zht h0
   have hw4:wid l≤4:=by
    unfold wid
    split
    ·omega
    ·rename_i r hr; exact (zEx hr h0).2.1
   have ih:=zPx n (l.drop (wid l)) (by rw[List.length_drop]; omega)
   rw[List.length_drop] at ih
   rw[List.length_cons]; omega
theorem zym(h:zel l=0):l.length≤96:=by
 unfold zel at h
 rw[← zTz] at h
 unfold nm4 at h
 split at h
 ·omega
 ·have:=zPx l.length l (Nat.le_refl _)
  rw[show zft l.length l=zgt l from rfl] at this
  omega
theorem zQx(h:zEv xs e=0):e=0∧xs=[]:=by
 unfold zEv at h
 split at h
 ·omega
 ·rename_i h0
  subst h
  exact⟨rfl,by cases xs with
   | nil=>rfl
   | cons a r=>exact absurd ⟨rfl,by simp⟩ h0⟩
theorem zRx(hb:By b)(h:tYe b 0=0):leN 2 (tYb b 0).length++tYb b 0++tYr b 0=b∧(tYb b 0).length=tN b 0∧tkE b 0 2=0:=by
 obtain⟨h1,h2,h3⟩:=zvc (s:=(tkR b 0 2,tkE b 0 2)) (n:=tN b 0) h
 obtain⟨g1,g2,g3⟩:=zvc (s:=(b,0)) (n:=2) h1
 have h3':(tYb b 0).length=tN b 0:=h3
 refine⟨?_,h3',h1⟩
 have hw:=zhD (s:=(b,0)) (k:=2) h1 hb
 rw[h3',show tN b 0=leV (tb 2 (b,0)) from rfl,hw]
 have g2':b=tb 2 (b,0)++tkR b 0 2:=g2
 have h2':tkR b 0 2=tYb b 0++tYr b 0:=h2
 conv=>rhs; rw[g2',h2']
 rw[List.append_assoc]
theorem zzm(hb:By b):zSb b=zRi b:=by
 have hbt:By (tYb b 0):=zKx (zQi hb _ _) _ _
 have hbr:By (tYr b 0):=zQi (zQi hb _ _) _ _
 unfold zSb zRi
 by_cases hp:pOk (tXb b 0 96) (tXr b 0 96,tXe b 0 96)
 ·-- the program reads it
  have hp':=hp
  obtain⟨h1,h2⟩:=hp'
  obtain⟨h3,h4⟩:=zQx h1
  have hbad:¬ zJx b 0 96:=by
   intro hbad
   have:(tXr b 0 96,tXe b 0 96).2=0:=by
    have h5:=(znk _ h3).1
    exact (zvc (zvc (zvc (zvc h5).1).1).1).1
   have h6:tXe b 0 96=0:=this
   unfold tXe at h6
   rw[if_pos hbad] at h6
   omega
  have e1:tXb b 0 96=tYb b 0:=if_neg hbad
  have e2:tXr b 0 96=tYr b 0:=if_neg hbad
  have e3:tXe b 0 96=tYe b 0:=if_neg hbad
  rw[e1,e2,e3] at hp h1 h2 h3 h4 ⊢
  have htl:(tYb b 0).length < 65536:=by
   have h6:=zym h2.1
   have:(ob (tYb b 0)).length≤96:=h6
   simp[ob] at this
   omega
  obtain⟨r1,r2⟩:=zvz (t:=tYb b 0) (s:=(tYr b 0,tYe b 0)) hbr hbt htl h3
  obtain⟨q1,q2,q3⟩:=zRx hb r1
  have hN:pN (zwe (tYb b 0) (tYr b 0,tYe b 0))≤65:=by unfold pN; omega
  have hK:hsK 65 (pS5 (tYr b 0,tYe b 0))=pN (zwe (tYb b 0) (tYr b 0,tYe b 0)):=zOx _ _ _ hN h3 h4
  have hM:rM (tYb b 0) (tYr b 0,tYe b 0)=pM (tYb b 0) (tYr b 0,tYe b 0):=by unfold rM pM; rw[hK]
  have hF:(tkn (hsK 65 (pS5 (tYr b 0,tYe b 0))) (pS5 (tYr b 0,tYe b 0)))=pF (tYb b 0) (tYr b 0,tYe b 0):=by unfold pF; rw[hK]
  have hbb:MB (pM (tYb b 0) (tYr b 0,tYe b 0))=b:=by
   have h4':(tkn (pN (zwe (tYb b 0) (tYr b 0,tYe b 0))) (pS5 (tYr b 0,tYe b 0))).1=[]:=h4
   rw[h4',List.append_nil] at r2
   exact r2.symm.trans q1
  have hr:rOk b (tYb b 0) (tYr b 0,tYe b 0):=by
   unfold rOk
   rw[hF,hM,zMh h2]
   exact⟨h3,hbb,by rw[← hbb]; exact zGD⟩
  unfold zXz zIB
  rw[if_pos hp,if_pos hr,hM]
 ·-- neither does the document
  have hr:¬ rOk b (tYb b 0) (tYr b 0,tYe b 0):=by
   rintro⟨h1,h2,h3⟩
   have hR:zlb (rM (tYb b 0) (tYr b 0,tYe b 0)):=by
    refine Classical.byContradiction fun h4=>h3 ?_
    rw[← h2]; unfold zmb; rw[if_neg h4]
   have htl:(tYb b 0).length≤96:=by
    have h6:=zym hR.1
    have:(ob (tYb b 0)).length≤96:=h6
    simpa [ob] using this
   have h5:=(znk _ h1).1
   have hy:tYe b 0=0:=(zvc (zvc (zvc (zvc h5).1).1).1).1
   obtain⟨q1,q2,q3⟩:=zRx hb hy
   have hbad:¬ zJx b 0 96:=fun h=>by have:=h.2; omega
   have hlen:(rM (tYb b 0) (tYr b 0,tYe b 0)).cks.length=hsK 65 (pS5 (tYr b 0,tYe b 0)):=zfl _
   have hcnt:=hR.2.2.2.2.2.2.2.2.1
   have h64:=hR.2.2.2.2.2.2.2.2.2
   rw[hlen] at hcnt h64
   have hN:pN (zwe (tYb b 0) (tYr b 0,tYe b 0))=hsK 65 (pS5 (tYr b 0,tYe b 0)):=by
    have hcnt:(hsK 65 (pS5 (tYr b 0,tYe b 0)):Int)=cnt (zwe (tYb b 0) (tYr b 0,tYe b 0)).sz (zwe (tYb b 0) (tYr b 0,tYe b 0)).ck:=hcnt
    unfold pN
    rw[← hcnt]; omega
   have hrest:=zvu 65 (pS5 (tYr b 0,tYe b 0)) (by omega)
   refine hp ?_
   rw[show tXb b 0 96=tYb b 0 from if_neg hbad,show tXr b 0 96=tYr b 0 from if_neg hbad,show tXe b 0 96=tYe b 0 from if_neg hbad]
   refine⟨?_,?_⟩
   ·unfold pF
    rw[hN,hrest,h1]; rfl
   ·unfold pM
    rw[hN]; exact hR
  unfold zXz zIB
  rw[if_neg hp,if_neg hr]
theorem zwz(hb:By b){m:Mf}(h:zSb b=(m,0)):zlb m∧zmb m=b:=by
 rw[zzm hb] at h
 unfold zRi zIB at h
 split at h
 ·rename_i hr
  cases h
  refine⟨?_,hr.2.1⟩
  refine Classical.byContradiction fun h4=>hr.2.2 ?_
  rw[← hr.2.1]; unfold zmb; rw[if_neg h4]
 ·cases h
theorem zxz{b:List Int}(h:(zSb b).2≠0):zSb b=(m0,131):=by
 unfold zSb zXz at h ⊢
 split
 ·rename_i hp; rw[if_pos hp] at h; exact absurd rfl h
 ·rfl
theorem zNh(b:List Int):(zSb b).2=0∨zSb b=(m0,131):=by
 by_cases h:(zSb b).2=0
 ·exact .inl h
 ·exact .inr (zxz h)
theorem zpt(ok:m.Ok)(h:zlb m):zSb (zmb m)=(m,0):=by
 rw[zMh h]
 obtain⟨g0,g1,g2,g3,g4,g5,g6,g7,g8,g9⟩:=h
 have hpl:=zym g0
 have hbt:MB m=leN 2 m.pr.length++(ub m.pr++(leN 8 m.ver++(leN 4 m.sz.toNat++(leN 2 m.ck.toNat++(m.dg++(m.cks.flatten++[])))))):=by simp[MB,txB]
 rw[hbt]
 obtain⟨a1,a2⟩:=zWn (n:=2) (a:=leN 2 m.pr.length) (r:=ub m.pr++(leN 8 m.ver++(leN 4 m.sz.toNat++(leN 2 m.ck.toNat++(m.dg++(m.cks.flatten++[])))))) (zCb _ _)
 obtain⟨b1,b2⟩:=zWn (n:=m.pr.length) (a:=ub m.pr) (r:=leN 8 m.ver++(leN 4 m.sz.toNat++(leN 2 m.ck.toNat++(m.dg++(m.cks.flatten++[]))))) zId
 obtain⟨c1,c2⟩:=zWn (n:=8) (a:=leN 8 m.ver) (r:=leN 4 m.sz.toNat++(leN 2 m.ck.toNat++(m.dg++(m.cks.flatten++[])))) (zCb _ _)
 obtain⟨d1,d2⟩:=zWn (n:=4) (a:=leN 4 m.sz.toNat) (r:=leN 2 m.ck.toNat++(m.dg++(m.cks.flatten++[]))) (zCb _ _)
 obtain⟨f1,f2⟩:=zWn (n:=2) (a:=leN 2 m.ck.toNat) (r:=m.dg++(m.cks.flatten++[])) (zCb _ _)
 obtain⟨i1,i2⟩:=zWn (n:=32) (a:=m.dg) (r:=m.cks.flatten++[]) ok.dl
 obtain⟨j1,j2⟩:=zNx m.cks [] ok.cl
 generalize hB:leN 2 m.pr.length++(ub m.pr++(leN 8 m.ver++(leN 4 m.sz.toNat++(leN 2 m.ck.toNat++(m.dg++(m.cks.flatten++[]))))))=B at *
 have hN:tN B 0=m.pr.length:=by
  show leV (tb 2 (B,0))=_
  rw[a2]; exact zhi 2 _ (by omega)
 have hE2:tkE B 0 2=0:=by
  have:(tk 2 (B,0)).2=0:=by rw[a1]
  exact this
 have hbad:¬ zJx B 0 96:=fun h=>by have:=h.2; omega
 have hYb:tYb B 0=ub m.pr:=by
  show tb (tN B 0) (tk 2 (B,0))=_
  rw[hN,a1,b2]
 have hYs:((tYr B 0,tYe B 0):Rs)=(leN 8 m.ver++(leN 4 m.sz.toNat++(leN 2 m.ck.toNat++(m.dg++(m.cks.flatten++[])))),0):=by
  show tk (tN B 0) (tk 2 (B,0))=_
  rw[hN,a1,b1]
 unfold zSb
 rw[show tXb B 0 96=tYb B 0 from if_neg hbad,show tXr B 0 96=tYr B 0 from if_neg hbad,show tXe B 0 96=tYe B 0 from if_neg hbad,hYb,hYs]
 generalize hS:((leN 8 m.ver++(leN 4 m.sz.toNat++(leN 2 m.ck.toNat++(m.dg++(m.cks.flatten++[])))),0):Rs)=S at *
 have hi:(tk 32 (m.dg++(m.cks.flatten++[]),(0:Int))).2=0:=by rw[i1]
 have hH:zwe (ub m.pr) S={ m with cks:=[] }:=by
  unfold zwe
  rw[c2,c1,d2,d1,f2,f1,zEq hi,i2,zDD,zhi 8 _ (by have:=ok.ver; omega),zhi 4 _ (by omega),zhi 2 _ (by omega),Int.toNat_of_nonneg (by omega),Int.toNat_of_nonneg (by omega)]
 have h5:pS5 S=(m.cks.flatten++[],0):=by
  unfold pS5
  rw[c1,d1,f1,i1]
 have hN2:pN (zwe (ub m.pr) S)=m.cks.length:=by
  rw[hH]
  unfold pN
  show (min (cnt m.sz m.ck) 65).toNat=_
  rw[← g8]; omega
 have hM:pM (ub m.pr) S=m:=by
  unfold pM
  rw[hN2,h5,j2,hH]
  rfl
 have hF:pF (ub m.pr) S=([],0):=by
  unfold pF
  rw[hN2,h5,j1]
 unfold zXz
 rw[if_pos,hM]
 refine⟨?_,?_⟩
 ·rw[hF]; rfl
 ·rw[hM]; exact⟨g0,g1,g2,g3,g4,g5,g6,g7,g8,g9⟩
end J
set_option maxRecDepth 100000
namespace J
open Go Go.Ab
variable{H:Heap}{Γ Γ0 Γ2 Δ G L:List (Nat × Blk)}{K:VH}{v w x cv dv:Value}{xs ys zs bs b key ms:List Int}{j p q o n k mx:Nat}{e:Int}{cs cs':List Value}{l:List UInt8}{m a:Mf}{cks:List (List Int)}
theorem zXn(h:RdB Γ v xs){i t:Nat}(hn:i≤t)(ht:t≤xs.length):∃ v',zLa 1 v (some (int i)) (some (int t)) none=some v'∧Inh v xs v' ((xs.take t).drop i):=by
 rcases h with⟨rfl,rfl⟩|⟨p,o,c,rfl,hc,_⟩
 ·have ht:t=0:=by simpa using ht
  subst ht
  have hi:i=0:=by omega
  subst hi
  exact⟨zua,rfl,.none⟩
 ·have he:∃ c',(c'=2∨c'=3)∧zLa 1 (sl p o xs.length c) (some (int i)) (some (int t)) none=some (sl p (o+i) (t - i) c'):=by
   rcases hc with rfl|rfl
   ·refine⟨2,.inl rfl,?_⟩
    unfold zLa
    simp only[bHi ht,zwm hn]
    simp[zxk,zLd]
   ·refine⟨cond (Nat.beq t xs.length) 3 2,by cases Nat.beq t xs.length <;> simp,?_⟩
    unfold zLa
    simp only[bHi ht,zwm hn]
    simp[zxk,zLd]
  obtain⟨c',hc',he⟩:=he
  refine⟨_,he,fun Γ' h=>?_⟩
  rcases h with⟨h,_⟩|⟨p',o',c'',heq,_,h⟩
  ·cases h
  cases heq
  have hlen:((xs.take t).drop i).length=t - i:=by rw[List.length_drop,List.length_take,Nat.min_eq_left ht]
  refine .inr ⟨p,o+i,c',by rw[hlen],hc',?_⟩
  rcases h with rfl|⟨j,b,h1,h2⟩
  ·exact .inl (by simp)
  ·refine .inr ⟨j,b,h1,?_⟩
   have:=congrArg (List.drop i) (congrArg (List.take t) h2)
   rw[List.take_take,Nat.min_eq_left ht,List.drop_take,List.drop_drop] at this
   rw[hlen,this,by8,by8,List.map_drop,List.map_take]
theorem Stay.app'(h:Stay Δ v):Stay (Γ++Δ) v:=by
 rcases h with h|⟨p,o,n,c,j,b,h1,h2,h3⟩
 ·exact .inl h
 ·exact .inr ⟨p,o,n,c,Γ.length+j,b,h1,zxa h2,h3⟩
theorem OwnB.stay(h:OwnB v xs cs):Stay (zMa v cs) v:=by
 rcases h with⟨rfl,_⟩|⟨p,rfl|⟨rfl,_⟩,h2,h3,h4⟩
 ·exact .inl rfl
 ·exact .inr ⟨p,0,_,_,0,_,rfl,rfl,h4,.inl rfl⟩
 ·exact .inr ⟨p,0,_,_,0,_,rfl,rfl,h4,.inl rfl⟩
theorem Stay.slice(h:Stay Γ v){lo hi:Option Value}(hs:zLa 1 v lo hi none=some w):Stay Γ w:=by
 rcases h with rfl|⟨p,o,n,c,j,b,rfl,h2,h3⟩
 ·unfold zLa at hs
  simp only at hs
  repeat' (split at hs)
  all_goals first|(cases hs; done)|(cases hs; exact .inl rfl)
 ·unfold zLa at hs
  simp only at hs
  repeat' (split at hs)
  all_goals first|(cases hs; done)|(cases hs; exact .inr ⟨p,_,_,_,j,b,rfl,h2,h3⟩)
def zSe(b:List Int):Int × Int:=
 if b.length < 4∨b.take 2≠[66,85] then (0,141) else if 2304 < leV ((b.take 4).drop 2)+36 then (0,141) else (((leV ((b.take 4).drop 2)+36:Nat):Int),0)
theorem zAv{ys:List Int}(hO:St H Γ)(hv:RdB Γ v xs)(hw:RdB Γ w ys)(hx:By xs)(hy:By ys)(hk:K (.bool (decide (xs=ys))) H):wCall P zwg [v,w] H K:=by
 apply zxo; unfold bytes_Equal
 refine zra (RdB.str hO hv) ?_
 refine zra (RdB.str hO hw) ?_
 refine zaa (show _=some (.bool (decide (xs=ys))) from ?_) hk
 show (zma P .eql 9 false).f (str (ob xs)) (str (ob ys))=_
 rw[zCx,zHx,decide_eq_decide.2 ⟨fun h=>zsu hx hy h,fun h=>by rw[h]⟩]
theorem zGo{ys:List Int}(hO:St H Γ)(hv:RdB Γ v xs)(hw:RdB Γ w ys)(hx:By xs)(hy:By ys)(hl:ys.length≤xs.length)(hk:K (.bool (decide (xs.take ys.length=ys))) H):wCall P zUd [v,w] H K:=by
 apply zLj; unfold bytes_HasPrefix
 refine zra hv.lenSl ?_
 refine zra hw.lenSl ?_
 refine zaa zLk ?_
 refine zhb (by omega) ?_
 refine zra hw.lenSl ?_
 obtain⟨v',e1,i1⟩:=zOe hv hl
 refine zaa e1 ?_
 refine zAv hO (i1 _ hv) hw (fun x h=>hx x (List.mem_of_mem_take h)) hy ?_
 refine zaa (zIa (by omega)) ?_
 exact hk
theorem zHD(H:Heap):(zga P 22 2).f [(0,.int .u8 66),(1,.int .u8 85)] H=some (sl H.next 0 2 3,H.push (by8 [66,85])):=by kernel_rfl
theorem zID{b:List Int}(hb:By b):leV ((b.take 4).drop 2) < 65536:=by
 have h1:=zNr ((b.take 4).drop 2) fun x hx=>hb x (List.mem_of_mem_take (List.mem_of_mem_drop hx))
 have h2:((b.take 4).drop 2).length≤2:=by rw[List.length_drop,List.length_take]; omega
 exact Nat.lt_of_lt_of_le h1 (Nat.pow_le_pow_right (n:=256) (by omega) h2)
set_option maxHeartbeats 1000000 in
theorem zhj(hO:St H Γ)(hv:RdB Γ v b)(hb:By b)(hl:b.length≤1000000)(hk:∀ H',St H' Γ→K (.tuple [int (zSe b).1,int (zSe b).2].toArray) H'):wCall P zxd [v] H K:=by
 apply zoo; unfold zln
 refine zva (fun l' H'=>l'=[v,.bool (decide (b.length < 4∨b.take 2≠[66,85]))]∧St H' Γ) ?_ ?_
 ·refine zra hv.lenSl ?_
  refine zaa zNa ?_
  refine zia (fun h=>?_) (fun h=>?_)
  ·refine zaa (zIa h) ?_
   exact⟨by rw[decide_eq_true (show b.length < 4∨b.take 2≠[66,85] from .inl (by omega))],hO⟩
  ·refine zya hO (zHD _) ?_
   clear hO
   intro q H hO
   refine kp hO 0 rfl (by omega) ?_
   refine zGo (ys:=[66,85]) hO hv.app (zmz 0 rfl (.inr rfl) rfl) hb (by intro x hx; simp at hx; omega) (by simp; omega) ?_
   refine zaa zLg ?_
   refine zaa (zab h) ?_
   refine⟨?_,hO.left⟩
   show [v,Value.bool (!decide (b.take 2=[66,85]))]=_
   by_cases h2:b.take 2=[66,85]
   ·rw[decide_eq_true h2,decide_eq_false (show ¬ (b.length < 4∨b.take 2≠[66,85]) from fun h3=>by rcases h3 with h3|h3; omega; exact h3 h2)]; rfl
   ·rw[decide_eq_false h2,decide_eq_true (show (b.length < 4∨b.take 2≠[66,85]) from .inr h2)]; rfl
 clear hO
 rintro l' H ⟨rfl,hO⟩
 try simp only[zea,zfa]
 unfold zSe at hk
 refine zia (fun h=>?_) (fun h=>?_)
 ·rw[if_pos h] at hk
  exact hk H hO
 ·rw[if_neg h] at hk
  obtain⟨v2,e2,i2⟩:=zXn hv (i:=2) (t:=4) (by omega) (by omega)
  refine zaa e2 ?_
  refine zeu hO (i2 _ hv) ?_
  clear hO
  intro H p hO
  have hb2:By ((b.take 4).drop 2):=fun x hx=>hb x (List.mem_of_mem_take (List.mem_of_mem_drop hx))
  have hlt:=zID hb
  refine zaf (k:=2) (by omega) hO (zxa (k:=0) rfl) ((i2 _ hv).app) hb2 ?_
  clear hO
  intro H v3 hO i3
  have etk:tkB ((b.take 4).drop 2) 0 2=(b.take 4).drop 2:=by
   unfold tkB
   have:((b.take 4).drop 2).length=2:=by rw[List.length_drop,List.length_take]; omega
   rw[if_pos ⟨rfl,by omega⟩,List.take_of_length_le (by omega)]
  rw[etk]
  generalize leV ((b.take 4).drop 2)=N at *
  refine zra (zUw (k:=.u64) (by omega)) ?_
  refine zaa (v:=int ((N+36:Nat):Int)) (by rw[zvd (by omega) (by omega)]; rfl) ?_
  refine zaa zHb ?_
  replace hO:=hO.set_r.left
  refine zia (fun h2=>?_) (fun h2=>?_)
  ·rw[if_pos (by omega)] at hk
   exact hk H hO
  ·rw[if_neg (by omega)] at hk
   exact hk H hO
theorem zvB{b:List Int}(hl:4≤b.length):leV ((b.take 4).drop 2)=(b.getD 2 0).toNat+256 * (b.getD 3 0).toNat:=by
 match b,hl with
 | a0::a1::a2::a3::r,_=>rfl
theorem zyz{b:List Int}(hl:4≤b.length):b.take 2=[b.getD 0 0,b.getD 1 0]:=by
 match b,hl with
 | a0::a1::a2::a3::r,_=>rfl
theorem zSx(hb:By b)(i:Nat):0≤b.getD i 0:=by
 rw[List.getD_eq_getElem?_getD]
 by_cases h:i < b.length
 ·rw[List.getElem?_eq_getElem h]; exact (hb _ (List.getElem_mem h)).1
 ·rw[List.getElem?_eq_none (by omega)]; exact Int.le_refl _
set_option maxHeartbeats 1000000 in
theorem zig(hO:St H Γ)(hv:RdB Γ v b)(hb:By b)(hl:b.length≤1000000)(hk:K (.tuple [int (zSe b).1,int (zSe b).2].toArray) H):wCall P zde [v] H K:=by
 apply zmn; unfold zsl
 unfold zSe at hk
 refine zra hv.lenSl ?_
 refine zaa zNa ?_
 refine zia (fun h=>?_) (fun h=>?_)
 ·rw[if_pos (.inl (by omega))] at hk
  exact hk
 have h4:4≤b.length:=by omega
 have g0:=zSx hb 0
 have g1:=zSx hb 1
 have l0:=zFc hb 0
 have l1:=zFc hb 1
 have l2:=zFc hb 2
 have l3:=zFc hb 3
 rw[zyz h4,zvB h4] at hk
 refine zva (fun l' H'=>l'=[v,.bool (decide (¬ (b.getD 0 0=66∧b.getD 1 0=85)))]∧H=H') ?_ ?_
 ·refine zFo hO hv hb (n:=0) rfl (by omega) ?_
  refine zaa zYa ?_
  refine zia (fun h2=>?_) (fun h2=>?_)
  ·refine zaa (zIa h2) ?_
   exact⟨by rw[decide_eq_true (show ¬ (b.getD 0 0=66∧b.getD 1 0=85) by omega)],rfl⟩
  ·refine zFo hO hv hb (n:=1) rfl (by omega) ?_
   refine zaa zYa ?_
   refine zaa (zab h2) ?_
   exact⟨by rw[decide_eq_decide.2 (show ((b.getD 1 0).toNat:Int)≠85↔¬ (b.getD 0 0=66∧b.getD 1 0=85) by omega)],rfl⟩
 rintro l' H' ⟨rfl,rfl⟩
 try simp only[zea,zfa]
 refine zia (fun h2=>?_) (fun h2=>?_)
 ·rw[if_pos (.inr (fun h3=>h2 (by injection h3 with a1 a2; injection a2 with a3 _; exact⟨a1,a3⟩)))] at hk
  exact hk
 ·rw[if_neg (by intro h3; rcases h3 with h3|h3; omega; exact h3 (by rw[(Classical.not_not.1 h2).1,(Classical.not_not.1 h2).2]))] at hk
  refine zFo hO hv hb (n:=2) rfl (by omega) ?_
  generalize (b.getD 2 0).toNat=X at *
  refine zra (zUw (k:=.u8) (by omega)) ?_
  refine zaa (v:=int ((36+X:Nat):Int)) (by rw[zvd (by omega) (by omega)]; rfl) ?_
  refine zFo hO hv hb (n:=3) rfl (by omega) ?_
  generalize (b.getD 3 0).toNat=Y at *
  refine zra (zUw (k:=.u8) (by omega)) ?_
  refine zaa (v:=int ((256 * Y:Nat):Int)) (by rw[znf (by omega) (by omega)]; rfl) ?_
  refine zaa (v:=int ((X+256 * Y+36:Nat):Int)) (by rw[zvd (by omega) (by omega)]; congr 2; omega) ?_
  refine zaa zHb ?_
  refine zia (fun h3=>?_) (fun h3=>?_)
  ·rw[if_pos (by omega)] at hk
   exact hk
  ·rw[if_neg (by omega)] at hk
   exact hk
end J
set_option maxRecDepth 100000
namespace J
open Go Go.Ab
variable{H:Heap}{Γ Γ0 Γ2 Δ G L:List (Nat × Blk)}{K:VH}{v w x cv dv:Value}{xs ys zs bs b key ms:List Int}{j p q o n k mx:Nat}{e:Int}{cs cs':List Value}{l:List UInt8}{m a:Mf}{cks:List (List Int)}
def headA(m:Mf):List Int:=[66,85]++leN 2 (zmb m).length++zmb m
def zZa(key:List Int)(m:Mf):List Int:=headA m++zNl key (headA m)
theorem zsp(ok:m.Ok)(h:zlb m):(zmb m).length=m.pr.length+48+32 * m.cks.length∧m.pr.length≤96∧m.cks.length≤64:=by
 have h1:=zqu m.cks ok.cl
 have h2:=zym h.1
 have h3:=h.2.2.2.2.2.2.2.2.2
 rw[zMh h]
 refine⟨?_,h2,h3⟩
 simp only[MB,txB,List.length_append,zCb,zId,ok.dl,h1]
 omega
theorem zRC(h:¬ zlb m):zmb m=[]:=if_neg h
theorem zDd{k b:List Int}:(zNl k b).length=32:=rfl
theorem zYn{k b:List Int}:By (zNl k b):=zlu
theorem zok(ok:m.Ok):By (headA m):=zRb (zRb (by intro x hx; simp at hx; omega) (zcs _ _)) (zVn ok)
theorem zOh(ok:m.Ok)(h:zlb m):(headA m).length=m.pr.length+52+32 * m.cks.length:=by
 have:=(zsp ok h).1
 simp only[headA,List.length_append,zCb,this,List.length_cons,List.length_nil]
 omega
set_option maxHeartbeats 1000000 in
theorem zPh(ok:m.Ok)(hO:St H Γ)(hv:RdB Γ v key)(hc:RdH Γ cv m.cks)(hb:By key)(hl:key.length≤1000000)
  (hk0:¬ zlb m→∀ H',St H' Γ→K (.tuple [zua,int 131].toArray) H')
  (hk1:zlb m→∀ H' v' cs',St H' (Γ++zMa v' cs')→OwnB v' (zZa key m) cs'→K (.tuple [v',int 0].toArray) H'):wCall P zTd [v,agg (mfC m cv)] H K:=by
 apply zxr; unfold zwr
 rw[zdd]
 refine nw hO.z ?_
 clear hO
 intro p3 H hO
 refine lw hO 0 rfl (zwa ok.dl) (by omega) ?_
 refine zxv ok hc.app hO ?_
 clear hO
 intro H v1 c1 hO o1
 refine zra o1.lenSl ?_
 refine zaa zRa ?_
 by_cases hr:zlb m
 ·obtain⟨b1,b2,b3⟩:=zsp ok hr
  have hal:=zOh ok hr
  refine zVc (by omega) ?_
  refine zya hO (zHD _) ?_
  clear hO
  intro q H hO
  refine kp hO 0 rfl (by omega) ?_
  replace hO:=hO.as
  rw[List.append_assoc] at hO
  refine zra o1.lenSl ?_
  refine zra (zSy (by omega) (by omega)) ?_
  rw[Int.toNat_natCast]
  have hO':St H ((Γ++([(p3,(⟨mfC m cv,true⟩:Blk))]++zMa v1 c1))++[(q,⟨by8 [66,85],true⟩)]):=by
   rw[List.append_assoc,List.append_assoc]; exact hO
  refine zgi (size:=2) hO' (xs:=[66,85]) (zmz 0 rfl (.inr rfl) rfl) (by simp) (by omega) (by omega) ?_
  clear hO hO'
  intro H v2 c2 hO o2
  obtain⟨a1,n1,k1,s1⟩:=o1.rd.shape
  refine zya hO (by rw[s1]; exact zKr _ _ _ _) ?_
  rw[← s1]
  clear hO
  intro q2 H hO
  have hr1:RdB (Γ++([(p3,(⟨mfC m cv,true⟩:Blk))]++zMa v1 c1)) v1 (zmb m):=o1.rd.app'.app'
  refine zcu (x:=v1) (ys:=zmb m) hO (o2.rd.app'.app) ⟨q2,3,_+0,true,rfl,zxa rfl⟩ (hr1.app.app.app) (by simp[zCb]; omega) ?_
  clear hO
  intro H v3 c3 hO o3
  obtain⟨a3,n3,k3,s3⟩:=o3.rd.shape
  refine zya hO (by rw[s3]; exact zKr _ _ _ _) ?_
  rw[← s3]
  clear hO
  intro q3 H hO
  replace o3:OwnB v3 (headA m) c3:=o3
  refine zSn (x:=v3) (ms:=headA m) hO (hv.app.app.app.app.app.app) (zxa (k:=0) rfl) (o3.rd.app'.app) hb (zok ok) (by omega) (by omega) ?_
  clear hO
  intro H hO
  replace hO:=hO.left
  replace hO:St H (Γ++zMa v3 c3):=by
   have h0:=hO
   rw[List.append_assoc,List.append_assoc,List.append_assoc,List.append_assoc] at h0
   exact h0.sub (List.Sublist.append (List.Sublist.refl _) (by
    rw[← List.append_assoc,← List.append_assoc,← List.append_assoc]
    exact List.sublist_append_right _ _))
  rw[zcH]
  refine zVa hO ?_
  clear hO
  intro p8 H hO
  refine zsa hO (_+0) (zxa rfl) (by simp[z32]) (by simp[zDd]) (zoc _) ?_
  clear hO
  intro H hO
  replace hO:=hO.set_r
  refine zaa (zWc hO (_+0) (zxa rfl) (by omega) (by simp[zDd])) ?_
  refine zEb (ys:=zNl key (headA m)) hO o3 (by rw[zDd]; omega) (by rw[zDd]) (.inr rfl) ?_
  clear hO
  intro H v4 c4 hO o4
  exact hk1 hr H v4 c4 hO o4
 ·rw[zRC hr]
  refine zhb (by simp) ?_
  exact hk0 hr H hO.left.left
set_option maxHeartbeats 1000000 in
theorem zZn(hO:St H Γ)(hv:RdB Γ v key)(hw:RdB Γ w ms)(hst:Stay Γ w)(hb:By key)(hm:By ms)(hl:key.length≤1000000)(hl2:ms.length≤1000000)(hk:MadeB Γ K (ms++zNl key ms)):wCall P zee [v,w] H K:=by
 apply zqn; unfold zvl
 refine znv hO hv hw hb hm (by omega) (by omega) ?_
 clear hO
 intro H hO
 rw[zcH]
 refine nw hO.z ?_
 clear hO
 intro p5 H hO
 refine sw hO 0 rfl (by simp[z32]) (by simp[zDd]) (zoc _) ?_
 clear hO
 intro H1 hO1
 replace hO1:St H1 (Γ++[(p5,⟨by8 (zNl key ms),true⟩)]):=hO1
 have hp1:p5 < H1.next:=hO1.lt _ (List.mem_append_right _ List.mem_cons_self)
 refine zya hO1 (zNi _) ?_
 intro q9 H2 hO2
 have hp2:p5 < H2.next:=hO2.lt (p5,⟨by8 (zNl key ms),true⟩) (by simp)
 have hO2':St H2 ((Γ++[(p5,(⟨by8 (zNl key ms),true⟩:Blk))])++zMa (sl q9 0 0 3) []):=hO2
 refine zAb (xs:=[]) (v:=sl q9 0 0 3) (cs:=[]) hO2' (.inr ⟨q9,.inr ⟨rfl,rfl⟩,rfl,Nat.zero_le _,rfl⟩) hw.app (by simp; omega) ?_
 intro H3 v3 c3 hO3 o3
 refine zaa (zWc hO3 (Γ.length+0) (zHa (zxa rfl)) (by omega) (by simp[zDd])) ?_
 have hne:q9≠p5:=St.ne' hO2 (i:=(Γ++[(p5,(⟨by8 (zNl key ms),true⟩:Blk))]).length+0) (j:=Γ.length+0) (zxa rfl) (zHa (zxa rfl)) (by simp)
 have hap:zql (zDa [sl q9 0 0 3,w]) (zDa [ptr p5 0]):=by
  have e1:Nat.beq q9 p5=false:=by
   cases hb:Nat.beq q9 p5 with
   | false=>rfl
   | true=>exact absurd (Nat.eq_of_beq_eq_true hb) hne
  rcases hst with rfl|⟨pw,o,n,c,jw,bw,rfl,h2,h3⟩
  ·show zKb [q9] [p5]=true
   simp[zKb,zfb,zWx,e1]
  ·have hne2:pw≠p5:=St.ne' hO1 (i:=jw) (j:=Γ.length+0) (zHa h2) (zxa rfl) (by have:=(List.getElem?_eq_some_iff.1 h2).1; omega)
   have e2:Nat.beq pw p5=false:=by
    cases hb:Nat.beq pw p5 with
    | false=>rfl
    | true=>exact absurd (Nat.eq_of_beq_eq_true hb) hne2
   show zKb [q9,pw] [p5]=true
   simp[zKb,zfb,zWx,e1,e2]
 refine⟨hap,zhk hp2,zhk hp1,?_⟩
 refine zAb hO3 o3 (ys:=zNl key ms) (.inr ⟨p5,0,3,by rw[zDd],.inr rfl,.inr ⟨Γ.length+0,_,zxa rfl,by rw[List.drop_zero]; exact List.take_of_length_le (by simp)⟩⟩) (by simp[zDd]; omega) ?_
 intro H4 v4 c4 hO4 o4
 exact hk H4 v4 c4 (St.mid hO4) o4
set_option maxHeartbeats 1000000 in
theorem zbf(ok:m.Ok)(hO:St H Γ)(hv:RdB Γ v key)(hc:RdH Γ cv m.cks)(hb:By key)(hl:key.length≤1000000)
  (hk0:¬ zlb m→∀ H',St H' Γ→K (.tuple [zua,int 131].toArray) H')
  (hk1:zlb m→∀ H' v' cs',St H' (Γ++zMa v' cs')→OwnB v' (zZa key m) cs'→K (.tuple [v',int 0].toArray) H'):wCall P zpf [v,agg (mfC m cv)] H K:=by
 apply zjq; unfold zcp
 rw[zdd]
 refine nw hO.z ?_
 clear hO
 intro p3 H hO
 refine lw hO 0 rfl (zwa ok.dl) (by omega) ?_
 refine zWg ok hc.app hO ?_
 clear hO
 intro H hO
 refine zaa zLg ?_
 by_cases hr:zlb m
 ·obtain⟨b1,b2,b3⟩:=zsp ok hr
  have hal:=zOh ok hr
  rw[decide_eq_true hr]
  refine zOf rfl ?_
  refine lw hO 0 rfl (zwa ok.dl) (by omega) ?_
  refine zve ok hc.app hO ?_
  clear hO
  intro H v1 c1 hO o1
  refine zya hO (zHD _) ?_
  clear hO
  intro q H hO
  refine kp hO 0 rfl (by omega) ?_
  refine zra o1.lenSl ?_
  refine zra (zSy (by omega) (by omega)) ?_
  rw[Int.toNat_natCast]
  refine zrc (size:=2) hO (by omega) (by omega) ?_
  clear hO
  intro H v2 c2 hO o2
  have oq:OwnB (sl q 0 2 3) [66,85] (by8 [66,85]):=.inr ⟨q,.inr ⟨rfl,rfl⟩,rfl,Nat.le_refl _,rfl⟩
  replace hO:St H (((Γ++([]++[(p3,(⟨mfC m cv,true⟩:Blk))])++zMa v1 c1)++zMa (sl q 0 2 3) (by8 [66,85]))++zMa v2 c2):=hO
  refine zSd hO oq o2 (by simp[zCb]) ?_
  clear hO oq o2
  intro H v3 c3 hO o3
  have hr1:RdB (Γ++([]++[(p3,(⟨mfC m cv,true⟩:Blk))])++zMa v1 c1) v1 (zmb m):=o1.rd.app'
  refine zAb hO o3 hr1 (by simp[zCb]; omega) ?_
  clear hO o3
  intro H v4 c4 hO o4
  replace o4:OwnB v4 (headA m) c4:=o4
  replace hO:St H (Γ++zMa v4 c4):=by
   have h0:=hO.left.left
   rw[List.append_assoc,List.append_assoc] at hO
   exact hO.sub (List.Sublist.append (List.Sublist.refl _) (by rw[← List.append_assoc]; exact List.sublist_append_right _ _))
  refine zZn hO hv.app o4.rd.app' (OwnB.stay o4).app' hb (zok ok) hl (by omega) ?_
  clear hO
  intro H v5 c5 hO o5
  exact hk1 hr H v5 c5 (St.mid hO) o5
 ·rw[decide_eq_false hr]
  refine zlh rfl ?_
  exact hk0 hr H hO.left
set_option maxHeartbeats 1000000 in
theorem zao{image:List Int}{iv:Value}(ok:m.Ok)(hO:St H Γ)(hv:RdB Γ v key)(hc:RdH Γ cv m.cks)(hi:RdB Γ iv image)(hil:image.length≤1000000)(hb:By key)(hl:key.length≤1000000)
  (hk0:¬ zlb m→∀ H',St H' Γ→K (.tuple [zua,int 131].toArray) H')
  (hk1:zlb m→∀ H' v' cs',St H' (Γ++zMa v' cs')→OwnB v' (zZa key m++image) cs'→K (.tuple [v',int 0].toArray) H'):wCall P ztg [v,agg (mfC m cv),iv] H K:=by
 apply zqo; unfold zon
 rw[zdd]
 refine nw hO.z ?_
 clear hO
 intro p3 H hO
 refine lw hO 0 rfl (zwa ok.dl) (by omega) ?_
 refine zPh ok hO hv.app hc.app hb hl ?_ ?_
 ·intro hr H hO
  refine zaa zrq ?_
  refine zaa zsq ?_
  refine zaa zYa ?_
  refine zhb (by omega) ?_
  exact hk0 hr H hO.left
 ·intro hr H v1 c1 hO o1
  refine zaa zrq ?_
  refine zaa zsq ?_
  refine zaa zYa ?_
  refine zVc (by omega) ?_
  obtain⟨ai,ni,ci,ei⟩:=hi.shape
  refine zya hO (by rw[ei]; exact zKr _ _ _ _) ?_
  rw[← ei]
  clear hO
  intro q2 H hO
  obtain⟨b1,b2,b3⟩:=zsp ok hr
  have hal:=zOh ok hr
  refine zcu (x:=iv) (ys:=image) hO (o1.rd.app'.app) ⟨q2,3,_+0,true,rfl,zxa rfl⟩ (hi.app.app.app) (by simp only[zZa,List.length_append,zDd]; omega) ?_
  clear hO
  intro H v3 c3 hO o3
  exact hk1 hr H v3 c3 (St.mid (St.mid (St.mid hO))) o3
end J
set_option maxRecDepth 100000
namespace J
open Go Go.Ab
variable{H:Heap}{Γ Γ0 Γ2 Δ G L:List (Nat × Blk)}{K:VH}{v w x cv dv:Value}{xs ys zs bs b key ms:List Int}{j p q o n k mx:Nat}{e:Int}{cs cs':List Value}{l:List UInt8}{m a:Mf}{cks:List (List Int)}
theorem zgl(b:List Int):zSe b=(0,141)∨∃ n:Nat,zSe b=((n:Int),0)∧36≤n∧n≤2304∧4≤b.length∧b.take 2=[66,85]∧n=leV ((b.take 4).drop 2)+36:=by
 unfold zSe
 split
 ·exact .inl rfl
 ·split
  ·exact .inl rfl
  ·rename_i h1 h2
   refine .inr ⟨_,rfl,by omega,by omega,by omega,?_,rfl⟩
   exact Classical.not_not.1 fun h=>h1 (.inr h)
def zpc(key b:List Int):Mf × Int × Int:=
 if (zSe b).2≠0∨(b.length:Int) < (zSe b).1 then (m0,0,141)
 else if zNl key (b.take ((zSe b).1.toNat - 32))≠(b.take (zSe b).1.toNat).drop ((zSe b).1.toNat - 32) then (m0,0,142)
 else if (zSb ((b.take ((zSe b).1.toNat - 32)).drop 4)).2≠0 then (m0,0,(zSb ((b.take ((zSe b).1.toNat - 32)).drop 4)).2)
 else ((zSb ((b.take ((zSe b).1.toNat - 32)).drop 4)).1,(zSe b).1,0)
theorem zbo(h:zSe b=(0,141)):zpc key b=(m0,0,141):=by
 unfold zpc; rw[h]; exact if_pos (.inl (by decide))
theorem zco{n:Nat}(h:zSe b=((n:Int),0))(h2:b.length < n):zpc key b=(m0,0,141):=by
 unfold zpc; rw[h]; exact if_pos (.inr (by simpa using h2))
theorem zFq{n:Nat}(h:zSe b=((n:Int),0))(h2:n≤b.length):zpc key b=if zNl key (b.take (n - 32))≠(b.take n).drop (n - 32) then (m0,0,142)
 else if (zSb ((b.take (n - 32)).drop 4)).2≠0 then (m0,0,(zSb ((b.take (n - 32)).drop 4)).2)
 else ((zSb ((b.take (n - 32)).drop 4)).1,(n:Int),0):=by
 unfold zpc; rw[h]
 rw[if_neg (by simp; omega)]
 simp only[Int.toNat_natCast]
theorem RdH.nil:RdH Γ zua []:=.inl ⟨rfl,rfl⟩
theorem By.take{n:Nat}(h:By b):By (b.take n):=fun x hx=>h x (List.mem_of_mem_take hx)
theorem By.drop{n:Nat}(h:By b):By (b.drop n):=fun x hx=>h x (List.mem_of_mem_drop hx)
theorem zdo{b:List Int}(hb:By b)(hl:b.length≤9000):(zSb b).1.Ok:=by
 unfold zSb zXz
 split
 ·have h1:∀ (xs:List Int) (e:Int) (n:Nat),(tkB xs e n).length≤xs.length:=fun xs e n=>by
   unfold tkB
   split
   ·rw[List.length_take]; omega
   ·simp
  have hb1:By (tXr b 0 96,tXe b 0 96).1:=by
   show By (tXr b 0 96)
   unfold tXr tYr
   split
   ·intro x h; cases h
   ·exact zQi (zQi hb _ _) _ _
  have hN:pN (zwe (tXb b 0 96) (tXr b 0 96,tXe b 0 96))≤65:=by unfold pN; omega
  refine zLx hb1 ?_ (by omega) (zHc (zHc (zHc (zHc hb1))))
  unfold tXb tYb
  split
  ·simp
  ·have:=h1 (tkR b 0 2) (tkE b 0 2) (tN b 0)
   have:=zHg b 0 2
   omega
 ·exact zMx
set_option maxHeartbeats 4000000 in
theorem zcf(hO:St H Γ)(hv:RdB Γ v key)(hw:RdB Γ w b)(hb:By key)(hbb:By b)(hl:key.length≤1000000)(hl2:b.length≤1000000)
  (hk:∀ H' cv,St H' (Γ++zMa cv (hsC (zpc key b).1.cks))→RdH (zMa cv (hsC (zpc key b).1.cks)) cv (zpc key b).1.cks→K (.tuple [agg (mfC (zpc key b).1 cv),int (zpc key b).2.1,int (zpc key b).2.2].toArray) H'):wCall P zlc [v,w] H K:=by
 apply zvr; unfold zur
 rw[zcM]
 refine nw hO.z ?_
 clear hO
 intro p4 H hO
 replace hO:St H (Γ++[(p4,⟨mfC m0 zua,true⟩)]):=hO
 refine zhj hO hw.app hbb hl2 ?_
 clear hO
 intro H hO
 refine zaa zrq ?_
 refine zaa zsq ?_
 refine zva (fun l' H'=>l'=[v,w,ptr p4 0,int (zSe b).1,.bool (decide ((zSe b).2≠0∨(b.length:Int) < (zSe b).1))]∧H=H') ?_ ?_
 ·refine zaa zYa ?_
  refine zia (fun h=>?_) (fun h=>?_)
  ·refine zaa (zIa h) ?_
   exact⟨by rw[decide_eq_true (show (zSe b).2≠0∨(b.length:Int) < (zSe b).1 from .inl h)],rfl⟩
  ·refine zra hw.lenSl ?_
   refine zaa zNa ?_
   refine zaa (zab h) ?_
   exact⟨by rw[decide_eq_decide.2 (show (b.length:Int) < (zSe b).1↔((zSe b).2≠0∨(b.length:Int) < (zSe b).1) from⟨.inr,fun h2=>h2.resolve_left h⟩)],rfl⟩
 rintro l' H' ⟨rfl,rfl⟩
 try simp only[zea,zfa]
 refine zia (fun h=>?_) (fun h=>?_)
 ·have ho:zpc key b=(m0,0,141):=if_pos h
  rw[ho] at hk
  refine zaa bM0 ?_
  refine sw hO 0 rfl (by rfl) (by rfl) (zqb rfl) ?_
  clear hO
  intro H hO
  refine lw hO 0 rfl (by rfl) (by omega) ?_
  exact hk H zua hO.left.z RdH.nil
 ·rcases zgl b with h0|⟨N,h0,g1,g2,g3,g4,g5⟩
  ·exact absurd (.inl (by rw[h0]; simp)) h
  have hN:N≤b.length:=by
   have:¬ (b.length:Int) < (zSe b).1:=fun h'=>h (.inr h')
   rw[h0] at this
   simpa using this
  rw[zFq h0 hN] at hk
  rw[h0]
  have e32:((N:Int) - 32)=((N - 32:Nat):Int):=by omega
  refine zaa (v:=int ((N - 32:Nat):Int)) (by rw[← e32]; exact zMb (by omega) (by omega)) ?_
  obtain⟨v1,e1,i1⟩:=zOe hw (n:=N - 32) (by omega)
  refine zaa e1 ?_
  refine zaa (v:=int ((N - 32:Nat):Int)) (by rw[← e32]; exact zMb (by omega) (by omega)) ?_
  obtain⟨v2,e2,i2⟩:=zXn hw (i:=N - 32) (t:=N) (by omega) hN
  refine zaa e2 ?_
  rw[zcH]
  refine nw hO ?_
  clear hO
  intro p11 H hO
  replace hO:St H (Γ++[(p4,⟨mfC m0 zua,true⟩),(p11,⟨by8 z32,true⟩)]):=hO
  refine zaa (sar hO 1 rfl (by simp[z32]) (by omega)) ?_
  have htl:((b.take N).drop (N - 32)).length=32:=by rw[List.length_drop,List.length_take]; omega
  refine zct hO (i:=Γ.length+1) (zxa rfl) (ys:=(b.take N).drop (N - 32)) ((i2 _ hw).app) (by omega) (by simp[z32]) ?_
  clear hO
  intro H hO
  replace hO:=hO.set_r
  rw[show (by8 z32).take 0++(by8 ((b.take N).drop (N - 32))++(by8 z32).drop (0+((b.take N).drop (N - 32)).length))=by8 ((b.take N).drop (N - 32)) by
   rw[List.drop_of_length_le (l:=by8 z32) (by rw[htl]; simp[z32])]; simp] at hO
  replace hO:St H (Γ++[(p4,⟨mfC m0 zua,true⟩),(p11,⟨by8 ((b.take N).drop (N - 32)),true⟩)]):=hO
  have hr1:=i1 _ hw
  have hp11:p11 < H.next:=hO.lt (p11,⟨by8 ((b.take N).drop (N - 32)),true⟩) (by simp)
  obtain⟨a1,n1,k1,s1'⟩:=hr1.shape
  have hts:By ((b.take N).drop (N - 32)):=By.drop (By.take hbb)
  have hps:By ((b.take (N - 32)).drop 4):=By.drop (By.take hbb)
  have hpl:((b.take (N - 32)).drop 4).length≤9000:=by rw[List.length_drop,List.length_take]; omega
  have hsl:(b.take (N - 32)).length=N - 32:=by rw[List.length_take]; omega
  have hsb:By (b.take (N - 32)):=By.take hbb
  obtain⟨v3,e3,i3⟩:=ztq hr1 (n:=4) (by omega)
  replace i3:=i3 _ hr1
  generalize (b.take N).drop (N - 32)=tail at *
  generalize (b.take (N - 32)).drop 4=inner at *
  generalize b.take (N - 32)=said at *
  refine zya hO (by rw[s1']; exact zKr _ _ _ _) ?_
  rw[← s1']
  intro q2 H2 hO2
  refine zSn (x:=v1) (ms:=said) hO2 (hv.app.app) (zxa (k:=0) rfl) (hr1.app.app) hb hsb (by omega) (by omega) ?_
  intro H3 hO3
  refine zGa hO3 (Γ.length+1) (zHa (zxa rfl)) (show _=by8 tail from by rw[List.drop_zero]; exact List.take_of_length_le (by simp[htl])) (by simp[htl]) (by omega) ?_
  refine⟨zjc hO2 (Γ.length+1) (zHa (zxa rfl)) hO3 (Γ.length+1) (zHa (zxa rfl)) (zRe _),zhk hp11,?_⟩
  clear hO hO2
  refine zBq zDd htl zYn hts hO3 ?_
  clear hO3
  intro H hO
  replace hO:=hO.left
  refine zaa zLg ?_
  by_cases hm:zNl key said=tail
  ·rw[decide_eq_true hm]
   refine zOf rfl ?_
   rw[if_neg (fun h=>h hm)] at hk
   refine zaa e3 ?_
   refine zzv hO i3.app hps hpl ?_
   clear hO
   intro H c5 hO hrd
   refine zaa zrq ?_
   refine zaa zsq ?_
   have hpo:=zdo hps hpl
   have hpd:=hpo.dl
   rcases zNh inner with hz|hz
   ·rw[if_neg (fun h=>h hz)] at hk
    simp only at hk
    rw[hz]
    generalize (zSb inner).1=M at *
    have hc1:oneCell c5=true:=hrd.one
    refine zVa hO ?_
    clear hO
    intro p12 H hO
    refine zsa hO (_+0) (zxa rfl) (by rfl) (zwa hpd) (zqb hc1) ?_
    clear hO
    intro H hO
    replace hO:=hO.set_r
    refine zaa zYa ?_
    refine zVc (by omega) ?_
    refine zAa hO (_+0) (zxa rfl) (zwa hpd) (by omega) ?_
    refine zsa hO (Γ.length+0) (zHa (zHa (zxa rfl))) (by rfl) (zwa hpd) (zqb hc1) ?_
    clear hO
    intro H hO
    rw[List.set_append_left _ _ (by simp),List.set_append_left _ _ (by simp),Go.Ab.set_r] at hO
    refine zAa hO (Γ.length+0) (zHa (zHa (zxa rfl))) (zwa hpd) (by omega) ?_
    exact hk H c5 (St.mid hO.left) hrd
   ·rw[hz,if_pos (by simp)] at hk
    rw[hz] at hO
    rw[hz]
    refine zVa hO ?_
    clear hO
    intro p12 H hO
    refine zsa hO (_+0) (zxa rfl) (by rfl) (by rfl) (zqb (by rw[hz] at hrd; exact hrd.one)) ?_
    clear hO
    intro H hO
    refine zaa zYa ?_
    refine zhb (by decide) ?_
    refine zaa bM0 ?_
    replace hO:=hO.set_r.left.left
    refine sw hO 0 rfl (by rfl) (by rfl) (zqb rfl) ?_
    clear hO
    intro H hO
    refine lw hO 0 rfl (by rfl) (by omega) ?_
    exact hk H zua hO.left.z RdH.nil
  ·rw[decide_eq_false hm]
   refine zlh rfl ?_
   rw[if_pos hm] at hk
   refine zaa bM0 ?_
   refine sw hO 0 rfl (by rfl) (by rfl) (zqb rfl) ?_
   clear hO
   intro H hO
   refine lw hO 0 rfl (by rfl) (by omega) ?_
   exact hk H zua hO.left.z RdH.nil
set_option maxHeartbeats 4000000 in
theorem zeo(hO:St H Γ)(hv:RdB Γ v key)(hw:RdB Γ w b)(hst:b≠[]→Stay Γ w)(hb:By key)(hbb:By b)(hl:key.length≤1000000)(hl2:b.length≤1000000)
  (hk:∀ H' cv,St H' (Γ++zMa cv (hsC (zpc key b).1.cks))→RdH (zMa cv (hsC (zpc key b).1.cks)) cv (zpc key b).1.cks→K (.tuple [agg (mfC (zpc key b).1 cv),int (zpc key b).2.1,int (zpc key b).2.2].toArray) H'):wCall P znh [v,w] H K:=by
 apply zhq; unfold zap
 rw[zcM]
 refine nw hO.z ?_
 clear hO
 intro p4 H hO
 replace hO:St H (Γ++[(p4,⟨mfC m0 zua,true⟩)]):=hO
 refine zig hO hw.app hbb hl2 ?_
 refine zaa zrq ?_
 refine zaa zsq ?_
 refine zva (fun l' H'=>l'=[v,w,ptr p4 0,int (zSe b).1,.bool (decide ((zSe b).2≠0∨(b.length:Int) < (zSe b).1))]∧H=H') ?_ ?_
 ·refine zaa zYa ?_
  refine zia (fun h=>?_) (fun h=>?_)
  ·refine zaa (zIa h) ?_
   exact⟨by rw[decide_eq_true (show (zSe b).2≠0∨(b.length:Int) < (zSe b).1 from .inl h)],rfl⟩
  ·refine zra hw.lenSl ?_
   refine zaa zHb ?_
   refine zaa (zab h) ?_
   exact⟨by rw[decide_eq_decide.2 (show (b.length:Int) < (zSe b).1↔((zSe b).2≠0∨(b.length:Int) < (zSe b).1) from⟨.inr,fun h2=>h2.resolve_left h⟩)],rfl⟩
 rintro l' H' ⟨rfl,rfl⟩
 try simp only[zea,zfa]
 refine zia (fun h=>?_) (fun h=>?_)
 ·have ho:zpc key b=(m0,0,141):=if_pos h
  rw[ho] at hk
  refine zaa bM0 ?_
  refine sw hO 0 rfl (by rfl) (by rfl) (zqb rfl) ?_
  clear hO
  intro H hO
  refine lw hO 0 rfl (by rfl) (by omega) ?_
  exact hk H zua hO.left.z RdH.nil
 ·rcases zgl b with h0|⟨N,h0,g1,g2,g3,g4,g5⟩
  ·exact absurd (.inl (by rw[h0]; simp)) h
  have hN:N≤b.length:=by
   have:¬ (b.length:Int) < (zSe b).1:=fun h'=>h (.inr h')
   rw[h0] at this
   simpa using this
  have hsw:=hst (by intro h; rw[h] at g3; simp at g3)
  rw[zFq h0 hN] at hk
  rw[h0]
  have e32:((N:Int) - 32)=((N - 32:Nat):Int):=by omega
  refine zaa (v:=int ((N - 32:Nat):Int)) (by rw[← e32]; exact zMb (by omega) (by omega)) ?_
  obtain⟨v1,e1,i1⟩:=zOe hw (n:=N - 32) (by omega)
  have hs1:=hsw.slice e1
  refine zaa e1 ?_
  have hr1:=i1 _ hw
  have hsl:(b.take (N - 32)).length=N - 32:=by rw[List.length_take]; omega
  have hsb:By (b.take (N - 32)):=By.take hbb
  have htl:((b.take N).drop (N - 32)).length=32:=by rw[List.length_drop,List.length_take]; omega
  have hsplit:b.take N=b.take (N - 32)++(b.take N).drop (N - 32):=by
   conv=>lhs; rw[← List.take_append_drop (N - 32) (b.take N)]
   rw[List.take_take,Nat.min_eq_left (by omega)]
  refine zZn hO hv.app hr1.app hs1.app hb hsb hl (by omega) ?_
  intro H2 v2 c2 hO2 o2
  refine zra (RdB.str hO2 o2.rd.app') ?_
  obtain⟨v3,e3,i3⟩:=zOe hw (n:=N) hN
  refine zaa e3 ?_
  refine zra (RdB.str hO2 (i3 _ hw).app.app) ?_
  refine⟨(hsw.slice e3).app.same hO hO2,?_⟩
  refine zaa (zrp (l:=ob (b.take (N - 32)++zNl key (b.take (N - 32)))) (m:=ob (b.take N)) _ _) ?_
  have hiff:ob (b.take (N - 32)++zNl key (b.take (N - 32)))=ob (b.take N)↔zNl key (b.take (N - 32))=(b.take N).drop (N - 32):=by
   constructor
   ·intro h
    have:=zsu (zRb hsb zYn) (By.take hbb) h
    rw[hsplit] at this
    exact List.append_cancel_left this
   ·intro h
    rw[h,← hsplit]
  have hps:By ((b.take (N - 32)).drop 4):=By.drop (By.take hbb)
  have hpl:((b.take (N - 32)).drop 4).length≤9000:=by rw[List.length_drop,List.length_take]; omega
  obtain⟨v4,e4,i4⟩:=zXn hw (i:=4) (t:=N - 32) (by omega) (by omega)
  have hs4:=hsw.slice e4
  replace i4:=i4 _ hw
  clear hO
  replace hO:=hO2.left
  clear hO2
  by_cases hm:zNl key (b.take (N - 32))=(b.take N).drop (N - 32)
  ·refine zVc (fun h=>h (hiff.2 hm)) ?_
   rw[if_neg (fun h=>h hm)] at hk
   refine zaa (v:=int ((N - 32:Nat):Int)) (by rw[← e32]; exact zMb (by omega) (by omega)) ?_
   refine zaa e4 ?_
   rw[zzm hps] at hk
   refine zim hO i4.app hps hpl hs4.app ?_
   clear hO
   intro H c5 hO hrd
   refine zaa zrq ?_
   refine zaa zsq ?_
   have hpo:=zdo hps hpl
   rw[zzm hps] at hpo
   have hpd:=hpo.dl
   have hcs:=zNh ((b.take (N - 32)).drop 4)
   rw[zzm hps] at hcs
   generalize (b.take (N - 32)).drop 4=inner at *
   rcases hcs with hz|hz
   ·rw[if_neg (fun h=>h hz)] at hk
    simp only at hk
    rw[hz]
    generalize (zRi inner).1=M at *
    have hc1:oneCell c5=true:=hrd.one
    refine zVa hO ?_
    clear hO
    intro p12 H hO
    refine zsa hO (_+0) (zxa rfl) (by rfl) (zwa hpd) (zqb hc1) ?_
    clear hO
    intro H hO
    replace hO:=hO.set_r
    refine zaa zYa ?_
    refine zVc (by omega) ?_
    refine zAa hO (_+0) (zxa rfl) (zwa hpd) (by omega) ?_
    refine zsa hO (Γ.length+0) (zHa (zHa (zxa rfl))) (by rfl) (zwa hpd) (zqb hc1) ?_
    clear hO
    intro H hO
    rw[List.set_append_left _ _ (by simp),List.set_append_left _ _ (by simp),Go.Ab.set_r] at hO
    refine zAa hO (Γ.length+0) (zHa (zHa (zxa rfl))) (zwa hpd) (by omega) ?_
    exact hk H c5 (St.mid hO.left) hrd
   ·rw[hz,if_pos (by simp)] at hk
    rw[hz] at hO
    rw[hz]
    refine zVa hO ?_
    clear hO
    intro p12 H hO
    refine zsa hO (_+0) (zxa rfl) (by rfl) (by rfl) (zqb (by rw[hz] at hrd; exact hrd.one)) ?_
    clear hO
    intro H hO
    refine zaa zYa ?_
    refine zhb (by decide) ?_
    refine zaa bM0 ?_
    replace hO:=hO.set_r.left.left
    refine sw hO 0 rfl (by rfl) (by rfl) (zqb rfl) ?_
    clear hO
    intro H hO
    refine lw hO 0 rfl (by rfl) (by omega) ?_
    exact hk H zua hO.left.z RdH.nil
  ·refine zhb (fun h=>hm (hiff.1 h)) ?_
   rw[if_pos hm] at hk
   refine zaa bM0 ?_
   refine sw hO 0 rfl (by rfl) (by rfl) (zqb rfl) ?_
   clear hO
   intro H hO
   refine lw hO 0 rfl (by rfl) (by omega) ?_
   exact hk H zua hO.left.z RdH.nil
end J
