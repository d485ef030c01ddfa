/- texts of the proof, one behind the other -/
import Derived.Test.YtmnbcjhjkahajaaDoorUE
set_option linter.unusedVariables false
set_option linter.unusedSimpArgs false
set_option linter.unusedSectionVars false
set_option maxRecDepth 100000
namespace J
open Go Go.Ab
variable{H:Heap}{Γ Γ0 Γ2 Δ G L:List (Nat × Blk)}{K:VH}{v w x cv dv:Value}{xs ys zs bs b key ms:List Int}{j p q o n k mx:Nat}{e:Int}{cs cs':List Value}{l:List UInt8}{m a:Mf}{cks:List (List Int)}
abbrev Rs:=List Int × Int
def tk(n:Nat)(s:Rs):Rs:=(tkR s.1 s.2 n,tkE s.1 s.2 n)
def tb(n:Nat)(s:Rs):List Int:=tkB s.1 s.2 n
def hs(s:Rs):List Int:=hsh s.1 s.2
def tkn:Nat→Rs→Rs
 | 0,s=>s
 | n+1,s=>tk 32 (tkn n s)
def hsL:Nat→Rs→List (List Int)
 | 0,_=>[]
 | n+1,s=>hsL n s++[hs (tkn n s)]
def zjg(t:List Int)(s:Rs):Mf:=⟨ob t,leV (tb 8 s),(leV (tb 4 (tk 8 s)):Int),(leV (tb 2 (tk 4 (tk 8 s))):Int),hs (tk 2 (tk 4 (tk 8 s))),[]⟩
def pS5(s:Rs):Rs:=tk 32 (tk 2 (tk 4 (tk 8 s)))
def m0:Mf:=⟨[],0,0,0,z32,[]⟩
def zjh(h:Mf)(c:List (List Int)):Mf:={ h with cks:=c }
def pN(h:Mf):Nat:=(min (cnt h.sz h.ck) 65).toNat
def pM(t:List Int)(s:Rs):Mf:=zjh (zjg t s) (hsL (pN (zjg t s)) (pS5 s))
def pF(t:List Int)(s:Rs):Rs:=tkn (pN (zjg t s)) (pS5 s)
def pOk(t:List Int)(s:Rs):Prop:=zvv (pF t s).1 (pF t s).2=0∧zUa (pM t s)
instance (t:List Int) (s:Rs):Decidable (pOk t s):=by unfold pOk; exact inferInstance
def zrz(t:List Int)(s:Rs):Mf × Int:=if pOk t s then (pM t s,0) else (m0,131)
def zac(b:List Int):Mf × Int:=zrz (tXb b 0 96) (tXr b 0 96,tXe b 0 96)
theorem zSe{s:Rs}(h:By s.1){n:Nat}:By (tk n s).1:=zhp h _ _
theorem zkp{s:Rs}{n:Nat}:(tk n s).1.length≤s.1.length:=zLl _ _ _
theorem zEx{s:Rs}(h:By s.1):∀ n,By (tkn n s).1
 | 0=>h
 | n+1=>zSe (zEx h n)
theorem zcv{s:Rs}:∀ n,(tkn n s).1.length≤s.1.length
 | 0=>Nat.le_refl _
 | n+1=>Nat.le_trans zkp (zcv n)
theorem zHq{s:Rs}:∀ n,(hsL n s).length=n
 | 0=>rfl
 | n+1=>by show (hsL n s++[_]).length=_; rw[List.length_append,zHq n]; rfl
theorem zFx{s:Rs}:∀ n,∀ x ∈ hsL n s,x.length=32
 | 0,_,h=>by cases h
 | n+1,x,h=>by
  rcases List.mem_append.1 (show x ∈ hsL n s++[hs (tkn n s)] from h) with h|h
  ·exact zFx n x h
  ·rw[List.mem_singleton.1 h]; exact zRe
theorem zGx{s:Rs}(hb:By s.1):∀ n,∀ x ∈ hsL n s,By x
 | 0,_,h=>by cases h
 | n+1,x,h=>by
  rcases List.mem_append.1 (show x ∈ hsL n s++[hs (tkn n s)] from h) with h|h
  ·exact zGx hb n x h
  ·rw[List.mem_singleton.1 h]; exact zDx (zEx hb n)
theorem zNs{s:Rs}(hb:By s.1)(k:Nat):leV (tb k s) < 256 ^ k:=zCx hb s.2
theorem zHx{t:List Int}{s:Rs}(hb:By s.1)(ht:t.length≤10000){n:Nat}(hn:n≤10000){s5:Rs}(h5:By s5.1):(zjh (zjg t s) (hsL n s5)).Ok:=by
 have h8:=zNs hb 8
 have h4:=zNs (s:=tk 8 s) (zSe hb) 4
 have h2:=zNs (s:=tk 4 (tk 8 s)) (zSe (zSe hb)) 2
 refine⟨zRe,zDx (zSe (zSe (zSe hb))),zFx n,zGx h5 n,h8,?_,?_,?_,?_⟩
 ·show -9223372036854775808≤((leV (tb 4 (tk 8 s)):Nat):Int)∧((leV (tb 4 (tk 8 s)):Nat):Int)≤9223372036854775807
  omega
 ·show -9223372036854775808≤((leV (tb 2 (tk 4 (tk 8 s))):Nat):Int)∧((leV (tb 2 (tk 4 (tk 8 s))):Nat):Int)≤9223372036854775807
  omega
 ·show (hsL n s5).length≤_
  rw[zHq]; exact hn
 ·show (ob t).length≤_
  simpa [ob] using ht
theorem zBA:m0.Ok:=⟨rfl,zNm,(by intro x h; cases h),(by intro x h; cases h),by decide,by decide,by decide,by decide,by decide⟩
theorem zcM:zc P 29=mfC m0 zva:=by kernel_rfl
theorem bM0:(zWa P 29).f []=some (agg (mfC m0 zva)):=by kernel_rfl
theorem bM4(s:ByteArray)(n:Nat)(x y:Int):(zWa P 29).f [(0,.string s),(1,zbb .u64 n),(2,int x),(3,int y)]=some (agg (mfC ⟨s.data.toList,n,x,y,z32,[]⟩ zva)):=by kernel_rfl
theorem zuB(a0 a1 a2 a3 a4 a5 a6 a7 a8 a9 a10 a11 a12 a13 a14 a15 a16 a17 a18 a19 a20 a21 a22 a23 a24 a25 a26 a27 a28 a29 a30 a31:Int)(H:Heap):(zea P 27 1).f [(0,.agg #[(.int .u8 a0),(.int .u8 a1),(.int .u8 a2),(.int .u8 a3),(.int .u8 a4),(.int .u8 a5),(.int .u8 a6),(.int .u8 a7),(.int .u8 a8),(.int .u8 a9),(.int .u8 a10),(.int .u8 a11),(.int .u8 a12),(.int .u8 a13),(.int .u8 a14),(.int .u8 a15),(.int .u8 a16),(.int .u8 a17),(.int .u8 a18),(.int .u8 a19),(.int .u8 a20),(.int .u8 a21),(.int .u8 a22),(.int .u8 a23),(.int .u8 a24),(.int .u8 a25),(.int .u8 a26),(.int .u8 a27),(.int .u8 a28),(.int .u8 a29),(.int .u8 a30),(.int .u8 a31)])] H=some (sl H.next 0 1 65,H.push [(.int .u8 a0),(.int .u8 a1),(.int .u8 a2),(.int .u8 a3),(.int .u8 a4),(.int .u8 a5),(.int .u8 a6),(.int .u8 a7),(.int .u8 a8),(.int .u8 a9),(.int .u8 a10),(.int .u8 a11),(.int .u8 a12),(.int .u8 a13),(.int .u8 a14),(.int .u8 a15),(.int .u8 a16),(.int .u8 a17),(.int .u8 a18),(.int .u8 a19),(.int .u8 a20),(.int .u8 a21),(.int .u8 a22),(.int .u8 a23),(.int .u8 a24),(.int .u8 a25),(.int .u8 a26),(.int .u8 a27),(.int .u8 a28),(.int .u8 a29),(.int .u8 a30),(.int .u8 a31)]):=by kernel_rfl
theorem zLB(h:List Int)(hl:h.length=32)(H:Heap):(zea P 27 1).f [(0,agg (by8 h))] H=some (sl H.next 0 1 65,H.push (by8 h)):=by
 match h,hl with
 | [a0,a1,a2,a3,a4,a5,a6,a7,a8,a9,a10,a11,a12,a13,a14,a15,a16,a17,a18,a19,a20,a21,a22,a23,a24,a25,a26,a27,a28,a29,a30,a31],_=>exact zuB a0 a1 a2 a3 a4 a5 a6 a7 a8 a9 a10 a11 a12 a13 a14 a15 a16 a17 a18 a19 a20 a21 a22 a23 a24 a25 a26 a27 a28 a29 a30 a31 H
theorem zcx{h:Mf}{d:List Int}(hd:h.dg.length=32)(hl:d.length=32):(mfC h cv).take (0+4)++(zsa (agg (by8 d))++(mfC h cv).drop (0+4+32))=mfC { h with dg:=d } cv:=by
 show [str h.pr,zbb .u64 h.ver,int h.sz,int h.ck]++(by8 d++(by8 h.dg++[cv]).drop 32)=_
 rw[List.drop_append_of_le_length (by simp[hd]),List.drop_of_length_le (by simp[hd])]
 rfl
theorem zdv{h:Mf}(hd:h.dg.length=32):(mfC h cv).set (0+36) dv=mfC h dv:=by
 show str h.pr::zbb .u64 h.ver::int h.sz::int h.ck::(by8 h.dg++[cv]).set 32 dv=_
 rw[List.set_append_right _ _ (by simp[hd])]
 simp[hd]
 rfl
theorem zfz{l:List (List Int)}(h:Own 32 v l.length (hsC l)):RdH (zGb v (hsC l)) v l:=by
 rcases h with⟨rfl,h0,_⟩|⟨p,rfl|rfl,_⟩
 ·exact .inl ⟨rfl,List.length_eq_zero_iff.1 h0⟩
 ·exact .inr ⟨p,_,0,true,rfl,rfl⟩
 ·exact .inr ⟨p,_,0,true,rfl,rfl⟩
theorem zFr{l:List (List Int)}{x:List Int}:hsC (l++[x])=hsC l++by8 x:=by simp[hsC]
theorem zCj{size n:Nat}(h:Own size v n cs):zkb v=true∧oneCell v=true:=by
 rcases h with⟨rfl,_⟩|⟨p,rfl|rfl,_⟩ <;> exact⟨rfl,rfl⟩
set_option maxHeartbeats 4000000 in
theorem zOs(hO:St H Γ)(hv:RdB Γ v b)(hb:By b)(hx:b.length≤9000)
  (hk:∀ H' cv,St H' (Γ++zGb cv (hsC (zac b).1.cks))→RdH (zGb cv (hsC (zac b).1.cks)) cv (zac b).1.cks→K (.tuple [agg (mfC (zac b).1 cv),int (zac b).2].toArray) H'):wCall P ztc [v] H K:=by
 apply zpj; unfold zsh
 rw[zcM]
 refine nw hO.z ?_
 clear hO
 intro p2 H hO
 refine zxr hO hv.app ?_
 clear hO
 intro H p7 hO
 replace hO:St H (Γ++[(p2,⟨mfC m0 zva,true⟩),(p7,rdr v 0)]):=hO.as
 have htl:(tXb b 0 96).length≤10000:=by
  unfold tXb tYb
  split
  ·simp
  ·have h1:∀ (xs:List Int) (e:Int) (n:Nat),(tkB xs e n).length≤xs.length:=fun xs e n=>by
    unfold tkB
    split
    ·rw[List.length_take]; omega
    ·simp
   have:=h1 (tkR b 0 2) (tkE b 0 2) (tN b 0)
   have:=zLl b 0 2
   omega
 refine zMs (mx:=96) hO (zEa (k:=1) rfl) hv.app hb (by omega) ?_
 clear hO
 intro H v1 hO i1
 replace hO:St H (Γ++[(p2,⟨mfC m0 zva,true⟩),(p7,rdr v1 (tXe b 0 96))]):=hO.set_r
 replace hv:=i1 _ hv
 have hb1:By (tXr b 0 96):=by
  unfold tXr tYr
  split
  ·intro x h; cases h
  ·exact zhp (zhp hb _ _) _ _
 have hl1:(tXr b 0 96).length≤b.length:=by
  unfold tXr tYr
  split
  ·simp
  ·exact Nat.le_trans (zLl _ _ _) (zLl _ _ _)
 unfold zac at hk
 replace hO:St H (Γ++[(p2,⟨mfC m0 zva,true⟩),(p7,rdr v1 (tXr b 0 96,tXe b 0 96).2)]):=hO
 replace hv:RdB Γ v1 (tXr b 0 96,tXe b 0 96).1:=hv
 replace hb1:By (tXr b 0 96,tXe b 0 96).1:=hb1
 replace hl1:(tXr b 0 96,tXe b 0 96).1.length≤b.length:=hl1
 generalize tXb b 0 96=t at *
 generalize ((tXr b 0 96,tXe b 0 96):Rs)=s at *
 clear i1 hb
 have h8:=zNs hb1 8
 refine zne (k:=8) (by omega) hO (zEa (k:=1) rfl) hv.app hb1 ?_
 clear hO
 intro H v2 hO i2
 replace hO:St H (Γ++[(p2,⟨mfC m0 zva,true⟩),(p7,rdr v2 (tk 8 s).2)]):=hO.set_r
 replace hv:RdB Γ v2 (tk 8 s).1:=i2 _ hv
 have h4:=zNs (s:=tk 8 s) (zSe hb1) 4
 refine zne (k:=4) (by omega) hO (zEa (k:=1) rfl) hv.app (zSe hb1) ?_
 clear hO i2
 intro H v3 hO i3
 replace hO:St H (Γ++[(p2,⟨mfC m0 zva,true⟩),(p7,rdr v3 (tk 4 (tk 8 s)).2)]):=hO.set_r
 replace hv:RdB Γ v3 (tk 4 (tk 8 s)).1:=i3 _ hv
 refine zra (zpz (k:=.u64) (show leV (tb 4 (tk 8 s))≤_ by omega)) ?_
 have h2:=zNs (s:=tk 4 (tk 8 s)) (zSe (zSe hb1)) 2
 refine zne (k:=2) (by omega) hO (zEa (k:=1) rfl) hv.app (zSe (zSe hb1)) ?_
 clear hO i3
 intro H v4 hO i4
 replace hO:St H (Γ++[(p2,⟨mfC m0 zva,true⟩),(p7,rdr v4 (tk 2 (tk 4 (tk 8 s))).2)]):=hO.set_r
 replace hv:RdB Γ v4 (tk 2 (tk 4 (tk 8 s))).1:=i4 _ hv
 refine zra (zpz (k:=.u64) (show leV (tb 2 (tk 4 (tk 8 s)))≤_ by omega)) ?_
 refine zaa (bM4 _ _ _ _) ?_
 refine nw hO ?_
 clear hO i4
 intro p5 H hO
 refine sw hO 2 rfl (by rfl) (by rfl) (zqd rfl) ?_
 clear hO
 intro H hO
 replace hO:St H (Γ++[(p2,⟨mfC m0 zva,true⟩),(p7,rdr v4 (tk 2 (tk 4 (tk 8 s))).2),(p5,⟨mfC ⟨ob t,leV (tb 8 s),(leV (tb 4 (tk 8 s)):Int),(leV (tb 2 (tk 4 (tk 8 s))):Int),z32,[]⟩ zva,true⟩)]):=hO
 have hl4:(tk 2 (tk 4 (tk 8 s))).1.length≤9000:=Nat.le_trans zkp (Nat.le_trans zkp (Nat.le_trans zkp (by omega)))
 refine zjp hO (zEa (k:=1) rfl) hv.app (by omega) ?_
 clear hO
 intro H v5 hO i5
 replace hO:St H (Γ++[(p2,⟨mfC m0 zva,true⟩),(p7,rdr v5 (pS5 s).2),(p5,⟨mfC ⟨ob t,leV (tb 8 s),(leV (tb 4 (tk 8 s)):Int),(leV (tb 2 (tk 4 (tk 8 s))):Int),z32,[]⟩ zva,true⟩)]):=hO.set_r
 replace hv:RdB Γ v5 (pS5 s).1:=i5 _ hv
 refine zaa zba ?_
 refine zDf hO (Γ.length+2) (zEa rfl) (show (by8 (hsh _ _)).length=32 by rw[zDu]; exact zRe) (by show 0+4+32≤(mfC _ _).length; rw[zMa rfl]; omega) (zQf _) ?_
 clear hO i5
 intro H hO
 rw[zcx rfl zRe] at hO
 replace hO:St H (Γ++[(p2,⟨mfC m0 zva,true⟩),(p7,rdr v5 (pS5 s).2),(p5,⟨mfC (zjg t s) zva,true⟩)]):=hO.set_r
 have hd:(zjg t s).dg.length=32:=zRe
 have hb5:By (pS5 s).1:=zSe (zSe (zSe (zSe hb1)))
 have hl5:(pS5 s).1.length≤9000:=Nat.le_trans zkp hl4
 refine zaa zba ?_
 refine ld hO 2 rfl (v:=int (zjg t s).sz) rfl ?_
 refine zaa zba ?_
 refine ld hO 2 rfl (v:=int (zjg t s).ck) rfl ?_
 have hsz0:(zjg t s).sz≤4294967295:=by show ((leV (tb 4 (tk 8 s)):Nat):Int)≤_; omega
 have hck0:(zjg t s).ck≤65535:=by show ((leV (tb 2 (tk 4 (tk 8 s))):Nat):Int)≤_; omega
 refine zPm (by omega) (by omega) ?_
 refine zra zoy ?_
 have hc0:=zGs (s:=(zjg t s).sz) (c:=(zjg t s).ck)
 have hpn:pN (zjg t s)≤65:=by unfold pN; omega
 rw[show min (cnt (zjg t s).sz (zjg t s).ck) 65=((pN (zjg t s):Nat):Int) by unfold pN; omega]
 have hok:∀ n,n≤65→(zjh (zjg t s) (hsL n (pS5 s))).Ok:=fun n hn=>zHx hb1 htl (by omega) hb5
 have hkG:zvv (tkn (pN (zjg t s)) (pS5 s)).1 (tkn (pN (zjg t s)) (pS5 s)).2=0∧zUa (zjh (zjg t s) (hsL (pN (zjg t s)) (pS5 s)))→∀ H' cv,St H' (Γ++zGb cv (hsC (hsL (pN (zjg t s)) (pS5 s))))→RdH (zGb cv (hsC (hsL (pN (zjg t s)) (pS5 s)))) cv (hsL (pN (zjg t s)) (pS5 s))→K (.tuple [agg (mfC (zjh (zjg t s) (hsL (pN (zjg t s)) (pS5 s))) cv),int 0].toArray) H':=by
  intro h
  rw[show zrz t s=(pM t s,0) from if_pos h] at hk
  exact hk
 have hkB:¬ (zvv (tkn (pN (zjg t s)) (pS5 s)).1 (tkn (pN (zjg t s)) (pS5 s)).2=0∧zUa (zjh (zjg t s) (hsL (pN (zjg t s)) (pS5 s))))→∀ H',St H' Γ→K (.tuple [agg (mfC m0 zva),int 131].toArray) H':=by
  intro h H' hO
  rw[show zrz t s=(m0,131) from if_neg h] at hk
  exact hk H' zva hO.z (.inl ⟨rfl,rfl⟩)
 clear hk
 generalize pN (zjg t s)=N at *
 generalize zjg t s=h at *
 generalize pS5 s=s5 at *
 clear h8 h4 h2 hl4
 refine zDg (fun k l' H'=>∃ (y:Nat) (cv v:Value),y≤N∧k=N - y∧l'=[ptr p2 0,int 0,ptr p7 0,ptr p5 0,int N,int y]∧St H' ((Γ++[(p2,⟨mfC m0 zva,true⟩),(p7,rdr v (tkn y s5).2),(p5,⟨mfC h cv,true⟩)])++zGb cv (hsC (hsL y s5)))∧Own 32 cv y (hsC (hsL y s5))∧RdB Γ v (tkn y s5).1) _ _ ?_ N _ _ ⟨0,zva,v5,by omega,by omega,rfl,hO.z,.nil,hv⟩
 clear hO hv
 rintro k l' H ⟨y,cv,v,hy,rfl,rfl,hO,how,hv⟩
 unfold zjf
 try simp only[zha,zia]
 refine zaa zSa ?_
 refine zja (fun hlt=>?_) (fun hlt=>?_)
 ·have hy:y < N:=by omega
  obtain⟨cs1,cs2⟩:=zCj how
  refine zaa zba ?_
  refine zpa hO (Γ.length+2) (zZa (zEa rfl)) (zAh hd) ?_
  refine zjp hO (zZa (zEa (k:=1) rfl)) hv.app.app (Nat.le_trans (zcv y) (by omega)) ?_
  intro H1 v6 hO1 i6
  rw[List.set_append_left _ _ (by simp),Go.Ab.set_r] at hO1
  replace hO1:St H1 ((Γ++[(p2,⟨mfC m0 zva,true⟩),(p7,rdr v6 (tkn (y+1) s5).2),(p5,⟨mfC h cv,true⟩)])++zGb cv (hsC (hsL y s5))):=hO1
  refine⟨zWb hO (Γ.length+2) (zZa (zEa rfl)) hO1 (Γ.length+2) (zZa (zEa rfl)) (zrd cs1),?_⟩
  clear hO
  refine zxa hO1 (zLB _ zRe _) ?_
  clear hO1
  intro q H hO
  refine zzl hO how (by simp[zRe]) (by omega) (zQf _) (by omega) (by omega) ?_
  clear hO
  intro cv2 H hO how2
  replace hO:St H ((Γ++[(p2,⟨mfC m0 zva,true⟩),(p7,rdr v6 (tkn (y+1) s5).2),(p5,⟨mfC h cv,true⟩)])++zGb cv2 (hsC (hsL (y+1) s5))):=by
   show St H (_++zGb cv2 (hsC (hsL y s5++[hs (tkn y s5)])))
   rw[zFr]; exact hO
  replace how2:Own 32 cv2 (y+1) (hsC (hsL (y+1) s5)):=by
   show Own 32 cv2 (y+1) (hsC (hsL y s5++[hs (tkn y s5)]))
   rw[zFr]; exact how2
  refine zaa zba ?_
  refine zYa hO (Γ.length+2) (zZa (zEa rfl)) (zCj how2).2 (by rw[zMa hd]; omega) (zdv hd) ?_
  clear hO
  intro H hO
  rw[List.set_append_left _ _ (by simp),Go.Ab.set_r] at hO
  repeat (first|refine oi ?_|refine ow ?_|refine wy ?_|refine wn ?_|refine wt ?_|refine wf' ?_|refine cy ?_|refine cn ?_)
  exact⟨N - (y+1),by omega,y+1,cv2,v6,by omega,rfl,rfl,hO,how2,i6 _ hv⟩
 ·have ey:y=N:=by omega
  subst ey
  refine zhb rfl ?_
  try simp only[zha,zia]
  have hll:=zHq (s:=s5) y
  have hrd:RdH (zGb cv (hsC (hsL y s5))) cv (zjh h (hsL y s5)).cks:=zfz (by rw[hll]; exact how)
  have oky:=hok y hpn
  refine zwa (fun l' H'=>l'=[ptr p2 0,ptr p5 0,.bool (decide (¬ (zvv (tkn y s5).1 (tkn y s5).2=0∧zUa (zjh h (hsL y s5)))))]∧St H' ((Γ++[(p2,⟨mfC m0 zva,true⟩),(p7,rdr v (tkn y s5).2),(p5,⟨mfC h cv,true⟩)])++zGb cv (hsC (hsL y s5)))) ?_ ?_
  ·refine zbv hO (zZa (zEa (k:=1) rfl)) hv.app.app ?_
   refine zaa zAc ?_
   refine zja (fun h1=>?_) (fun h1=>?_)
   ·refine zaa (zSc h1) ?_
    exact⟨by rw[decide_eq_true (show ¬ (zvv (tkn y s5).1 (tkn y s5).2=0∧zUa (zjh h (hsL y s5))) from fun h2=>h1 h2.1)],hO⟩
   ·refine zCa hO (Γ.length+2) (zZa (zEa rfl)) (show _=mfC (zjh h (hsL y s5)) cv from by rw[List.drop_zero]; exact List.take_of_length_le (by rw[zMa hd]; omega)) (zMa hd) (by omega) ?_
    refine zBj oky hrd.app' hO ?_
    clear hO
    intro H hO
    refine zaa zWf ?_
    refine zaa (zsb h1) ?_
    refine⟨?_,hO⟩
    have h1':zvv (tkn y s5).1 (tkn y s5).2=0:=Classical.not_not.1 h1
    by_cases hr:zUa (zjh h (hsL y s5))
    ·rw[decide_eq_true hr,decide_eq_false (show ¬ ¬ (zvv (tkn y s5).1 (tkn y s5).2=0∧zUa (zjh h (hsL y s5))) from fun h2=>h2 ⟨h1',hr⟩)]; rfl
    ·rw[decide_eq_false hr,decide_eq_true (show ¬ (zvv (tkn y s5).1 (tkn y s5).2=0∧zUa (zjh h (hsL y s5))) from fun h2=>hr h2.2)]; rfl
  clear hO
  rintro l' H ⟨rfl,hO⟩
  try simp only[zha,zia]
  refine zja (fun h1=>?_) (fun h1=>?_)
  ·refine zaa bM0 ?_
   replace hO:=hO.left
   refine sw hO 0 rfl (by rfl) (by rfl) (zqd rfl) ?_
   clear hO
   intro H hO
   refine lw hO 0 rfl (by rfl) (by omega) ?_
   exact hkB h1 H hO.left
  ·refine zCa hO (Γ.length+2) (zZa (zEa rfl)) (show _=mfC (zjh h (hsL y s5)) cv from by rw[List.drop_zero]; exact List.take_of_length_le (by rw[zMa hd]; omega)) (zMa hd) (by omega) ?_
   refine zLa hO (Γ.length+0) (zZa (zEa rfl)) (by rfl) (zMa hd) (zqd (zCj how).2) ?_
   clear hO
   intro H hO
   rw[List.set_append_left _ _ (by simp),Go.Ab.set_r] at hO
   refine zCa hO (Γ.length+0) (zZa (zEa rfl)) (show _=mfC (zjh h (hsL y s5)) cv from by rw[List.drop_zero]; exact List.take_of_length_le (by rw[zMa (m:=zjh h (hsL y s5)) hd]; omega)) (zMa hd) (by omega) ?_
   exact hkG (Classical.not_not.1 h1) H cv (St.mid hO) hrd
end J
set_option maxRecDepth 100000
namespace J
open Go Go.Ab
variable{H:Heap}{Γ Γ0 Γ2 Δ G L:List (Nat × Blk)}{K:VH}{v w x cv dv:Value}{xs ys zs bs b key ms:List Int}{j p q o n k mx:Nat}{e:Int}{cs cs':List Value}{l:List UInt8}{m a:Mf}{cks:List (List Int)}
def Stay(Γ:List (Nat × Blk))(v:Value):Prop:=v=zva∨∃ (p o n c j:Nat) (b:Blk),v=sl p o n c∧Γ[j]?=some (p,b)∧b.cells.all zkb=true∧(b.wr=true∨b.cells≠[])
theorem Stay.app(h:Stay Γ v):Stay (Γ++Δ) v:=by
 rcases h with h|⟨p,o,n,c,j,b,h1,h2,h3⟩
 ·exact .inl h
 ·exact .inr ⟨p,o,n,c,j,b,h1,zZa h2,h3⟩
theorem Stay.same{H':Heap}(h:Stay Γ v)(hO:St H Γ)(hO':St H' (Γ++Δ)):zPb (zEb H H') (zza [v]):=by
 rcases h with rfl|⟨p,o,n,c,j,b,rfl,h2,h3,h4⟩
 ·rfl
 ·exact zWb (o:=o) hO j h2 hO' j (zZa h2) h3 h4
theorem zUn{s:Rs}:∀ n,tkn n (tk 32 s)=tkn (n+1) s
 | 0=>rfl
 | n+1=>by show tk 32 (tkn n (tk 32 s))=_; rw[zUn n]; rfl
theorem zCA{a b:List Int}(ha:By a)(hb:By b)(h:ob a=ob b):a=b:=by
 have h1:=zBx a ha
 have h2:=zBx b hb
 rw[← h1,← h2]
 exact congrArg ub h
theorem zlp(y n:Nat):By (leN y n):=by
 intro x hx
 obtain⟨i,_,rfl⟩:=List.mem_map.1 hx
 have:=Nat.mod_lt (n / 256 ^ i) (show 256 > 0 by decide)
 omega
theorem zgz:∀ {l:List (List Int)},(∀ x ∈ l,By x)→By l.flatten:=by
 intro l h x hx
 obtain⟨y,hy,hx⟩:=List.mem_flatten.1 hx
 exact h y hy x hx
theorem zev(ok:m.Ok):By (zdd m):=by
 unfold zdd
 split
 ·exact zGd (zGd (zGd (zGd (zGd (zGd (zlp _ _) zqB) (zlp _ _)) (zlp _ _)) (zlp _ _)) ok.db) (zgz ok.cb)
 ·intro x h; cases h
end J
set_option maxRecDepth 100000
namespace J
open Go Go.Ab
variable{xs ys zs bs b t:List Int}{n:Nat}{e:Int}{l:List UInt8}{m:Mf}{s:Rs}
theorem zdx(k n:Nat):leN (k+1) n=((n % 256:Nat):Int)::leN k (n / 256):=by
 unfold leN
 rw[List.range_succ_eq_map,List.map_cons,List.map_map]
 congr 1
 ·simp
 ·refine List.map_congr_left fun i _=>?_
  show ((n / 256 ^ (i+1) % 256:Nat):Int)=_
  rw[Nat.pow_succ,Nat.mul_comm,Nat.div_div_eq_div_mul]
theorem zch:∀ (k n:Nat),n < 256 ^ k→leV (leN k n)=n
 | 0,n,h=>by simp at h; subst h; rfl
 | k+1,n,h=>by
  rw[zdx]
  show (((n % 256:Nat):Int)).toNat+256 * leV (leN k (n / 256))=n
  rw[zch k (n / 256) (by rw[Nat.pow_succ] at h; omega)]
  omega
theorem zhz(h:(tk n s).2=0):s.2=0∧s.1=tb n s++(tk n s).1∧(tb n s).length=n:=by
 have hc:s.2=0∧n≤s.1.length:=by
  have h:tkE s.1 s.2 n=0:=h
  unfold tkE at h
  split at h
  ·assumption
  ·split at h
   ·omega
   ·contradiction
 refine⟨hc.1,?_,?_⟩
 ·show s.1=tkB s.1 s.2 n++tkR s.1 s.2 n
  unfold tkB tkR
  rw[if_pos hc,if_pos hc,List.take_append_drop]
 ·show (tkB s.1 s.2 n).length=n
  unfold tkB
  rw[if_pos hc,List.length_take]; omega
theorem zMl{a r:List Int}(h:a.length=n):tk n (a++r,0)=(r,0)∧tb n (a++r,0)=a:=by
 have hc:(0:Int)=0∧n≤(a++r).length:=⟨rfl,by rw[List.length_append]; omega⟩
 refine⟨?_,?_⟩
 ·show (tkR (a++r) 0 n,tkE (a++r) 0 n)=_
  unfold tkR tkE
  rw[if_pos hc,if_pos hc,← h,List.drop_left]
 ·show tkB (a++r) 0 n=a
  unfold tkB
  rw[if_pos hc,← h,List.take_left]
theorem zfv(h:(tk 32 s).2=0):hs s=tb 32 s:=by
 obtain⟨h1,h2,h3⟩:=zhz h
 have hl:32≤s.1.length:=by
  have:=congrArg List.length h2
  rw[List.length_append,h3] at this; omega
 show hsh s.1 s.2=tkB s.1 s.2 32
 unfold hsh tkB
 rw[if_pos ⟨h1,hl⟩,if_pos ⟨h1,hl⟩]
theorem zGr{s:Rs}:∀ n,hsL (n+1) s=hs s::hsL n (tk 32 s)
 | 0=>rfl
 | n+1=>by
  show hsL (n+1) s++[hs (tkn (n+1) s)]=hs s::(hsL n (tk 32 s)++[hs (tkn n (tk 32 s))])
  rw[zGr n,zUn n]; rfl
theorem zgv:∀ (cks:List (List Int)) (r:List Int),(∀ x ∈ cks,x.length=32)→tkn cks.length (cks.flatten++r,0)=(r,0)∧hsL cks.length (cks.flatten++r,0)=cks
 | [],r,_=>⟨rfl,rfl⟩
 | c::cs,r,h=>by
  obtain⟨i1,i2⟩:=zgv cs r fun x hx=>h x (List.mem_cons_of_mem _ hx)
  obtain⟨j1,j2⟩:=zMl (n:=32) (a:=c) (r:=cs.flatten++r) (h c List.mem_cons_self)
  rw[List.flatten_cons,List.append_assoc,List.length_cons,← zUn,zGr,j1,i1,i2,zfv (by rw[j1]),j2]
  exact⟨rfl,rfl⟩
def MB(m:Mf):List Int:=txB m.pr++leN 8 m.ver++leN 4 m.sz.toNat++leN 2 m.ck.toNat++m.dg++m.cks.flatten
theorem zYj(h:zUa m):zdd m=MB m:=if_pos h
theorem zhv:∀ (n:Nat) (l:List UInt8),l.length≤n→l.length≤4 * (zfp n l).length
 | 0,l,h=>by omega
 | n+1,l,h=>by
  unfold zfp
  split
  ·rename_i h0; rw[h0]; simp
  ·rename_i h0
   have hw:=zSn h0
   have hw4:wid l≤4:=by
    unfold wid
    split
    ·omega
    ·rename_i r hr; exact (zTu hr h0).2.1
   have ih:=zhv n (l.drop (wid l)) (by rw[List.length_drop]; omega)
   rw[List.length_drop] at ih
   rw[List.length_cons]; omega
theorem zHr(h:zAj l=0):l.length≤96:=by
 unfold zAj at h
 rw[← zAx] at h
 unfold nm4 at h
 split at h
 ·omega
 ·have:=zhv l.length l (Nat.le_refl _)
  rw[show zfp l.length l=zYn l from rfl] at this
  omega
theorem zex{b:List Int}(h:(zac b).2≠0):zac b=(m0,131):=by
 unfold zac zrz at h ⊢
 split
 ·rename_i hp; rw[if_pos hp] at h; exact absurd rfl h
 ·rfl
theorem zmp(b:List Int):(zac b).2=0∨zac b=(m0,131):=by
 by_cases h:(zac b).2=0
 ·exact .inl h
 ·exact .inr (zex h)
theorem zIq(ok:m.Ok)(h:zUa m):zac (zdd m)=(m,0):=by
 rw[zYj h]
 obtain⟨g0,g1,g2,g3,g4,g5,g6,g7,g8,g9⟩:=h
 have hpl:=zHr g0
 have hbt:MB m=leN 2 m.pr.length++(ub m.pr++(leN 8 m.ver++(leN 4 m.sz.toNat++(leN 2 m.ck.toNat++(m.dg++(m.cks.flatten++[])))))):=by simp[MB,txB]
 rw[hbt]
 obtain⟨a1,a2⟩:=zMl (n:=2) (a:=leN 2 m.pr.length) (r:=ub m.pr++(leN 8 m.ver++(leN 4 m.sz.toNat++(leN 2 m.ck.toNat++(m.dg++(m.cks.flatten++[])))))) (zpd _ _)
 obtain⟨b1,b2⟩:=zMl (n:=m.pr.length) (a:=ub m.pr) (r:=leN 8 m.ver++(leN 4 m.sz.toNat++(leN 2 m.ck.toNat++(m.dg++(m.cks.flatten++[]))))) zBh
 obtain⟨c1,c2⟩:=zMl (n:=8) (a:=leN 8 m.ver) (r:=leN 4 m.sz.toNat++(leN 2 m.ck.toNat++(m.dg++(m.cks.flatten++[])))) (zpd _ _)
 obtain⟨d1,d2⟩:=zMl (n:=4) (a:=leN 4 m.sz.toNat) (r:=leN 2 m.ck.toNat++(m.dg++(m.cks.flatten++[]))) (zpd _ _)
 obtain⟨f1,f2⟩:=zMl (n:=2) (a:=leN 2 m.ck.toNat) (r:=m.dg++(m.cks.flatten++[])) (zpd _ _)
 obtain⟨i1,i2⟩:=zMl (n:=32) (a:=m.dg) (r:=m.cks.flatten++[]) ok.dl
 obtain⟨j1,j2⟩:=zgv m.cks [] ok.cl
 generalize hB:leN 2 m.pr.length++(ub m.pr++(leN 8 m.ver++(leN 4 m.sz.toNat++(leN 2 m.ck.toNat++(m.dg++(m.cks.flatten++[]))))))=B at *
 have hN:tN B 0=m.pr.length:=by
  show leV (tb 2 (B,0))=_
  rw[a2]; exact zch 2 _ (by omega)
 have hE2:tkE B 0 2=0:=by
  have:(tk 2 (B,0)).2=0:=by rw[a1]
  exact this
 have hbad:¬ zax B 0 96:=fun h=>by have:=h.2; omega
 have hYb:tYb B 0=ub m.pr:=by
  show tb (tN B 0) (tk 2 (B,0))=_
  rw[hN,a1,b2]
 have hYs:((tYr B 0,tYe B 0):Rs)=(leN 8 m.ver++(leN 4 m.sz.toNat++(leN 2 m.ck.toNat++(m.dg++(m.cks.flatten++[])))),0):=by
  show tk (tN B 0) (tk 2 (B,0))=_
  rw[hN,a1,b1]
 unfold zac
 rw[show tXb B 0 96=tYb B 0 from if_neg hbad,show tXr B 0 96=tYr B 0 from if_neg hbad,show tXe B 0 96=tYe B 0 from if_neg hbad,hYb,hYs]
 generalize hS:((leN 8 m.ver++(leN 4 m.sz.toNat++(leN 2 m.ck.toNat++(m.dg++(m.cks.flatten++[])))),0):Rs)=S at *
 have hi:(tk 32 (m.dg++(m.cks.flatten++[]),(0:Int))).2=0:=by rw[i1]
 have hH:zjg (ub m.pr) S={ m with cks:=[] }:=by
  unfold zjg
  rw[c2,c1,d2,d1,f2,f1,zfv hi,i2,zsB,zch 8 _ (by have:=ok.ver; omega),zch 4 _ (by omega),zch 2 _ (by omega),Int.toNat_of_nonneg (by omega),Int.toNat_of_nonneg (by omega)]
 have h5:pS5 S=(m.cks.flatten++[],0):=by
  unfold pS5
  rw[c1,d1,f1,i1]
 have hN2:pN (zjg (ub m.pr) S)=m.cks.length:=by
  rw[hH]
  unfold pN
  show (min (cnt m.sz m.ck) 65).toNat=_
  rw[← g8]; omega
 have hM:pM (ub m.pr) S=m:=by
  unfold pM
  rw[hN2,h5,j2,hH]
  rfl
 have hF:pF (ub m.pr) S=([],0):=by
  unfold pF
  rw[hN2,h5,j1]
 unfold zrz
 rw[if_pos,hM]
 refine⟨?_,?_⟩
 ·rw[hF]; rfl
 ·rw[hM]; exact⟨g0,g1,g2,g3,g4,g5,g6,g7,g8,g9⟩
end J
set_option maxRecDepth 100000
namespace J
open Go Go.Ab
variable{H:Heap}{Γ Γ0 Γ2 Δ G L:List (Nat × Blk)}{K:VH}{v w x cv dv:Value}{xs ys zs bs b key ms:List Int}{j p q o n k mx:Nat}{e:Int}{cs cs':List Value}{l:List UInt8}{m a:Mf}{cks:List (List Int)}
theorem znp(h:RdB Γ v xs){i t:Nat}(hn:i≤t)(ht:t≤xs.length):∃ v',zJa 1 v (some (int i)) (some (int t)) none=some v'∧Inh v xs v' ((xs.take t).drop i):=by
 rcases h with⟨rfl,rfl⟩|⟨p,o,c,rfl,hc,_⟩
 ·have ht:t=0:=by simpa using ht
  subst ht
  have hi:i=0:=by omega
  subst hi
  exact⟨zva,rfl,.none⟩
 ·have he:∃ c',(c'=2∨c'=3)∧zJa 1 (sl p o xs.length c) (some (int i)) (some (int t)) none=some (sl p (o+i) (t - i) c'):=by
   rcases hc with rfl|rfl
   ·refine⟨2,.inl rfl,?_⟩
    unfold zJa
    simp only[bHi ht,zyk hn]
    simp[zWi,zfd]
   ·refine⟨cond (Nat.beq t xs.length) 3 2,by cases Nat.beq t xs.length <;> simp,?_⟩
    unfold zJa
    simp only[bHi ht,zyk hn]
    simp[zWi,zfd]
  obtain⟨c',hc',he⟩:=he
  refine⟨_,he,fun Γ' h=>?_⟩
  rcases h with⟨h,_⟩|⟨p',o',c'',heq,_,h⟩
  ·cases h
  cases heq
  have hlen:((xs.take t).drop i).length=t - i:=by rw[List.length_drop,List.length_take,Nat.min_eq_left ht]
  refine .inr ⟨p,o+i,c',by rw[hlen],hc',?_⟩
  rcases h with rfl|⟨j,b,h1,h2⟩
  ·exact .inl (by simp)
  ·refine .inr ⟨j,b,h1,?_⟩
   have:=congrArg (List.drop i) (congrArg (List.take t) h2)
   rw[List.take_take,Nat.min_eq_left ht,List.drop_take,List.drop_drop] at this
   rw[hlen,this,by8,by8,List.map_drop,List.map_take]
theorem Stay.app'(h:Stay Δ v):Stay (Γ++Δ) v:=by
 rcases h with h|⟨p,o,n,c,j,b,h1,h2,h3⟩
 ·exact .inl h
 ·exact .inr ⟨p,o,n,c,Γ.length+j,b,h1,zEa h2,h3⟩
theorem Stay.slice(h:Stay Γ v){lo hi:Option Value}(hs:zJa 1 v lo hi none=some w):Stay Γ w:=by
 rcases h with rfl|⟨p,o,n,c,j,b,rfl,h2,h3⟩
 ·unfold zJa at hs
  simp only at hs
  repeat' (split at hs)
  all_goals first|(cases hs; done)|(cases hs; exact .inl rfl)
 ·unfold zJa at hs
  simp only at hs
  repeat' (split at hs)
  all_goals first|(cases hs; done)|(cases hs; exact .inr ⟨p,_,_,_,j,b,rfl,h2,h3⟩)
def zkh(b:List Int):Int × Int:=
 if b.length < 4∨b.take 2≠[66,85] then (0,141) else if 2304 < leV ((b.take 4).drop 2)+36 then (0,141) else (((leV ((b.take 4).drop 2)+36:Nat):Int),0)
theorem zPs{ys:List Int}(hO:St H Γ)(hv:RdB Γ v xs)(hw:RdB Γ w ys)(hx:By xs)(hy:By ys)(hk:K (.bool (decide (xs=ys))) H):wCall P zHf [v,w] H K:=by
 apply zcm; unfold bytes_Equal
 refine zra (RdB.str hO hv) ?_
 refine zra (RdB.str hO hw) ?_
 refine zaa (show _=some (.bool (decide (xs=ys))) from ?_) hk
 show (zla P .eql 9 false).f (str (ob xs)) (str (ob ys))=_
 rw[zXy,zZu,decide_eq_decide.2 ⟨fun h=>zCA hx hy h,fun h=>by rw[h]⟩]
theorem zim{ys:List Int}(hO:St H Γ)(hv:RdB Γ v xs)(hw:RdB Γ w ys)(hx:By xs)(hy:By ys)(hl:ys.length≤xs.length)(hk:K (.bool (decide (xs.take ys.length=ys))) H):wCall P zmd [v,w] H K:=by
 apply zwi; unfold bytes_HasPrefix
 refine zra hv.lenSl ?_
 refine zra hw.lenSl ?_
 refine zaa zkj ?_
 refine zvn (by omega) ?_
 refine zra hw.lenSl ?_
 obtain⟨v',e1,i1⟩:=zxk hv hl
 refine zaa e1 ?_
 refine zPs hO (i1 _ hv) hw (fun x h=>hx x (List.mem_of_mem_take h)) hy ?_
 refine zaa (zSc (by omega)) ?_
 exact hk
theorem zDB(H:Heap):(zea P 22 2).f [(0,.int .u8 66),(1,.int .u8 85)] H=some (sl H.next 0 2 3,H.push (by8 [66,85])):=by kernel_rfl
theorem zvB{b:List Int}(hb:By b):leV ((b.take 4).drop 2) < 65536:=by
 have h1:=zzr ((b.take 4).drop 2) fun x hx=>hb x (List.mem_of_mem_take (List.mem_of_mem_drop hx))
 have h2:((b.take 4).drop 2).length≤2:=by rw[List.length_drop,List.length_take]; omega
 exact Nat.lt_of_lt_of_le h1 (Nat.pow_le_pow_right (n:=256) (by omega) h2)
set_option maxHeartbeats 1000000 in
theorem zsd(hO:St H Γ)(hv:RdB Γ v b)(hb:By b)(hl:b.length≤1000000)(hk:∀ H',St H' Γ→K (.tuple [int (zkh b).1,int (zkh b).2].toArray) H'):wCall P znb [v] H K:=by
 apply zWl; unfold zll
 refine zwa (fun l' H'=>l'=[v,.bool (decide (b.length < 4∨b.take 2≠[66,85]))]∧St H' Γ) ?_ ?_
 ·refine zra hv.lenSl ?_
  refine zaa zSa ?_
  refine zja (fun h=>?_) (fun h=>?_)
  ·refine zaa (zSc h) ?_
   exact⟨by rw[decide_eq_true (show b.length < 4∨b.take 2≠[66,85] from .inl (by omega))],hO⟩
  ·refine zxa hO (zDB _) ?_
   clear hO
   intro q H hO
   refine kp hO 0 rfl (by omega) ?_
   refine zim (ys:=[66,85]) hO hv.app (zVs 0 rfl (.inr rfl) rfl) hb (by intro x hx; simp at hx; omega) (by simp; omega) ?_
   refine zaa zWf ?_
   refine zaa (zsb h) ?_
   refine⟨?_,hO.left⟩
   show [v,Value.bool (!decide (b.take 2=[66,85]))]=_
   by_cases h2:b.take 2=[66,85]
   ·rw[decide_eq_true h2,decide_eq_false (show ¬ (b.length < 4∨b.take 2≠[66,85]) from fun h3=>by rcases h3 with h3|h3; omega; exact h3 h2)]; rfl
   ·rw[decide_eq_false h2,decide_eq_true (show (b.length < 4∨b.take 2≠[66,85]) from .inr h2)]; rfl
 clear hO
 rintro l' H ⟨rfl,hO⟩
 try simp only[zha,zia]
 unfold zkh at hk
 refine zja (fun h=>?_) (fun h=>?_)
 ·rw[if_pos h] at hk
  exact hk H hO
 ·rw[if_neg h] at hk
  obtain⟨v2,e2,i2⟩:=znp hv (i:=2) (t:=4) (by omega) (by omega)
  refine zaa e2 ?_
  refine zxr hO (i2 _ hv) ?_
  clear hO
  intro H p hO
  have hb2:By ((b.take 4).drop 2):=fun x hx=>hb x (List.mem_of_mem_take (List.mem_of_mem_drop hx))
  have hlt:=zvB hb
  refine zne (k:=2) (by omega) hO (zEa (k:=0) rfl) ((i2 _ hv).app) hb2 ?_
  clear hO
  intro H v3 hO i3
  have etk:tkB ((b.take 4).drop 2) 0 2=(b.take 4).drop 2:=by
   unfold tkB
   have:((b.take 4).drop 2).length=2:=by rw[List.length_drop,List.length_take]; omega
   rw[if_pos ⟨rfl,by omega⟩,List.take_of_length_le (by omega)]
  rw[etk]
  generalize leV ((b.take 4).drop 2)=N at *
  refine zra (zpz (k:=.u64) (by omega)) ?_
  refine zaa (v:=int ((N+36:Nat):Int)) (by rw[zZd (by omega) (by omega)]; rfl) ?_
  refine zaa zPc ?_
  replace hO:=hO.set_r.left
  refine zja (fun h2=>?_) (fun h2=>?_)
  ·rw[if_pos (by omega)] at hk
   exact hk H hO
  ·rw[if_neg (by omega)] at hk
   exact hk H hO
end J
set_option maxRecDepth 100000
namespace J
open Go Go.Ab
variable{H:Heap}{Γ Γ0 Γ2 Δ G L:List (Nat × Blk)}{K:VH}{v w x cv dv:Value}{xs ys zs bs b key ms:List Int}{j p q o n k mx:Nat}{e:Int}{cs cs':List Value}{l:List UInt8}{m a:Mf}{cks:List (List Int)}
def headA(m:Mf):List Int:=[66,85]++leN 2 (zdd m).length++zdd m
def zfe(key:List Int)(m:Mf):List Int:=headA m++zNu key (headA m)
theorem zIr(ok:m.Ok)(h:zUa m):(zdd m).length=m.pr.length+48+32 * m.cks.length∧m.pr.length≤96∧m.cks.length≤64:=by
 have h1:=zXu m.cks ok.cl
 have h2:=zHr h.1
 have h3:=h.2.2.2.2.2.2.2.2.2
 rw[zYj h]
 refine⟨?_,h2,h3⟩
 simp only[MB,txB,List.length_append,zpd,zBh,ok.dl,h1]
 omega
theorem zDA(h:¬ zUa m):zdd m=[]:=if_neg h
theorem zdh{k b:List Int}:(zNu k b).length=32:=rfl
theorem ziv{k b:List Int}:By (zNu k b):=zOu
theorem zJr(ok:m.Ok):By (headA m):=zGd (zGd (by intro x hx; simp at hx; omega) (zlp _ _)) (zev ok)
theorem zNl(ok:m.Ok)(h:zUa m):(headA m).length=m.pr.length+52+32 * m.cks.length:=by
 have:=(zIr ok h).1
 simp only[headA,List.length_append,zpd,this,List.length_cons,List.length_nil]
 omega
set_option maxHeartbeats 1000000 in
theorem zjv(ok:m.Ok)(hO:St H Γ)(hv:RdB Γ v key)(hc:RdH Γ cv m.cks)(hb:By key)(hl:key.length≤1000000)
  (hk0:¬ zUa m→∀ H',St H' Γ→K (.tuple [zva,int 131].toArray) H')
  (hk1:zUa m→∀ H' v' cs',St H' (Γ++zGb v' cs')→OwnB v' (zfe key m) cs'→K (.tuple [v',int 0].toArray) H'):wCall P zKh [v,agg (mfC m cv)] H K:=by
 apply zRo; unfold zQo
 rw[zud]
 refine nw hO.z ?_
 clear hO
 intro p3 H hO
 refine lw hO 0 rfl (zMa ok.dl) (by omega) ?_
 refine zLs ok hc.app hO ?_
 clear hO
 intro H v1 c1 hO o1
 refine zra o1.lenSl ?_
 refine zaa zNd ?_
 by_cases hr:zUa m
 ·obtain⟨b1,b2,b3⟩:=zIr ok hr
  have hal:=zNl ok hr
  refine zQj (by omega) ?_
  refine zxa hO (zDB _) ?_
  clear hO
  intro q H hO
  refine kp hO 0 rfl (by omega) ?_
  replace hO:=hO.as
  rw[List.append_assoc] at hO
  refine zra o1.lenSl ?_
  refine zra (zRA (by omega) (by omega)) ?_
  rw[Int.toNat_natCast]
  have hO':St H ((Γ++([(p3,(⟨mfC m cv,true⟩:Blk))]++zGb v1 c1))++[(q,⟨by8 [66,85],true⟩)]):=by
   rw[List.append_assoc,List.append_assoc]; exact hO
  refine zah (size:=2) hO' (xs:=[66,85]) (zVs 0 rfl (.inr rfl) rfl) (by simp) (by omega) (by omega) ?_
  clear hO hO'
  intro H v2 c2 hO o2
  obtain⟨a1,n1,k1,s1⟩:=o1.rd.shape
  refine zxa hO (by rw[s1]; exact zvr _ _ _ _) ?_
  rw[← s1]
  clear hO
  intro q2 H hO
  have hr1:RdB (Γ++([(p3,(⟨mfC m cv,true⟩:Blk))]++zGb v1 c1)) v1 (zdd m):=o1.rd.app'.app'
  refine zHw (x:=v1) (ys:=zdd m) hO (o2.rd.app'.app) ⟨q2,3,_+0,true,rfl,zEa rfl⟩ (hr1.app.app.app) (by simp[zpd]; omega) ?_
  clear hO
  intro H v3 c3 hO o3
  obtain⟨a3,n3,k3,s3⟩:=o3.rd.shape
  refine zxa hO (by rw[s3]; exact zvr _ _ _ _) ?_
  rw[← s3]
  clear hO
  intro q3 H hO
  replace o3:OwnB v3 (headA m) c3:=o3
  refine zIl (x:=v3) (ms:=headA m) hO (hv.app.app.app.app.app.app) (zEa (k:=0) rfl) (o3.rd.app'.app) hb (zJr ok) (by omega) (by omega) ?_
  clear hO
  intro H hO
  replace hO:=hO.left
  replace hO:St H (Γ++zGb v3 c3):=by
   have h0:=hO
   rw[List.append_assoc,List.append_assoc,List.append_assoc,List.append_assoc] at h0
   exact h0.sub (List.Sublist.append (List.Sublist.refl _) (by
    rw[← List.append_assoc,← List.append_assoc,← List.append_assoc]
    exact List.sublist_append_right _ _))
  rw[zcH]
  refine zyb hO ?_
  clear hO
  intro p8 H hO
  refine zLa hO (_+0) (zEa rfl) (by simp[z32]) (by simp[zdh]) (zQf _) ?_
  clear hO
  intro H hO
  replace hO:=hO.set_r
  refine zaa (zdf hO (_+0) (zEa rfl) (by omega) (by simp[zdh])) ?_
  refine zcf (ys:=zNu key (headA m)) hO o3 (by rw[zdh]; omega) (by rw[zdh]) (.inr rfl) ?_
  clear hO
  intro H v4 c4 hO o4
  exact hk1 hr H v4 c4 hO o4
 ·rw[zDA hr]
  refine zvn (by simp) ?_
  exact hk0 hr H hO.left.left
end J
set_option maxRecDepth 100000
namespace J
open Go Go.Ab
variable{H:Heap}{Γ Γ0 Γ2 Δ G L:List (Nat × Blk)}{K:VH}{v w x cv dv:Value}{xs ys zs bs b key ms:List Int}{j p q o n k mx:Nat}{e:Int}{cs cs':List Value}{l:List UInt8}{m a:Mf}{cks:List (List Int)}
theorem zQs(b:List Int):zkh b=(0,141)∨∃ n:Nat,zkh b=((n:Int),0)∧36≤n∧n≤2304∧4≤b.length∧b.take 2=[66,85]∧n=leV ((b.take 4).drop 2)+36:=by
 unfold zkh
 split
 ·exact .inl rfl
 ·split
  ·exact .inl rfl
  ·rename_i h1 h2
   refine .inr ⟨_,rfl,by omega,by omega,by omega,?_,rfl⟩
   exact Classical.not_not.1 fun h=>h1 (.inr h)
def zOl(key b:List Int):Mf × Int × Int:=
 if (zkh b).2≠0∨(b.length:Int) < (zkh b).1 then (m0,0,141)
 else if zNu key (b.take ((zkh b).1.toNat - 32))≠(b.take (zkh b).1.toNat).drop ((zkh b).1.toNat - 32) then (m0,0,142)
 else if (zac ((b.take ((zkh b).1.toNat - 32)).drop 4)).2≠0 then (m0,0,(zac ((b.take ((zkh b).1.toNat - 32)).drop 4)).2)
 else ((zac ((b.take ((zkh b).1.toNat - 32)).drop 4)).1,(zkh b).1,0)
theorem zkv{n:Nat}(h:zkh b=((n:Int),0))(h2:n≤b.length):zOl key b=if zNu key (b.take (n - 32))≠(b.take n).drop (n - 32) then (m0,0,142)
 else if (zac ((b.take (n - 32)).drop 4)).2≠0 then (m0,0,(zac ((b.take (n - 32)).drop 4)).2)
 else ((zac ((b.take (n - 32)).drop 4)).1,(n:Int),0):=by
 unfold zOl; rw[h]
 rw[if_neg (by simp; omega)]
 simp only[Int.toNat_natCast]
theorem RdH.nil:RdH Γ zva []:=.inl ⟨rfl,rfl⟩
theorem By.take{n:Nat}(h:By b):By (b.take n):=fun x hx=>h x (List.mem_of_mem_take hx)
theorem By.drop{n:Nat}(h:By b):By (b.drop n):=fun x hx=>h x (List.mem_of_mem_drop hx)
theorem zlv{b:List Int}(hb:By b)(hl:b.length≤9000):(zac b).1.Ok:=by
 unfold zac zrz
 split
 ·have h1:∀ (xs:List Int) (e:Int) (n:Nat),(tkB xs e n).length≤xs.length:=fun xs e n=>by
   unfold tkB
   split
   ·rw[List.length_take]; omega
   ·simp
  have hb1:By (tXr b 0 96,tXe b 0 96).1:=by
   show By (tXr b 0 96)
   unfold tXr tYr
   split
   ·intro x h; cases h
   ·exact zhp (zhp hb _ _) _ _
  have hN:pN (zjg (tXb b 0 96) (tXr b 0 96,tXe b 0 96))≤65:=by unfold pN; omega
  refine zHx hb1 ?_ (by omega) (zSe (zSe (zSe (zSe hb1))))
  unfold tXb tYb
  split
  ·simp
  ·have:=h1 (tkR b 0 2) (tkE b 0 2) (tN b 0)
   have:=zLl b 0 2
   omega
 ·exact zBA
set_option maxHeartbeats 4000000 in
theorem zmv(hO:St H Γ)(hv:RdB Γ v key)(hw:RdB Γ w b)(hb:By key)(hbb:By b)(hl:key.length≤1000000)(hl2:b.length≤1000000)
  (hk:∀ H' cv,St H' (Γ++zGb cv (hsC (zOl key b).1.cks))→RdH (zGb cv (hsC (zOl key b).1.cks)) cv (zOl key b).1.cks→K (.tuple [agg (mfC (zOl key b).1 cv),int (zOl key b).2.1,int (zOl key b).2.2].toArray) H'):wCall P zJh [v,w] H K:=by
 apply zPo; unfold zOo
 rw[zcM]
 refine nw hO.z ?_
 clear hO
 intro p4 H hO
 replace hO:St H (Γ++[(p4,⟨mfC m0 zva,true⟩)]):=hO
 refine zsd hO hw.app hbb hl2 ?_
 clear hO
 intro H hO
 refine zaa zsx ?_
 refine zaa ztx ?_
 refine zwa (fun l' H'=>l'=[v,w,ptr p4 0,int (zkh b).1,.bool (decide ((zkh b).2≠0∨(b.length:Int) < (zkh b).1))]∧H=H') ?_ ?_
 ·refine zaa zAc ?_
  refine zja (fun h=>?_) (fun h=>?_)
  ·refine zaa (zSc h) ?_
   exact⟨by rw[decide_eq_true (show (zkh b).2≠0∨(b.length:Int) < (zkh b).1 from .inl h)],rfl⟩
  ·refine zra hw.lenSl ?_
   refine zaa zSa ?_
   refine zaa (zsb h) ?_
   exact⟨by rw[decide_eq_decide.2 (show (b.length:Int) < (zkh b).1↔((zkh b).2≠0∨(b.length:Int) < (zkh b).1) from⟨.inr,fun h2=>h2.resolve_left h⟩)],rfl⟩
 rintro l' H' ⟨rfl,rfl⟩
 try simp only[zha,zia]
 refine zja (fun h=>?_) (fun h=>?_)
 ·have ho:zOl key b=(m0,0,141):=if_pos h
  rw[ho] at hk
  refine zaa bM0 ?_
  refine sw hO 0 rfl (by rfl) (by rfl) (zqd rfl) ?_
  clear hO
  intro H hO
  refine lw hO 0 rfl (by rfl) (by omega) ?_
  exact hk H zva hO.left.z RdH.nil
 ·rcases zQs b with h0|⟨N,h0,g1,g2,g3,g4,g5⟩
  ·exact absurd (.inl (by rw[h0]; simp)) h
  have hN:N≤b.length:=by
   have:¬ (b.length:Int) < (zkh b).1:=fun h'=>h (.inr h')
   rw[h0] at this
   simpa using this
  rw[zkv h0 hN] at hk
  rw[h0]
  have e32:((N:Int) - 32)=((N - 32:Nat):Int):=by omega
  refine zaa (v:=int ((N - 32:Nat):Int)) (by rw[← e32]; exact zae (by omega) (by omega)) ?_
  obtain⟨v1,e1,i1⟩:=zxk hw (n:=N - 32) (by omega)
  refine zaa e1 ?_
  refine zaa (v:=int ((N - 32:Nat):Int)) (by rw[← e32]; exact zae (by omega) (by omega)) ?_
  obtain⟨v2,e2,i2⟩:=znp hw (i:=N - 32) (t:=N) (by omega) hN
  refine zaa e2 ?_
  rw[zcH]
  refine nw hO ?_
  clear hO
  intro p11 H hO
  replace hO:St H (Γ++[(p4,⟨mfC m0 zva,true⟩),(p11,⟨by8 z32,true⟩)]):=hO
  refine zaa (sar hO 1 rfl (by simp[z32]) (by omega)) ?_
  have htl:((b.take N).drop (N - 32)).length=32:=by rw[List.length_drop,List.length_take]; omega
  refine zAq hO (i:=Γ.length+1) (zEa rfl) (ys:=(b.take N).drop (N - 32)) ((i2 _ hw).app) (by omega) (by simp[z32]) ?_
  clear hO
  intro H hO
  replace hO:=hO.set_r
  rw[show (by8 z32).take 0++(by8 ((b.take N).drop (N - 32))++(by8 z32).drop (0+((b.take N).drop (N - 32)).length))=by8 ((b.take N).drop (N - 32)) by
   rw[List.drop_of_length_le (l:=by8 z32) (by rw[htl]; simp[z32])]; simp] at hO
  replace hO:St H (Γ++[(p4,⟨mfC m0 zva,true⟩),(p11,⟨by8 ((b.take N).drop (N - 32)),true⟩)]):=hO
  have hr1:=i1 _ hw
  have hp11:p11 < H.next:=hO.lt (p11,⟨by8 ((b.take N).drop (N - 32)),true⟩) (by simp)
  obtain⟨a1,n1,k1,s1'⟩:=hr1.shape
  have hts:By ((b.take N).drop (N - 32)):=By.drop (By.take hbb)
  have hps:By ((b.take (N - 32)).drop 4):=By.drop (By.take hbb)
  have hpl:((b.take (N - 32)).drop 4).length≤9000:=by rw[List.length_drop,List.length_take]; omega
  have hsl:(b.take (N - 32)).length=N - 32:=by rw[List.length_take]; omega
  have hsb:By (b.take (N - 32)):=By.take hbb
  obtain⟨v3,e3,i3⟩:=zyr hr1 (n:=4) (by omega)
  replace i3:=i3 _ hr1
  generalize (b.take N).drop (N - 32)=tail at *
  generalize (b.take (N - 32)).drop 4=inner at *
  generalize b.take (N - 32)=said at *
  refine zxa hO (by rw[s1']; exact zvr _ _ _ _) ?_
  rw[← s1']
  intro q2 H2 hO2
  refine zIl (x:=v1) (ms:=said) hO2 (hv.app.app) (zEa (k:=0) rfl) (hr1.app.app) hb hsb (by omega) (by omega) ?_
  intro H3 hO3
  refine zCa hO3 (Γ.length+1) (zZa (zEa rfl)) (show _=by8 tail from by rw[List.drop_zero]; exact List.take_of_length_le (by simp[htl])) (by simp[htl]) (by omega) ?_
  refine⟨zWb hO2 (Γ.length+1) (zZa (zEa rfl)) hO3 (Γ.length+1) (zZa (zEa rfl)) (zbh _),zgk hp11,?_⟩
  clear hO hO2
  refine zRn zdh htl ziv hts hO3 ?_
  clear hO3
  intro H hO
  replace hO:=hO.left
  refine zaa zWf ?_
  by_cases hm:zNu key said=tail
  ·rw[decide_eq_true hm]
   refine zgg rfl ?_
   rw[if_neg (fun h=>h hm)] at hk
   refine zaa e3 ?_
   refine zOs hO i3.app hps hpl ?_
   clear hO
   intro H c5 hO hrd
   refine zaa zsx ?_
   refine zaa ztx ?_
   have hpo:=zlv hps hpl
   have hpd:=hpo.dl
   rcases zmp inner with hz|hz
   ·rw[if_neg (fun h=>h hz)] at hk
    simp only at hk
    rw[hz]
    generalize (zac inner).1=M at *
    have hc1:oneCell c5=true:=hrd.one
    refine zyb hO ?_
    clear hO
    intro p12 H hO
    refine zLa hO (_+0) (zEa rfl) (by rfl) (zMa hpd) (zqd hc1) ?_
    clear hO
    intro H hO
    replace hO:=hO.set_r
    refine zaa zAc ?_
    refine zQj (by omega) ?_
    refine zlb hO (_+0) (zEa rfl) (zMa hpd) (by omega) ?_
    refine zLa hO (Γ.length+0) (zZa (zZa (zEa rfl))) (by rfl) (zMa hpd) (zqd hc1) ?_
    clear hO
    intro H hO
    rw[List.set_append_left _ _ (by simp),List.set_append_left _ _ (by simp),Go.Ab.set_r] at hO
    refine zlb hO (Γ.length+0) (zZa (zZa (zEa rfl))) (zMa hpd) (by omega) ?_
    exact hk H c5 (St.mid hO.left) hrd
   ·rw[hz,if_pos (by simp)] at hk
    rw[hz] at hO
    rw[hz]
    refine zyb hO ?_
    clear hO
    intro p12 H hO
    refine zLa hO (_+0) (zEa rfl) (by rfl) (by rfl) (zqd (by rw[hz] at hrd; exact hrd.one)) ?_
    clear hO
    intro H hO
    refine zaa zAc ?_
    refine zvn (by decide) ?_
    refine zaa bM0 ?_
    replace hO:=hO.set_r.left.left
    refine sw hO 0 rfl (by rfl) (by rfl) (zqd rfl) ?_
    clear hO
    intro H hO
    refine lw hO 0 rfl (by rfl) (by omega) ?_
    exact hk H zva hO.left.z RdH.nil
  ·rw[decide_eq_false hm]
   refine zaf rfl ?_
   rw[if_pos hm] at hk
   refine zaa bM0 ?_
   refine sw hO 0 rfl (by rfl) (by rfl) (zqd rfl) ?_
   clear hO
   intro H hO
   refine lw hO 0 rfl (by rfl) (by omega) ?_
   exact hk H zva hO.left.z RdH.nil
end J
