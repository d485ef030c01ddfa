/- texts of the proof, one behind the other -/
import Derived.Test.YtheklmekepeblaaGreatDoorUE
set_option linter.unusedVariables false
set_option linter.unusedSimpArgs false
set_option linter.unusedSectionVars false
set_option maxRecDepth 100000
namespace J
open Go Go.Ab
variable{H:Heap}{Γ Γ0 Γ2 Δ G L:List (Nat × Blk)}{K:VH}{v w x cv dv:Value}{xs ys zs bs b key ms:List Int}{j p q o n k mx:Nat}{e:Int}{cs cs':List Value}{l:List UInt8}{m a:Mf}{cks:List (List Int)}
abbrev Rs:=List Int × Int
def tk(n:Nat)(s:Rs):Rs:=(tkR s.1 s.2 n,tkE s.1 s.2 n)
def tb(n:Nat)(s:Rs):List Int:=tkB s.1 s.2 n
def hs(s:Rs):List Int:=hsh s.1 s.2
def tkn:Nat→Rs→Rs
 | 0,s=>s
 | n+1,s=>tk 32 (tkn n s)
def hsL:Nat→Rs→List (List Int)
 | 0,_=>[]
 | n+1,s=>hsL n s++[hs (tkn n s)]
def zPg(t:List Int)(s:Rs):Mf:=⟨ob t,leV (tb 8 s),(leV (tb 4 (tk 8 s)):Int),(leV (tb 2 (tk 4 (tk 8 s))):Int),hs (tk 2 (tk 4 (tk 8 s))),[]⟩
def pS5(s:Rs):Rs:=tk 32 (tk 2 (tk 4 (tk 8 s)))
def m0:Mf:=⟨[],0,0,0,z32,[]⟩
def zBi(h:Mf)(c:List (List Int)):Mf:={ h with cks:=c }
def pN(h:Mf):Nat:=(min (cnt h.sz h.ck) 65).toNat
def pM(t:List Int)(s:Rs):Mf:=zBi (zPg t s) (hsL (pN (zPg t s)) (pS5 s))
def pF(t:List Int)(s:Rs):Rs:=tkn (pN (zPg t s)) (pS5 s)
def pOk(t:List Int)(s:Rs):Prop:=zOy (pF t s).1 (pF t s).2=0∧zIa (pM t s)
instance (t:List Int) (s:Rs):Decidable (pOk t s):=by unfold pOk; exact inferInstance
def zmE(t:List Int)(s:Rs):Mf × Int:=if pOk t s then (pM t s,0) else (m0,131)
def zvc(b:List Int):Mf × Int:=zmE (tXb b 0 96) (tXr b 0 96,tXe b 0 96)
theorem zOf{s:Rs}(h:By s.1){n:Nat}:By (tk n s).1:=zqn h _ _
theorem zRt{s:Rs}{n:Nat}:(tk n s).1.length≤s.1.length:=zwp _ _ _
theorem znE{s:Rs}(h:By s.1):∀ n,By (tkn n s).1
 | 0=>h
 | n+1=>zOf (znE h n)
theorem zZA{s:Rs}:∀ n,(tkn n s).1.length≤s.1.length
 | 0=>Nat.le_refl _
 | n+1=>Nat.le_trans zRt (zZA n)
theorem zjs{s:Rs}:∀ n,(hsL n s).length=n
 | 0=>rfl
 | n+1=>by show (hsL n s++[_]).length=_; rw[List.length_append,zjs n]; rfl
theorem zoE{s:Rs}:∀ n,∀ x ∈ hsL n s,x.length=32
 | 0,_,h=>by cases h
 | n+1,x,h=>by
  rcases List.mem_append.1 (show x ∈ hsL n s++[hs (tkn n s)] from h) with h|h
  ·exact zoE n x h
  ·rw[List.mem_singleton.1 h]; exact zch
theorem zpE{s:Rs}(hb:By s.1):∀ n,∀ x ∈ hsL n s,By x
 | 0,_,h=>by cases h
 | n+1,x,h=>by
  rcases List.mem_append.1 (show x ∈ hsL n s++[hs (tkn n s)] from h) with h|h
  ·exact zpE hb n x h
  ·rw[List.mem_singleton.1 h]; exact zlE (znE hb n)
theorem zmy{s:Rs}(hb:By s.1)(k:Nat):leV (tb k s) < 256 ^ k:=zkE hb s.2
theorem zqE{t:List Int}{s:Rs}(hb:By s.1)(ht:t.length≤10000){n:Nat}(hn:n≤10000){s5:Rs}(h5:By s5.1):(zBi (zPg t s) (hsL n s5)).Ok:=by
 have h8:=zmy hb 8
 have h4:=zmy (s:=tk 8 s) (zOf hb) 4
 have h2:=zmy (s:=tk 4 (tk 8 s)) (zOf (zOf hb)) 2
 refine⟨zch,zlE (zOf (zOf (zOf hb))),zoE n,zpE h5 n,h8,?_,?_,?_,?_⟩
 ·show -9223372036854775808≤((leV (tb 4 (tk 8 s)):Nat):Int)∧((leV (tb 4 (tk 8 s)):Nat):Int)≤9223372036854775807
  omega
 ·show -9223372036854775808≤((leV (tb 2 (tk 4 (tk 8 s))):Nat):Int)∧((leV (tb 2 (tk 4 (tk 8 s))):Nat):Int)≤9223372036854775807
  omega
 ·show (hsL n s5).length≤_
  rw[zjs]; exact hn
 ·show (ob t).length≤_
  simpa [ob] using ht
theorem zny:m0.Ok:=⟨rfl,zIt,(by intro x h; cases h),(by intro x h; cases h),by decide,by decide,by decide,by decide,by decide⟩
theorem zcM:zc P 52=mfC m0 zwa:=by kernel_rfl
theorem bM0:(zDa P 52).f []=some (agg (mfC m0 zwa)):=by kernel_rfl
theorem bM4(s:ByteArray)(n:Nat)(x y:Int):(zDa P 52).f [(0,.string s),(1,zwb .u64 n),(2,int x),(3,int y)]=some (agg (mfC ⟨s.data.toList,n,x,y,z32,[]⟩ zwa)):=by kernel_rfl
theorem zXI(a0 a1 a2 a3 a4 a5 a6 a7 a8 a9 a10 a11 a12 a13 a14 a15 a16 a17 a18 a19 a20 a21 a22 a23 a24 a25 a26 a27 a28 a29 a30 a31:Int)(H:Heap):(zia P 50 1).f [(0,.agg #[(.int .u8 a0),(.int .u8 a1),(.int .u8 a2),(.int .u8 a3),(.int .u8 a4),(.int .u8 a5),(.int .u8 a6),(.int .u8 a7),(.int .u8 a8),(.int .u8 a9),(.int .u8 a10),(.int .u8 a11),(.int .u8 a12),(.int .u8 a13),(.int .u8 a14),(.int .u8 a15),(.int .u8 a16),(.int .u8 a17),(.int .u8 a18),(.int .u8 a19),(.int .u8 a20),(.int .u8 a21),(.int .u8 a22),(.int .u8 a23),(.int .u8 a24),(.int .u8 a25),(.int .u8 a26),(.int .u8 a27),(.int .u8 a28),(.int .u8 a29),(.int .u8 a30),(.int .u8 a31)])] H=some (sl H.next 0 1 65,H.push [(.int .u8 a0),(.int .u8 a1),(.int .u8 a2),(.int .u8 a3),(.int .u8 a4),(.int .u8 a5),(.int .u8 a6),(.int .u8 a7),(.int .u8 a8),(.int .u8 a9),(.int .u8 a10),(.int .u8 a11),(.int .u8 a12),(.int .u8 a13),(.int .u8 a14),(.int .u8 a15),(.int .u8 a16),(.int .u8 a17),(.int .u8 a18),(.int .u8 a19),(.int .u8 a20),(.int .u8 a21),(.int .u8 a22),(.int .u8 a23),(.int .u8 a24),(.int .u8 a25),(.int .u8 a26),(.int .u8 a27),(.int .u8 a28),(.int .u8 a29),(.int .u8 a30),(.int .u8 a31)]):=by kernel_rfl
theorem zqJ(h:List Int)(hl:h.length=32)(H:Heap):(zia P 50 1).f [(0,agg (by8 h))] H=some (sl H.next 0 1 65,H.push (by8 h)):=by
 match h,hl with
 | [a0,a1,a2,a3,a4,a5,a6,a7,a8,a9,a10,a11,a12,a13,a14,a15,a16,a17,a18,a19,a20,a21,a22,a23,a24,a25,a26,a27,a28,a29,a30,a31],_=>exact zXI a0 a1 a2 a3 a4 a5 a6 a7 a8 a9 a10 a11 a12 a13 a14 a15 a16 a17 a18 a19 a20 a21 a22 a23 a24 a25 a26 a27 a28 a29 a30 a31 H
theorem zqD{h:Mf}{d:List Int}(hd:h.dg.length=32)(hl:d.length=32):(mfC h cv).take (0+4)++(zBa (agg (by8 d))++(mfC h cv).drop (0+4+32))=mfC { h with dg:=d } cv:=by
 show [str h.pr,zwb .u64 h.ver,int h.sz,int h.ck]++(by8 d++(by8 h.dg++[cv]).drop 32)=_
 rw[List.drop_append_of_le_length (by simp[hd]),List.drop_of_length_le (by simp[hd])]
 rfl
theorem zaB{h:Mf}(hd:h.dg.length=32):(mfC h cv).set (0+36) dv=mfC h dv:=by
 show str h.pr::zwb .u64 h.ver::int h.sz::int h.ck::(by8 h.dg++[cv]).set 32 dv=_
 rw[List.set_append_right _ _ (by simp[hd])]
 simp[hd]
 rfl
theorem zbB{l:List (List Int)}(h:Own 32 v l.length (hsC l)):RdH (zRa v (hsC l)) v l:=by
 rcases h with⟨rfl,h0,_⟩|⟨p,rfl|rfl,_⟩
 ·exact .inl ⟨rfl,List.length_eq_zero_iff.1 h0⟩
 ·exact .inr ⟨p,_,0,true,rfl,rfl⟩
 ·exact .inr ⟨p,_,0,true,rfl,rfl⟩
theorem zks{l:List (List Int)}{x:List Int}:hsC (l++[x])=hsC l++by8 x:=by simp[hsC]
theorem zJm{size n:Nat}(h:Own size v n cs):zrb v=true∧oneCell v=true:=by
 rcases h with⟨rfl,_⟩|⟨p,rfl|rfl,_⟩ <;> exact⟨rfl,rfl⟩
set_option maxHeartbeats 4000000 in
theorem zoy(hO:St H Γ)(hv:RdB Γ v b)(hb:By b)(hx:b.length≤9000)
  (hk:∀ H' cv,St H' (Γ++zRa cv (hsC (zvc b).1.cks))→RdH (zRa cv (hsC (zvc b).1.cks)) cv (zvc b).1.cks→K (.tuple [agg (mfC (zvc b).1 cv),int (zvc b).2].toArray) H'):wCall P zMd [v] H K:=by
 apply zzm; unfold zuk
 rw[zcM]
 refine nw hO.z ?_
 clear hO
 intro p2 H hO
 refine zJw hO hv.app ?_
 clear hO
 intro H p7 hO
 replace hO:St H (Γ++[(p2,⟨mfC m0 zwa,true⟩),(p7,rdr v 0)]):=hO.as
 have htl:(tXb b 0 96).length≤10000:=by
  unfold tXb tYb
  split
  ·simp
  ·have h1:∀ (xs:List Int) (e:Int) (n:Nat),(tkB xs e n).length≤xs.length:=fun xs e n=>by
    unfold tkB
    split
    ·rw[List.length_take]; omega
    ·simp
   have:=h1 (tkR b 0 2) (tkE b 0 2) (tN b 0)
   have:=zwp b 0 2
   omega
 refine zly (mx:=96) hO (zza (k:=1) rfl) hv.app hb (by omega) ?_
 clear hO
 intro H v1 hO i1
 replace hO:St H (Γ++[(p2,⟨mfC m0 zwa,true⟩),(p7,rdr v1 (tXe b 0 96))]):=hO.set_r
 replace hv:=i1 _ hv
 have hb1:By (tXr b 0 96):=by
  unfold tXr tYr
  split
  ·intro x h; cases h
  ·exact zqn (zqn hb _ _) _ _
 have hl1:(tXr b 0 96).length≤b.length:=by
  unfold tXr tYr
  split
  ·simp
  ·exact Nat.le_trans (zwp _ _ _) (zwp _ _ _)
 unfold zvc at hk
 replace hO:St H (Γ++[(p2,⟨mfC m0 zwa,true⟩),(p7,rdr v1 (tXr b 0 96,tXe b 0 96).2)]):=hO
 replace hv:RdB Γ v1 (tXr b 0 96,tXe b 0 96).1:=hv
 replace hb1:By (tXr b 0 96,tXe b 0 96).1:=hb1
 replace hl1:(tXr b 0 96,tXe b 0 96).1.length≤b.length:=hl1
 generalize tXb b 0 96=t at *
 generalize ((tXr b 0 96,tXe b 0 96):Rs)=s at *
 clear i1 hb
 have h8:=zmy hb1 8
 refine zhg (k:=8) (by omega) hO (zza (k:=1) rfl) hv.app hb1 ?_
 clear hO
 intro H v2 hO i2
 replace hO:St H (Γ++[(p2,⟨mfC m0 zwa,true⟩),(p7,rdr v2 (tk 8 s).2)]):=hO.set_r
 replace hv:RdB Γ v2 (tk 8 s).1:=i2 _ hv
 have h4:=zmy (s:=tk 8 s) (zOf hb1) 4
 refine zhg (k:=4) (by omega) hO (zza (k:=1) rfl) hv.app (zOf hb1) ?_
 clear hO i2
 intro H v3 hO i3
 replace hO:St H (Γ++[(p2,⟨mfC m0 zwa,true⟩),(p7,rdr v3 (tk 4 (tk 8 s)).2)]):=hO.set_r
 replace hv:RdB Γ v3 (tk 4 (tk 8 s)).1:=i3 _ hv
 refine zxa (zCG (k:=.u64) (show leV (tb 4 (tk 8 s))≤_ by omega)) ?_
 have h2:=zmy (s:=tk 4 (tk 8 s)) (zOf (zOf hb1)) 2
 refine zhg (k:=2) (by omega) hO (zza (k:=1) rfl) hv.app (zOf (zOf hb1)) ?_
 clear hO i3
 intro H v4 hO i4
 replace hO:St H (Γ++[(p2,⟨mfC m0 zwa,true⟩),(p7,rdr v4 (tk 2 (tk 4 (tk 8 s))).2)]):=hO.set_r
 replace hv:RdB Γ v4 (tk 2 (tk 4 (tk 8 s))).1:=i4 _ hv
 refine zxa (zCG (k:=.u64) (show leV (tb 2 (tk 4 (tk 8 s)))≤_ by omega)) ?_
 refine zaa (bM4 _ _ _ _) ?_
 refine nw hO ?_
 clear hO i4
 intro p5 H hO
 refine sw hO 2 rfl (by rfl) (by rfl) (zlc rfl) ?_
 clear hO
 intro H hO
 replace hO:St H (Γ++[(p2,⟨mfC m0 zwa,true⟩),(p7,rdr v4 (tk 2 (tk 4 (tk 8 s))).2),(p5,⟨mfC ⟨ob t,leV (tb 8 s),(leV (tb 4 (tk 8 s)):Int),(leV (tb 2 (tk 4 (tk 8 s))):Int),z32,[]⟩ zwa,true⟩)]):=hO
 have hl4:(tk 2 (tk 4 (tk 8 s))).1.length≤9000:=Nat.le_trans zRt (Nat.le_trans zRt (Nat.le_trans zRt (by omega)))
 refine zQt hO (zza (k:=1) rfl) hv.app (by omega) ?_
 clear hO
 intro H v5 hO i5
 replace hO:St H (Γ++[(p2,⟨mfC m0 zwa,true⟩),(p7,rdr v5 (pS5 s).2),(p5,⟨mfC ⟨ob t,leV (tb 8 s),(leV (tb 4 (tk 8 s)):Int),(leV (tb 2 (tk 4 (tk 8 s))):Int),z32,[]⟩ zwa,true⟩)]):=hO.set_r
 replace hv:RdB Γ v5 (pS5 s).1:=i5 _ hv
 refine zaa zba ?_
 refine zLd hO (Γ.length+2) (zza rfl) (show (by8 (hsh _ _)).length=32 by rw[zoj]; exact zch) (by show 0+4+32≤(mfC _ _).length; rw[zta rfl]; omega) (zze _) ?_
 clear hO i5
 intro H hO
 rw[zqD rfl zch] at hO
 replace hO:St H (Γ++[(p2,⟨mfC m0 zwa,true⟩),(p7,rdr v5 (pS5 s).2),(p5,⟨mfC (zPg t s) zwa,true⟩)]):=hO.set_r
 have hd:(zPg t s).dg.length=32:=zch
 have hb5:By (pS5 s).1:=zOf (zOf (zOf (zOf hb1)))
 have hl5:(pS5 s).1.length≤9000:=Nat.le_trans zRt hl4
 refine zaa zba ?_
 refine ld hO 2 rfl (v:=int (zPg t s).sz) rfl ?_
 refine zaa zba ?_
 refine ld hO 2 rfl (v:=int (zPg t s).ck) rfl ?_
 have hsz0:(zPg t s).sz≤4294967295:=by show ((leV (tb 4 (tk 8 s)):Nat):Int)≤_; omega
 have hck0:(zPg t s).ck≤65535:=by show ((leV (tb 2 (tk 4 (tk 8 s))):Nat):Int)≤_; omega
 refine zWq (by omega) (by omega) ?_
 refine zxa zaA ?_
 have hc0:=zIm (s:=(zPg t s).sz) (c:=(zPg t s).ck)
 have hpn:pN (zPg t s)≤65:=by unfold pN; omega
 rw[show min (cnt (zPg t s).sz (zPg t s).ck) 65=((pN (zPg t s):Nat):Int) by unfold pN; omega]
 have hok:∀ n,n≤65→(zBi (zPg t s) (hsL n (pS5 s))).Ok:=fun n hn=>zqE hb1 htl (by omega) hb5
 have hkG:zOy (tkn (pN (zPg t s)) (pS5 s)).1 (tkn (pN (zPg t s)) (pS5 s)).2=0∧zIa (zBi (zPg t s) (hsL (pN (zPg t s)) (pS5 s)))→∀ H' cv,St H' (Γ++zRa cv (hsC (hsL (pN (zPg t s)) (pS5 s))))→RdH (zRa cv (hsC (hsL (pN (zPg t s)) (pS5 s)))) cv (hsL (pN (zPg t s)) (pS5 s))→K (.tuple [agg (mfC (zBi (zPg t s) (hsL (pN (zPg t s)) (pS5 s))) cv),int 0].toArray) H':=by
  intro h
  rw[show zmE t s=(pM t s,0) from if_pos h] at hk
  exact hk
 have hkB:¬ (zOy (tkn (pN (zPg t s)) (pS5 s)).1 (tkn (pN (zPg t s)) (pS5 s)).2=0∧zIa (zBi (zPg t s) (hsL (pN (zPg t s)) (pS5 s))))→∀ H',St H' Γ→K (.tuple [agg (mfC m0 zwa),int 131].toArray) H':=by
  intro h H' hO
  rw[show zmE t s=(m0,131) from if_neg h] at hk
  exact hk H' zwa hO.z (.inl ⟨rfl,rfl⟩)
 clear hk
 generalize pN (zPg t s)=N at *
 generalize zPg t s=h at *
 generalize pS5 s=s5 at *
 clear h8 h4 h2 hl4
 refine zjj (fun k l' H'=>∃ (y:Nat) (cv v:Value),y≤N∧k=N - y∧l'=[ptr p2 0,int 0,ptr p7 0,ptr p5 0,int N,int y]∧St H' ((Γ++[(p2,⟨mfC m0 zwa,true⟩),(p7,rdr v (tkn y s5).2),(p5,⟨mfC h cv,true⟩)])++zRa cv (hsC (hsL y s5)))∧Own 32 cv y (hsC (hsL y s5))∧RdB Γ v (tkn y s5).1) _ _ ?_ N _ _ ⟨0,zwa,v5,by omega,by omega,rfl,hO.z,.nil,hv⟩
 clear hO hv
 rintro k l' H ⟨y,cv,v,hy,rfl,rfl,hO,how,hv⟩
 unfold zyh
 try simp only[zja,zka]
 refine zaa zMa ?_
 refine zoa (fun hlt=>?_) (fun hlt=>?_)
 ·have hy:y < N:=by omega
  obtain⟨cs1,cs2⟩:=zJm how
  refine zaa zba ?_
  refine zpa hO (Γ.length+2) (zAa (zza rfl)) (zzf hd) ?_
  refine zQt hO (zAa (zza (k:=1) rfl)) hv.app.app (Nat.le_trans (zZA y) (by omega)) ?_
  intro H1 v6 hO1 i6
  rw[List.set_append_left _ _ (by simp),Go.Ab.set_r] at hO1
  replace hO1:St H1 ((Γ++[(p2,⟨mfC m0 zwa,true⟩),(p7,rdr v6 (tkn (y+1) s5).2),(p5,⟨mfC h cv,true⟩)])++zRa cv (hsC (hsL y s5))):=hO1
  refine⟨zFb hO (Γ.length+2) (zAa (zza rfl)) hO1 (Γ.length+2) (zAa (zza rfl)) (zce cs1),?_⟩
  clear hO
  refine zCa hO1 (zqJ _ zch _) ?_
  clear hO1
  intro q H hO
  refine zei hO how (by simp[zch]) (by omega) (zze _) (by omega) (by omega) ?_
  clear hO
  intro cv2 H hO how2
  replace hO:St H ((Γ++[(p2,⟨mfC m0 zwa,true⟩),(p7,rdr v6 (tkn (y+1) s5).2),(p5,⟨mfC h cv,true⟩)])++zRa cv2 (hsC (hsL (y+1) s5))):=by
   show St H (_++zRa cv2 (hsC (hsL y s5++[hs (tkn y s5)])))
   rw[zks]; exact hO
  replace how2:Own 32 cv2 (y+1) (hsC (hsL (y+1) s5)):=by
   show Own 32 cv2 (y+1) (hsC (hsL y s5++[hs (tkn y s5)]))
   rw[zks]; exact how2
  refine zaa zba ?_
  refine zZa hO (Γ.length+2) (zAa (zza rfl)) (zJm how2).2 (by rw[zta hd]; omega) (zaB hd) ?_
  clear hO
  intro H hO
  rw[List.set_append_left _ _ (by simp),Go.Ab.set_r] at hO
  repeat (first|refine oi ?_|refine ow ?_|refine wy ?_|refine wn ?_|refine wt ?_|refine wf' ?_|refine cy ?_|refine cn ?_)
  exact⟨N - (y+1),by omega,y+1,cv2,v6,by omega,rfl,rfl,hO,how2,i6 _ hv⟩
 ·have ey:y=N:=by omega
  subst ey
  refine zSa rfl ?_
  try simp only[zja,zka]
  have hll:=zjs (s:=s5) y
  have hrd:RdH (zRa cv (hsC (hsL y s5))) cv (zBi h (hsL y s5)).cks:=zbB (by rw[hll]; exact how)
  have oky:=hok y hpn
  refine zEa (fun l' H'=>l'=[ptr p2 0,ptr p5 0,.bool (decide (¬ (zOy (tkn y s5).1 (tkn y s5).2=0∧zIa (zBi h (hsL y s5)))))]∧St H' ((Γ++[(p2,⟨mfC m0 zwa,true⟩),(p7,rdr v (tkn y s5).2),(p5,⟨mfC h cv,true⟩)])++zRa cv (hsC (hsL y s5)))) ?_ ?_
  ·refine zWA hO (zAa (zza (k:=1) rfl)) hv.app.app ?_
   refine zaa zeb ?_
   refine zoa (fun h1=>?_) (fun h1=>?_)
   ·refine zaa (zub h1) ?_
    exact⟨by rw[decide_eq_true (show ¬ (zOy (tkn y s5).1 (tkn y s5).2=0∧zIa (zBi h (hsL y s5))) from fun h2=>h1 h2.1)],hO⟩
   ·refine zFa hO (Γ.length+2) (zAa (zza rfl)) (show _=mfC (zBi h (hsL y s5)) cv from by rw[List.drop_zero]; exact List.take_of_length_le (by rw[zta hd]; omega)) (zta hd) (by omega) ?_
    refine zJj oky hrd.app' hO ?_
    clear hO
    intro H hO
    refine zaa zJb ?_
    refine zaa (zsb h1) ?_
    refine⟨?_,hO⟩
    have h1':zOy (tkn y s5).1 (tkn y s5).2=0:=Classical.not_not.1 h1
    by_cases hr:zIa (zBi h (hsL y s5))
    ·rw[decide_eq_true hr,decide_eq_false (show ¬ ¬ (zOy (tkn y s5).1 (tkn y s5).2=0∧zIa (zBi h (hsL y s5))) from fun h2=>h2 ⟨h1',hr⟩)]; rfl
    ·rw[decide_eq_false hr,decide_eq_true (show ¬ (zOy (tkn y s5).1 (tkn y s5).2=0∧zIa (zBi h (hsL y s5))) from fun h2=>hr h2.2)]; rfl
  clear hO
  rintro l' H ⟨rfl,hO⟩
  try simp only[zja,zka]
  refine zoa (fun h1=>?_) (fun h1=>?_)
  ·refine zaa bM0 ?_
   replace hO:=hO.left
   refine sw hO 0 rfl (by rfl) (by rfl) (zlc rfl) ?_
   clear hO
   intro H hO
   refine lw hO 0 rfl (by rfl) (by omega) ?_
   exact hkB h1 H hO.left
  ·refine zFa hO (Γ.length+2) (zAa (zza rfl)) (show _=mfC (zBi h (hsL y s5)) cv from by rw[List.drop_zero]; exact List.take_of_length_le (by rw[zta hd]; omega)) (zta hd) (by omega) ?_
   refine zva hO (Γ.length+0) (zAa (zza rfl)) (by rfl) (zta hd) (zlc (zJm how).2) ?_
   clear hO
   intro H hO
   rw[List.set_append_left _ _ (by simp),Go.Ab.set_r] at hO
   refine zFa hO (Γ.length+0) (zAa (zza rfl)) (show _=mfC (zBi h (hsL y s5)) cv from by rw[List.drop_zero]; exact List.take_of_length_le (by rw[zta (m:=zBi h (hsL y s5)) hd]; omega)) (zta hd) (by omega) ?_
   exact hkG (Classical.not_not.1 h1) H cv (St.mid hO) hrd
end J
set_option maxRecDepth 100000
namespace J
open Go Go.Ab
variable{H:Heap}{Γ Γ0 Γ2 Δ G L:List (Nat × Blk)}{K:VH}{v w x cv dv:Value}{xs ys zs bs b key ms:List Int}{j p q o n k mx:Nat}{e:Int}{cs cs':List Value}{l:List UInt8}{m a:Mf}{cks:List (List Int)}
def Stay(Γ:List (Nat × Blk))(v:Value):Prop:=v=zwa∨∃ (p o n c j:Nat) (b:Blk),v=sl p o n c∧Γ[j]?=some (p,b)∧b.cells.all zrb=true∧(b.wr=true∨b.cells≠[])
theorem Stay.app(h:Stay Γ v):Stay (Γ++Δ) v:=by
 rcases h with h|⟨p,o,n,c,j,b,h1,h2,h3⟩
 ·exact .inl h
 ·exact .inr ⟨p,o,n,c,j,b,h1,zAa h2,h3⟩
theorem Stay.same{H':Heap}(h:Stay Γ v)(hO:St H Γ)(hO':St H' (Γ++Δ)):zmb (zkb H H') (zJa [v]):=by
 rcases h with rfl|⟨p,o,n,c,j,b,rfl,h2,h3,h4⟩
 ·rfl
 ·exact zFb (o:=o) hO j h2 hO' j (zAa h2) h3 h4
def hsK:Nat→Rs→Nat
 | 0,_=>0
 | f+1,s=>if s.1=[] then 0 else hsK f (tk 32 s)+1
theorem zSl{s:Rs}:∀ n,tkn n (tk 32 s)=tkn (n+1) s
 | 0=>rfl
 | n+1=>by show tk 32 (tkn n (tk 32 s))=_; rw[zSl n]; rfl
def rM(t:List Int)(s:Rs):Mf:=zBi (zPg t s) (hsL (hsK 65 (pS5 s)) (pS5 s))
def rOk(b t:List Int)(s:Rs):Prop:=(tkn (hsK 65 (pS5 s)) (pS5 s)).2=0∧zde (rM t s)=b∧b≠[]
instance (b t:List Int) (s:Rs):Decidable (rOk b t s):=by unfold rOk; exact inferInstance
def zyI(b t:List Int)(s:Rs):Mf × Int:=if rOk b t s then (rM t s,0) else (m0,131)
def zcB(b:List Int):Mf × Int:=zyI b (tYb b 0) (tYr b 0,tYe b 0)
theorem zNH{a b:List Int}(ha:By a)(hb:By b)(h:ob a=ob b):a=b:=by
 have h1:=zTA a ha
 have h2:=zTA b hb
 rw[← h1,← h2]
 exact congrArg ub h
theorem zSt(y n:Nat):By (leN y n):=by
 intro x hx
 obtain⟨i,_,rfl⟩:=List.mem_map.1 hx
 have:=Nat.mod_lt (n / 256 ^ i) (show 256 > 0 by decide)
 omega
theorem zUF:∀ {l:List (List Int)},(∀ x ∈ l,By x)→By l.flatten:=by
 intro l h x hx
 obtain⟨y,hy,hx⟩:=List.mem_flatten.1 hx
 exact h y hy x hx
theorem zdB(ok:m.Ok):By (zde m):=by
 unfold zde
 split
 ·exact zyd (zyd (zyd (zyd (zyd (zyd (zSt _ _) zTI) (zSt _ _)) (zSt _ _)) (zSt _ _)) ok.db) (zUF ok.cb)
 ·intro x h; cases h
end J
set_option maxRecDepth 100000
namespace J
open Go Go.Ab
variable{xs ys zs bs b t:List Int}{n:Nat}{e:Int}{l:List UInt8}{m:Mf}{s:Rs}
theorem zUw(k n:Nat):leN (k+1) n=((n % 256:Nat):Int)::leN k (n / 256):=by
 unfold leN
 rw[List.range_succ_eq_map,List.map_cons,List.map_map]
 congr 1
 ·simp
 ·refine List.map_congr_left fun i _=>?_
  show ((n / 256 ^ (i+1) % 256:Nat):Int)=_
  rw[Nat.pow_succ,Nat.mul_comm,Nat.div_div_eq_div_mul]
theorem zls:∀ (bs:List Int),By bs→leN bs.length (leV bs)=bs
 | [],_=>rfl
 | x::r,h=>by
  have hx:=h x List.mem_cons_self
  have ih:=zls r fun y hy=>h y (List.mem_cons_of_mem _ hy)
  show leN (r.length+1) (x.toNat+256 * leV r)=x::r
  rw[zUw,show (x.toNat+256 * leV r) / 256=leV r by omega,ih,show (x.toNat+256 * leV r) % 256=x.toNat by omega]
  congr 1; omega
theorem zKj:∀ (k n:Nat),n < 256 ^ k→leV (leN k n)=n
 | 0,n,h=>by simp at h; subst h; rfl
 | k+1,n,h=>by
  rw[zUw]
  show (((n % 256:Nat):Int)).toNat+256 * leV (leN k (n / 256))=n
  rw[zKj k (n / 256) (by rw[Nat.pow_succ] at h; omega)]
  omega
theorem zZc(h:(tk n s).2=0):s.2=0∧s.1=tb n s++(tk n s).1∧(tb n s).length=n:=by
 have hc:s.2=0∧n≤s.1.length:=by
  have h:tkE s.1 s.2 n=0:=h
  unfold tkE at h
  split at h
  ·assumption
  ·split at h
   ·omega
   ·contradiction
 refine⟨hc.1,?_,?_⟩
 ·show s.1=tkB s.1 s.2 n++tkR s.1 s.2 n
  unfold tkB tkR
  rw[if_pos hc,if_pos hc,List.take_append_drop]
 ·show (tkB s.1 s.2 n).length=n
  unfold tkB
  rw[if_pos hc,List.length_take]; omega
theorem zxp{a r:List Int}(h:a.length=n):tk n (a++r,0)=(r,0)∧tb n (a++r,0)=a:=by
 have hc:(0:Int)=0∧n≤(a++r).length:=⟨rfl,by rw[List.length_append]; omega⟩
 refine⟨?_,?_⟩
 ·show (tkR (a++r) 0 n,tkE (a++r) 0 n)=_
  unfold tkR tkE
  rw[if_pos hc,if_pos hc,← h,List.drop_left]
 ·show tkB (a++r) 0 n=a
  unfold tkB
  rw[if_pos hc,← h,List.take_left]
theorem zms(h:(tk 32 s).2=0):hs s=tb 32 s:=by
 obtain⟨h1,h2,h3⟩:=zZc h
 have hl:32≤s.1.length:=by
  have:=congrArg List.length h2
  rw[List.length_append,h3] at this; omega
 show hsh s.1 s.2=tkB s.1 s.2 32
 unfold hsh tkB
 rw[if_pos ⟨h1,hl⟩,if_pos ⟨h1,hl⟩]
theorem zTl:∀ n,(tkn n s).2=0→s.2=0∧s.1=(hsL n s).flatten++(tkn n s).1
 | 0,h=>⟨h,rfl⟩
 | n+1,h=>by
  obtain⟨h1,h2,h3⟩:=zZc (s:=tkn n s) (n:=32) h
  obtain⟨g1,g2⟩:=zTl n h1
  refine⟨g1,?_⟩
  show s.1=(hsL n s++[hs (tkn n s)]).flatten++(tkn (n+1) s).1
  rw[List.flatten_append,List.append_assoc,zms h]
  conv=>lhs; rw[g2,h2]
  simp; rfl
theorem zVw{s:Rs}:∀ n,hsL (n+1) s=hs s::hsL n (tk 32 s)
 | 0=>rfl
 | n+1=>by
  show hsL (n+1) s++[hs (tkn (n+1) s)]=hs s::(hsL n (tk 32 s)++[hs (tkn n (tk 32 s))])
  rw[zVw n,zSl n]; rfl
theorem zeB:∀ (cks:List (List Int)) (r:List Int),(∀ x ∈ cks,x.length=32)→tkn cks.length (cks.flatten++r,0)=(r,0)∧hsL cks.length (cks.flatten++r,0)=cks
 | [],r,_=>⟨rfl,rfl⟩
 | c::cs,r,h=>by
  obtain⟨i1,i2⟩:=zeB cs r fun x hx=>h x (List.mem_cons_of_mem _ hx)
  obtain⟨j1,j2⟩:=zxp (n:=32) (a:=c) (r:=cs.flatten++r) (h c List.mem_cons_self)
  rw[List.flatten_cons,List.append_assoc,List.length_cons,← zSl,zVw,j1,i1,i2,zms (by rw[j1]),j2]
  exact⟨rfl,rfl⟩
def MB(m:Mf):List Int:=txB m.pr++leN 8 m.ver++leN 4 m.sz.toNat++leN 2 m.ck.toNat++m.dg++m.cks.flatten
theorem zpj(h:zIa m):zde m=MB m:=if_pos h
theorem zYI:MB m≠[]:=by
 intro h
 have:=congrArg List.length h
 simp[MB,txB,zsd] at this
theorem zzI{s:Rs}{k:Nat}(h:(tk k s).2=0)(hb:By s.1):leN k (leV (tb k s))=tb k s:=by
 obtain⟨_,_,h3⟩:=zZc h
 have:=zls (tb k s) (zYA hb s.2 k)
 rw[h3] at this; exact this
theorem zrD{t:List Int}{s:Rs}{N:Nat}(hs1:By s.1)(ht:By t)(htl:t.length < 65536)(h:(tkn N (pS5 s)).2=0) :
  s.2=0∧leN 2 t.length++t++s.1=MB (zBi (zPg t s) (hsL N (pS5 s)))++(tkn N (pS5 s)).1:=by
 obtain⟨h5,e5⟩:=zTl N h
 have hb8:=zOf (n:=8) hs1
 have hb4:=zOf (n:=4) hb8
 have hb2:=zOf (n:=2) hb4
 obtain⟨h4,e4,l4⟩:=zZc (s:=tk 2 (tk 4 (tk 8 s))) (n:=32) h5
 obtain⟨h3,e3,l3⟩:=zZc (s:=tk 4 (tk 8 s)) (n:=2) h4
 obtain⟨h2,e2,l2⟩:=zZc (s:=tk 8 s) (n:=4) h3
 obtain⟨h1,e1,l1⟩:=zZc (s:=s) (n:=8) h2
 refine⟨h1,?_⟩
 have w8:=zzI (k:=8) h2 hs1
 have w4:=zzI (k:=4) h3 hb8
 have w2:=zzI (k:=2) h4 hb4
 have wh:hs (tk 2 (tk 4 (tk 8 s)))=tb 32 (tk 2 (tk 4 (tk 8 s))):=zms h5
 show _=(leN 2 (ob t).length++ub (ob t))++leN 8 (leV (tb 8 s))++leN 4 ((leV (tb 4 (tk 8 s)):Nat):Int).toNat++leN 2 ((leV (tb 2 (tk 4 (tk 8 s))):Nat):Int).toNat++hs (tk 2 (tk 4 (tk 8 s)))++(hsL N (pS5 s)).flatten++(tkn N (pS5 s)).1
 rw[Int.toNat_natCast,Int.toNat_natCast,w8,w4,w2,wh,show ub (ob t)=t from zTA t ht,show (ob t).length=t.length by simp[ob]]
 conv=>lhs; rw[e1,e2,e3,e4]
 rw[show (tk 32 (tk 2 (tk 4 (tk 8 s)))).1=(pS5 s).1 from rfl,e5]
 simp only[List.append_assoc]
theorem zfB:∀ (N f:Nat) (s:Rs),N≤f→(tkn N s).2=0→(tkn N s).1=[]→hsK f s=N
 | 0,f,s,_,_,h=>by
  cases f with
  | zero=>rfl
  | succ f=>unfold hsK; rw[if_pos (show s.1=[] from h)]
 | N+1,0,s,h,_,_=>by omega
 | N+1,f+1,s,hf,he,hr=>by
  rw[← zSl N] at he hr
  have ih:=zfB N f (tk 32 s) (by omega) he hr
  have h5:=(zTl N he).1
  obtain⟨_,g2,g3⟩:=zZc h5
  unfold hsK
  rw[if_neg,ih]
  intro h0
  rw[h0] at g2
  have:=congrArg List.length g2
  simp[g3] at this
  omega
theorem zWw:∀ (f:Nat) (s:Rs),hsK f s < f→(tkn (hsK f s) s).1=[]
 | 0,s,h=>by omega
 | f+1,s,h=>by
  unfold hsK at h ⊢
  split
  ·assumption
  ·rename_i h0
   rw[if_neg h0] at h
   have ih:=zWw f (tk 32 s) (by omega)
   rw[zSl] at ih; exact ih
theorem zgB:∀ (n:Nat) (l:List UInt8),l.length≤n→l.length≤4 * (zPt n l).length
 | 0,l,h=>by omega
 | n+1,l,h=>by
  unfold zPt
  split
  ·rename_i h0; rw[h0]; simp
  ·rename_i h0
   have hw:=zhs h0
   have hw4:wid l≤4:=by
    unfold wid
    split
    ·omega
    ·rename_i r hr; exact (zQA hr h0).2.1
   have ih:=zgB n (l.drop (wid l)) (by rw[List.length_drop]; omega)
   rw[List.length_drop] at ih
   rw[List.length_cons]; omega
theorem zeo(h:zRl l=0):l.length≤96:=by
 unfold zRl at h
 rw[← zjE] at h
 unfold nm4 at h
 split at h
 ·omega
 ·have:=zgB l.length l (Nat.le_refl _)
  rw[show zPt l.length l=zws l from rfl] at this
  omega
theorem zhB(h:zOy xs e=0):e=0∧xs=[]:=by
 unfold zOy at h
 split at h
 ·omega
 ·rename_i h0
  subst h
  exact⟨rfl,by cases xs with
   | nil=>rfl
   | cons a r=>exact absurd ⟨rfl,by simp⟩ h0⟩
theorem ziB(hb:By b)(h:tYe b 0=0):leN 2 (tYb b 0).length++tYb b 0++tYr b 0=b∧(tYb b 0).length=tN b 0∧tkE b 0 2=0:=by
 obtain⟨h1,h2,h3⟩:=zZc (s:=(tkR b 0 2,tkE b 0 2)) (n:=tN b 0) h
 obtain⟨g1,g2,g3⟩:=zZc (s:=(b,0)) (n:=2) h1
 have h3':(tYb b 0).length=tN b 0:=h3
 refine⟨?_,h3',h1⟩
 have hw:=zzI (s:=(b,0)) (k:=2) h1 hb
 rw[h3',show tN b 0=leV (tb 2 (b,0)) from rfl,hw]
 have g2':b=tb 2 (b,0)++tkR b 0 2:=g2
 have h2':tkR b 0 2=tYb b 0++tYr b 0:=h2
 conv=>rhs; rw[g2',h2']
 rw[List.append_assoc]
theorem zsD(hb:By b):zvc b=zcB b:=by
 have hbt:By (tYb b 0):=zYA (zqn hb _ _) _ _
 have hbr:By (tYr b 0):=zqn (zqn hb _ _) _ _
 unfold zvc zcB
 by_cases hp:pOk (tXb b 0 96) (tXr b 0 96,tXe b 0 96)
 ·-- the program reads it
  have hp':=hp
  obtain⟨h1,h2⟩:=hp'
  obtain⟨h3,h4⟩:=zhB h1
  have hbad:¬ zXA b 0 96:=by
   intro hbad
   have:(tXr b 0 96,tXe b 0 96).2=0:=by
    have h5:=(zTl _ h3).1
    exact (zZc (zZc (zZc (zZc h5).1).1).1).1
   have h6:tXe b 0 96=0:=this
   unfold tXe at h6
   rw[if_pos hbad] at h6
   omega
  have e1:tXb b 0 96=tYb b 0:=if_neg hbad
  have e2:tXr b 0 96=tYr b 0:=if_neg hbad
  have e3:tXe b 0 96=tYe b 0:=if_neg hbad
  rw[e1,e2,e3] at hp h1 h2 h3 h4 ⊢
  have htl:(tYb b 0).length < 65536:=by
   have h6:=zeo h2.1
   have:(ob (tYb b 0)).length≤96:=h6
   simp[ob] at this
   omega
  obtain⟨r1,r2⟩:=zrD (t:=tYb b 0) (s:=(tYr b 0,tYe b 0)) hbr hbt htl h3
  obtain⟨q1,q2,q3⟩:=ziB hb r1
  have hN:pN (zPg (tYb b 0) (tYr b 0,tYe b 0))≤65:=by unfold pN; omega
  have hK:hsK 65 (pS5 (tYr b 0,tYe b 0))=pN (zPg (tYb b 0) (tYr b 0,tYe b 0)):=zfB _ _ _ hN h3 h4
  have hM:rM (tYb b 0) (tYr b 0,tYe b 0)=pM (tYb b 0) (tYr b 0,tYe b 0):=by unfold rM pM; rw[hK]
  have hF:(tkn (hsK 65 (pS5 (tYr b 0,tYe b 0))) (pS5 (tYr b 0,tYe b 0)))=pF (tYb b 0) (tYr b 0,tYe b 0):=by unfold pF; rw[hK]
  have hbb:MB (pM (tYb b 0) (tYr b 0,tYe b 0))=b:=by
   have h4':(tkn (pN (zPg (tYb b 0) (tYr b 0,tYe b 0))) (pS5 (tYr b 0,tYe b 0))).1=[]:=h4
   rw[h4',List.append_nil] at r2
   exact r2.symm.trans q1
  have hr:rOk b (tYb b 0) (tYr b 0,tYe b 0):=by
   unfold rOk
   rw[hF,hM,zpj h2]
   exact⟨h3,hbb,by rw[← hbb]; exact zYI⟩
  unfold zmE zyI
  rw[if_pos hp,if_pos hr,hM]
 ·-- neither does the document
  have hr:¬ rOk b (tYb b 0) (tYr b 0,tYe b 0):=by
   rintro⟨h1,h2,h3⟩
   have hR:zIa (rM (tYb b 0) (tYr b 0,tYe b 0)):=by
    refine Classical.byContradiction fun h4=>h3 ?_
    rw[← h2]; unfold zde; rw[if_neg h4]
   have htl:(tYb b 0).length≤96:=by
    have h6:=zeo hR.1
    have:(ob (tYb b 0)).length≤96:=h6
    simpa [ob] using this
   have h5:=(zTl _ h1).1
   have hy:tYe b 0=0:=(zZc (zZc (zZc (zZc h5).1).1).1).1
   obtain⟨q1,q2,q3⟩:=ziB hb hy
   have hbad:¬ zXA b 0 96:=fun h=>by have:=h.2; omega
   have hlen:(rM (tYb b 0) (tYr b 0,tYe b 0)).cks.length=hsK 65 (pS5 (tYr b 0,tYe b 0)):=zjs _
   have hcnt:=hR.2.2.2.2.2.2.2.2.1
   have h64:=hR.2.2.2.2.2.2.2.2.2
   rw[hlen] at hcnt h64
   have hN:pN (zPg (tYb b 0) (tYr b 0,tYe b 0))=hsK 65 (pS5 (tYr b 0,tYe b 0)):=by
    have hcnt:(hsK 65 (pS5 (tYr b 0,tYe b 0)):Int)=cnt (zPg (tYb b 0) (tYr b 0,tYe b 0)).sz (zPg (tYb b 0) (tYr b 0,tYe b 0)).ck:=hcnt
    unfold pN
    rw[← hcnt]; omega
   have hrest:=zWw 65 (pS5 (tYr b 0,tYe b 0)) (by omega)
   refine hp ?_
   rw[show tXb b 0 96=tYb b 0 from if_neg hbad,show tXr b 0 96=tYr b 0 from if_neg hbad,show tXe b 0 96=tYe b 0 from if_neg hbad]
   refine⟨?_,?_⟩
   ·unfold pF
    rw[hN,hrest,h1]; rfl
   ·unfold pM
    rw[hN]; exact hR
  unfold zmE zyI
  rw[if_neg hp,if_neg hr]
theorem ztD(hb:By b){m:Mf}(h:zvc b=(m,0)):zIa m∧zde m=b:=by
 rw[zsD hb] at h
 unfold zcB zyI at h
 split at h
 ·rename_i hr
  cases h
  refine⟨?_,hr.2.1⟩
  refine Classical.byContradiction fun h4=>hr.2.2 ?_
  rw[← hr.2.1]; unfold zde; rw[if_neg h4]
 ·cases h
theorem zuD{b:List Int}(h:(zvc b).2≠0):zvc b=(m0,131):=by
 unfold zvc zmE at h ⊢
 split
 ·rename_i hp; rw[if_pos hp] at h; exact absurd rfl h
 ·rfl
theorem zrn(b:List Int):(zvc b).2=0∨zvc b=(m0,131):=by
 by_cases h:(zvc b).2=0
 ·exact .inl h
 ·exact .inr (zuD h)
theorem zEv(ok:m.Ok)(h:zIa m):zvc (zde m)=(m,0):=by
 rw[zpj h]
 obtain⟨g0,g1,g2,g3,g4,g5,g6,g7,g8,g9⟩:=h
 have hpl:=zeo g0
 have hbt:MB m=leN 2 m.pr.length++(ub m.pr++(leN 8 m.ver++(leN 4 m.sz.toNat++(leN 2 m.ck.toNat++(m.dg++(m.cks.flatten++[])))))):=by simp[MB,txB]
 rw[hbt]
 obtain⟨a1,a2⟩:=zxp (n:=2) (a:=leN 2 m.pr.length) (r:=ub m.pr++(leN 8 m.ver++(leN 4 m.sz.toNat++(leN 2 m.ck.toNat++(m.dg++(m.cks.flatten++[])))))) (zsd _ _)
 obtain⟨b1,b2⟩:=zxp (n:=m.pr.length) (a:=ub m.pr) (r:=leN 8 m.ver++(leN 4 m.sz.toNat++(leN 2 m.ck.toNat++(m.dg++(m.cks.flatten++[]))))) zBk
 obtain⟨c1,c2⟩:=zxp (n:=8) (a:=leN 8 m.ver) (r:=leN 4 m.sz.toNat++(leN 2 m.ck.toNat++(m.dg++(m.cks.flatten++[])))) (zsd _ _)
 obtain⟨d1,d2⟩:=zxp (n:=4) (a:=leN 4 m.sz.toNat) (r:=leN 2 m.ck.toNat++(m.dg++(m.cks.flatten++[]))) (zsd _ _)
 obtain⟨f1,f2⟩:=zxp (n:=2) (a:=leN 2 m.ck.toNat) (r:=m.dg++(m.cks.flatten++[])) (zsd _ _)
 obtain⟨i1,i2⟩:=zxp (n:=32) (a:=m.dg) (r:=m.cks.flatten++[]) ok.dl
 obtain⟨j1,j2⟩:=zeB m.cks [] ok.cl
 generalize hB:leN 2 m.pr.length++(ub m.pr++(leN 8 m.ver++(leN 4 m.sz.toNat++(leN 2 m.ck.toNat++(m.dg++(m.cks.flatten++[]))))))=B at *
 have hN:tN B 0=m.pr.length:=by
  show leV (tb 2 (B,0))=_
  rw[a2]; exact zKj 2 _ (by omega)
 have hE2:tkE B 0 2=0:=by
  have:(tk 2 (B,0)).2=0:=by rw[a1]
  exact this
 have hbad:¬ zXA B 0 96:=fun h=>by have:=h.2; omega
 have hYb:tYb B 0=ub m.pr:=by
  show tb (tN B 0) (tk 2 (B,0))=_
  rw[hN,a1,b2]
 have hYs:((tYr B 0,tYe B 0):Rs)=(leN 8 m.ver++(leN 4 m.sz.toNat++(leN 2 m.ck.toNat++(m.dg++(m.cks.flatten++[])))),0):=by
  show tk (tN B 0) (tk 2 (B,0))=_
  rw[hN,a1,b1]
 unfold zvc
 rw[show tXb B 0 96=tYb B 0 from if_neg hbad,show tXr B 0 96=tYr B 0 from if_neg hbad,show tXe B 0 96=tYe B 0 from if_neg hbad,hYb,hYs]
 generalize hS:((leN 8 m.ver++(leN 4 m.sz.toNat++(leN 2 m.ck.toNat++(m.dg++(m.cks.flatten++[])))),0):Rs)=S at *
 have hi:(tk 32 (m.dg++(m.cks.flatten++[]),(0:Int))).2=0:=by rw[i1]
 have hH:zPg (ub m.pr) S={ m with cks:=[] }:=by
  unfold zPg
  rw[c2,c1,d2,d1,f2,f1,zms hi,i2,zVI,zKj 8 _ (by have:=ok.ver; omega),zKj 4 _ (by omega),zKj 2 _ (by omega),Int.toNat_of_nonneg (by omega),Int.toNat_of_nonneg (by omega)]
 have h5:pS5 S=(m.cks.flatten++[],0):=by
  unfold pS5
  rw[c1,d1,f1,i1]
 have hN2:pN (zPg (ub m.pr) S)=m.cks.length:=by
  rw[hH]
  unfold pN
  show (min (cnt m.sz m.ck) 65).toNat=_
  rw[← g8]; omega
 have hM:pM (ub m.pr) S=m:=by
  unfold pM
  rw[hN2,h5,j2,hH]
  rfl
 have hF:pF (ub m.pr) S=([],0):=by
  unfold pF
  rw[hN2,h5,j1]
 unfold zmE
 rw[if_pos,hM]
 refine⟨?_,?_⟩
 ·rw[hF]; rfl
 ·rw[hM]; exact⟨g0,g1,g2,g3,g4,g5,g6,g7,g8,g9⟩
end J
set_option maxRecDepth 100000
namespace J
open Go Go.Ab
variable{H:Heap}{Γ Γ0 Γ2 Δ G L:List (Nat × Blk)}{K:VH}{v w x cv dv:Value}{xs ys zs bs b key ms:List Int}{j p q o n k mx:Nat}{e:Int}{cs cs':List Value}{l:List UInt8}{m a:Mf}{cks:List (List Int)}
theorem zUl(h:RdB Γ v xs){i t:Nat}(hn:i≤t)(ht:t≤xs.length):∃ v',zVa 1 v (some (int i)) (some (int t)) none=some v'∧Inh v xs v' ((xs.take t).drop i):=by
 rcases h with⟨rfl,rfl⟩|⟨p,o,c,rfl,hc,_⟩
 ·have ht:t=0:=by simpa using ht
  subst ht
  have hi:i=0:=by omega
  subst hi
  exact⟨zwa,rfl,.none⟩
 ·have he:∃ c',(c'=2∨c'=3)∧zVa 1 (sl p o xs.length c) (some (int i)) (some (int t)) none=some (sl p (o+i) (t - i) c'):=by
   rcases hc with rfl|rfl
   ·refine⟨2,.inl rfl,?_⟩
    unfold zVa
    simp only[bHi ht,zco hn]
    simp[zWk,zNe]
   ·refine⟨cond (Nat.beq t xs.length) 3 2,by cases Nat.beq t xs.length <;> simp,?_⟩
    unfold zVa
    simp only[bHi ht,zco hn]
    simp[zWk,zNe]
  obtain⟨c',hc',he⟩:=he
  refine⟨_,he,fun Γ' h=>?_⟩
  rcases h with⟨h,_⟩|⟨p',o',c'',heq,_,h⟩
  ·cases h
  cases heq
  have hlen:((xs.take t).drop i).length=t - i:=by rw[List.length_drop,List.length_take,Nat.min_eq_left ht]
  refine .inr ⟨p,o+i,c',by rw[hlen],hc',?_⟩
  rcases h with rfl|⟨j,b,h1,h2⟩
  ·exact .inl (by simp)
  ·refine .inr ⟨j,b,h1,?_⟩
   have:=congrArg (List.drop i) (congrArg (List.take t) h2)
   rw[List.take_take,Nat.min_eq_left ht,List.drop_take,List.drop_drop] at this
   rw[hlen,this,by8,by8,List.map_drop,List.map_take]
theorem Stay.app'(h:Stay Δ v):Stay (Γ++Δ) v:=by
 rcases h with h|⟨p,o,n,c,j,b,h1,h2,h3⟩
 ·exact .inl h
 ·exact .inr ⟨p,o,n,c,Γ.length+j,b,h1,zza h2,h3⟩
theorem OwnB.stay(h:OwnB v xs cs):Stay (zRa v cs) v:=by
 rcases h with⟨rfl,_⟩|⟨p,rfl|⟨rfl,_⟩,h2,h3,h4⟩
 ·exact .inl rfl
 ·exact .inr ⟨p,0,_,_,0,_,rfl,rfl,h4,.inl rfl⟩
 ·exact .inr ⟨p,0,_,_,0,_,rfl,rfl,h4,.inl rfl⟩
theorem Stay.slice(h:Stay Γ v){lo hi:Option Value}(hs:zVa 1 v lo hi none=some w):Stay Γ w:=by
 rcases h with rfl|⟨p,o,n,c,j,b,rfl,h2,h3⟩
 ·unfold zVa at hs
  simp only at hs
  repeat' (split at hs)
  all_goals first|(cases hs; done)|(cases hs; exact .inl rfl)
 ·unfold zVa at hs
  simp only at hs
  repeat' (split at hs)
  all_goals first|(cases hs; done)|(cases hs; exact .inr ⟨p,_,_,_,j,b,rfl,h2,h3⟩)
def zLj(b:List Int):Int × Int:=
 if b.length < 4∨b.take 2≠[66,85] then (0,141) else if 2304 < leV ((b.take 4).drop 2)+36 then (0,141) else (((leV ((b.take 4).drop 2)+36:Nat):Int),0)
theorem zpy{ys:List Int}(hO:St H Γ)(hv:RdB Γ v xs)(hw:RdB Γ w ys)(hx:By xs)(hy:By ys)(hk:K (.bool (decide (xs=ys))) H):wCall P zVh [v,w] H K:=by
 apply zdq; unfold bytes_Equal
 refine zxa (RdB.str hO hv) ?_
 refine zxa (RdB.str hO hw) ?_
 refine zaa (show _=some (.bool (decide (xs=ys))) from ?_) hk
 show (zna P .eql 9 false).f (str (ob xs)) (str (ob ys))=_
 rw[zNF,zTF,decide_eq_decide.2 ⟨fun h=>zNH hx hy h,fun h=>by rw[h]⟩]
theorem zhq{ys:List Int}(hO:St H Γ)(hv:RdB Γ v xs)(hw:RdB Γ w ys)(hx:By xs)(hy:By ys)(hl:ys.length≤xs.length)(hk:K (.bool (decide (xs.take ys.length=ys))) H):wCall P zVe [v,w] H K:=by
 apply zCl; unfold bytes_HasPrefix
 refine zxa hv.lenSl ?_
 refine zxa hw.lenSl ?_
 refine zaa zOh ?_
 refine zsc (by omega) ?_
 refine zxa hw.lenSl ?_
 obtain⟨v',e1,i1⟩:=zKl hv hl
 refine zaa e1 ?_
 refine zpy hO (i1 _ hv) hw (fun x h=>hx x (List.mem_of_mem_take h)) hy ?_
 refine zaa (zub (by omega)) ?_
 exact hk
theorem zrJ(H:Heap):(zia P 22 2).f [(0,.int .u8 66),(1,.int .u8 85)] H=some (sl H.next 0 2 3,H.push (by8 [66,85])):=by kernel_rfl
theorem zZI{b:List Int}(hb:By b):leV ((b.take 4).drop 2) < 65536:=by
 have h1:=zLw ((b.take 4).drop 2) fun x hx=>hb x (List.mem_of_mem_take (List.mem_of_mem_drop hx))
 have h2:((b.take 4).drop 2).length≤2:=by rw[List.length_drop,List.length_take]; omega
 exact Nat.lt_of_lt_of_le h1 (Nat.pow_le_pow_right (n:=256) (by omega) h2)
set_option maxHeartbeats 1000000 in
theorem zFv(hO:St H Γ)(hv:RdB Γ v b)(hb:By b)(hl:b.length≤1000000)(hk:∀ H',St H' Γ→K (.tuple [int (zLj b).1,int (zLj b).2].toArray) H'):wCall P zSh [v] H K:=by
 apply zbq; unfold zep
 refine zEa (fun l' H'=>l'=[v,.bool (decide (b.length < 4∨b.take 2≠[66,85]))]∧St H' Γ) ?_ ?_
 ·refine zxa hv.lenSl ?_
  refine zaa zMa ?_
  refine zoa (fun h=>?_) (fun h=>?_)
  ·refine zaa (zub h) ?_
   exact⟨by rw[decide_eq_true (show b.length < 4∨b.take 2≠[66,85] from .inl (by omega))],hO⟩
  ·refine zCa hO (zrJ _) ?_
   clear hO
   intro q H hO
   refine kp hO 0 rfl (by omega) ?_
   refine zhq (ys:=[66,85]) hO hv.app (zMy 0 rfl (.inr rfl) rfl) hb (by intro x hx; simp at hx; omega) (by simp; omega) ?_
   refine zaa zJb ?_
   refine zaa (zsb h) ?_
   refine⟨?_,hO.left⟩
   show [v,Value.bool (!decide (b.take 2=[66,85]))]=_
   by_cases h2:b.take 2=[66,85]
   ·rw[decide_eq_true h2,decide_eq_false (show ¬ (b.length < 4∨b.take 2≠[66,85]) from fun h3=>by rcases h3 with h3|h3; omega; exact h3 h2)]; rfl
   ·rw[decide_eq_false h2,decide_eq_true (show (b.length < 4∨b.take 2≠[66,85]) from .inr h2)]; rfl
 clear hO
 rintro l' H ⟨rfl,hO⟩
 try simp only[zja,zka]
 unfold zLj at hk
 refine zoa (fun h=>?_) (fun h=>?_)
 ·rw[if_pos h] at hk
  exact hk H hO
 ·rw[if_neg h] at hk
  obtain⟨v2,e2,i2⟩:=zUl hv (i:=2) (t:=4) (by omega) (by omega)
  refine zaa e2 ?_
  refine zJw hO (i2 _ hv) ?_
  clear hO
  intro H p hO
  have hb2:By ((b.take 4).drop 2):=fun x hx=>hb x (List.mem_of_mem_take (List.mem_of_mem_drop hx))
  have hlt:=zZI hb
  refine zhg (k:=2) (by omega) hO (zza (k:=0) rfl) ((i2 _ hv).app) hb2 ?_
  clear hO
  intro H v3 hO i3
  have etk:tkB ((b.take 4).drop 2) 0 2=(b.take 4).drop 2:=by
   unfold tkB
   have:((b.take 4).drop 2).length=2:=by rw[List.length_drop,List.length_take]; omega
   rw[if_pos ⟨rfl,by omega⟩,List.take_of_length_le (by omega)]
  rw[etk]
  generalize leV ((b.take 4).drop 2)=N at *
  refine zxa (zCG (k:=.u64) (by omega)) ?_
  refine zaa (v:=int ((N+36:Nat):Int)) (by rw[zoc (by omega) (by omega)]; rfl) ?_
  refine zaa zKc ?_
  replace hO:=hO.set_r.left
  refine zoa (fun h2=>?_) (fun h2=>?_)
  ·rw[if_pos (by omega)] at hk
   exact hk H hO
  ·rw[if_neg (by omega)] at hk
   exact hk H hO
end J
set_option maxRecDepth 100000
namespace J
open Go Go.Ab
variable{H:Heap}{Γ Γ0 Γ2 Δ G L:List (Nat × Blk)}{K:VH}{v w x cv dv:Value}{xs ys zs bs b key ms:List Int}{j p q o n k mx:Nat}{e:Int}{cs cs':List Value}{l:List UInt8}{m a:Mf}{cks:List (List Int)}
def headA(m:Mf):List Int:=[66,85]++leN 2 (zde m).length++zde m
def zXa(key:List Int)(m:Mf):List Int:=headA m++zTq key (headA m)
theorem zXw(ok:m.Ok)(h:zIa m):(zde m).length=m.pr.length+48+32 * m.cks.length∧m.pr.length≤96∧m.cks.length≤64:=by
 have h1:=zVA m.cks ok.cl
 have h2:=zeo h.1
 have h3:=h.2.2.2.2.2.2.2.2.2
 rw[zpj h]
 refine⟨?_,h2,h3⟩
 simp only[MB,txB,List.length_append,zsd,zBk,ok.dl,h1]
 omega
theorem zMj{k b:List Int}:(zTq k b).length=32:=rfl
theorem zjB{k b:List Int}:By (zTq k b):=zUq
theorem zYw(ok:m.Ok):By (headA m):=zyd (zyd (by intro x hx; simp at hx; omega) (zSt _ _)) (zdB ok)
theorem zTt(ok:m.Ok)(h:zIa m):(headA m).length=m.pr.length+52+32 * m.cks.length:=by
 have:=(zXw ok h).1
 simp only[headA,List.length_append,zsd,this,List.length_cons,List.length_nil]
 omega
set_option maxHeartbeats 1000000 in
theorem zGv(hO:St H Γ)(hv:RdB Γ v key)(hw:RdB Γ w ms)(hst:Stay Γ w)(hb:By key)(hm:By ms)(hl:key.length≤1000000)(hl2:ms.length≤1000000)(hk:MadeB Γ K (ms++zTq key ms)):wCall P zUg [v,w] H K:=by
 apply zXo; unfold zgn
 refine zgy hO hv hw hb hm (by omega) (by omega) ?_
 clear hO
 intro H hO
 rw[zcH]
 refine nw hO.z ?_
 clear hO
 intro p5 H hO
 refine sw hO 0 rfl (by simp[z32]) (by simp[zMj]) (zze _) ?_
 clear hO
 intro H1 hO1
 replace hO1:St H1 (Γ++[(p5,⟨by8 (zTq key ms),true⟩)]):=hO1
 have hp1:p5 < H1.next:=hO1.lt _ (List.mem_append_right _ List.mem_cons_self)
 refine zCa hO1 (zpn _) ?_
 intro q9 H2 hO2
 have hp2:p5 < H2.next:=hO2.lt (p5,⟨by8 (zTq key ms),true⟩) (by simp)
 have hO2':St H2 ((Γ++[(p5,(⟨by8 (zTq key ms),true⟩:Blk))])++zRa (sl q9 0 0 3) []):=hO2
 refine zSc (xs:=[]) (v:=sl q9 0 0 3) (cs:=[]) hO2' (.inr ⟨q9,.inr ⟨rfl,rfl⟩,rfl,Nat.zero_le _,rfl⟩) hw.app (by simp; omega) ?_
 intro H3 v3 c3 hO3 o3
 refine zaa (zVf hO3 (Γ.length+0) (zAa (zza rfl)) (by omega) (by simp[zMj])) ?_
 have hne:q9≠p5:=St.ne' hO2 (i:=(Γ++[(p5,(⟨by8 (zTq key ms),true⟩:Blk))]).length+0) (j:=Γ.length+0) (zza rfl) (zAa (zza rfl)) (by simp)
 have hap:zlk (zJa [sl q9 0 0 3,w]) (zJa [ptr p5 0]):=by
  have e1:Nat.beq q9 p5=false:=by
   cases hb:Nat.beq q9 p5 with
   | false=>rfl
   | true=>exact absurd (Nat.eq_of_beq_eq_true hb) hne
  rcases hst with rfl|⟨pw,o,n,c,jw,bw,rfl,h2,h3⟩
  ·show zac [q9] [p5]=true
   simp[zac,zqb,zSy,e1]
  ·have hne2:pw≠p5:=St.ne' hO1 (i:=jw) (j:=Γ.length+0) (zAa h2) (zza rfl) (by have:=(List.getElem?_eq_some_iff.1 h2).1; omega)
   have e2:Nat.beq pw p5=false:=by
    cases hb:Nat.beq pw p5 with
    | false=>rfl
    | true=>exact absurd (Nat.eq_of_beq_eq_true hb) hne2
   show zac [q9,pw] [p5]=true
   simp[zac,zqb,zSy,e1,e2]
 refine⟨hap,zFm hp2,zFm hp1,?_⟩
 refine zSc hO3 o3 (ys:=zTq key ms) (.inr ⟨p5,0,3,by rw[zMj],.inr rfl,.inr ⟨Γ.length+0,_,zza rfl,by rw[List.drop_zero]; exact List.take_of_length_le (by simp)⟩⟩) (by simp[zMj]; omega) ?_
 intro H4 v4 c4 hO4 o4
 exact hk H4 v4 c4 (St.mid hO4) o4
set_option maxHeartbeats 1000000 in
theorem zAe(ok:m.Ok)(hO:St H Γ)(hv:RdB Γ v key)(hc:RdH Γ cv m.cks)(hb:By key)(hl:key.length≤1000000)
  (hk0:¬ zIa m→∀ H',St H' Γ→K (.tuple [zwa,int 131].toArray) H')
  (hk1:zIa m→∀ H' v' cs',St H' (Γ++zRa v' cs')→OwnB v' (zXa key m) cs'→K (.tuple [v',int 0].toArray) H'):wCall P zod [v,agg (mfC m cv)] H K:=by
 apply zOr; unfold zEq
 rw[zNf]
 refine nw hO.z ?_
 clear hO
 intro p3 H hO
 refine lw hO 0 rfl (zta ok.dl) (by omega) ?_
 refine zUc ok hc.app hO ?_
 clear hO
 intro H hO
 refine zaa zJb ?_
 by_cases hr:zIa m
 ·obtain⟨b1,b2,b3⟩:=zXw ok hr
  have hal:=zTt ok hr
  rw[decide_eq_true hr]
  refine zKb rfl ?_
  refine lw hO 0 rfl (zta ok.dl) (by omega) ?_
  refine zKn ok hc.app hO ?_
  clear hO
  intro H v1 c1 hO o1
  refine zCa hO (zrJ _) ?_
  clear hO
  intro q H hO
  refine kp hO 0 rfl (by omega) ?_
  refine zxa o1.lenSl ?_
  refine zxa (zDG (by omega) (by omega)) ?_
  rw[Int.toNat_natCast]
  refine zTc (size:=2) hO (by omega) (by omega) ?_
  clear hO
  intro H v2 c2 hO o2
  have oq:OwnB (sl q 0 2 3) [66,85] (by8 [66,85]):=.inr ⟨q,.inr ⟨rfl,rfl⟩,rfl,Nat.le_refl _,rfl⟩
  replace hO:St H (((Γ++([]++[(p3,(⟨mfC m cv,true⟩:Blk))])++zRa v1 c1)++zRa (sl q 0 2 3) (by8 [66,85]))++zRa v2 c2):=hO
  refine zUe hO oq o2 (by simp[zsd]) ?_
  clear hO oq o2
  intro H v3 c3 hO o3
  have hr1:RdB (Γ++([]++[(p3,(⟨mfC m cv,true⟩:Blk))])++zRa v1 c1) v1 (zde m):=o1.rd.app'
  refine zSc hO o3 hr1 (by simp[zsd]; omega) ?_
  clear hO o3
  intro H v4 c4 hO o4
  replace o4:OwnB v4 (headA m) c4:=o4
  replace hO:St H (Γ++zRa v4 c4):=by
   have h0:=hO.left.left
   rw[List.append_assoc,List.append_assoc] at hO
   exact hO.sub (List.Sublist.append (List.Sublist.refl _) (by rw[← List.append_assoc]; exact List.sublist_append_right _ _))
  refine zGv hO hv.app o4.rd.app' (OwnB.stay o4).app' hb (zYw ok) hl (by omega) ?_
  clear hO
  intro H v5 c5 hO o5
  exact hk1 hr H v5 c5 (St.mid hO) o5
 ·rw[decide_eq_false hr]
  refine zhd rfl ?_
  exact hk0 hr H hO.left
end J
set_option maxRecDepth 100000
namespace J
open Go Go.Ab
variable{H:Heap}{Γ Γ0 Γ2 Δ G L:List (Nat × Blk)}{K:VH}{v w x cv dv:Value}{xs ys zs bs b key ms:List Int}{j p q o n k mx:Nat}{e:Int}{cs cs':List Value}{l:List UInt8}{m a:Mf}{cks:List (List Int)}
theorem zXq(b:List Int):zLj b=(0,141)∨∃ n:Nat,zLj b=((n:Int),0)∧36≤n∧n≤2304∧4≤b.length∧b.take 2=[66,85]∧n=leV ((b.take 4).drop 2)+36:=by
 unfold zLj
 split
 ·exact .inl rfl
 ·split
  ·exact .inl rfl
  ·rename_i h1 h2
   refine .inr ⟨_,rfl,by omega,by omega,by omega,?_,rfl⟩
   exact Classical.not_not.1 fun h=>h1 (.inr h)
def zdb(key b:List Int):Mf × Int × Int:=
 if (zLj b).2≠0∨(b.length:Int) < (zLj b).1 then (m0,0,141)
 else if zTq key (b.take ((zLj b).1.toNat - 32))≠(b.take (zLj b).1.toNat).drop ((zLj b).1.toNat - 32) then (m0,0,142)
 else if (zvc ((b.take ((zLj b).1.toNat - 32)).drop 4)).2≠0 then (m0,0,(zvc ((b.take ((zLj b).1.toNat - 32)).drop 4)).2)
 else ((zvc ((b.take ((zLj b).1.toNat - 32)).drop 4)).1,(zLj b).1,0)
theorem zUt(h:zLj b=(0,141)):zdb key b=(m0,0,141):=by
 unfold zdb; rw[h]; exact if_pos (.inl (by decide))
theorem zyp{n:Nat}(h:zLj b=((n:Int),0))(h2:b.length < n):zdb key b=(m0,0,141):=by
 unfold zdb; rw[h]; exact if_pos (.inr (by simpa using h2))
theorem zHv{n:Nat}(h:zLj b=((n:Int),0))(h2:n≤b.length):zdb key b=if zTq key (b.take (n - 32))≠(b.take n).drop (n - 32) then (m0,0,142)
 else if (zvc ((b.take (n - 32)).drop 4)).2≠0 then (m0,0,(zvc ((b.take (n - 32)).drop 4)).2)
 else ((zvc ((b.take (n - 32)).drop 4)).1,(n:Int),0):=by
 unfold zdb; rw[h]
 rw[if_neg (by simp; omega)]
 simp only[Int.toNat_natCast]
theorem RdH.nil:RdH Γ zwa []:=.inl ⟨rfl,rfl⟩
theorem By.take{n:Nat}(h:By b):By (b.take n):=fun x hx=>h x (List.mem_of_mem_take hx)
theorem By.drop{n:Nat}(h:By b):By (b.drop n):=fun x hx=>h x (List.mem_of_mem_drop hx)
theorem zVt{b:List Int}(hb:By b)(hl:b.length≤9000):(zvc b).1.Ok:=by
 unfold zvc zmE
 split
 ·have h1:∀ (xs:List Int) (e:Int) (n:Nat),(tkB xs e n).length≤xs.length:=fun xs e n=>by
   unfold tkB
   split
   ·rw[List.length_take]; omega
   ·simp
  have hb1:By (tXr b 0 96,tXe b 0 96).1:=by
   show By (tXr b 0 96)
   unfold tXr tYr
   split
   ·intro x h; cases h
   ·exact zqn (zqn hb _ _) _ _
  have hN:pN (zPg (tXb b 0 96) (tXr b 0 96,tXe b 0 96))≤65:=by unfold pN; omega
  refine zqE hb1 ?_ (by omega) (zOf (zOf (zOf (zOf hb1))))
  unfold tXb tYb
  split
  ·simp
  ·have:=h1 (tkR b 0 2) (tkE b 0 2) (tN b 0)
   have:=zwp b 0 2
   omega
 ·exact zny
set_option maxHeartbeats 4000000 in
theorem zkB(hO:St H Γ)(hv:RdB Γ v key)(hw:RdB Γ w b)(hb:By key)(hbb:By b)(hl:key.length≤1000000)(hl2:b.length≤1000000)
  (hk:∀ H' cv,St H' (Γ++zRa cv (hsC (zdb key b).1.cks))→RdH (zRa cv (hsC (zdb key b).1.cks)) cv (zdb key b).1.cks→K (.tuple [agg (mfC (zdb key b).1 cv),int (zdb key b).2.1,int (zdb key b).2.2].toArray) H'):wCall P zJk [v,w] H K:=by
 apply zrt; unfold zqt
 rw[zcM]
 refine nw hO.z ?_
 clear hO
 intro p4 H hO
 replace hO:St H (Γ++[(p4,⟨mfC m0 zwa,true⟩)]):=hO
 refine zFv hO hw.app hbb hl2 ?_
 clear hO
 intro H hO
 refine zaa zHj ?_
 refine zaa zIj ?_
 refine zEa (fun l' H'=>l'=[v,w,ptr p4 0,int (zLj b).1,.bool (decide ((zLj b).2≠0∨(b.length:Int) < (zLj b).1))]∧H=H') ?_ ?_
 ·refine zaa zeb ?_
  refine zoa (fun h=>?_) (fun h=>?_)
  ·refine zaa (zub h) ?_
   exact⟨by rw[decide_eq_true (show (zLj b).2≠0∨(b.length:Int) < (zLj b).1 from .inl h)],rfl⟩
  ·refine zxa hw.lenSl ?_
   refine zaa zMa ?_
   refine zaa (zsb h) ?_
   exact⟨by rw[decide_eq_decide.2 (show (b.length:Int) < (zLj b).1↔((zLj b).2≠0∨(b.length:Int) < (zLj b).1) from⟨.inr,fun h2=>h2.resolve_left h⟩)],rfl⟩
 rintro l' H' ⟨rfl,rfl⟩
 try simp only[zja,zka]
 refine zoa (fun h=>?_) (fun h=>?_)
 ·have ho:zdb key b=(m0,0,141):=if_pos h
  rw[ho] at hk
  refine zaa bM0 ?_
  refine sw hO 0 rfl (by rfl) (by rfl) (zlc rfl) ?_
  clear hO
  intro H hO
  refine lw hO 0 rfl (by rfl) (by omega) ?_
  exact hk H zwa hO.left.z RdH.nil
 ·rcases zXq b with h0|⟨N,h0,g1,g2,g3,g4,g5⟩
  ·exact absurd (.inl (by rw[h0]; simp)) h
  have hN:N≤b.length:=by
   have:¬ (b.length:Int) < (zLj b).1:=fun h'=>h (.inr h')
   rw[h0] at this
   simpa using this
  rw[zHv h0 hN] at hk
  rw[h0]
  have e32:((N:Int) - 32)=((N - 32:Nat):Int):=by omega
  refine zaa (v:=int ((N - 32:Nat):Int)) (by rw[← e32]; exact zBb (by omega) (by omega)) ?_
  obtain⟨v1,e1,i1⟩:=zKl hw (n:=N - 32) (by omega)
  refine zaa e1 ?_
  refine zaa (v:=int ((N - 32:Nat):Int)) (by rw[← e32]; exact zBb (by omega) (by omega)) ?_
  obtain⟨v2,e2,i2⟩:=zUl hw (i:=N - 32) (t:=N) (by omega) hN
  refine zaa e2 ?_
  rw[zcH]
  refine nw hO ?_
  clear hO
  intro p11 H hO
  replace hO:St H (Γ++[(p4,⟨mfC m0 zwa,true⟩),(p11,⟨by8 z32,true⟩)]):=hO
  refine zaa (sar hO 1 rfl (by simp[z32]) (by omega)) ?_
  have htl:((b.take N).drop (N - 32)).length=32:=by rw[List.length_drop,List.length_take]; omega
  refine zxv hO (i:=Γ.length+1) (zza rfl) (ys:=(b.take N).drop (N - 32)) ((i2 _ hw).app) (by omega) (by simp[z32]) ?_
  clear hO
  intro H hO
  replace hO:=hO.set_r
  rw[show (by8 z32).take 0++(by8 ((b.take N).drop (N - 32))++(by8 z32).drop (0+((b.take N).drop (N - 32)).length))=by8 ((b.take N).drop (N - 32)) by
   rw[List.drop_of_length_le (l:=by8 z32) (by rw[htl]; simp[z32])]; simp] at hO
  replace hO:St H (Γ++[(p4,⟨mfC m0 zwa,true⟩),(p11,⟨by8 ((b.take N).drop (N - 32)),true⟩)]):=hO
  have hr1:=i1 _ hw
  have hp11:p11 < H.next:=hO.lt (p11,⟨by8 ((b.take N).drop (N - 32)),true⟩) (by simp)
  obtain⟨a1,n1,k1,s1'⟩:=hr1.shape
  have hts:By ((b.take N).drop (N - 32)):=By.drop (By.take hbb)
  have hps:By ((b.take (N - 32)).drop 4):=By.drop (By.take hbb)
  have hpl:((b.take (N - 32)).drop 4).length≤9000:=by rw[List.length_drop,List.length_take]; omega
  have hsl:(b.take (N - 32)).length=N - 32:=by rw[List.length_take]; omega
  have hsb:By (b.take (N - 32)):=By.take hbb
  obtain⟨v3,e3,i3⟩:=zKw hr1 (n:=4) (by omega)
  replace i3:=i3 _ hr1
  generalize (b.take N).drop (N - 32)=tail at *
  generalize (b.take (N - 32)).drop 4=inner at *
  generalize b.take (N - 32)=said at *
  refine zCa hO (by rw[s1']; exact zbE _ _ _ _) ?_
  rw[← s1']
  intro q2 H2 hO2
  refine zAv (x:=v1) (ms:=said) hO2 (hv.app.app) (zza (k:=0) rfl) (hr1.app.app) hb hsb (by omega) (by omega) ?_
  intro H3 hO3
  refine zFa hO3 (Γ.length+1) (zAa (zza rfl)) (show _=by8 tail from by rw[List.drop_zero]; exact List.take_of_length_le (by simp[htl])) (by simp[htl]) (by omega) ?_
  refine⟨zFb hO2 (Γ.length+1) (zAa (zza rfl)) hO3 (Γ.length+1) (zAa (zza rfl)) (zxd _),zFm hp11,?_⟩
  clear hO hO2
  refine zgs zMj htl zjB hts hO3 ?_
  clear hO3
  intro H hO
  replace hO:=hO.left
  refine zaa zJb ?_
  by_cases hm:zTq key said=tail
  ·rw[decide_eq_true hm]
   refine zKb rfl ?_
   rw[if_neg (fun h=>h hm)] at hk
   refine zaa e3 ?_
   refine zoy hO i3.app hps hpl ?_
   clear hO
   intro H c5 hO hrd
   refine zaa zHj ?_
   refine zaa zIj ?_
   have hpo:=zVt hps hpl
   have hpd:=hpo.dl
   rcases zrn inner with hz|hz
   ·rw[if_neg (fun h=>h hz)] at hk
    simp only at hk
    rw[hz]
    generalize (zvc inner).1=M at *
    have hc1:oneCell c5=true:=hrd.one
    refine zhb hO ?_
    clear hO
    intro p12 H hO
    refine zva hO (_+0) (zza rfl) (by rfl) (zta hpd) (zlc hc1) ?_
    clear hO
    intro H hO
    replace hO:=hO.set_r
    refine zaa zeb ?_
    refine zhc (by omega) ?_
    refine zHa hO (_+0) (zza rfl) (zta hpd) (by omega) ?_
    refine zva hO (Γ.length+0) (zAa (zAa (zza rfl))) (by rfl) (zta hpd) (zlc hc1) ?_
    clear hO
    intro H hO
    rw[List.set_append_left _ _ (by simp),List.set_append_left _ _ (by simp),Go.Ab.set_r] at hO
    refine zHa hO (Γ.length+0) (zAa (zAa (zza rfl))) (zta hpd) (by omega) ?_
    exact hk H c5 (St.mid hO.left) hrd
   ·rw[hz,if_pos (by simp)] at hk
    rw[hz] at hO
    rw[hz]
    refine zhb hO ?_
    clear hO
    intro p12 H hO
    refine zva hO (_+0) (zza rfl) (by rfl) (by rfl) (zlc (by rw[hz] at hrd; exact hrd.one)) ?_
    clear hO
    intro H hO
    refine zaa zeb ?_
    refine zsc (by decide) ?_
    refine zaa bM0 ?_
    replace hO:=hO.set_r.left.left
    refine sw hO 0 rfl (by rfl) (by rfl) (zlc rfl) ?_
    clear hO
    intro H hO
    refine lw hO 0 rfl (by rfl) (by omega) ?_
    exact hk H zwa hO.left.z RdH.nil
  ·rw[decide_eq_false hm]
   refine zhd rfl ?_
   rw[if_pos hm] at hk
   refine zaa bM0 ?_
   refine sw hO 0 rfl (by rfl) (by rfl) (zlc rfl) ?_
   clear hO
   intro H hO
   refine lw hO 0 rfl (by rfl) (by omega) ?_
   exact hk H zwa hO.left.z RdH.nil
end J
