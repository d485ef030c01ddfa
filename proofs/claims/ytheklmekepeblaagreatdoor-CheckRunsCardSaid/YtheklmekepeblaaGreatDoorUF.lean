/- texts of the proof, one behind the other -/
import Derived.Test.YtheklmekepeblaaGreatDoorUE
set_option linter.unusedVariables false
set_option linter.unusedSimpArgs false
set_option linter.unusedSectionVars false
set_option maxRecDepth 100000
namespace J
open Go Go.Ab
variable{H:Heap}{Γ Γ0 Γ2 Δ G L:List (Nat × Blk)}{K:VH}{v w x cv dv:Value}{xs ys zs bs b key ms:List Int}{j p q o n k mx:Nat}{e:Int}{cs cs':List Value}{l:List UInt8}{m a:Mf}{cks:List (List Int)}
abbrev Rs:=List Int × Int
def tk(n:Nat)(s:Rs):Rs:=(tkR s.1 s.2 n,tkE s.1 s.2 n)
def tb(n:Nat)(s:Rs):List Int:=tkB s.1 s.2 n
def hs(s:Rs):List Int:=hsh s.1 s.2
def tkn:Nat→Rs→Rs
 | 0,s=>s
 | n+1,s=>tk 32 (tkn n s)
def hsL:Nat→Rs→List (List Int)
 | 0,_=>[]
 | n+1,s=>hsL n s++[hs (tkn n s)]
def zsf(t:List Int)(s:Rs):Mf:=⟨ob t,leV (tb 8 s),(leV (tb 4 (tk 8 s)):Int),(leV (tb 2 (tk 4 (tk 8 s))):Int),hs (tk 2 (tk 4 (tk 8 s))),[]⟩
def pS5(s:Rs):Rs:=tk 32 (tk 2 (tk 4 (tk 8 s)))
def m0:Mf:=⟨[],0,0,0,z32,[]⟩
def zjc(h:Mf)(c:List (List Int)):Mf:={ h with cks:=c }
def pN(h:Mf):Nat:=(min (cnt h.sz h.ck) 65).toNat
def pM(t:List Int)(s:Rs):Mf:=zjc (zsf t s) (hsL (pN (zsf t s)) (pS5 s))
def pF(t:List Int)(s:Rs):Rs:=tkn (pN (zsf t s)) (pS5 s)
def pOk(t:List Int)(s:Rs):Prop:=zOz (pF t s).1 (pF t s).2=0∧zGa (pM t s)
instance (t:List Int) (s:Rs):Decidable (pOk t s):=by unfold pOk; exact inferInstance
def zpF(t:List Int)(s:Rs):Mf × Int:=if pOk t s then (pM t s,0) else (m0,131)
def zwc(b:List Int):Mf × Int:=zpF (tXb b 0 96) (tXr b 0 96,tXe b 0 96)
theorem zyd{s:Rs}(h:By s.1){n:Nat}:By (tk n s).1:=zFk h _ _
theorem zgm{s:Rs}{n:Nat}:(tk n s).1.length≤s.1.length:=zki _ _ _
theorem zqF{s:Rs}(h:By s.1):∀ n,By (tkn n s).1
 | 0=>h
 | n+1=>zyd (zqF h n)
theorem zIw{s:Rs}:∀ n,(tkn n s).1.length≤s.1.length
 | 0=>Nat.le_refl _
 | n+1=>Nat.le_trans zgm (zIw n)
theorem zen{s:Rs}:∀ n,(hsL n s).length=n
 | 0=>rfl
 | n+1=>by show (hsL n s++[_]).length=_; rw[List.length_append,zen n]; rfl
theorem zrF{s:Rs}:∀ n,∀ x ∈ hsL n s,x.length=32
 | 0,_,h=>by cases h
 | n+1,x,h=>by
  rcases List.mem_append.1 (show x ∈ hsL n s++[hs (tkn n s)] from h) with h|h
  ·exact zrF n x h
  ·rw[List.mem_singleton.1 h]; exact zbd
theorem zsF{s:Rs}(hb:By s.1):∀ n,∀ x ∈ hsL n s,By x
 | 0,_,h=>by cases h
 | n+1,x,h=>by
  rcases List.mem_append.1 (show x ∈ hsL n s++[hs (tkn n s)] from h) with h|h
  ·exact zsF hb n x h
  ·rw[List.mem_singleton.1 h]; exact zoF (zqF hb n)
theorem zit{s:Rs}(hb:By s.1)(k:Nat):leV (tb k s) < 256 ^ k:=znF hb s.2
theorem zaC{t:List Int}{s:Rs}(hb:By s.1)(ht:t.length≤10000){n:Nat}(hn:n≤10000){s5:Rs}(h5:By s5.1):(zjc (zsf t s) (hsL n s5)).Ok:=by
 have h8:=zit hb 8
 have h4:=zit (s:=tk 8 s) (zyd hb) 4
 have h2:=zit (s:=tk 4 (tk 8 s)) (zyd (zyd hb)) 2
 refine⟨zbd,zoF (zyd (zyd (zyd hb))),zrF n,zsF h5 n,h8,?_,?_,?_,?_⟩
 ·show -9223372036854775808≤((leV (tb 4 (tk 8 s)):Nat):Int)∧((leV (tb 4 (tk 8 s)):Nat):Int)≤9223372036854775807
  omega
 ·show -9223372036854775808≤((leV (tb 2 (tk 4 (tk 8 s))):Nat):Int)∧((leV (tb 2 (tk 4 (tk 8 s))):Nat):Int)≤9223372036854775807
  omega
 ·show (hsL n s5).length≤_
  rw[zen]; exact hn
 ·show (ob t).length≤_
  simpa [ob] using ht
theorem zJw:m0.Ok:=⟨rfl,zPu,(by intro x h; cases h),(by intro x h; cases h),by decide,by decide,by decide,by decide,by decide⟩
theorem zcM:zc P 52=mfC m0 zqa:=by kernel_rfl
theorem bM0:(zAa P 52).f []=some (agg (mfC m0 zqa)):=by kernel_rfl
theorem bM4(s:ByteArray)(n:Nat)(x y:Int):(zAa P 52).f [(0,.string s),(1,zsb .u64 n),(2,int x),(3,int y)]=some (agg (mfC ⟨s.data.toList,n,x,y,z32,[]⟩ zqa)):=by kernel_rfl
theorem zpK(a0 a1 a2 a3 a4 a5 a6 a7 a8 a9 a10 a11 a12 a13 a14 a15 a16 a17 a18 a19 a20 a21 a22 a23 a24 a25 a26 a27 a28 a29 a30 a31:Int)(H:Heap):(zla P 50 1).f [(0,.agg #[(.int .u8 a0),(.int .u8 a1),(.int .u8 a2),(.int .u8 a3),(.int .u8 a4),(.int .u8 a5),(.int .u8 a6),(.int .u8 a7),(.int .u8 a8),(.int .u8 a9),(.int .u8 a10),(.int .u8 a11),(.int .u8 a12),(.int .u8 a13),(.int .u8 a14),(.int .u8 a15),(.int .u8 a16),(.int .u8 a17),(.int .u8 a18),(.int .u8 a19),(.int .u8 a20),(.int .u8 a21),(.int .u8 a22),(.int .u8 a23),(.int .u8 a24),(.int .u8 a25),(.int .u8 a26),(.int .u8 a27),(.int .u8 a28),(.int .u8 a29),(.int .u8 a30),(.int .u8 a31)])] H=some (sl H.next 0 1 65,H.push [(.int .u8 a0),(.int .u8 a1),(.int .u8 a2),(.int .u8 a3),(.int .u8 a4),(.int .u8 a5),(.int .u8 a6),(.int .u8 a7),(.int .u8 a8),(.int .u8 a9),(.int .u8 a10),(.int .u8 a11),(.int .u8 a12),(.int .u8 a13),(.int .u8 a14),(.int .u8 a15),(.int .u8 a16),(.int .u8 a17),(.int .u8 a18),(.int .u8 a19),(.int .u8 a20),(.int .u8 a21),(.int .u8 a22),(.int .u8 a23),(.int .u8 a24),(.int .u8 a25),(.int .u8 a26),(.int .u8 a27),(.int .u8 a28),(.int .u8 a29),(.int .u8 a30),(.int .u8 a31)]):=by kernel_rfl
theorem zqK(h:List Int)(hl:h.length=32)(H:Heap):(zla P 50 1).f [(0,agg (by8 h))] H=some (sl H.next 0 1 65,H.push (by8 h)):=by
 match h,hl with
 | [a0,a1,a2,a3,a4,a5,a6,a7,a8,a9,a10,a11,a12,a13,a14,a15,a16,a17,a18,a19,a20,a21,a22,a23,a24,a25,a26,a27,a28,a29,a30,a31],_=>exact zpK a0 a1 a2 a3 a4 a5 a6 a7 a8 a9 a10 a11 a12 a13 a14 a15 a16 a17 a18 a19 a20 a21 a22 a23 a24 a25 a26 a27 a28 a29 a30 a31 H
theorem zUx{h:Mf}{d:List Int}(hd:h.dg.length=32)(hl:d.length=32):(mfC h cv).take (0+4)++(zza (agg (by8 d))++(mfC h cv).drop (0+4+32))=mfC { h with dg:=d } cv:=by
 show [str h.pr,zsb .u64 h.ver,int h.sz,int h.ck]++(by8 d++(by8 h.dg++[cv]).drop 32)=_
 rw[List.drop_append_of_le_length (by simp[hd]),List.drop_of_length_le (by simp[hd])]
 rfl
theorem zcv{h:Mf}(hd:h.dg.length=32):(mfC h cv).set (0+36) dv=mfC h dv:=by
 show str h.pr::zsb .u64 h.ver::int h.sz::int h.ck::(by8 h.dg++[cv]).set 32 dv=_
 rw[List.set_append_right _ _ (by simp[hd])]
 simp[hd]
 rfl
theorem zjt{l:List (List Int)}(h:Own 32 v l.length (hsC l)):RdH (zKa v (hsC l)) v l:=by
 rcases h with⟨rfl,h0,_⟩|⟨p,rfl|rfl,_⟩
 ·exact .inl ⟨rfl,List.length_eq_zero_iff.1 h0⟩
 ·exact .inr ⟨p,_,0,true,rfl,rfl⟩
 ·exact .inr ⟨p,_,0,true,rfl,rfl⟩
theorem zhm{l:List (List Int)}{x:List Int}:hsC (l++[x])=hsC l++by8 x:=by simp[hsC]
theorem zZe{size n:Nat}(h:Own size v n cs):zab v=true∧oneCell v=true:=by
 rcases h with⟨rfl,_⟩|⟨p,rfl|rfl,_⟩ <;> exact⟨rfl,rfl⟩
set_option maxHeartbeats 4000000 in
theorem zgz(hO:St H Γ)(hv:RdB Γ v b)(hb:By b)(hx:b.length≤9000)
  (hk:∀ H' cv,St H' (Γ++zKa cv (hsC (zwc b).1.cks))→RdH (zKa cv (hsC (zwc b).1.cks)) cv (zwc b).1.cks→K (.tuple [agg (mfC (zwc b).1 cv),int (zwc b).2].toArray) H'):wCall P zMd [v] H K:=by
 apply zSm; unfold zvk
 rw[zcM]
 refine nw hO.z ?_
 clear hO
 intro p2 H hO
 refine zKx hO hv.app ?_
 clear hO
 intro H p7 hO
 replace hO:St H (Γ++[(p2,⟨mfC m0 zqa,true⟩),(p7,rdr v 0)]):=hO.as
 have htl:(tXb b 0 96).length≤10000:=by
  unfold tXb tYb
  split
  ·simp
  ·have h1:∀ (xs:List Int) (e:Int) (n:Nat),(tkB xs e n).length≤xs.length:=fun xs e n=>by
    unfold tkB
    split
    ·rw[List.length_take]; omega
    ·simp
   have:=h1 (tkR b 0 2) (tkE b 0 2) (tN b 0)
   have:=zki b 0 2
   omega
 refine zfz (mx:=96) hO (zwa (k:=1) rfl) hv.app hb (by omega) ?_
 clear hO
 intro H v1 hO i1
 replace hO:St H (Γ++[(p2,⟨mfC m0 zqa,true⟩),(p7,rdr v1 (tXe b 0 96))]):=hO.set_r
 replace hv:=i1 _ hv
 have hb1:By (tXr b 0 96):=by
  unfold tXr tYr
  split
  ·intro x h; cases h
  ·exact zFk (zFk hb _ _) _ _
 have hl1:(tXr b 0 96).length≤b.length:=by
  unfold tXr tYr
  split
  ·simp
  ·exact Nat.le_trans (zki _ _ _) (zki _ _ _)
 unfold zwc at hk
 replace hO:St H (Γ++[(p2,⟨mfC m0 zqa,true⟩),(p7,rdr v1 (tXr b 0 96,tXe b 0 96).2)]):=hO
 replace hv:RdB Γ v1 (tXr b 0 96,tXe b 0 96).1:=hv
 replace hb1:By (tXr b 0 96,tXe b 0 96).1:=hb1
 replace hl1:(tXr b 0 96,tXe b 0 96).1.length≤b.length:=hl1
 generalize tXb b 0 96=t at *
 generalize ((tXr b 0 96,tXe b 0 96):Rs)=s at *
 clear i1 hb
 have h8:=zit hb1 8
 refine zfg (k:=8) (by omega) hO (zwa (k:=1) rfl) hv.app hb1 ?_
 clear hO
 intro H v2 hO i2
 replace hO:St H (Γ++[(p2,⟨mfC m0 zqa,true⟩),(p7,rdr v2 (tk 8 s).2)]):=hO.set_r
 replace hv:RdB Γ v2 (tk 8 s).1:=i2 _ hv
 have h4:=zit (s:=tk 8 s) (zyd hb1) 4
 refine zfg (k:=4) (by omega) hO (zwa (k:=1) rfl) hv.app (zyd hb1) ?_
 clear hO i2
 intro H v3 hO i3
 replace hO:St H (Γ++[(p2,⟨mfC m0 zqa,true⟩),(p7,rdr v3 (tk 4 (tk 8 s)).2)]):=hO.set_r
 replace hv:RdB Γ v3 (tk 4 (tk 8 s)).1:=i3 _ hv
 refine zva (zhB (k:=.u64) (show leV (tb 4 (tk 8 s))≤_ by omega)) ?_
 have h2:=zit (s:=tk 4 (tk 8 s)) (zyd (zyd hb1)) 2
 refine zfg (k:=2) (by omega) hO (zwa (k:=1) rfl) hv.app (zyd (zyd hb1)) ?_
 clear hO i3
 intro H v4 hO i4
 replace hO:St H (Γ++[(p2,⟨mfC m0 zqa,true⟩),(p7,rdr v4 (tk 2 (tk 4 (tk 8 s))).2)]):=hO.set_r
 replace hv:RdB Γ v4 (tk 2 (tk 4 (tk 8 s))).1:=i4 _ hv
 refine zva (zhB (k:=.u64) (show leV (tb 2 (tk 4 (tk 8 s)))≤_ by omega)) ?_
 refine zaa (bM4 _ _ _ _) ?_
 refine nw hO ?_
 clear hO i4
 intro p5 H hO
 refine sw hO 2 rfl (by rfl) (by rfl) (ztb rfl) ?_
 clear hO
 intro H hO
 replace hO:St H (Γ++[(p2,⟨mfC m0 zqa,true⟩),(p7,rdr v4 (tk 2 (tk 4 (tk 8 s))).2),(p5,⟨mfC ⟨ob t,leV (tb 8 s),(leV (tb 4 (tk 8 s)):Int),(leV (tb 2 (tk 4 (tk 8 s))):Int),z32,[]⟩ zqa,true⟩)]):=hO
 have hl4:(tk 2 (tk 4 (tk 8 s))).1.length≤9000:=Nat.le_trans zgm (Nat.le_trans zgm (Nat.le_trans zgm (by omega)))
 refine zbv hO (zwa (k:=1) rfl) hv.app (by omega) ?_
 clear hO
 intro H v5 hO i5
 replace hO:St H (Γ++[(p2,⟨mfC m0 zqa,true⟩),(p7,rdr v5 (pS5 s).2),(p5,⟨mfC ⟨ob t,leV (tb 8 s),(leV (tb 4 (tk 8 s)):Int),(leV (tb 2 (tk 4 (tk 8 s))):Int),z32,[]⟩ zqa,true⟩)]):=hO.set_r
 replace hv:RdB Γ v5 (pS5 s).1:=i5 _ hv
 refine zaa zba ?_
 refine zed hO (Γ.length+2) (zwa rfl) (show (by8 (hsh _ _)).length=32 by rw[zii]; exact zbd) (by show 0+4+32≤(mfC _ _).length; rw[zra rfl]; omega) (zad _) ?_
 clear hO i5
 intro H hO
 rw[zUx rfl zbd] at hO
 replace hO:St H (Γ++[(p2,⟨mfC m0 zqa,true⟩),(p7,rdr v5 (pS5 s).2),(p5,⟨mfC (zsf t s) zqa,true⟩)]):=hO.set_r
 have hd:(zsf t s).dg.length=32:=zbd
 have hb5:By (pS5 s).1:=zyd (zyd (zyd (zyd hb1)))
 have hl5:(pS5 s).1.length≤9000:=Nat.le_trans zgm hl4
 refine zaa zba ?_
 refine ld hO 2 rfl (v:=int (zsf t s).sz) rfl ?_
 refine zaa zba ?_
 refine ld hO 2 rfl (v:=int (zsf t s).ck) rfl ?_
 have hsz0:(zsf t s).sz≤4294967295:=by show ((leV (tb 4 (tk 8 s)):Nat):Int)≤_; omega
 have hck0:(zsf t s).ck≤65535:=by show ((leV (tb 2 (tk 4 (tk 8 s))):Nat):Int)≤_; omega
 refine zKr (by omega) (by omega) ?_
 refine zva zZA ?_
 have hc0:=zdn (s:=(zsf t s).sz) (c:=(zsf t s).ck)
 have hpn:pN (zsf t s)≤65:=by unfold pN; omega
 rw[show min (cnt (zsf t s).sz (zsf t s).ck) 65=((pN (zsf t s):Nat):Int) by unfold pN; omega]
 have hok:∀ n,n≤65→(zjc (zsf t s) (hsL n (pS5 s))).Ok:=fun n hn=>zaC hb1 htl (by omega) hb5
 have hkG:zOz (tkn (pN (zsf t s)) (pS5 s)).1 (tkn (pN (zsf t s)) (pS5 s)).2=0∧zGa (zjc (zsf t s) (hsL (pN (zsf t s)) (pS5 s)))→∀ H' cv,St H' (Γ++zKa cv (hsC (hsL (pN (zsf t s)) (pS5 s))))→RdH (zKa cv (hsC (hsL (pN (zsf t s)) (pS5 s)))) cv (hsL (pN (zsf t s)) (pS5 s))→K (.tuple [agg (mfC (zjc (zsf t s) (hsL (pN (zsf t s)) (pS5 s))) cv),int 0].toArray) H':=by
  intro h
  rw[show zpF t s=(pM t s,0) from if_pos h] at hk
  exact hk
 have hkB:¬ (zOz (tkn (pN (zsf t s)) (pS5 s)).1 (tkn (pN (zsf t s)) (pS5 s)).2=0∧zGa (zjc (zsf t s) (hsL (pN (zsf t s)) (pS5 s))))→∀ H',St H' Γ→K (.tuple [agg (mfC m0 zqa),int 131].toArray) H':=by
  intro h H' hO
  rw[show zpF t s=(m0,131) from if_neg h] at hk
  exact hk H' zqa hO.z (.inl ⟨rfl,rfl⟩)
 clear hk
 generalize pN (zsf t s)=N at *
 generalize zsf t s=h at *
 generalize pS5 s=s5 at *
 clear h8 h4 h2 hl4
 refine zpj (fun k l' H'=>∃ (y:Nat) (cv v:Value),y≤N∧k=N - y∧l'=[ptr p2 0,int 0,ptr p7 0,ptr p5 0,int N,int y]∧St H' ((Γ++[(p2,⟨mfC m0 zqa,true⟩),(p7,rdr v (tkn y s5).2),(p5,⟨mfC h cv,true⟩)])++zKa cv (hsC (hsL y s5)))∧Own 32 cv y (hsC (hsL y s5))∧RdB Γ v (tkn y s5).1) _ _ ?_ N _ _ ⟨0,zqa,v5,by omega,by omega,rfl,hO.z,.nil,hv⟩
 clear hO hv
 rintro k l' H ⟨y,cv,v,hy,rfl,rfl,hO,how,hv⟩
 unfold zAh
 try simp only[zia,zja]
 refine zaa zMa ?_
 refine zma (fun hlt=>?_) (fun hlt=>?_)
 ·have hy:y < N:=by omega
  obtain⟨cs1,cs2⟩:=zZe how
  refine zaa zba ?_
  refine zoa hO (Γ.length+2) (zCa (zwa rfl)) (zIe hd) ?_
  refine zbv hO (zCa (zwa (k:=1) rfl)) hv.app.app (Nat.le_trans (zIw y) (by omega)) ?_
  intro H1 v6 hO1 i6
  rw[List.set_append_left _ _ (by simp),Go.Ab.set_r] at hO1
  replace hO1:St H1 ((Γ++[(p2,⟨mfC m0 zqa,true⟩),(p7,rdr v6 (tkn (y+1) s5).2),(p5,⟨mfC h cv,true⟩)])++zKa cv (hsC (hsL y s5))):=hO1
  refine⟨zcb hO (Γ.length+2) (zCa (zwa rfl)) hO1 (Γ.length+2) (zCa (zwa rfl)) (zbe cs1),?_⟩
  clear hO
  refine zDa hO1 (zqK _ zbd _) ?_
  clear hO1
  intro q H hO
  refine zYe hO how (by simp[zbd]) (by omega) (zad _) (by omega) (by omega) ?_
  clear hO
  intro cv2 H hO how2
  replace hO:St H ((Γ++[(p2,⟨mfC m0 zqa,true⟩),(p7,rdr v6 (tkn (y+1) s5).2),(p5,⟨mfC h cv,true⟩)])++zKa cv2 (hsC (hsL (y+1) s5))):=by
   show St H (_++zKa cv2 (hsC (hsL y s5++[hs (tkn y s5)])))
   rw[zhm]; exact hO
  replace how2:Own 32 cv2 (y+1) (hsC (hsL (y+1) s5)):=by
   show Own 32 cv2 (y+1) (hsC (hsL y s5++[hs (tkn y s5)]))
   rw[zhm]; exact how2
  refine zaa zba ?_
  refine zNa hO (Γ.length+2) (zCa (zwa rfl)) (zZe how2).2 (by rw[zra hd]; omega) (zcv hd) ?_
  clear hO
  intro H hO
  rw[List.set_append_left _ _ (by simp),Go.Ab.set_r] at hO
  repeat (first|refine oi ?_|refine ow ?_|refine wy ?_|refine wn ?_|refine wt ?_|refine wf' ?_|refine cy ?_|refine cn ?_)
  exact⟨N - (y+1),by omega,y+1,cv2,v6,by omega,rfl,rfl,hO,how2,i6 _ hv⟩
 ·have ey:y=N:=by omega
  subst ey
  refine zZa rfl ?_
  try simp only[zia,zja]
  have hll:=zen (s:=s5) y
  have hrd:RdH (zKa cv (hsC (hsL y s5))) cv (zjc h (hsL y s5)).cks:=zjt (by rw[hll]; exact how)
  have oky:=hok y hpn
  refine zxa (fun l' H'=>l'=[ptr p2 0,ptr p5 0,.bool (decide (¬ (zOz (tkn y s5).1 (tkn y s5).2=0∧zGa (zjc h (hsL y s5)))))]∧St H' ((Γ++[(p2,⟨mfC m0 zqa,true⟩),(p7,rdr v (tkn y s5).2),(p5,⟨mfC h cv,true⟩)])++zKa cv (hsC (hsL y s5)))) ?_ ?_
  ·refine zXB hO (zCa (zwa (k:=1) rfl)) hv.app.app ?_
   refine zaa zQa ?_
   refine zma (fun h1=>?_) (fun h1=>?_)
   ·refine zaa (zjb h1) ?_
    exact⟨by rw[decide_eq_true (show ¬ (zOz (tkn y s5).1 (tkn y s5).2=0∧zGa (zjc h (hsL y s5))) from fun h2=>h1 h2.1)],hO⟩
   ·refine zua hO (Γ.length+2) (zCa (zwa rfl)) (show _=mfC (zjc h (hsL y s5)) cv from by rw[List.drop_zero]; exact List.take_of_length_le (by rw[zra hd]; omega)) (zra hd) (by omega) ?_
    refine zNj oky hrd.app' hO ?_
    clear hO
    intro H hO
    refine zaa zGc ?_
    refine zaa (zWa h1) ?_
    refine⟨?_,hO⟩
    have h1':zOz (tkn y s5).1 (tkn y s5).2=0:=Classical.not_not.1 h1
    by_cases hr:zGa (zjc h (hsL y s5))
    ·rw[decide_eq_true hr,decide_eq_false (show ¬ ¬ (zOz (tkn y s5).1 (tkn y s5).2=0∧zGa (zjc h (hsL y s5))) from fun h2=>h2 ⟨h1',hr⟩)]; rfl
    ·rw[decide_eq_false hr,decide_eq_true (show ¬ (zOz (tkn y s5).1 (tkn y s5).2=0∧zGa (zjc h (hsL y s5))) from fun h2=>hr h2.2)]; rfl
  clear hO
  rintro l' H ⟨rfl,hO⟩
  try simp only[zia,zja]
  refine zma (fun h1=>?_) (fun h1=>?_)
  ·refine zaa bM0 ?_
   replace hO:=hO.left
   refine sw hO 0 rfl (by rfl) (by rfl) (ztb rfl) ?_
   clear hO
   intro H hO
   refine lw hO 0 rfl (by rfl) (by omega) ?_
   exact hkB h1 H hO.left
  ·refine zua hO (Γ.length+2) (zCa (zwa rfl)) (show _=mfC (zjc h (hsL y s5)) cv from by rw[List.drop_zero]; exact List.take_of_length_le (by rw[zra hd]; omega)) (zra hd) (by omega) ?_
   refine zya hO (Γ.length+0) (zCa (zwa rfl)) (by rfl) (zra hd) (ztb (zZe how).2) ?_
   clear hO
   intro H hO
   rw[List.set_append_left _ _ (by simp),Go.Ab.set_r] at hO
   refine zua hO (Γ.length+0) (zCa (zwa rfl)) (show _=mfC (zjc h (hsL y s5)) cv from by rw[List.drop_zero]; exact List.take_of_length_le (by rw[zra (m:=zjc h (hsL y s5)) hd]; omega)) (zra hd) (by omega) ?_
   exact hkG (Classical.not_not.1 h1) H cv (St.mid hO) hrd
end J
set_option maxRecDepth 100000
namespace J
open Go Go.Ab
variable{H:Heap}{Γ Γ0 Γ2 Δ G L:List (Nat × Blk)}{K:VH}{v w x cv dv:Value}{xs ys zs bs b key ms:List Int}{j p q o n k mx:Nat}{e:Int}{cs cs':List Value}{l:List UInt8}{m a:Mf}{cks:List (List Int)}
def Stay(Γ:List (Nat × Blk))(v:Value):Prop:=v=zqa∨∃ (p o n c j:Nat) (b:Blk),v=sl p o n c∧Γ[j]?=some (p,b)∧b.cells.all zab=true∧(b.wr=true∨b.cells≠[])
theorem Stay.app(h:Stay Γ v):Stay (Γ++Δ) v:=by
 rcases h with h|⟨p,o,n,c,j,b,h1,h2,h3⟩
 ·exact .inl h
 ·exact .inr ⟨p,o,n,c,j,b,h1,zCa h2,h3⟩
theorem Stay.same{H':Heap}(h:Stay Γ v)(hO:St H Γ)(hO':St H' (Γ++Δ)):zSa (zRa H H') (zBa [v]):=by
 rcases h with rfl|⟨p,o,n,c,j,b,rfl,h2,h3,h4⟩
 ·rfl
 ·exact zcb (o:=o) hO j h2 hO' j (zCa h2) h3 h4
def hsK:Nat→Rs→Nat
 | 0,_=>0
 | f+1,s=>if s.1=[] then 0 else hsK f (tk 32 s)+1
theorem zim{s:Rs}:∀ n,tkn n (tk 32 s)=tkn (n+1) s
 | 0=>rfl
 | n+1=>by show tk 32 (tkn n (tk 32 s))=_; rw[zim n]; rfl
theorem zwE{s:Rs}:∀ (f y:Nat),y < f→hsK f s=y+hsK (f - y) (tkn y s)→hsK f s=(if (tkn y s).1=[] then y else (y+1)+hsK (f - (y+1)) (tkn (y+1) s)):=by
 intro f y hy h
 obtain⟨g,hg⟩:∃ g,f - y=g+1:=⟨f - y - 1,by omega⟩
 rw[hg] at h
 rw[h,show f - (y+1)=g by omega]
 show y+(if (tkn y s).1=[] then 0 else hsK g (tk 32 (tkn y s))+1)=if (tkn y s).1=[] then y else y+1+hsK g (tk 32 (tkn y s))
 split
 ·omega
 ·omega
def rM(t:List Int)(s:Rs):Mf:=zjc (zsf t s) (hsL (hsK 65 (pS5 s)) (pS5 s))
def rOk(b t:List Int)(s:Rs):Prop:=(tkn (hsK 65 (pS5 s)) (pS5 s)).2=0∧zOb (rM t s)=b∧b≠[]
instance (b t:List Int) (s:Rs):Decidable (rOk b t s):=by unfold rOk; exact inferInstance
def zPH(b t:List Int)(s:Rs):Mf × Int:=if rOk b t s then (rM t s,0) else (m0,131)
def zGk(b:List Int):Mf × Int:=zPH b (tYb b 0) (tYr b 0,tYe b 0)
theorem zrK(a:Option Addr)(n c:Nat):(zAa P 185).f [(0,.slice a n c)]=some (agg [.slice a n c,int 0]):=by kernel_rfl
theorem bM1(s:ByteArray):(zAa P 52).f [(0,.string s)]=some (agg (mfC ⟨s.data.toList,0,0,0,z32,[]⟩ zqa)):=by kernel_rfl
theorem zVx{a b:List Int}(ha:By a)(hb:By b)(h:ob a=ob b):a=b:=by
 have h1:=zTB a ha
 have h2:=zTB b hb
 rw[← h1,← h2]
 exact congrArg ub h
theorem zdv(y n:Nat):By (leN y n):=by
 intro x hx
 obtain⟨i,_,rfl⟩:=List.mem_map.1 hx
 have:=Nat.mod_lt (n / 256 ^ i) (show 256 > 0 by decide)
 omega
theorem zdH:∀ {l:List (List Int)},(∀ x ∈ l,By x)→By l.flatten:=by
 intro l h x hx
 obtain⟨y,hy,hx⟩:=List.mem_flatten.1 hx
 exact h y hy x hx
theorem zWp(ok:m.Ok):By (zOb m):=by
 unfold zOb
 split
 ·exact zsd (zsd (zsd (zsd (zsd (zsd (zdv _ _) zmK) (zdv _ _)) (zdv _ _)) (zdv _ _)) ok.db) (zdH ok.cb)
 ·intro x h; cases h
set_option maxHeartbeats 4000000 in
theorem zho(hO:St H Γ)(hv:RdB Γ v b)(hb:By b)(hx:b.length≤9000)(hst:Stay Γ v)
  (hk:∀ H' cv,St H' (Γ++zKa cv (hsC (zGk b).1.cks))→RdH (zKa cv (hsC (zGk b).1.cks)) cv (zGk b).1.cks→K (.tuple [agg (mfC (zGk b).1 cv),int (zGk b).2].toArray) H'):wCall P zHf [v] H K:=by
 apply zHq; unfold zEp
 have hvb:=hv
 rw[zcM]
 refine nw hO.z ?_
 clear hO
 intro p2 H hO
 obtain⟨a0,n0,c0,e0⟩:=hv.shape
 refine zaa (by rw[e0]; exact zrK _ _ _) ?_
 rw[← e0]
 refine nw hO ?_
 clear hO
 intro p7 H hO
 replace hO:St H (Γ++[(p2,⟨mfC m0 zqa,true⟩),(p7,rdr v 0)]):=hO
 have htl:(tYb b 0).length≤10000:=by
  unfold tYb
  have h1:∀ (xs:List Int) (e:Int) (n:Nat),(tkB xs e n).length≤xs.length:=fun xs e n=>by
   unfold tkB
   split
   ·rw[List.length_take]; omega
   ·simp
  have:=h1 (tkR b 0 2) (tkE b 0 2) (tN b 0)
  have:=zki b 0 2
  omega
 refine zHw hO (zwa (k:=1) rfl) hv.app hb (by omega) ?_
 clear hO
 intro H v1 hO i1
 replace hO:St H (Γ++[(p2,⟨mfC m0 zqa,true⟩),(p7,rdr v1 (tYe b 0))]):=hO.set_r
 replace hv:=i1 _ hv
 have hb1:By (tYr b 0):=zFk (zFk hb _ _) _ _
 have hl1:(tYr b 0).length≤b.length:=Nat.le_trans (zki _ _ _) (zki _ _ _)
 unfold zGk at hk
 replace hO:St H (Γ++[(p2,⟨mfC m0 zqa,true⟩),(p7,rdr v1 (tYr b 0,tYe b 0).2)]):=hO
 replace hv:RdB Γ v1 (tYr b 0,tYe b 0).1:=hv
 replace hb1:By (tYr b 0,tYe b 0).1:=hb1
 replace hl1:(tYr b 0,tYe b 0).1.length≤b.length:=hl1
 generalize tYb b 0=t at *
 generalize ((tYr b 0,tYe b 0):Rs)=s at *
 clear i1
 refine zaa (bM1 _) ?_
 refine nw hO ?_
 clear hO
 intro p5 H hO
 refine sw hO 2 rfl (by rfl) (by rfl) (ztb rfl) ?_
 clear hO
 intro H hO
 replace hO:St H (Γ++[(p2,⟨mfC m0 zqa,true⟩),(p7,rdr v1 s.2),(p5,⟨mfC ⟨ob t,0,0,0,z32,[]⟩ zqa,true⟩)]):=hO
 have h8:=zit hb1 8
 refine zPg (k:=8) (by omega) hO (zwa (k:=1) rfl) hv.app (by omega) hb1 ?_
 clear hO
 intro H v2 hO i2
 replace hO:St H (Γ++[(p2,⟨mfC m0 zqa,true⟩),(p7,rdr v2 (tk 8 s).2),(p5,⟨mfC ⟨ob t,0,0,0,z32,[]⟩ zqa,true⟩)]):=hO.set_r
 replace hv:RdB Γ v2 (tk 8 s).1:=i2 _ hv
 refine zaa zba ?_
 refine s1 hO 2 rfl rfl (by rw[zra rfl]; omega) ?_
 clear hO i2
 intro H hO
 replace hO:St H (Γ++[(p2,⟨mfC m0 zqa,true⟩),(p7,rdr v2 (tk 8 s).2),(p5,⟨mfC ⟨ob t,leV (tb 8 s),0,0,z32,[]⟩ zqa,true⟩)]):=hO
 have hl2:(tk 8 s).1.length≤9000:=Nat.le_trans zgm (by omega)
 have h4:=zit (s:=tk 8 s) (zyd hb1) 4
 refine zPg (k:=4) (by omega) hO (zwa (k:=1) rfl) hv.app (by omega) (zyd hb1) ?_
 clear hO
 intro H v3 hO i3
 replace hO:St H (Γ++[(p2,⟨mfC m0 zqa,true⟩),(p7,rdr v3 (tk 4 (tk 8 s)).2),(p5,⟨mfC ⟨ob t,leV (tb 8 s),0,0,z32,[]⟩ zqa,true⟩)]):=hO.set_r
 replace hv:RdB Γ v3 (tk 4 (tk 8 s)).1:=i3 _ hv
 refine zva (zhB (k:=.u64) (show leV (tb 4 (tk 8 s))≤_ by omega)) ?_
 refine zaa zba ?_
 refine s1 hO 2 rfl rfl (by rw[zra rfl]; omega) ?_
 clear hO i3
 intro H hO
 replace hO:St H (Γ++[(p2,⟨mfC m0 zqa,true⟩),(p7,rdr v3 (tk 4 (tk 8 s)).2),(p5,⟨mfC ⟨ob t,leV (tb 8 s),(leV (tb 4 (tk 8 s)):Int),0,z32,[]⟩ zqa,true⟩)]):=hO
 have hl3:(tk 4 (tk 8 s)).1.length≤9000:=Nat.le_trans zgm hl2
 have h2:=zit (s:=tk 4 (tk 8 s)) (zyd (zyd hb1)) 2
 refine zPg (k:=2) (by omega) hO (zwa (k:=1) rfl) hv.app (by omega) (zyd (zyd hb1)) ?_
 clear hO
 intro H v4 hO i4
 replace hO:St H (Γ++[(p2,⟨mfC m0 zqa,true⟩),(p7,rdr v4 (tk 2 (tk 4 (tk 8 s))).2),(p5,⟨mfC ⟨ob t,leV (tb 8 s),(leV (tb 4 (tk 8 s)):Int),0,z32,[]⟩ zqa,true⟩)]):=hO.set_r
 replace hv:RdB Γ v4 (tk 2 (tk 4 (tk 8 s))).1:=i4 _ hv
 refine zva (zhB (k:=.u64) (show leV (tb 2 (tk 4 (tk 8 s)))≤_ by omega)) ?_
 refine zaa zba ?_
 refine s1 hO 2 rfl rfl (by rw[zra rfl]; omega) ?_
 clear hO i4
 intro H hO
 replace hO:St H (Γ++[(p2,⟨mfC m0 zqa,true⟩),(p7,rdr v4 (tk 2 (tk 4 (tk 8 s))).2),(p5,⟨mfC ⟨ob t,leV (tb 8 s),(leV (tb 4 (tk 8 s)):Int),(leV (tb 2 (tk 4 (tk 8 s))):Int),z32,[]⟩ zqa,true⟩)]):=hO
 have hl4:(tk 2 (tk 4 (tk 8 s))).1.length≤9000:=Nat.le_trans zgm hl3
 refine zvj hO (zwa (k:=1) rfl) hv.app (by omega) ?_
 clear hO
 intro H v5 hO i5
 replace hO:St H (Γ++[(p2,⟨mfC m0 zqa,true⟩),(p7,rdr v5 (pS5 s).2),(p5,⟨mfC ⟨ob t,leV (tb 8 s),(leV (tb 4 (tk 8 s)):Int),(leV (tb 2 (tk 4 (tk 8 s))):Int),z32,[]⟩ zqa,true⟩)]):=hO.set_r
 replace hv:RdB Γ v5 (pS5 s).1:=i5 _ hv
 refine zaa zba ?_
 refine zed hO (Γ.length+2) (zwa rfl) (show (by8 (hsh _ _)).length=32 by rw[zii]; exact zbd) (by show 0+4+32≤(mfC _ _).length; rw[zra rfl]; omega) (zad _) ?_
 clear hO i5
 intro H hO
 rw[zUx rfl zbd] at hO
 replace hO:St H (Γ++[(p2,⟨mfC m0 zqa,true⟩),(p7,rdr v5 (pS5 s).2),(p5,⟨mfC (zsf t s) zqa,true⟩)]):=hO.set_r
 have hd:(zsf t s).dg.length=32:=zbd
 have hb5:By (pS5 s).1:=zyd (zyd (zyd (zyd hb1)))
 have hl5:(pS5 s).1.length≤9000:=Nat.le_trans zgm hl4
 have hok:∀ n,n≤65→(zjc (zsf t s) (hsL n (pS5 s))).Ok:=fun n hn=>zaC hb1 htl (by omega) hb5
 have hkG:(tkn (hsK 65 (pS5 s)) (pS5 s)).2=0∧zOb (zjc (zsf t s) (hsL (hsK 65 (pS5 s)) (pS5 s)))=b∧b≠[]→∀ H' cv,St H' (Γ++zKa cv (hsC (hsL (hsK 65 (pS5 s)) (pS5 s))))→RdH (zKa cv (hsC (hsL (hsK 65 (pS5 s)) (pS5 s)))) cv (hsL (hsK 65 (pS5 s)) (pS5 s))→K (.tuple [agg (mfC (zjc (zsf t s) (hsL (hsK 65 (pS5 s)) (pS5 s))) cv),int 0].toArray) H':=by
  intro h
  rw[show zPH b t s=(rM t s,0) from if_pos h] at hk
  exact hk
 have hkB:¬ ((tkn (hsK 65 (pS5 s)) (pS5 s)).2=0∧zOb (zjc (zsf t s) (hsL (hsK 65 (pS5 s)) (pS5 s)))=b∧b≠[])→∀ H',St H' Γ→K (.tuple [agg (mfC m0 zqa),int 131].toArray) H':=by
  intro h H' hO
  rw[show zPH b t s=(m0,131) from if_neg h] at hk
  exact hk H' zqa hO.z (.inl ⟨rfl,rfl⟩)
 clear hk
 generalize zsf t s=h at *
 generalize pS5 s=s5 at *
 clear h8 h4 h2 hl4
 refine zNl (fun k l' H'=>∃ (y:Nat) (cv vr:Value),y≤65∧k=65 - y∧l'=[v,ptr p2 0,int 0,ptr p7 0,ptr p5 0]∧St H' ((Γ++[(p2,⟨mfC m0 zqa,true⟩),(p7,rdr vr (tkn y s5).2),(p5,⟨mfC h cv,true⟩)])++zKa cv (hsC (hsL y s5)))∧Own 32 cv y (hsC (hsL y s5))∧RdB Γ vr (tkn y s5).1∧hsK 65 s5=y+hsK (65 - y) (tkn y s5)) _ _ ?_ 65 _ _ ⟨0,zqa,v5,by omega,by omega,rfl,hO.z,.nil,hv,by rw[Nat.zero_add]; rfl⟩
 clear hO hv
 rintro k l' H ⟨y,cv,vr,hy,rfl,rfl,hO,how,hv,hK⟩
 unfold zyk
 try simp only[zia,zja]
 obtain⟨cs1,cs2⟩:=zZe how
 by_cases h0:(tkn y s5).1=[]
 ·refine zxa (fun _ _=>False) ?_ (fun _ _ h=>h.elim)
  have hKy:hsK 65 s5=y:=by
   rw[hK]
   have:hsK (65 - y) (tkn y s5)=0:=by
    cases h65:65 - y with
    | zero=>rfl
    | succ n=>unfold hsK; rw[if_pos h0]
   omega
  refine zaa zca ?_
  refine zaa zba ?_
  refine zoa hO (Γ.length+1) (zCa (zwa rfl)) (v:=vr) rfl ?_
  refine zva hv.lenSl ?_
  refine zaa zTb ?_
  refine zqc (by rw[h0]; simp) ?_
  rw[h0]
  repeat (first|refine oi ?_|refine ow ?_|refine wy ?_|refine wn ?_|refine wt ?_|refine wf' ?_|refine cy ?_|refine cn ?_)
  try simp only[zia,zja]
  have hll:=zen (s:=s5) y
  have hrd:RdH (zKa cv (hsC (hsL y s5))) cv (zjc h (hsL y s5)).cks:=zjt (by rw[hll]; exact how)
  have oky:=hok y hy
  rw[hKy] at hkG hkB
  refine zxa (fun l' H'=>l'=[ptr p2 0,ptr p5 0,.bool (decide (¬ ((tkn y s5).2=0∧zOb (zjc h (hsL y s5))=b∧b≠[])))]∧St H' ((Γ++[(p2,⟨mfC m0 zqa,true⟩),(p7,rdr vr (tkn y s5).2),(p5,⟨mfC h cv,true⟩)])++zKa cv (hsC (hsL y s5)))) ?_ ?_
  ·refine zaa zca ?_
   refine zaa zba ?_
   refine zoa hO (Γ.length+1) (zCa (zwa rfl)) (v:=int (tkn y s5).2) rfl ?_
   refine zaa zQa ?_
   refine zma (fun h1=>?_) (fun h1=>?_)
   ·refine zaa (zjb h1) ?_
    refine zaa zUc ?_
    exact⟨by rw[decide_eq_true (show ¬ ((tkn y s5).2=0∧zOb (zjc h (hsL y s5))=b∧b≠[]) from fun h2=>h1 h2.1)],hO⟩
   ·have h1':(tkn y s5).2=0:=Classical.not_not.1 h1
    refine zua hO (Γ.length+2) (zCa (zwa rfl)) (show _=mfC (zjc h (hsL y s5)) cv from by rw[List.drop_zero]; exact List.take_of_length_le (by rw[zra hd]; omega)) (zra hd) (by omega) ?_
    refine zrf oky hrd.app' hO ?_
    intro H2 v8 c8 hO2 hv8
    refine zva (RdB.str hO2 hv8.rd.app') ?_
    refine zva (RdB.str hO2 hvb.app.app.app) ?_
    have hsame:zSa (zRa H H2) (zBa [v]):=hst.app.app.same hO hO2
    refine⟨hsame,?_⟩
    refine zaa (zTx (l:=ob (zOb (zjc h (hsL y s5)))) (m:=ob b) _ _) ?_
    refine zaa (zWa h1) ?_
    have hiff:ob (zOb (zjc h (hsL y s5)))=ob b↔zOb (zjc h (hsL y s5))=b:=⟨fun h=>zVx (zWp oky) hb h,fun h=>by rw[h]⟩
    refine zma (fun h3=>?_) (fun h3=>?_)
    ·refine zaa (zjb h3) ?_
     exact⟨by rw[decide_eq_true (show ¬ ((tkn y s5).2=0∧zOb (zjc h (hsL y s5))=b∧b≠[]) from fun h2=>h3 (hiff.2 h2.2.1))],hO2.left⟩
    ·refine zva hvb.lenSl ?_
     refine zaa zUa ?_
     refine zaa (zWa h3) ?_
     refine⟨?_,hO2.left⟩
     have h3':=hiff.1 (Classical.not_not.1 h3)
     rw[decide_eq_decide.2 (show ((b.length:Int)=0)↔¬ ((tkn y s5).2=0∧zOb (zjc h (hsL y s5))=b∧b≠[]) from⟨fun h4 h5=>h5.2.2 (List.length_eq_zero_iff.1 (by omega)),fun h4=>by
      by_cases h5:b=[]
      ·rw[h5]; rfl
      ·exact absurd ⟨h1',h3',h5⟩ h4⟩)]
  clear hO
  rintro l' H ⟨rfl,hO⟩
  try simp only[zia,zja]
  refine zma (fun h1=>?_) (fun h1=>?_)
  ·refine zaa bM0 ?_
   replace hO:=hO.left
   refine sw hO 0 rfl (by rfl) (by rfl) (ztb rfl) ?_
   clear hO
   intro H hO
   refine lw hO 0 rfl (by rfl) (by omega) ?_
   exact hkB h1 H hO.left
  ·refine zua hO (Γ.length+2) (zCa (zwa rfl)) (show _=mfC (zjc h (hsL y s5)) cv from by rw[List.drop_zero]; exact List.take_of_length_le (by rw[zra hd]; omega)) (zra hd) (by omega) ?_
   refine zya hO (Γ.length+0) (zCa (zwa rfl)) (by rfl) (zra hd) (ztb (zZe how).2) ?_
   clear hO
   intro H hO
   rw[List.set_append_left _ _ (by simp),Go.Ab.set_r] at hO
   refine zua hO (Γ.length+0) (zCa (zwa rfl)) (show _=mfC (zjc h (hsL y s5)) cv from by rw[List.drop_zero]; exact List.take_of_length_le (by rw[zra (m:=zjc h (hsL y s5)) hd]; omega)) (zra hd) (by omega) ?_
   exact hkG (Classical.not_not.1 h1) H cv (St.mid hO) hrd
 by_cases h1:y=65
 ·refine zxa (fun _ _=>False) ?_ (fun _ _ h=>h.elim)
  have hKy:hsK 65 s5=y:=by
   rw[hK,h1]; rfl
  have hlp:0 < (tkn y s5).1.length:=List.length_pos_iff.2 h0
  refine zaa zca ?_
  refine zaa zba ?_
  refine zoa hO (Γ.length+1) (zCa (zwa rfl)) (v:=vr) rfl ?_
  refine zva hv.lenSl ?_
  refine zaa zTb ?_
  refine zNb (by omega) ?_
  refine zaa zba ?_
  refine zoa hO (Γ.length+2) (zCa (zwa rfl)) (zIe hd) ?_
  refine zva how.lenSl ?_
  repeat (first|refine oi ?_|refine ow ?_|refine wy ?_|refine wn ?_|refine wt ?_|refine wf' ?_|refine cy ?_|refine cn ?_)
  try simp only[zia,zja]
  have hll:=zen (s:=s5) y
  have hrd:RdH (zKa cv (hsC (hsL y s5))) cv (zjc h (hsL y s5)).cks:=zjt (by rw[hll]; exact how)
  have oky:=hok y hy
  rw[hKy] at hkG hkB
  refine zxa (fun l' H'=>l'=[ptr p2 0,ptr p5 0,.bool (decide (¬ ((tkn y s5).2=0∧zOb (zjc h (hsL y s5))=b∧b≠[])))]∧St H' ((Γ++[(p2,⟨mfC m0 zqa,true⟩),(p7,rdr vr (tkn y s5).2),(p5,⟨mfC h cv,true⟩)])++zKa cv (hsC (hsL y s5)))) ?_ ?_
  ·refine zaa zca ?_
   refine zaa zba ?_
   refine zoa hO (Γ.length+1) (zCa (zwa rfl)) (v:=int (tkn y s5).2) rfl ?_
   refine zaa zQa ?_
   refine zma (fun h1=>?_) (fun h1=>?_)
   ·refine zaa (zjb h1) ?_
    refine zaa zUc ?_
    exact⟨by rw[decide_eq_true (show ¬ ((tkn y s5).2=0∧zOb (zjc h (hsL y s5))=b∧b≠[]) from fun h2=>h1 h2.1)],hO⟩
   ·have h1':(tkn y s5).2=0:=Classical.not_not.1 h1
    refine zua hO (Γ.length+2) (zCa (zwa rfl)) (show _=mfC (zjc h (hsL y s5)) cv from by rw[List.drop_zero]; exact List.take_of_length_le (by rw[zra hd]; omega)) (zra hd) (by omega) ?_
    refine zrf oky hrd.app' hO ?_
    intro H2 v8 c8 hO2 hv8
    refine zva (RdB.str hO2 hv8.rd.app') ?_
    refine zva (RdB.str hO2 hvb.app.app.app) ?_
    have hsame:zSa (zRa H H2) (zBa [v]):=hst.app.app.same hO hO2
    refine⟨hsame,?_⟩
    refine zaa (zTx (l:=ob (zOb (zjc h (hsL y s5)))) (m:=ob b) _ _) ?_
    refine zaa (zWa h1) ?_
    have hiff:ob (zOb (zjc h (hsL y s5)))=ob b↔zOb (zjc h (hsL y s5))=b:=⟨fun h=>zVx (zWp oky) hb h,fun h=>by rw[h]⟩
    refine zma (fun h3=>?_) (fun h3=>?_)
    ·refine zaa (zjb h3) ?_
     exact⟨by rw[decide_eq_true (show ¬ ((tkn y s5).2=0∧zOb (zjc h (hsL y s5))=b∧b≠[]) from fun h2=>h3 (hiff.2 h2.2.1))],hO2.left⟩
    ·refine zva hvb.lenSl ?_
     refine zaa zUa ?_
     refine zaa (zWa h3) ?_
     refine⟨?_,hO2.left⟩
     have h3':=hiff.1 (Classical.not_not.1 h3)
     rw[decide_eq_decide.2 (show ((b.length:Int)=0)↔¬ ((tkn y s5).2=0∧zOb (zjc h (hsL y s5))=b∧b≠[]) from⟨fun h4 h5=>h5.2.2 (List.length_eq_zero_iff.1 (by omega)),fun h4=>by
      by_cases h5:b=[]
      ·rw[h5]; rfl
      ·exact absurd ⟨h1',h3',h5⟩ h4⟩)]
  clear hO
  rintro l' H ⟨rfl,hO⟩
  try simp only[zia,zja]
  refine zma (fun h1=>?_) (fun h1=>?_)
  ·refine zaa bM0 ?_
   replace hO:=hO.left
   refine sw hO 0 rfl (by rfl) (by rfl) (ztb rfl) ?_
   clear hO
   intro H hO
   refine lw hO 0 rfl (by rfl) (by omega) ?_
   exact hkB h1 H hO.left
  ·refine zua hO (Γ.length+2) (zCa (zwa rfl)) (show _=mfC (zjc h (hsL y s5)) cv from by rw[List.drop_zero]; exact List.take_of_length_le (by rw[zra hd]; omega)) (zra hd) (by omega) ?_
   refine zya hO (Γ.length+0) (zCa (zwa rfl)) (by rfl) (zra hd) (ztb (zZe how).2) ?_
   clear hO
   intro H hO
   rw[List.set_append_left _ _ (by simp),Go.Ab.set_r] at hO
   refine zua hO (Γ.length+0) (zCa (zwa rfl)) (show _=mfC (zjc h (hsL y s5)) cv from by rw[List.drop_zero]; exact List.take_of_length_le (by rw[zra (m:=zjc h (hsL y s5)) hd]; omega)) (zra hd) (by omega) ?_
   exact hkG (Classical.not_not.1 h1) H cv (St.mid hO) hrd
 have hlp:0 < (tkn y s5).1.length:=List.length_pos_iff.2 h0
 refine zxa (fun l' H'=>l'=[v,ptr p2 0,int 0,ptr p7 0,ptr p5 0]∧H=H') ?_ ?_
 ·refine zaa zca ?_
  refine zaa zba ?_
  refine zoa hO (Γ.length+1) (zCa (zwa rfl)) (v:=vr) rfl ?_
  refine zva hv.lenSl ?_
  refine zaa zTb ?_
  refine zNb (by omega) ?_
  refine zaa zba ?_
  refine zoa hO (Γ.length+2) (zCa (zwa rfl)) (zIe hd) ?_
  refine zva how.lenSl ?_
  repeat (first|refine oi ?_|refine ow ?_|refine wy ?_|refine wn ?_|refine wt ?_|refine wf' ?_|refine cy ?_|refine cn ?_)
  exact⟨(by first|rfl|trivial),(by first|rfl|trivial)⟩
 rintro l' H' ⟨rfl,rfl⟩
 try simp only[zia,zja]
 refine zaa zba ?_
 refine zoa hO (Γ.length+2) (zCa (zwa rfl)) (zIe hd) ?_
 refine zvj hO (zCa (zwa (k:=1) rfl)) hv.app.app (Nat.le_trans (zIw y) (by omega)) ?_
 intro H1 v6 hO1 i6
 rw[List.set_append_left _ _ (by simp),Go.Ab.set_r] at hO1
 replace hO1:St H1 ((Γ++[(p2,⟨mfC m0 zqa,true⟩),(p7,rdr v6 (tkn (y+1) s5).2),(p5,⟨mfC h cv,true⟩)])++zKa cv (hsC (hsL y s5))):=hO1
 refine⟨zcb hO (Γ.length+2) (zCa (zwa rfl)) hO1 (Γ.length+2) (zCa (zwa rfl)) (zbe cs1),?_⟩
 clear hO
 refine zDa hO1 (zqK _ zbd _) ?_
 clear hO1
 intro q H hO
 refine zYe hO how (by simp[zbd]) (by omega) (zad _) (by omega) (by omega) ?_
 clear hO
 intro cv2 H hO how2
 replace hO:St H ((Γ++[(p2,⟨mfC m0 zqa,true⟩),(p7,rdr v6 (tkn (y+1) s5).2),(p5,⟨mfC h cv,true⟩)])++zKa cv2 (hsC (hsL (y+1) s5))):=by
  show St H (_++zKa cv2 (hsC (hsL y s5++[hs (tkn y s5)])))
  rw[zhm]; exact hO
 replace how2:Own 32 cv2 (y+1) (hsC (hsL (y+1) s5)):=by
  show Own 32 cv2 (y+1) (hsC (hsL y s5++[hs (tkn y s5)]))
  rw[zhm]; exact how2
 refine zaa zba ?_
 refine zNa hO (Γ.length+2) (zCa (zwa rfl)) (zZe how2).2 (by rw[zra hd]; omega) (zcv hd) ?_
 clear hO
 intro H hO
 rw[List.set_append_left _ _ (by simp),Go.Ab.set_r] at hO
 refine⟨65 - (y+1),by omega,y+1,cv2,v6,by omega,rfl,(by first|rfl|trivial),hO,how2,i6 _ hv,?_⟩
 have:=zwE 65 y (by omega) hK
 rw[if_neg h0] at this
 exact this
end J
set_option maxRecDepth 100000
namespace J
open Go Go.Ab
variable{xs ys zs bs b t:List Int}{n:Nat}{e:Int}{l:List UInt8}{m:Mf}{s:Rs}
theorem zWx(k n:Nat):leN (k+1) n=((n % 256:Nat):Int)::leN k (n / 256):=by
 unfold leN
 rw[List.range_succ_eq_map,List.map_cons,List.map_map]
 congr 1
 ·simp
 ·refine List.map_congr_left fun i _=>?_
  show ((n / 256 ^ (i+1) % 256:Nat):Int)=_
  rw[Nat.pow_succ,Nat.mul_comm,Nat.div_div_eq_div_mul]
theorem zkt:∀ (bs:List Int),By bs→leN bs.length (leV bs)=bs
 | [],_=>rfl
 | x::r,h=>by
  have hx:=h x List.mem_cons_self
  have ih:=zkt r fun y hy=>h y (List.mem_cons_of_mem _ hy)
  show leN (r.length+1) (x.toNat+256 * leV r)=x::r
  rw[zWx,show (x.toNat+256 * leV r) / 256=leV r by omega,ih,show (x.toNat+256 * leV r) % 256=x.toNat by omega]
  congr 1; omega
theorem zOj:∀ (k n:Nat),n < 256 ^ k→leV (leN k n)=n
 | 0,n,h=>by simp at h; subst h; rfl
 | k+1,n,h=>by
  rw[zWx]
  show (((n % 256:Nat):Int)).toNat+256 * leV (leN k (n / 256))=n
  rw[zOj k (n / 256) (by rw[Nat.pow_succ] at h; omega)]
  omega
theorem zcd(h:(tk n s).2=0):s.2=0∧s.1=tb n s++(tk n s).1∧(tb n s).length=n:=by
 have hc:s.2=0∧n≤s.1.length:=by
  have h:tkE s.1 s.2 n=0:=h
  unfold tkE at h
  split at h
  ·assumption
  ·split at h
   ·omega
   ·contradiction
 refine⟨hc.1,?_,?_⟩
 ·show s.1=tkB s.1 s.2 n++tkR s.1 s.2 n
  unfold tkB tkR
  rw[if_pos hc,if_pos hc,List.take_append_drop]
 ·show (tkB s.1 s.2 n).length=n
  unfold tkB
  rw[if_pos hc,List.length_take]; omega
theorem zXp{a r:List Int}(h:a.length=n):tk n (a++r,0)=(r,0)∧tb n (a++r,0)=a:=by
 have hc:(0:Int)=0∧n≤(a++r).length:=⟨rfl,by rw[List.length_append]; omega⟩
 refine⟨?_,?_⟩
 ·show (tkR (a++r) 0 n,tkE (a++r) 0 n)=_
  unfold tkR tkE
  rw[if_pos hc,if_pos hc,← h,List.drop_left]
 ·show tkB (a++r) 0 n=a
  unfold tkB
  rw[if_pos hc,← h,List.take_left]
theorem zlt(h:(tk 32 s).2=0):hs s=tb 32 s:=by
 obtain⟨h1,h2,h3⟩:=zcd h
 have hl:32≤s.1.length:=by
  have:=congrArg List.length h2
  rw[List.length_append,h3] at this; omega
 show hsh s.1 s.2=tkB s.1 s.2 32
 unfold hsh tkB
 rw[if_pos ⟨h1,hl⟩,if_pos ⟨h1,hl⟩]
theorem zjm:∀ n,(tkn n s).2=0→s.2=0∧s.1=(hsL n s).flatten++(tkn n s).1
 | 0,h=>⟨h,rfl⟩
 | n+1,h=>by
  obtain⟨h1,h2,h3⟩:=zcd (s:=tkn n s) (n:=32) h
  obtain⟨g1,g2⟩:=zjm n h1
  refine⟨g1,?_⟩
  show s.1=(hsL n s++[hs (tkn n s)]).flatten++(tkn (n+1) s).1
  rw[List.flatten_append,List.append_assoc,zlt h]
  conv=>lhs; rw[g2,h2]
  simp; rfl
theorem zXx{s:Rs}:∀ n,hsL (n+1) s=hs s::hsL n (tk 32 s)
 | 0=>rfl
 | n+1=>by
  show hsL (n+1) s++[hs (tkn (n+1) s)]=hs s::(hsL n (tk 32 s)++[hs (tkn n (tk 32 s))])
  rw[zXx n,zim n]; rfl
theorem zbC:∀ (cks:List (List Int)) (r:List Int),(∀ x ∈ cks,x.length=32)→tkn cks.length (cks.flatten++r,0)=(r,0)∧hsL cks.length (cks.flatten++r,0)=cks
 | [],r,_=>⟨rfl,rfl⟩
 | c::cs,r,h=>by
  obtain⟨i1,i2⟩:=zbC cs r fun x hx=>h x (List.mem_cons_of_mem _ hx)
  obtain⟨j1,j2⟩:=zXp (n:=32) (a:=c) (r:=cs.flatten++r) (h c List.mem_cons_self)
  rw[List.flatten_cons,List.append_assoc,List.length_cons,← zim,zXx,j1,i1,i2,zlt (by rw[j1]),j2]
  exact⟨rfl,rfl⟩
def MB(m:Mf):List Int:=txB m.pr++leN 8 m.ver++leN 4 m.sz.toNat++leN 2 m.ck.toNat++m.dg++m.cks.flatten
theorem zwj(h:zGa m):zOb m=MB m:=if_pos h
theorem zsK:MB m≠[]:=by
 intro h
 have:=congrArg List.length h
 simp[MB,txB,zqd] at this
theorem zRJ{s:Rs}{k:Nat}(h:(tk k s).2=0)(hb:By s.1):leN k (leV (tb k s))=tb k s:=by
 obtain⟨_,_,h3⟩:=zcd h
 have:=zkt (tb k s) (zZB hb s.2 k)
 rw[h3] at this; exact this
theorem zxE{t:List Int}{s:Rs}{N:Nat}(hs1:By s.1)(ht:By t)(htl:t.length < 65536)(h:(tkn N (pS5 s)).2=0) :
  s.2=0∧leN 2 t.length++t++s.1=MB (zjc (zsf t s) (hsL N (pS5 s)))++(tkn N (pS5 s)).1:=by
 obtain⟨h5,e5⟩:=zjm N h
 have hb8:=zyd (n:=8) hs1
 have hb4:=zyd (n:=4) hb8
 have hb2:=zyd (n:=2) hb4
 obtain⟨h4,e4,l4⟩:=zcd (s:=tk 2 (tk 4 (tk 8 s))) (n:=32) h5
 obtain⟨h3,e3,l3⟩:=zcd (s:=tk 4 (tk 8 s)) (n:=2) h4
 obtain⟨h2,e2,l2⟩:=zcd (s:=tk 8 s) (n:=4) h3
 obtain⟨h1,e1,l1⟩:=zcd (s:=s) (n:=8) h2
 refine⟨h1,?_⟩
 have w8:=zRJ (k:=8) h2 hs1
 have w4:=zRJ (k:=4) h3 hb8
 have w2:=zRJ (k:=2) h4 hb4
 have wh:hs (tk 2 (tk 4 (tk 8 s)))=tb 32 (tk 2 (tk 4 (tk 8 s))):=zlt h5
 show _=(leN 2 (ob t).length++ub (ob t))++leN 8 (leV (tb 8 s))++leN 4 ((leV (tb 4 (tk 8 s)):Nat):Int).toNat++leN 2 ((leV (tb 2 (tk 4 (tk 8 s))):Nat):Int).toNat++hs (tk 2 (tk 4 (tk 8 s)))++(hsL N (pS5 s)).flatten++(tkn N (pS5 s)).1
 rw[Int.toNat_natCast,Int.toNat_natCast,w8,w4,w2,wh,show ub (ob t)=t from zTB t ht,show (ob t).length=t.length by simp[ob]]
 conv=>lhs; rw[e1,e2,e3,e4]
 rw[show (tk 32 (tk 2 (tk 4 (tk 8 s)))).1=(pS5 s).1 from rfl,e5]
 simp only[List.append_assoc]
theorem zcC:∀ (N f:Nat) (s:Rs),N≤f→(tkn N s).2=0→(tkn N s).1=[]→hsK f s=N
 | 0,f,s,_,_,h=>by
  cases f with
  | zero=>rfl
  | succ f=>unfold hsK; rw[if_pos (show s.1=[] from h)]
 | N+1,0,s,h,_,_=>by omega
 | N+1,f+1,s,hf,he,hr=>by
  rw[← zim N] at he hr
  have ih:=zcC N f (tk 32 s) (by omega) he hr
  have h5:=(zjm N he).1
  obtain⟨_,g2,g3⟩:=zcd h5
  unfold hsK
  rw[if_neg,ih]
  intro h0
  rw[h0] at g2
  have:=congrArg List.length g2
  simp[g3] at this
  omega
theorem zYx:∀ (f:Nat) (s:Rs),hsK f s < f→(tkn (hsK f s) s).1=[]
 | 0,s,h=>by omega
 | f+1,s,h=>by
  unfold hsK at h ⊢
  split
  ·assumption
  ·rename_i h0
   rw[if_neg h0] at h
   have ih:=zYx f (tk 32 s) (by omega)
   rw[zim] at ih; exact ih
theorem zdC:∀ (n:Nat) (l:List UInt8),l.length≤n→l.length≤4 * (zXu n l).length
 | 0,l,h=>by omega
 | n+1,l,h=>by
  unfold zXu
  split
  ·rename_i h0; rw[h0]; simp
  ·rename_i h0
   have hw:=zgt h0
   have hw4:wid l≤4:=by
    unfold wid
    split
    ·omega
    ·rename_i r hr; exact (zQB hr h0).2.1
   have ih:=zdC n (l.drop (wid l)) (by rw[List.length_drop]; omega)
   rw[List.length_drop] at ih
   rw[List.length_cons]; omega
theorem zzo(h:zfm l=0):l.length≤96:=by
 unfold zfm at h
 rw[← zmF] at h
 unfold nm4 at h
 split at h
 ·omega
 ·have:=zdC l.length l (Nat.le_refl _)
  rw[show zXu l.length l=ztt l from rfl] at this
  omega
theorem zeC(h:zOz xs e=0):e=0∧xs=[]:=by
 unfold zOz at h
 split at h
 ·omega
 ·rename_i h0
  subst h
  exact⟨rfl,by cases xs with
   | nil=>rfl
   | cons a r=>exact absurd ⟨rfl,by simp⟩ h0⟩
theorem zfC(hb:By b)(h:tYe b 0=0):leN 2 (tYb b 0).length++tYb b 0++tYr b 0=b∧(tYb b 0).length=tN b 0∧tkE b 0 2=0:=by
 obtain⟨h1,h2,h3⟩:=zcd (s:=(tkR b 0 2,tkE b 0 2)) (n:=tN b 0) h
 obtain⟨g1,g2,g3⟩:=zcd (s:=(b,0)) (n:=2) h1
 have h3':(tYb b 0).length=tN b 0:=h3
 refine⟨?_,h3',h1⟩
 have hw:=zRJ (s:=(b,0)) (k:=2) h1 hb
 rw[h3',show tN b 0=leV (tb 2 (b,0)) from rfl,hw]
 have g2':b=tb 2 (b,0)++tkR b 0 2:=g2
 have h2':tkR b 0 2=tYb b 0++tYr b 0:=h2
 conv=>rhs; rw[g2',h2']
 rw[List.append_assoc]
theorem zAo(hb:By b):zwc b=zGk b:=by
 have hbt:By (tYb b 0):=zZB (zFk hb _ _) _ _
 have hbr:By (tYr b 0):=zFk (zFk hb _ _) _ _
 unfold zwc zGk
 by_cases hp:pOk (tXb b 0 96) (tXr b 0 96,tXe b 0 96)
 ·-- the program reads it
  have hp':=hp
  obtain⟨h1,h2⟩:=hp'
  obtain⟨h3,h4⟩:=zeC h1
  have hbad:¬ zYB b 0 96:=by
   intro hbad
   have:(tXr b 0 96,tXe b 0 96).2=0:=by
    have h5:=(zjm _ h3).1
    exact (zcd (zcd (zcd (zcd h5).1).1).1).1
   have h6:tXe b 0 96=0:=this
   unfold tXe at h6
   rw[if_pos hbad] at h6
   omega
  have e1:tXb b 0 96=tYb b 0:=if_neg hbad
  have e2:tXr b 0 96=tYr b 0:=if_neg hbad
  have e3:tXe b 0 96=tYe b 0:=if_neg hbad
  rw[e1,e2,e3] at hp h1 h2 h3 h4 ⊢
  have htl:(tYb b 0).length < 65536:=by
   have h6:=zzo h2.1
   have:(ob (tYb b 0)).length≤96:=h6
   simp[ob] at this
   omega
  obtain⟨r1,r2⟩:=zxE (t:=tYb b 0) (s:=(tYr b 0,tYe b 0)) hbr hbt htl h3
  obtain⟨q1,q2,q3⟩:=zfC hb r1
  have hN:pN (zsf (tYb b 0) (tYr b 0,tYe b 0))≤65:=by unfold pN; omega
  have hK:hsK 65 (pS5 (tYr b 0,tYe b 0))=pN (zsf (tYb b 0) (tYr b 0,tYe b 0)):=zcC _ _ _ hN h3 h4
  have hM:rM (tYb b 0) (tYr b 0,tYe b 0)=pM (tYb b 0) (tYr b 0,tYe b 0):=by unfold rM pM; rw[hK]
  have hF:(tkn (hsK 65 (pS5 (tYr b 0,tYe b 0))) (pS5 (tYr b 0,tYe b 0)))=pF (tYb b 0) (tYr b 0,tYe b 0):=by unfold pF; rw[hK]
  have hbb:MB (pM (tYb b 0) (tYr b 0,tYe b 0))=b:=by
   have h4':(tkn (pN (zsf (tYb b 0) (tYr b 0,tYe b 0))) (pS5 (tYr b 0,tYe b 0))).1=[]:=h4
   rw[h4',List.append_nil] at r2
   exact r2.symm.trans q1
  have hr:rOk b (tYb b 0) (tYr b 0,tYe b 0):=by
   unfold rOk
   rw[hF,hM,zwj h2]
   exact⟨h3,hbb,by rw[← hbb]; exact zsK⟩
  unfold zpF zPH
  rw[if_pos hp,if_pos hr,hM]
 ·-- neither does the document
  have hr:¬ rOk b (tYb b 0) (tYr b 0,tYe b 0):=by
   rintro⟨h1,h2,h3⟩
   have hR:zGa (rM (tYb b 0) (tYr b 0,tYe b 0)):=by
    refine Classical.byContradiction fun h4=>h3 ?_
    rw[← h2]; unfold zOb; rw[if_neg h4]
   have htl:(tYb b 0).length≤96:=by
    have h6:=zzo hR.1
    have:(ob (tYb b 0)).length≤96:=h6
    simpa [ob] using this
   have h5:=(zjm _ h1).1
   have hy:tYe b 0=0:=(zcd (zcd (zcd (zcd h5).1).1).1).1
   obtain⟨q1,q2,q3⟩:=zfC hb hy
   have hbad:¬ zYB b 0 96:=fun h=>by have:=h.2; omega
   have hlen:(rM (tYb b 0) (tYr b 0,tYe b 0)).cks.length=hsK 65 (pS5 (tYr b 0,tYe b 0)):=zen _
   have hcnt:=hR.2.2.2.2.2.2.2.2.1
   have h64:=hR.2.2.2.2.2.2.2.2.2
   rw[hlen] at hcnt h64
   have hN:pN (zsf (tYb b 0) (tYr b 0,tYe b 0))=hsK 65 (pS5 (tYr b 0,tYe b 0)):=by
    have hcnt:(hsK 65 (pS5 (tYr b 0,tYe b 0)):Int)=cnt (zsf (tYb b 0) (tYr b 0,tYe b 0)).sz (zsf (tYb b 0) (tYr b 0,tYe b 0)).ck:=hcnt
    unfold pN
    rw[← hcnt]; omega
   have hrest:=zYx 65 (pS5 (tYr b 0,tYe b 0)) (by omega)
   refine hp ?_
   rw[show tXb b 0 96=tYb b 0 from if_neg hbad,show tXr b 0 96=tYr b 0 from if_neg hbad,show tXe b 0 96=tYe b 0 from if_neg hbad]
   refine⟨?_,?_⟩
   ·unfold pF
    rw[hN,hrest,h1]; rfl
   ·unfold pM
    rw[hN]; exact hR
  unfold zpF zPH
  rw[if_neg hp,if_neg hr]
theorem zyE(hb:By b){m:Mf}(h:zwc b=(m,0)):zGa m∧zOb m=b:=by
 rw[zAo hb] at h
 unfold zGk zPH at h
 split at h
 ·rename_i hr
  cases h
  refine⟨?_,hr.2.1⟩
  refine Classical.byContradiction fun h4=>hr.2.2 ?_
  rw[← hr.2.1]; unfold zOb; rw[if_neg h4]
 ·cases h
theorem zzE{b:List Int}(h:(zwc b).2≠0):zwc b=(m0,131):=by
 unfold zwc zpF at h ⊢
 split
 ·rename_i hp; rw[if_pos hp] at h; exact absurd rfl h
 ·rfl
theorem zxj(b:List Int):(zwc b).2=0∨zwc b=(m0,131):=by
 by_cases h:(zwc b).2=0
 ·exact .inl h
 ·exact .inr (zzE h)
theorem zKw(ok:m.Ok)(h:zGa m):zwc (zOb m)=(m,0):=by
 rw[zwj h]
 obtain⟨g0,g1,g2,g3,g4,g5,g6,g7,g8,g9⟩:=h
 have hpl:=zzo g0
 have hbt:MB m=leN 2 m.pr.length++(ub m.pr++(leN 8 m.ver++(leN 4 m.sz.toNat++(leN 2 m.ck.toNat++(m.dg++(m.cks.flatten++[])))))):=by simp[MB,txB]
 rw[hbt]
 obtain⟨a1,a2⟩:=zXp (n:=2) (a:=leN 2 m.pr.length) (r:=ub m.pr++(leN 8 m.ver++(leN 4 m.sz.toNat++(leN 2 m.ck.toNat++(m.dg++(m.cks.flatten++[])))))) (zqd _ _)
 obtain⟨b1,b2⟩:=zXp (n:=m.pr.length) (a:=ub m.pr) (r:=leN 8 m.ver++(leN 4 m.sz.toNat++(leN 2 m.ck.toNat++(m.dg++(m.cks.flatten++[]))))) zEk
 obtain⟨c1,c2⟩:=zXp (n:=8) (a:=leN 8 m.ver) (r:=leN 4 m.sz.toNat++(leN 2 m.ck.toNat++(m.dg++(m.cks.flatten++[])))) (zqd _ _)
 obtain⟨d1,d2⟩:=zXp (n:=4) (a:=leN 4 m.sz.toNat) (r:=leN 2 m.ck.toNat++(m.dg++(m.cks.flatten++[]))) (zqd _ _)
 obtain⟨f1,f2⟩:=zXp (n:=2) (a:=leN 2 m.ck.toNat) (r:=m.dg++(m.cks.flatten++[])) (zqd _ _)
 obtain⟨i1,i2⟩:=zXp (n:=32) (a:=m.dg) (r:=m.cks.flatten++[]) ok.dl
 obtain⟨j1,j2⟩:=zbC m.cks [] ok.cl
 generalize hB:leN 2 m.pr.length++(ub m.pr++(leN 8 m.ver++(leN 4 m.sz.toNat++(leN 2 m.ck.toNat++(m.dg++(m.cks.flatten++[]))))))=B at *
 have hN:tN B 0=m.pr.length:=by
  show leV (tb 2 (B,0))=_
  rw[a2]; exact zOj 2 _ (by omega)
 have hE2:tkE B 0 2=0:=by
  have:(tk 2 (B,0)).2=0:=by rw[a1]
  exact this
 have hbad:¬ zYB B 0 96:=fun h=>by have:=h.2; omega
 have hYb:tYb B 0=ub m.pr:=by
  show tb (tN B 0) (tk 2 (B,0))=_
  rw[hN,a1,b2]
 have hYs:((tYr B 0,tYe B 0):Rs)=(leN 8 m.ver++(leN 4 m.sz.toNat++(leN 2 m.ck.toNat++(m.dg++(m.cks.flatten++[])))),0):=by
  show tk (tN B 0) (tk 2 (B,0))=_
  rw[hN,a1,b1]
 unfold zwc
 rw[show tXb B 0 96=tYb B 0 from if_neg hbad,show tXr B 0 96=tYr B 0 from if_neg hbad,show tXe B 0 96=tYe B 0 from if_neg hbad,hYb,hYs]
 generalize hS:((leN 8 m.ver++(leN 4 m.sz.toNat++(leN 2 m.ck.toNat++(m.dg++(m.cks.flatten++[])))),0):Rs)=S at *
 have hi:(tk 32 (m.dg++(m.cks.flatten++[]),(0:Int))).2=0:=by rw[i1]
 have hH:zsf (ub m.pr) S={ m with cks:=[] }:=by
  unfold zsf
  rw[c2,c1,d2,d1,f2,f1,zlt hi,i2,zoK,zOj 8 _ (by have:=ok.ver; omega),zOj 4 _ (by omega),zOj 2 _ (by omega),Int.toNat_of_nonneg (by omega),Int.toNat_of_nonneg (by omega)]
 have h5:pS5 S=(m.cks.flatten++[],0):=by
  unfold pS5
  rw[c1,d1,f1,i1]
 have hN2:pN (zsf (ub m.pr) S)=m.cks.length:=by
  rw[hH]
  unfold pN
  show (min (cnt m.sz m.ck) 65).toNat=_
  rw[← g8]; omega
 have hM:pM (ub m.pr) S=m:=by
  unfold pM
  rw[hN2,h5,j2,hH]
  rfl
 have hF:pF (ub m.pr) S=([],0):=by
  unfold pF
  rw[hN2,h5,j1]
 unfold zpF
 rw[if_pos,hM]
 refine⟨?_,?_⟩
 ·rw[hF]; rfl
 ·rw[hM]; exact⟨g0,g1,g2,g3,g4,g5,g6,g7,g8,g9⟩
end J
set_option maxRecDepth 100000
namespace J
open Go Go.Ab
variable{H:Heap}{Γ Γ0 Γ2 Δ G L:List (Nat × Blk)}{K:VH}{v w x cv dv:Value}{xs ys zs bs b key ms:List Int}{j p q o n k mx:Nat}{e:Int}{cs cs':List Value}{l:List UInt8}{m a:Mf}{cks:List (List Int)}
theorem zkm(h:RdB Γ v xs){i t:Nat}(hn:i≤t)(ht:t≤xs.length):∃ v',zTa 1 v (some (int i)) (some (int t)) none=some v'∧Inh v xs v' ((xs.take t).drop i):=by
 rcases h with⟨rfl,rfl⟩|⟨p,o,c,rfl,hc,_⟩
 ·have ht:t=0:=by simpa using ht
  subst ht
  have hi:i=0:=by omega
  subst hi
  exact⟨zqa,rfl,.none⟩
 ·have he:∃ c',(c'=2∨c'=3)∧zTa 1 (sl p o xs.length c) (some (int i)) (some (int t)) none=some (sl p (o+i) (t - i) c'):=by
   rcases hc with rfl|rfl
   ·refine⟨2,.inl rfl,?_⟩
    unfold zTa
    simp only[bHi ht,zxo hn]
    simp[zdl,zLe]
   ·refine⟨cond (Nat.beq t xs.length) 3 2,by cases Nat.beq t xs.length <;> simp,?_⟩
    unfold zTa
    simp only[bHi ht,zxo hn]
    simp[zdl,zLe]
  obtain⟨c',hc',he⟩:=he
  refine⟨_,he,fun Γ' h=>?_⟩
  rcases h with⟨h,_⟩|⟨p',o',c'',heq,_,h⟩
  ·cases h
  cases heq
  have hlen:((xs.take t).drop i).length=t - i:=by rw[List.length_drop,List.length_take,Nat.min_eq_left ht]
  refine .inr ⟨p,o+i,c',by rw[hlen],hc',?_⟩
  rcases h with rfl|⟨j,b,h1,h2⟩
  ·exact .inl (by simp)
  ·refine .inr ⟨j,b,h1,?_⟩
   have:=congrArg (List.drop i) (congrArg (List.take t) h2)
   rw[List.take_take,Nat.min_eq_left ht,List.drop_take,List.drop_drop] at this
   rw[hlen,this,by8,by8,List.map_drop,List.map_take]
theorem Stay.app'(h:Stay Δ v):Stay (Γ++Δ) v:=by
 rcases h with h|⟨p,o,n,c,j,b,h1,h2,h3⟩
 ·exact .inl h
 ·exact .inr ⟨p,o,n,c,Γ.length+j,b,h1,zwa h2,h3⟩
theorem OwnB.stay(h:OwnB v xs cs):Stay (zKa v cs) v:=by
 rcases h with⟨rfl,_⟩|⟨p,rfl|⟨rfl,_⟩,h2,h3,h4⟩
 ·exact .inl rfl
 ·exact .inr ⟨p,0,_,_,0,_,rfl,rfl,h4,.inl rfl⟩
 ·exact .inr ⟨p,0,_,_,0,_,rfl,rfl,h4,.inl rfl⟩
theorem Stay.slice(h:Stay Γ v){lo hi:Option Value}(hs:zTa 1 v lo hi none=some w):Stay Γ w:=by
 rcases h with rfl|⟨p,o,n,c,j,b,rfl,h2,h3⟩
 ·unfold zTa at hs
  simp only at hs
  repeat' (split at hs)
  all_goals first|(cases hs; done)|(cases hs; exact .inl rfl)
 ·unfold zTa at hs
  simp only at hs
  repeat' (split at hs)
  all_goals first|(cases hs; done)|(cases hs; exact .inr ⟨p,_,_,_,j,b,rfl,h2,h3⟩)
def zeh(b:List Int):Int × Int:=
 if b.length < 4∨b.take 2≠[66,85] then (0,141) else if 2304 < leV ((b.take 4).drop 2)+36 then (0,141) else (((leV ((b.take 4).drop 2)+36:Nat):Int),0)
theorem zhz{ys:List Int}(hO:St H Γ)(hv:RdB Γ v xs)(hw:RdB Γ w ys)(hx:By xs)(hy:By ys)(hk:K (.bool (decide (xs=ys))) H):wCall P zZh [v,w] H K:=by
 apply zIq; unfold bytes_Equal
 refine zva (RdB.str hO hv) ?_
 refine zva (RdB.str hO hw) ?_
 refine zaa (show _=some (.bool (decide (xs=ys))) from ?_) hk
 show (zpa P .eql 9 false).f (str (ob xs)) (str (ob ys))=_
 rw[zWG,zWB,decide_eq_decide.2 ⟨fun h=>zVx hx hy h,fun h=>by rw[h]⟩]
theorem zNq{ys:List Int}(hO:St H Γ)(hv:RdB Γ v xs)(hw:RdB Γ w ys)(hx:By xs)(hy:By ys)(hl:ys.length≤xs.length)(hk:K (.bool (decide (xs.take ys.length=ys))) H):wCall P zUe [v,w] H K:=by
 apply zOl; unfold bytes_HasPrefix
 refine zva hv.lenSl ?_
 refine zva hw.lenSl ?_
 refine zaa zSf ?_
 refine zNb (by omega) ?_
 refine zva hw.lenSl ?_
 obtain⟨v',e1,i1⟩:=zhi hv hl
 refine zaa e1 ?_
 refine zhz hO (i1 _ hv) hw (fun x h=>hx x (List.mem_of_mem_take h)) hy ?_
 refine zaa (zjb (by omega)) ?_
 exact hk
theorem zZK(H:Heap):(zla P 22 2).f [(0,.int .u8 66),(1,.int .u8 85)] H=some (sl H.next 0 2 3,H.push (by8 [66,85])):=by kernel_rfl
theorem ztK{b:List Int}(hb:By b):leV ((b.take 4).drop 2) < 65536:=by
 have h1:=zJu ((b.take 4).drop 2) fun x hx=>hb x (List.mem_of_mem_take (List.mem_of_mem_drop hx))
 have h2:((b.take 4).drop 2).length≤2:=by rw[List.length_drop,List.length_take]; omega
 exact Nat.lt_of_lt_of_le h1 (Nat.pow_le_pow_right (n:=256) (by omega) h2)
set_option maxHeartbeats 1000000 in
theorem zLw(hO:St H Γ)(hv:RdB Γ v b)(hb:By b)(hl:b.length≤1000000)(hk:∀ H',St H' Γ→K (.tuple [int (zeh b).1,int (zeh b).2].toArray) H'):wCall P zWh [v] H K:=by
 apply zFq; unfold zCp
 refine zxa (fun l' H'=>l'=[v,.bool (decide (b.length < 4∨b.take 2≠[66,85]))]∧St H' Γ) ?_ ?_
 ·refine zva hv.lenSl ?_
  refine zaa zMa ?_
  refine zma (fun h=>?_) (fun h=>?_)
  ·refine zaa (zjb h) ?_
   exact⟨by rw[decide_eq_true (show b.length < 4∨b.take 2≠[66,85] from .inl (by omega))],hO⟩
  ·refine zDa hO (zZK _) ?_
   clear hO
   intro q H hO
   refine kp hO 0 rfl (by omega) ?_
   refine zNq (ys:=[66,85]) hO hv.app (zpE 0 rfl (.inr rfl) rfl) hb (by intro x hx; simp at hx; omega) (by simp; omega) ?_
   refine zaa zGc ?_
   refine zaa (zWa h) ?_
   refine⟨?_,hO.left⟩
   show [v,Value.bool (!decide (b.take 2=[66,85]))]=_
   by_cases h2:b.take 2=[66,85]
   ·rw[decide_eq_true h2,decide_eq_false (show ¬ (b.length < 4∨b.take 2≠[66,85]) from fun h3=>by rcases h3 with h3|h3; omega; exact h3 h2)]; rfl
   ·rw[decide_eq_false h2,decide_eq_true (show (b.length < 4∨b.take 2≠[66,85]) from .inr h2)]; rfl
 clear hO
 rintro l' H ⟨rfl,hO⟩
 try simp only[zia,zja]
 unfold zeh at hk
 refine zma (fun h=>?_) (fun h=>?_)
 ·rw[if_pos h] at hk
  exact hk H hO
 ·rw[if_neg h] at hk
  obtain⟨v2,e2,i2⟩:=zkm hv (i:=2) (t:=4) (by omega) (by omega)
  refine zaa e2 ?_
  refine zKx hO (i2 _ hv) ?_
  clear hO
  intro H p hO
  have hb2:By ((b.take 4).drop 2):=fun x hx=>hb x (List.mem_of_mem_take (List.mem_of_mem_drop hx))
  have hlt:=ztK hb
  refine zfg (k:=2) (by omega) hO (zwa (k:=0) rfl) ((i2 _ hv).app) hb2 ?_
  clear hO
  intro H v3 hO i3
  have etk:tkB ((b.take 4).drop 2) 0 2=(b.take 4).drop 2:=by
   unfold tkB
   have:((b.take 4).drop 2).length=2:=by rw[List.length_drop,List.length_take]; omega
   rw[if_pos ⟨rfl,by omega⟩,List.take_of_length_le (by omega)]
  rw[etk]
  generalize leV ((b.take 4).drop 2)=N at *
  refine zva (zhB (k:=.u64) (by omega)) ?_
  refine zaa (v:=int ((N+36:Nat):Int)) (by rw[zLc (by omega) (by omega)]; rfl) ?_
  refine zaa zTb ?_
  replace hO:=hO.set_r.left
  refine zma (fun h2=>?_) (fun h2=>?_)
  ·rw[if_pos (by omega)] at hk
   exact hk H hO
  ·rw[if_neg (by omega)] at hk
   exact hk H hO
theorem zeH{b:List Int}(hl:4≤b.length):leV ((b.take 4).drop 2)=(b.getD 2 0).toNat+256 * (b.getD 3 0).toNat:=by
 match b,hl with
 | a0::a1::a2::a3::r,_=>rfl
theorem zAE{b:List Int}(hl:4≤b.length):b.take 2=[b.getD 0 0,b.getD 1 0]:=by
 match b,hl with
 | a0::a1::a2::a3::r,_=>rfl
theorem zgC(hb:By b)(i:Nat):0≤b.getD i 0:=by
 rw[List.getD_eq_getElem?_getD]
 by_cases h:i < b.length
 ·rw[List.getElem?_eq_getElem h]; exact (hb _ (List.getElem_mem h)).1
 ·rw[List.getElem?_eq_none (by omega)]; exact Int.le_refl _
set_option maxHeartbeats 1000000 in
theorem zfn(hO:St H Γ)(hv:RdB Γ v b)(hb:By b)(hl:b.length≤1000000)(hk:K (.tuple [int (zeh b).1,int (zeh b).2].toArray) H):wCall P zVg [v] H K:=by
 apply zDp; unfold zJn
 unfold zeh at hk
 refine zva hv.lenSl ?_
 refine zaa zMa ?_
 refine zma (fun h=>?_) (fun h=>?_)
 ·rw[if_pos (.inl (by omega))] at hk
  exact hk
 have h4:4≤b.length:=by omega
 have g0:=zgC hb 0
 have g1:=zgC hb 1
 have l0:=zrd hb 0
 have l1:=zrd hb 1
 have l2:=zrd hb 2
 have l3:=zrd hb 3
 rw[zAE h4,zeH h4] at hk
 refine zxa (fun l' H'=>l'=[v,.bool (decide (¬ (b.getD 0 0=66∧b.getD 1 0=85)))]∧H=H') ?_ ?_
 ·refine zMq hO hv hb (n:=0) rfl (by omega) ?_
  refine zaa zQa ?_
  refine zma (fun h2=>?_) (fun h2=>?_)
  ·refine zaa (zjb h2) ?_
   exact⟨by rw[decide_eq_true (show ¬ (b.getD 0 0=66∧b.getD 1 0=85) by omega)],rfl⟩
  ·refine zMq hO hv hb (n:=1) rfl (by omega) ?_
   refine zaa zQa ?_
   refine zaa (zWa h2) ?_
   exact⟨by rw[decide_eq_decide.2 (show ((b.getD 1 0).toNat:Int)≠85↔¬ (b.getD 0 0=66∧b.getD 1 0=85) by omega)],rfl⟩
 rintro l' H' ⟨rfl,rfl⟩
 try simp only[zia,zja]
 refine zma (fun h2=>?_) (fun h2=>?_)
 ·rw[if_pos (.inr (fun h3=>h2 (by injection h3 with a1 a2; injection a2 with a3 _; exact⟨a1,a3⟩)))] at hk
  exact hk
 ·rw[if_neg (by intro h3; rcases h3 with h3|h3; omega; exact h3 (by rw[(Classical.not_not.1 h2).1,(Classical.not_not.1 h2).2]))] at hk
  refine zMq hO hv hb (n:=2) rfl (by omega) ?_
  generalize (b.getD 2 0).toNat=X at *
  refine zva (zhB (k:=.u8) (by omega)) ?_
  refine zaa (v:=int ((36+X:Nat):Int)) (by rw[zLc (by omega) (by omega)]; rfl) ?_
  refine zMq hO hv hb (n:=3) rfl (by omega) ?_
  generalize (b.getD 3 0).toNat=Y at *
  refine zva (zhB (k:=.u8) (by omega)) ?_
  refine zaa (v:=int ((256 * Y:Nat):Int)) (by rw[zBg (by omega) (by omega)]; rfl) ?_
  refine zaa (v:=int ((X+256 * Y+36:Nat):Int)) (by rw[zLc (by omega) (by omega)]; congr 2; omega) ?_
  refine zaa zTb ?_
  refine zma (fun h3=>?_) (fun h3=>?_)
  ·rw[if_pos (by omega)] at hk
   exact hk
  ·rw[if_neg (by omega)] at hk
   exact hk
end J
set_option maxRecDepth 100000
namespace J
open Go Go.Ab
variable{H:Heap}{Γ Γ0 Γ2 Δ G L:List (Nat × Blk)}{K:VH}{v w x cv dv:Value}{xs ys zs bs b key ms:List Int}{j p q o n k mx:Nat}{e:Int}{cs cs':List Value}{l:List UInt8}{m a:Mf}{cks:List (List Int)}
def headA(m:Mf):List Int:=[66,85]++leN 2 (zOb m).length++zOb m
def zkc(key:List Int)(m:Mf):List Int:=headA m++zPp key (headA m)
theorem zZx(ok:m.Ok)(h:zGa m):(zOb m).length=m.pr.length+48+32 * m.cks.length∧m.pr.length≤96∧m.cks.length≤64:=by
 have h1:=zVB m.cks ok.cl
 have h2:=zzo h.1
 have h3:=h.2.2.2.2.2.2.2.2.2
 rw[zwj h]
 refine⟨?_,h2,h3⟩
 simp only[MB,txB,List.length_append,zqd,zEk,ok.dl,h1]
 omega
theorem zPj{k b:List Int}:(zPp k b).length=32:=rfl
theorem zMw{k b:List Int}:By (zPp k b):=zIr
theorem zay(ok:m.Ok):By (headA m):=zsd (zsd (by intro x hx; simp at hx; omega) (zdv _ _)) (zWp ok)
theorem zev(ok:m.Ok)(h:zGa m):(headA m).length=m.pr.length+52+32 * m.cks.length:=by
 have:=(zZx ok h).1
 simp only[headA,List.length_append,zqd,this,List.length_cons,List.length_nil]
 omega
set_option maxHeartbeats 1000000 in
theorem zYp(hO:St H Γ)(hv:RdB Γ v key)(hw:RdB Γ w ms)(hst:Stay Γ w)(hb:By key)(hm:By ms)(hl:key.length≤1000000)(hl2:ms.length≤1000000)(hk:MadeB Γ K (ms++zPp key ms)):wCall P zcf [v,w] H K:=by
 apply zup; unfold zCn
 refine zaz hO hv hw hb hm (by omega) (by omega) ?_
 clear hO
 intro H hO
 rw[zcH]
 refine nw hO.z ?_
 clear hO
 intro p5 H hO
 refine sw hO 0 rfl (by simp[z32]) (by simp[zPj]) (zad _) ?_
 clear hO
 intro H1 hO1
 replace hO1:St H1 (Γ++[(p5,⟨by8 (zPp key ms),true⟩)]):=hO1
 have hp1:p5 < H1.next:=hO1.lt _ (List.mem_append_right _ List.mem_cons_self)
 refine zDa hO1 (zYl _) ?_
 intro q9 H2 hO2
 have hp2:p5 < H2.next:=hO2.lt (p5,⟨by8 (zPp key ms),true⟩) (by simp)
 have hO2':St H2 ((Γ++[(p5,(⟨by8 (zPp key ms),true⟩:Blk))])++zKa (sl q9 0 0 3) []):=hO2
 refine zEc (xs:=[]) (v:=sl q9 0 0 3) (cs:=[]) hO2' (.inr ⟨q9,.inr ⟨rfl,rfl⟩,rfl,Nat.zero_le _,rfl⟩) hw.app (by simp; omega) ?_
 intro H3 v3 c3 hO3 o3
 refine zaa (zUf hO3 (Γ.length+0) (zCa (zwa rfl)) (by omega) (by simp[zPj])) ?_
 have hne:q9≠p5:=St.ne' hO2 (i:=(Γ++[(p5,(⟨by8 (zPp key ms),true⟩:Blk))]).length+0) (j:=Γ.length+0) (zwa rfl) (zCa (zwa rfl)) (by simp)
 have hap:zLi (zBa [sl q9 0 0 3,w]) (zBa [ptr p5 0]):=by
  have e1:Nat.beq q9 p5=false:=by
   cases hb:Nat.beq q9 p5 with
   | false=>rfl
   | true=>exact absurd (Nat.eq_of_beq_eq_true hb) hne
  rcases hst with rfl|⟨pw,o,n,c,jw,bw,rfl,h2,h3⟩
  ·show zPb [q9] [p5]=true
   simp[zPb,zpb,zMz,e1]
  ·have hne2:pw≠p5:=St.ne' hO1 (i:=jw) (j:=Γ.length+0) (zCa h2) (zwa rfl) (by have:=(List.getElem?_eq_some_iff.1 h2).1; omega)
   have e2:Nat.beq pw p5=false:=by
    cases hb:Nat.beq pw p5 with
    | false=>rfl
    | true=>exact absurd (Nat.eq_of_beq_eq_true hb) hne2
   show zPb [q9,pw] [p5]=true
   simp[zPb,zpb,zMz,e1,e2]
 refine⟨hap,zan hp2,zan hp1,?_⟩
 refine zEc hO3 o3 (ys:=zPp key ms) (.inr ⟨p5,0,3,by rw[zPj],.inr rfl,.inr ⟨Γ.length+0,_,zwa rfl,by rw[List.drop_zero]; exact List.take_of_length_le (by simp)⟩⟩) (by simp[zPj]; omega) ?_
 intro H4 v4 c4 hO4 o4
 exact hk H4 v4 c4 (St.mid hO4) o4
set_option maxHeartbeats 1000000 in
theorem zZp(ok:m.Ok)(hO:St H Γ)(hv:RdB Γ v key)(hc:RdH Γ cv m.cks)(hb:By key)(hl:key.length≤1000000)
  (hk0:¬ zGa m→∀ H',St H' Γ→K (.tuple [zqa,int 131].toArray) H')
  (hk1:zGa m→∀ H' v' cs',St H' (Γ++zKa v' cs')→OwnB v' (zkc key m) cs'→K (.tuple [v',int 0].toArray) H'):wCall P zPi [v,agg (mfC m cv)] H K:=by
 apply zDs; unfold zjr
 rw[zye]
 refine nw hO.z ?_
 clear hO
 intro p3 H hO
 refine lw hO 0 rfl (zra ok.dl) (by omega) ?_
 refine zWc ok hc.app hO ?_
 clear hO
 intro H hO
 refine zaa zGc ?_
 by_cases hr:zGa m
 ·obtain⟨b1,b2,b3⟩:=zZx ok hr
  have hal:=zev ok hr
  rw[decide_eq_true hr]
  refine zDb rfl ?_
  refine lw hO 0 rfl (zra ok.dl) (by omega) ?_
  refine zrf ok hc.app hO ?_
  clear hO
  intro H v1 c1 hO o1
  refine zDa hO (zZK _) ?_
  clear hO
  intro q H hO
  refine kp hO 0 rfl (by omega) ?_
  refine zva o1.lenSl ?_
  refine zva (zLH (by omega) (by omega)) ?_
  rw[Int.toNat_natCast]
  refine zVc (size:=2) hO (by omega) (by omega) ?_
  clear hO
  intro H v2 c2 hO o2
  have oq:OwnB (sl q 0 2 3) [66,85] (by8 [66,85]):=.inr ⟨q,.inr ⟨rfl,rfl⟩,rfl,Nat.le_refl _,rfl⟩
  replace hO:St H (((Γ++([]++[(p3,(⟨mfC m cv,true⟩:Blk))])++zKa v1 c1)++zKa (sl q 0 2 3) (by8 [66,85]))++zKa v2 c2):=hO
  refine zSe hO oq o2 (by simp[zqd]) ?_
  clear hO oq o2
  intro H v3 c3 hO o3
  have hr1:RdB (Γ++([]++[(p3,(⟨mfC m cv,true⟩:Blk))])++zKa v1 c1) v1 (zOb m):=o1.rd.app'
  refine zEc hO o3 hr1 (by simp[zqd]; omega) ?_
  clear hO o3
  intro H v4 c4 hO o4
  replace o4:OwnB v4 (headA m) c4:=o4
  replace hO:St H (Γ++zKa v4 c4):=by
   have h0:=hO.left.left
   rw[List.append_assoc,List.append_assoc] at hO
   exact hO.sub (List.Sublist.append (List.Sublist.refl _) (by rw[← List.append_assoc]; exact List.sublist_append_right _ _))
  refine zYp hO hv.app o4.rd.app' (OwnB.stay o4).app' hb (zay ok) hl (by omega) ?_
  clear hO
  intro H v5 c5 hO o5
  exact hk1 hr H v5 c5 (St.mid hO) o5
 ·rw[decide_eq_false hr]
  refine zvd rfl ?_
  exact hk0 hr H hO.left
end J
set_option maxRecDepth 100000
namespace J
open Go Go.Ab
variable{H:Heap}{Γ Γ0 Γ2 Δ G L:List (Nat × Blk)}{K:VH}{v w x cv dv:Value}{xs ys zs bs b key ms:List Int}{j p q o n k mx:Nat}{e:Int}{cs cs':List Value}{l:List UInt8}{m a:Mf}{cks:List (List Int)}
theorem zgn(b:List Int):zeh b=(0,141)∨∃ n:Nat,zeh b=((n:Int),0)∧36≤n∧n≤2304∧4≤b.length∧b.take 2=[66,85]∧n=leV ((b.take 4).drop 2)+36:=by
 unfold zeh
 split
 ·exact .inl rfl
 ·split
  ·exact .inl rfl
  ·rename_i h1 h2
   refine .inr ⟨_,rfl,by omega,by omega,by omega,?_,rfl⟩
   exact Classical.not_not.1 fun h=>h1 (.inr h)
def zrb(key b:List Int):Mf × Int × Int:=
 if (zeh b).2≠0∨(b.length:Int) < (zeh b).1 then (m0,0,141)
 else if zPp key (b.take ((zeh b).1.toNat - 32))≠(b.take (zeh b).1.toNat).drop ((zeh b).1.toNat - 32) then (m0,0,142)
 else if (zwc ((b.take ((zeh b).1.toNat - 32)).drop 4)).2≠0 then (m0,0,(zwc ((b.take ((zeh b).1.toNat - 32)).drop 4)).2)
 else ((zwc ((b.take ((zeh b).1.toNat - 32)).drop 4)).1,(zeh b).1,0)
theorem zhC(h:zeh b=(0,141)):zrb key b=(m0,0,141):=by
 unfold zrb; rw[h]; exact if_pos (.inl (by decide))
theorem zNw{n:Nat}(h:zeh b=((n:Int),0))(h2:b.length < n):zrb key b=(m0,0,141):=by
 unfold zrb; rw[h]; exact if_pos (.inr (by simpa using h2))
theorem zmt{n:Nat}(h:zeh b=((n:Int),0))(h2:n≤b.length):zrb key b=if zPp key (b.take (n - 32))≠(b.take n).drop (n - 32) then (m0,0,142)
 else if (zwc ((b.take (n - 32)).drop 4)).2≠0 then (m0,0,(zwc ((b.take (n - 32)).drop 4)).2)
 else ((zwc ((b.take (n - 32)).drop 4)).1,(n:Int),0):=by
 unfold zrb; rw[h]
 rw[if_neg (by simp; omega)]
 simp only[Int.toNat_natCast]
theorem RdH.nil:RdH Γ zqa []:=.inl ⟨rfl,rfl⟩
theorem By.take{n:Nat}(h:By b):By (b.take n):=fun x hx=>h x (List.mem_of_mem_take hx)
theorem By.drop{n:Nat}(h:By b):By (b.drop n):=fun x hx=>h x (List.mem_of_mem_drop hx)
theorem zaq{b:List Int}(hb:By b)(hl:b.length≤9000):(zwc b).1.Ok:=by
 unfold zwc zpF
 split
 ·have h1:∀ (xs:List Int) (e:Int) (n:Nat),(tkB xs e n).length≤xs.length:=fun xs e n=>by
   unfold tkB
   split
   ·rw[List.length_take]; omega
   ·simp
  have hb1:By (tXr b 0 96,tXe b 0 96).1:=by
   show By (tXr b 0 96)
   unfold tXr tYr
   split
   ·intro x h; cases h
   ·exact zFk (zFk hb _ _) _ _
  have hN:pN (zsf (tXb b 0 96) (tXr b 0 96,tXe b 0 96))≤65:=by unfold pN; omega
  refine zaC hb1 ?_ (by omega) (zyd (zyd (zyd (zyd hb1))))
  unfold tXb tYb
  split
  ·simp
  ·have:=h1 (tkR b 0 2) (tkE b 0 2) (tN b 0)
   have:=zki b 0 2
   omega
 ·exact zJw
set_option maxHeartbeats 4000000 in
theorem ziC(hO:St H Γ)(hv:RdB Γ v key)(hw:RdB Γ w b)(hb:By key)(hbb:By b)(hl:key.length≤1000000)(hl2:b.length≤1000000)
  (hk:∀ H' cv,St H' (Γ++zKa cv (hsC (zrb key b).1.cks))→RdH (zKa cv (hsC (zrb key b).1.cks)) cv (zrb key b).1.cks→K (.tuple [agg (mfC (zrb key b).1 cv),int (zrb key b).2.1,int (zrb key b).2.2].toArray) H'):wCall P zQk [v,w] H K:=by
 apply zuu; unfold ztu
 rw[zcM]
 refine nw hO.z ?_
 clear hO
 intro p4 H hO
 replace hO:St H (Γ++[(p4,⟨mfC m0 zqa,true⟩)]):=hO
 refine zLw hO hw.app hbb hl2 ?_
 clear hO
 intro H hO
 refine zaa zrm ?_
 refine zaa zsm ?_
 refine zxa (fun l' H'=>l'=[v,w,ptr p4 0,int (zeh b).1,.bool (decide ((zeh b).2≠0∨(b.length:Int) < (zeh b).1))]∧H=H') ?_ ?_
 ·refine zaa zQa ?_
  refine zma (fun h=>?_) (fun h=>?_)
  ·refine zaa (zjb h) ?_
   exact⟨by rw[decide_eq_true (show (zeh b).2≠0∨(b.length:Int) < (zeh b).1 from .inl h)],rfl⟩
  ·refine zva hw.lenSl ?_
   refine zaa zMa ?_
   refine zaa (zWa h) ?_
   exact⟨by rw[decide_eq_decide.2 (show (b.length:Int) < (zeh b).1↔((zeh b).2≠0∨(b.length:Int) < (zeh b).1) from⟨.inr,fun h2=>h2.resolve_left h⟩)],rfl⟩
 rintro l' H' ⟨rfl,rfl⟩
 try simp only[zia,zja]
 refine zma (fun h=>?_) (fun h=>?_)
 ·have ho:zrb key b=(m0,0,141):=if_pos h
  rw[ho] at hk
  refine zaa bM0 ?_
  refine sw hO 0 rfl (by rfl) (by rfl) (ztb rfl) ?_
  clear hO
  intro H hO
  refine lw hO 0 rfl (by rfl) (by omega) ?_
  exact hk H zqa hO.left.z RdH.nil
 ·rcases zgn b with h0|⟨N,h0,g1,g2,g3,g4,g5⟩
  ·exact absurd (.inl (by rw[h0]; simp)) h
  have hN:N≤b.length:=by
   have:¬ (b.length:Int) < (zeh b).1:=fun h'=>h (.inr h')
   rw[h0] at this
   simpa using this
  rw[zmt h0 hN] at hk
  rw[h0]
  have e32:((N:Int) - 32)=((N - 32:Nat):Int):=by omega
  refine zaa (v:=int ((N - 32:Nat):Int)) (by rw[← e32]; exact zBb (by omega) (by omega)) ?_
  obtain⟨v1,e1,i1⟩:=zhi hw (n:=N - 32) (by omega)
  refine zaa e1 ?_
  refine zaa (v:=int ((N - 32:Nat):Int)) (by rw[← e32]; exact zBb (by omega) (by omega)) ?_
  obtain⟨v2,e2,i2⟩:=zkm hw (i:=N - 32) (t:=N) (by omega) hN
  refine zaa e2 ?_
  rw[zcH]
  refine nw hO ?_
  clear hO
  intro p11 H hO
  replace hO:St H (Γ++[(p4,⟨mfC m0 zqa,true⟩),(p11,⟨by8 z32,true⟩)]):=hO
  refine zaa (sar hO 1 rfl (by simp[z32]) (by omega)) ?_
  have htl:((b.take N).drop (N - 32)).length=32:=by rw[List.length_drop,List.length_take]; omega
  refine zzw hO (i:=Γ.length+1) (zwa rfl) (ys:=(b.take N).drop (N - 32)) ((i2 _ hw).app) (by omega) (by simp[z32]) ?_
  clear hO
  intro H hO
  replace hO:=hO.set_r
  rw[show (by8 z32).take 0++(by8 ((b.take N).drop (N - 32))++(by8 z32).drop (0+((b.take N).drop (N - 32)).length))=by8 ((b.take N).drop (N - 32)) by
   rw[List.drop_of_length_le (l:=by8 z32) (by rw[htl]; simp[z32])]; simp] at hO
  replace hO:St H (Γ++[(p4,⟨mfC m0 zqa,true⟩),(p11,⟨by8 ((b.take N).drop (N - 32)),true⟩)]):=hO
  have hr1:=i1 _ hw
  have hp11:p11 < H.next:=hO.lt (p11,⟨by8 ((b.take N).drop (N - 32)),true⟩) (by simp)
  obtain⟨a1,n1,k1,s1'⟩:=hr1.shape
  have hts:By ((b.take N).drop (N - 32)):=By.drop (By.take hbb)
  have hps:By ((b.take (N - 32)).drop 4):=By.drop (By.take hbb)
  have hpl:((b.take (N - 32)).drop 4).length≤9000:=by rw[List.length_drop,List.length_take]; omega
  have hsl:(b.take (N - 32)).length=N - 32:=by rw[List.length_take]; omega
  have hsb:By (b.take (N - 32)):=By.take hbb
  obtain⟨v3,e3,i3⟩:=zXs hr1 (n:=4) (by omega)
  replace i3:=i3 _ hr1
  generalize (b.take N).drop (N - 32)=tail at *
  generalize (b.take (N - 32)).drop 4=inner at *
  generalize b.take (N - 32)=said at *
  refine zDa hO (by rw[s1']; exact zeF _ _ _ _) ?_
  rw[← s1']
  intro q2 H2 hO2
  refine zCw (x:=v1) (ms:=said) hO2 (hv.app.app) (zwa (k:=0) rfl) (hr1.app.app) hb hsb (by omega) (by omega) ?_
  intro H3 hO3
  refine zua hO3 (Γ.length+1) (zCa (zwa rfl)) (show _=by8 tail from by rw[List.drop_zero]; exact List.take_of_length_le (by simp[htl])) (by simp[htl]) (by omega) ?_
  refine⟨zcb hO2 (Γ.length+1) (zCa (zwa rfl)) hO3 (Γ.length+1) (zCa (zwa rfl)) (zae _),zan hp11,?_⟩
  clear hO hO2
  refine zet zPj htl zMw hts hO3 ?_
  clear hO3
  intro H hO
  replace hO:=hO.left
  refine zaa zGc ?_
  by_cases hm:zPp key said=tail
  ·rw[decide_eq_true hm]
   refine zDb rfl ?_
   rw[if_neg (fun h=>h hm)] at hk
   refine zaa e3 ?_
   refine zgz hO i3.app hps hpl ?_
   clear hO
   intro H c5 hO hrd
   refine zaa zrm ?_
   refine zaa zsm ?_
   have hpo:=zaq hps hpl
   have hpd:=hpo.dl
   rcases zxj inner with hz|hz
   ·rw[if_neg (fun h=>h hz)] at hk
    simp only at hk
    rw[hz]
    generalize (zwc inner).1=M at *
    have hc1:oneCell c5=true:=hrd.one
    refine zeb hO ?_
    clear hO
    intro p12 H hO
    refine zya hO (_+0) (zwa rfl) (by rfl) (zra hpd) (ztb hc1) ?_
    clear hO
    intro H hO
    replace hO:=hO.set_r
    refine zaa zQa ?_
    refine zqc (by omega) ?_
    refine zFa hO (_+0) (zwa rfl) (zra hpd) (by omega) ?_
    refine zya hO (Γ.length+0) (zCa (zCa (zwa rfl))) (by rfl) (zra hpd) (ztb hc1) ?_
    clear hO
    intro H hO
    rw[List.set_append_left _ _ (by simp),List.set_append_left _ _ (by simp),Go.Ab.set_r] at hO
    refine zFa hO (Γ.length+0) (zCa (zCa (zwa rfl))) (zra hpd) (by omega) ?_
    exact hk H c5 (St.mid hO.left) hrd
   ·rw[hz,if_pos (by simp)] at hk
    rw[hz] at hO
    rw[hz]
    refine zeb hO ?_
    clear hO
    intro p12 H hO
    refine zya hO (_+0) (zwa rfl) (by rfl) (by rfl) (ztb (by rw[hz] at hrd; exact hrd.one)) ?_
    clear hO
    intro H hO
    refine zaa zQa ?_
    refine zNb (by decide) ?_
    refine zaa bM0 ?_
    replace hO:=hO.set_r.left.left
    refine sw hO 0 rfl (by rfl) (by rfl) (ztb rfl) ?_
    clear hO
    intro H hO
    refine lw hO 0 rfl (by rfl) (by omega) ?_
    exact hk H zqa hO.left.z RdH.nil
  ·rw[decide_eq_false hm]
   refine zvd rfl ?_
   rw[if_pos hm] at hk
   refine zaa bM0 ?_
   refine sw hO 0 rfl (by rfl) (by rfl) (ztb rfl) ?_
   clear hO
   intro H hO
   refine lw hO 0 rfl (by rfl) (by omega) ?_
   exact hk H zqa hO.left.z RdH.nil
set_option maxHeartbeats 4000000 in
theorem zbq(hO:St H Γ)(hv:RdB Γ v key)(hw:RdB Γ w b)(hst:b≠[]→Stay Γ w)(hb:By key)(hbb:By b)(hl:key.length≤1000000)(hl2:b.length≤1000000)
  (hk:∀ H' cv,St H' (Γ++zKa cv (hsC (zrb key b).1.cks))→RdH (zKa cv (hsC (zrb key b).1.cks)) cv (zrb key b).1.cks→K (.tuple [agg (mfC (zrb key b).1 cv),int (zrb key b).2.1,int (zrb key b).2.2].toArray) H'):wCall P zWi [v,w] H K:=by
 apply zSs; unfold zyr
 rw[zcM]
 refine nw hO.z ?_
 clear hO
 intro p4 H hO
 replace hO:St H (Γ++[(p4,⟨mfC m0 zqa,true⟩)]):=hO
 refine zfn hO hw.app hbb hl2 ?_
 refine zaa zrm ?_
 refine zaa zsm ?_
 refine zxa (fun l' H'=>l'=[v,w,ptr p4 0,int (zeh b).1,.bool (decide ((zeh b).2≠0∨(b.length:Int) < (zeh b).1))]∧H=H') ?_ ?_
 ·refine zaa zQa ?_
  refine zma (fun h=>?_) (fun h=>?_)
  ·refine zaa (zjb h) ?_
   exact⟨by rw[decide_eq_true (show (zeh b).2≠0∨(b.length:Int) < (zeh b).1 from .inl h)],rfl⟩
  ·refine zva hw.lenSl ?_
   refine zaa zTb ?_
   refine zaa (zWa h) ?_
   exact⟨by rw[decide_eq_decide.2 (show (b.length:Int) < (zeh b).1↔((zeh b).2≠0∨(b.length:Int) < (zeh b).1) from⟨.inr,fun h2=>h2.resolve_left h⟩)],rfl⟩
 rintro l' H' ⟨rfl,rfl⟩
 try simp only[zia,zja]
 refine zma (fun h=>?_) (fun h=>?_)
 ·have ho:zrb key b=(m0,0,141):=if_pos h
  rw[ho] at hk
  refine zaa bM0 ?_
  refine sw hO 0 rfl (by rfl) (by rfl) (ztb rfl) ?_
  clear hO
  intro H hO
  refine lw hO 0 rfl (by rfl) (by omega) ?_
  exact hk H zqa hO.left.z RdH.nil
 ·rcases zgn b with h0|⟨N,h0,g1,g2,g3,g4,g5⟩
  ·exact absurd (.inl (by rw[h0]; simp)) h
  have hN:N≤b.length:=by
   have:¬ (b.length:Int) < (zeh b).1:=fun h'=>h (.inr h')
   rw[h0] at this
   simpa using this
  have hsw:=hst (by intro h; rw[h] at g3; simp at g3)
  rw[zmt h0 hN] at hk
  rw[h0]
  have e32:((N:Int) - 32)=((N - 32:Nat):Int):=by omega
  refine zaa (v:=int ((N - 32:Nat):Int)) (by rw[← e32]; exact zBb (by omega) (by omega)) ?_
  obtain⟨v1,e1,i1⟩:=zhi hw (n:=N - 32) (by omega)
  have hs1:=hsw.slice e1
  refine zaa e1 ?_
  have hr1:=i1 _ hw
  have hsl:(b.take (N - 32)).length=N - 32:=by rw[List.length_take]; omega
  have hsb:By (b.take (N - 32)):=By.take hbb
  have htl:((b.take N).drop (N - 32)).length=32:=by rw[List.length_drop,List.length_take]; omega
  have hsplit:b.take N=b.take (N - 32)++(b.take N).drop (N - 32):=by
   conv=>lhs; rw[← List.take_append_drop (N - 32) (b.take N)]
   rw[List.take_take,Nat.min_eq_left (by omega)]
  refine zYp hO hv.app hr1.app hs1.app hb hsb hl (by omega) ?_
  intro H2 v2 c2 hO2 o2
  refine zva (RdB.str hO2 o2.rd.app') ?_
  obtain⟨v3,e3,i3⟩:=zhi hw (n:=N) hN
  refine zaa e3 ?_
  refine zva (RdB.str hO2 (i3 _ hw).app.app) ?_
  refine⟨(hsw.slice e3).app.same hO hO2,?_⟩
  refine zaa (zTx (l:=ob (b.take (N - 32)++zPp key (b.take (N - 32)))) (m:=ob (b.take N)) _ _) ?_
  have hiff:ob (b.take (N - 32)++zPp key (b.take (N - 32)))=ob (b.take N)↔zPp key (b.take (N - 32))=(b.take N).drop (N - 32):=by
   constructor
   ·intro h
    have:=zVx (zsd hsb zMw) (By.take hbb) h
    rw[hsplit] at this
    exact List.append_cancel_left this
   ·intro h
    rw[h,← hsplit]
  have hps:By ((b.take (N - 32)).drop 4):=By.drop (By.take hbb)
  have hpl:((b.take (N - 32)).drop 4).length≤9000:=by rw[List.length_drop,List.length_take]; omega
  obtain⟨v4,e4,i4⟩:=zkm hw (i:=4) (t:=N - 32) (by omega) (by omega)
  have hs4:=hsw.slice e4
  replace i4:=i4 _ hw
  clear hO
  replace hO:=hO2.left
  clear hO2
  by_cases hm:zPp key (b.take (N - 32))=(b.take N).drop (N - 32)
  ·refine zqc (fun h=>h (hiff.2 hm)) ?_
   rw[if_neg (fun h=>h hm)] at hk
   refine zaa (v:=int ((N - 32:Nat):Int)) (by rw[← e32]; exact zBb (by omega) (by omega)) ?_
   refine zaa e4 ?_
   rw[zAo hps] at hk
   refine zho hO i4.app hps hpl hs4.app ?_
   clear hO
   intro H c5 hO hrd
   refine zaa zrm ?_
   refine zaa zsm ?_
   have hpo:=zaq hps hpl
   rw[zAo hps] at hpo
   have hpd:=hpo.dl
   have hcs:=zxj ((b.take (N - 32)).drop 4)
   rw[zAo hps] at hcs
   generalize (b.take (N - 32)).drop 4=inner at *
   rcases hcs with hz|hz
   ·rw[if_neg (fun h=>h hz)] at hk
    simp only at hk
    rw[hz]
    generalize (zGk inner).1=M at *
    have hc1:oneCell c5=true:=hrd.one
    refine zeb hO ?_
    clear hO
    intro p12 H hO
    refine zya hO (_+0) (zwa rfl) (by rfl) (zra hpd) (ztb hc1) ?_
    clear hO
    intro H hO
    replace hO:=hO.set_r
    refine zaa zQa ?_
    refine zqc (by omega) ?_
    refine zFa hO (_+0) (zwa rfl) (zra hpd) (by omega) ?_
    refine zya hO (Γ.length+0) (zCa (zCa (zwa rfl))) (by rfl) (zra hpd) (ztb hc1) ?_
    clear hO
    intro H hO
    rw[List.set_append_left _ _ (by simp),List.set_append_left _ _ (by simp),Go.Ab.set_r] at hO
    refine zFa hO (Γ.length+0) (zCa (zCa (zwa rfl))) (zra hpd) (by omega) ?_
    exact hk H c5 (St.mid hO.left) hrd
   ·rw[hz,if_pos (by simp)] at hk
    rw[hz] at hO
    rw[hz]
    refine zeb hO ?_
    clear hO
    intro p12 H hO
    refine zya hO (_+0) (zwa rfl) (by rfl) (by rfl) (ztb (by rw[hz] at hrd; exact hrd.one)) ?_
    clear hO
    intro H hO
    refine zaa zQa ?_
    refine zNb (by decide) ?_
    refine zaa bM0 ?_
    replace hO:=hO.set_r.left.left
    refine sw hO 0 rfl (by rfl) (by rfl) (ztb rfl) ?_
    clear hO
    intro H hO
    refine lw hO 0 rfl (by rfl) (by omega) ?_
    exact hk H zqa hO.left.z RdH.nil
  ·refine zNb (fun h=>hm (hiff.1 h)) ?_
   rw[if_pos hm] at hk
   refine zaa bM0 ?_
   refine sw hO 0 rfl (by rfl) (by rfl) (ztb rfl) ?_
   clear hO
   intro H hO
   refine lw hO 0 rfl (by rfl) (by omega) ?_
   exact hk H zqa hO.left.z RdH.nil
end J
