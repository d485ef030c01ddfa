/- texts of the proof, one behind the other -/
import Derived.Test.YtheklmekepeblaaGreatDoorUH
set_option linter.unusedVariables false
set_option linter.unusedSimpArgs false
set_option linter.unusedSectionVars false
set_option maxRecDepth 100000
namespace J
open Go Go.Ab
variable{H:Heap}{Γ Γ0 Γ2 Δ G L S T L0:List (Nat × Blk)}{K:VH}{v w x cv dv kv sv sp iv bv ov yv:Value}{xs ys zs bs b key ms:List Int}{i j p q r o n k f wd pd st want c br oR:Nat}{e er:Int}{cs cs' c1 ck:List Value}{l:List UInt8}{m sd:Mf}{t u:Tm}{es:List (List Value)}{el:List Value}{cks:List (List Int)}{dn hs:Bool}{A B C:Ring}{r1 r2 r3:Nat}
def rkC(kv:Value)(t:Tm)(iv bv ov:Value)(br oR:Nat)(hs dn:Bool)(st:Nat)(er:Int):List Value:=
 [kv,str t.pr,zsb .u64 t.fl,int t.rm,iv,bv,ov,int br,int oR,.bool hs,.bool dn,ptr st 0,int er]
theorem zWw(hm:m.dg.length=32)(hc:RdH Γ cv m.cks)(hO:St H Γ)(hi:Γ[i]?=some (c,⟨rkC kv t iv bv ov br oR hs dn st er,true⟩))(hj:Γ[j]?=some (st,⟨rsC m cv yv want,true⟩))
  (hk:K (int (if hs=true then (if want=m.cks.length then -2 else (want:Int)) else -1)) H):wCall P zxd [ptr c 0] H K:=by
 apply zwq; unfold zrp
 refine zaa zca ?_
 refine zaa zba ?_
 refine zoa hO i hi (v:=.bool hs) rfl ?_
 refine zaa zGc ?_
 cases hs with
 | false=>
  refine zvd rfl ?_
  exact hk
 | true=>
  refine zDb rfl ?_
  refine zaa zca ?_
  refine zaa zba ?_
  refine zoa hO i hi (v:=ptr st 0) rfl ?_
  refine zjn hm hc hO hj ?_
  refine zma (fun h=>?_) (fun h=>?_)
  ·rw[if_pos h] at hk; exact hk
  ·rw[if_neg h] at hk
   refine zaa zca ?_
   refine zaa zba ?_
   refine zoa hO i hi (v:=ptr st 0) rfl ?_
   refine zaa zca ?_
   refine zaa zba ?_
   refine zoa hO j hj (zfy hm) ?_
   exact hk
end J
set_option maxRecDepth 100000
namespace J
open Go Go.Ab
variable{H:Heap}{Γ Γ0 Γ2 Δ G L S T L0:List (Nat × Blk)}{K:VH}{v w x kv:Value}{xs key:List Int}{st c br oR:Nat}{t:Tm}
theorem zGL:(zAa P 87).f []=some (agg (rsC m0 zqa zqa 0)):=by kernel_rfl
theorem bRk(t:Tm)(st br oR:Nat)(a:Option Addr)(n c:Nat):(zAa P 81).f [(0,.slice a n c),(1,agg (tmC t)),(5,int br),(6,int oR),(9,ptr st 0)]=some (agg (rkC (.slice a n c) t zqa zqa zqa br oR false false st 0)):=by kernel_rfl
theorem zyC(hO:St H Γ)(hv:RdB Γ v key)
  (hk:∀ H' st c,St H' (Γ++[(st,⟨rsC m0 zqa zqa 0,true⟩),(c,⟨rkC v t zqa zqa zqa br oR false false st 0,true⟩)])→K (ptr c 0) H'):wCall P zPk [v,agg (tmC t),int br,int oR] H K:=by
 apply zqu; unfold zpu
 obtain⟨a,n,c',rfl⟩:=hv.shape
 rw[zBo]
 refine nw hO.z ?_
 clear hO
 intro p5 H hO
 replace hO:St H (Γ++[(p5,⟨tmC t,true⟩)]):=hO
 refine lw hO 0 rfl (n:=3) rfl (by omega) ?_
 refine zaa zGL ?_
 rw[ztc]
 refine nw hO ?_
 clear hO
 intro st H hO
 refine zaa (bRk _ _ _ _ _ _ _) ?_
 rw[ztc]
 refine nw hO ?_
 clear hO
 intro c H hO
 exact hk H st c (zhg (A:=[(p5,⟨tmC t,true⟩)]) hO)
end J
set_option maxRecDepth 100000
namespace J
open Go Go.Ab
variable{H:Heap}{Γ Γ0 Γ2 Δ G L S T L0:List (Nat × Blk)}{K:VH}{v w x kv:Value}{xs key:List Int}{st c br oR n size:Nat}{t:Tm}{cs el:List Value}
def RdT(size:Nat)(Γ:List (Nat × Blk))(v:Value)(n:Nat)(cs:List Value):Prop:=
 (v=zqa∧n=0∧cs=[])∨∃ (p c j:Nat) (w:Bool),v=sl p 0 n c∧Γ[j]?=some (p,(⟨cs,w⟩:Blk))∧cs.length=n * size
theorem RdT.app(h:RdT size Γ v n cs):RdT size (Γ++Δ) v n cs:=by
 rcases h with h|⟨p,c,j,w,h1,h2,h3⟩
 ·exact .inl h
 ·exact .inr ⟨p,c,j,w,h1,zCa h2,h3⟩
theorem zzC{a b p:Nat}(h1:a≠p)(h2:b≠p):zPb [a,b] [p]=true:=by
 have e1:Nat.beq a p=false:=by
  cases hb:Nat.beq a p with
  | false=>rfl
  | true=>exact absurd (Nat.eq_of_beq_eq_true hb) h1
 have e2:Nat.beq b p=false:=by
  cases hb:Nat.beq b p with
  | false=>rfl
  | true=>exact absurd (Nat.eq_of_beq_eq_true hb) h2
 simp[zPb,zpb,zMz,e1,e2]
theorem zsv{a p:Nat}(h1:a≠p):zPb [a] [p]=true:=by
 have e1:Nat.beq a p=false:=by
  cases hb:Nat.beq a p with
  | false=>rfl
  | true=>exact absurd (Nat.eq_of_beq_eq_true hb) h1
 simp[zPb,zpb,zMz,e1]
theorem zdL(H:Heap):(zla P 42 0).f [] H=some (sl H.next 0 0 83,H.push []):=by kernel_rfl
end J
set_option maxRecDepth 100000
namespace J
open Go Go.Ab
variable{H:Heap}{Γ Γ0 Γ2 Δ G L S T L0:List (Nat × Blk)}{K:VH}{v w x kv:Value}{xs key:List Int}{st c br oR n size q:Nat}{t:Tm}{cs el:List Value}
theorem zzK(hO:St H (Γ++[(q,⟨[],true⟩)]))(h:RdT 41 Γ v n cs)(h1:cs.all oneCell=true)(hn:n≤1000000)(hk:∀ v1 H',St H' (Γ++zKa v1 cs)→Own 41 v1 n cs→K v1 H'):opW (zsa 41 144 (sl q 0 0 83) v H) K:=by
 rcases h with⟨rfl,rfl,rfl⟩|⟨p,c,j,w,rfl,hj,hl⟩
 ·refine zva (show _=some (sl q 0 0 83,H) from rfl) ?_
  exact hk (sl q 0 0 83) H hO (.inr ⟨q,.inr rfl,rfl⟩)
 ·by_cases h0:n=0
  ·subst h0
   have:cs=[]:=List.length_eq_zero_iff.1 (by omega)
   subst this
   refine zva (show _=some (sl q 0 0 83,H) from rfl) ?_
   exact hk (sl q 0 0 83) H hO (.inr ⟨q,.inr rfl,rfl⟩)
  ·have hg:H.get p=some ⟨cs,w⟩:=hO.at j (zCa hj) (.inr fun e=>by
    have e:cs=[]:=e
    rw[e] at hl; simp at hl; omega)
   have he:ztg H 41 n (sl p 0 n c)=some cs:=by
    rw[zHj hg (by show 0+n * 41≤cs.length; omega)]
    show some ((cs.drop 0).take (n * 41))=_
    rw[List.drop_zero,List.take_of_length_le (by omega)]
   have hO2:St H (Γ++zKa (sl q 0 0 83) []):=hO
   refine zIj (n:=0) (m:=n) (cs:=[]) (new:=cs) hO2 (.inr ⟨q,.inr rfl,rfl⟩) (by omega) rfl he (by omega) (by omega) (by omega) h1 hl ?_
   intro p2 H' hO' _
   rw[Nat.zero_add]
   exact hk (sl p2 0 n 82) H' hO' (.inr ⟨p2,.inl rfl,hl⟩)
end J
set_option maxRecDepth 100000
namespace J
open Go Go.Ab
variable{H:Heap}{Γ Γ0 Γ2 Δ G L S T L0:List (Nat × Blk)}{K:VH}{v w x kv:Value}{xs key:List Int}{st c br oR n size q:Nat}{t:Tm}{cs el:List Value}
theorem zHL(h:el.length=41)(H:Heap):(zla P 42 1).f [(0,agg el)] H=some (sl H.next 0 1 83,H.push el):=by
 obtain⟨l1,l2,rfl,h1,h2⟩:∃ l1 l2:List Value,el=l1++l2∧l1.length=21∧l2.length=20:=⟨el.take 21,el.drop 21,(List.take_append_drop 21 el).symm,by simp[h],by simp[h]⟩
 match l1,h1,l2,h2 with
 | [a0,a1,a2,a3,a4,a5,a6,a7,a8,a9,a10,a11,a12,a13,a14,a15,a16,a17,a18,a19,a20],_,[b0,b1,b2,b3,b4,b5,b6,b7,b8,b9,b10,b11,b12,b13,b14,b15,b16,b17,b18,b19],_=>show _=_; kernel_rfl
set_option maxHeartbeats 1000000 in
theorem zyz(hO:St H Γ)(h:RdT 41 Γ v n cs)(h1:cs.all oneCell=true)(hn:n≤100000)(he:el.length=41)(he1:el.all oneCell=true)
  (hk:∀ v1 H',St H' (Γ++zKa v1 (cs++el))→Own 41 v1 (n+1) (cs++el)→K v1 H'):wCall P zec [v,agg el] H K:=by
 apply zKs; unfold zqr
 rw[ztc]
 refine zeb hO ?_
 clear hO
 intro p3 H1 hO
 have hO1:=hO
 refine zDa hO (zdL _) ?_
 clear hO
 intro q H3 hO
 have hO3:=hO
 refine zzK hO h.app h1 (by omega) ?_
 clear hO
 intro v1 H5 hO hv1
 refine zFa hO (Γ.length+0) (zCa (zwa rfl)) he (by omega) ?_
 have hq:q≠p3:=J.St.ne' hO3 (i:=(Γ++[(p3,(⟨el,true⟩:Blk))]).length+0) (j:=Γ.length+0) (zwa rfl) (zCa (zwa rfl)) (by simp)
 refine⟨?_,zey (H':=H) hO3 (i:=Γ.length+0) (zCa (zwa rfl)) _,zey (H':=H) hO1 (i:=Γ.length+0) (zwa rfl) _,?_⟩
 ·rcases h with⟨rfl,_⟩|⟨p,c,j,w,rfl,hj,_⟩
  ·exact zsv hq
  ·have hjl:=(List.getElem?_eq_some_iff.1 hj).1
   exact zzC hq (J.St.ne' hO1 (i:=j) (j:=Γ.length+0) (zCa hj) (zwa rfl) (by omega))
 refine zDa hO (zHL he _) ?_
 clear hO
 intro q9 H9 hO
 refine zYe hO hv1 he (by omega) he1 (by omega) (by omega) ?_
 clear hO
 intro v2 H11 hO hv2
 refine hk v2 H11 (hO.sub ?_) hv2
 exact List.Sublist.append (List.sublist_append_left Γ _) (List.Sublist.refl _)
end J
set_option maxRecDepth 100000
namespace J
open Go Go.Ab
variable{H:Heap}{Γ Γ0 Γ2 Δ G L S T L0:List (Nat × Blk)}{K:VH}{v w x cv dv kv sv sp:Value}{xs ys zs bs b key ms:List Int}{i j p q r o n k f wd pd st want c:Nat}{e er:Int}{cs cs' c1 ck:List Value}{l:List UInt8}{m sd:Mf}{t u:Tm}{es:List (List Value)}{el:List Value}{cks:List (List Int)}{dn:Bool}{A B C:Ring}{r1 r2 r3:Nat}
theorem zAC(hd:m.dg.length=32):(mfC m cv).set (0+36) v=mfC m v:=by
 unfold mfC
 rw[show (str m.pr::zsb .u64 m.ver::int m.sz::int m.ck::(by8 m.dg++[cv]))=(str m.pr::zsb .u64 m.ver::int m.sz::int m.ck::by8 m.dg)++[cv] from rfl,List.set_append_right _ _ (by simp[hd])]
 simp[hd]
def zsH:Value→Bool
 | .pointer none=>false
 | _=>true
theorem zlJ(p:Nat):(zpa P .neq 94 true).f (ptr p 0) (.pointer none)=some (.bool true):=by kernel_rfl
theorem zmJ:(zpa P .neq 94 true).f (.pointer none) (.pointer none)=some (.bool false):=by kernel_rfl
theorem ztH{p q o o':Nat}{l:List Value}(h:p≠q):zLi (zBa [ptr p o]) (zBa [ptr q o',agg l]):=zsv h
set_option maxHeartbeats 2000000 in
theorem zOq(ok:sd.Ok)(hc:RdH S sv sd.cks)(hsp:sp=.pointer none∨∃ st,sp=ptr st 0)(hO:St H (S++mB A B C c (ckC kv t r1 r2 r3 sd sv sp dn er) T))
  (hk:∀ H' v',St H' ((S++mB A B C c (ckC kv t r1 r2 r3 sd sv sp dn er) T)++zKa v' (hsC sd.cks))→RdH (zKa v' (hsC sd.cks)) v' sd.cks→K (.tuple [agg (mfC sd v'),.bool (zsH sp)].toArray) H'):wCall P zxb [ptr c 0] H K:=by
 apply zah; unfold zDe
 generalize hM:S++mB A B C c (ckC kv t r1 r2 r3 sd sv sp dn er) T=Γ at *
 have hi:Γ[S.length+6]?=some (c,⟨ckC kv t r1 r2 r3 sd sv sp dn er,true⟩):=by rw[← hM]; exact zwa rfl
 have hcS:RdH Γ sv sd.cks:=by rw[← hM]; exact hc.app
 clear hM
 have hml:=zra (cv:=sv) ok.dl
 rw[zcM]
 refine zeb hO ?_
 clear hO
 intro p2 H hO
 refine zaa zca ?_
 refine zaa zba ?_
 refine zua hO (S.length+6) (zCa hi) (ziJ ok.dl) hml (by omega) ?_
 refine nw hO ?_
 clear hO
 intro p4 H hO
 replace hO:St H (Γ++[(p2,⟨mfC m0 zqa,true⟩),(p4,⟨mfC m0 zqa,true⟩)]):=hO
 refine sw hO 1 rfl rfl hml (ztb hcS.one) ?_
 clear hO
 intro H hO
 replace hO:St H (Γ++[(p2,⟨mfC m0 zqa,true⟩),(p4,⟨mfC sd sv,true⟩)]):=hO
 refine zaa zba ?_
 refine ld hO 1 rfl (zIe ok.dl) ?_
 refine zfq hcS.app ok.cl ok.n hO ?_
 clear hO
 intro H v1 hO h1
 refine zaa zba ?_
 refine zNa hO (Γ.length+1) (zCa (zwa rfl)) h1.one (by rw[hml]; omega) (zAC ok.dl) ?_
 clear hO
 intro H hO
 rw[List.set_append_left _ _ (by simp),Go.Ab.set_r] at hO
 replace hO:St H ((Γ++[(p2,⟨mfC m0 zqa,true⟩),(p4,⟨mfC sd v1,true⟩)])++zKa v1 (hsC sd.cks)):=hO
 refine zFa hO (Γ.length+1) (zCa (zwa rfl)) (zra ok.dl) (by omega) ?_
 refine zaa zca ?_
 refine zaa zba ?_
 refine zoa hO (S.length+6) (zCa (zCa hi)) (zgq ok.dl) ?_
 refine zaa (v:=.bool (zsH sp)) (by rcases hsp with rfl|⟨st,rfl⟩ <;> first|exact zmJ|exact zlJ _) ?_
 have hil:=(List.getElem?_eq_some_iff.1 hi).1
 have hne:=J.St.ne' hO (i:=S.length+6) (j:=Γ.length+0) (zCa (zCa hi)) (zCa (zwa rfl)) (by omega)
 refine zya hO (Γ.length+0) (zCa (zwa rfl)) (by rfl) (zra ok.dl) (ztb h1.one) ?_
 clear hO
 intro H hO
 rw[List.set_append_left _ _ (by simp),Go.Ab.set_r] at hO
 replace hO:St H ((Γ++[(p2,⟨mfC sd v1,true⟩),(p4,⟨mfC sd v1,true⟩)])++zKa v1 (hsC sd.cks)):=hO
 refine⟨ztH hne,?_⟩
 refine zFa hO (Γ.length+0) (zCa (zwa rfl)) (zra ok.dl) (by omega) ?_
 refine hk H v1 ?_ h1
 rw[List.append_assoc] at hO
 exact zhg hO
end J
set_option maxRecDepth 100000
namespace J
open Go Go.Ab
variable{H:Heap}{Γ Γ0 Γ2 Δ G L S T L0 X:List (Nat × Blk)}{K:VH}{v w x cv dv kv sv sp:Value}{xs ys zs bs b key ms:List Int}{i j p q r o n k f wd pd st want c:Nat}{e er:Int}{cs cs' c1 ck:List Value}{l:List UInt8}{m sd:Mf}{t u:Tm}{es:List (List Value)}{el:List Value}{cks:List (List Int)}{dn:Bool}{A B C:Ring}{r1 r2 r3:Nat}{F:List (Nat × Blk)}
inductive Al {α β:Type} (R:α→β→Prop):List α→List β→Prop
 | nil:Al R [] []
 | cons {a b l m}:R a b→Al R l m→Al R (a::l) (b::m)
namespace Al
variable{α β:Type}{R R':α→β→Prop}{l l':List α}{m m':List β}
theorem len(h:Al R l m):l.length=m.length:=by
 induction h with
 | nil=>rfl
 | cons _ _ ih=>simp[ih]
theorem imp(hi:∀ a b,R a b→R' a b)(h:Al R l m):Al R' l m:=by
 induction h with
 | nil=>exact .nil
 | cons h _ ih=>exact .cons (hi _ _ h) ih
theorem app(h:Al R l m)(h':Al R l' m'):Al R (l++l') (m++m'):=by
 induction h with
 | nil=>exact h'
 | cons h _ ih=>exact .cons h ih
theorem one{a:α}{b:β}(h:R a b):Al R [a] [b]:=.cons h .nil
theorem all{p:β→Prop}(hp:∀ a b,R a b→p b)(h:Al R l m):∀ x ∈ m,p x:=by
 induction h with
 | nil=>intro x hx; cases hx
 | cons h _ ih=>intro x hx; rcases List.mem_cons.1 hx with rfl|hx; exact hp _ _ h; exact ih x hx
end Al
theorem PcR.app{p:Int × List Int}(h:PcR S p el):PcR (S++X) p el:=by
 obtain⟨v,h1,h2,h3,h4⟩:=h
 exact⟨v,h1,h2.app,h3,fun h=>(h4 h).app⟩
theorem NtR.app{s:Sn}(h:NtR S s el):NtR (S++X) s el:=by
 cases s with
 | again a=>exact h
 | go n m=>obtain⟨cv,h1,h2,h3⟩:=h; exact⟨cv,h1,h2.app,h3⟩
 | body a bs=>obtain⟨v,h1,h2,h3⟩:=h; exact⟨v,h1,h2.app,h3⟩
 | fin=>exact h
structure RgP (S:List (Nat × Blk)) (R:Ring) (l:List (Int × List Int)):Prop where
 rg:Rg 2 R.n R.f R.es R.cs
 al:Al (PcR S) l R.es
 le:∀ p ∈ l,p.2.length≤1000000
structure RgN (S:List (Nat × Blk)) (R:Ring) (l:List Sn):Prop where
 rg:Rg 1 R.n R.f R.es R.cs
 al:Al (NtR S) l R.es
theorem RgP.app{l}(h:RgP S A l):RgP (S++X) A l:=⟨h.rg,h.al.imp fun _ _=>PcR.app,h.le⟩
theorem RgN.app{l}(h:RgN S A l):RgN (S++X) A l:=⟨h.rg,h.al.imp fun _ _=>NtR.app⟩
theorem RgP.len{l}(h:RgP S A l):A.es.length=l.length:=h.al.len.symm
theorem RgN.len{l}(h:RgN S A l):A.es.length=l.length:=h.al.len.symm
theorem RgP.nn{l}(h:RgP S A l):l.length≤A.n:=by rw[← h.len]; exact h.rg.kl
theorem RgN.nn{l}(h:RgN S A l):l.length≤A.n:=by rw[← h.len]; exact h.rg.kl
theorem RgN.more{l}{s:Sn}(h:RgN S A l)(hg:Rg 1 A.n A.f (A.es++[el]) cs')(hs:NtR S s el):RgN S (A.more cs' el) (l++[s]):=⟨hg,h.al.app (.one hs)⟩
theorem RgP.more{l}{p:Int × List Int}(h:RgP S A l)(hg:Rg 2 A.n A.f (A.es++[el]) cs')(hs:PcR S p el)(hp:p.2.length≤1000000):RgP S (A.more cs' el) (l++[p]):=⟨hg,h.al.app (.one hs),fun q hq=>by
 rcases List.mem_append.1 hq with h1|h1
 ·exact h.le q h1
 ·rw[List.mem_singleton.1 h1]; exact hp⟩
theorem RgP.one{l}(h:RgP S A l):∀ e ∈ A.es,e.all oneCell=true:=h.al.all fun p el hp=>by
 obtain⟨v,rfl,h2,h3,_⟩:=hp
 obtain⟨a,n,c,rfl⟩:=h2.shape
 rfl
structure Ck where
 key:List Int
 t:Tm
 ain:List (Int × List Int)
 bk:List Sn
 ou:List Sn
 nb:Nat
 nc:Nat
 sd:Mf
 hs:Option (List Int × Nat)
 dn:Bool
 er:Int
def Ck.wants(s:Ck):Int:=match s.hs with
 | none=>-1
 | some (_,w)=>if w=s.sd.cks.length then -2 else (w:Int)
def Ck.opens(s:Ck)(b:List Int):Ck:=
 if (zrb s.key b).2.2≠0 then { s with bk:=s.bk++[.again (-1)] }
 else if zLr (zrb s.key b).1 s.t≠0 then { s with er:=zLr (zrb s.key b).1 s.t }
 else { s with sd:=(zrb s.key b).1,hs:=some ([],0),bk:=s.bk++[.go (zrb s.key b).2.1 (zrb s.key b).1],ou:=s.ou++[.go (zrb s.key b).2.1 (zrb s.key b).1] }
def Ck.takes(s:Ck)(xs:List Int)(w:Nat)(ys:List Int):Ck:=
 if (ys.length:Int)=(zig s.sd w).2∧sha ys=s.sd.cks.getD w [] then { s with hs:=some (xs++ys,w+1),ou:=s.ou++[.body w ys] }
 else { s with bk:=s.bk++[.again w] }
def Ck.ends(s:Ck)(xs:List Int):Bool × Ck:=
 if s.ou.length=s.nc then (false,s)
 else if sha xs=s.sd.dg then (true,{ s with ou:=s.ou++[.fin],dn:=true }) else (true,{ s with er:=153 })
def Ck.pop(s:Ck)(r:List (Int × List Int)):Ck:={ s with ain:=r }
def Ck.step(s:Ck):Bool × Ck:=
 if s.er≠0∨s.dn=true then (false,s)
 else match s.hs with
  | some (xs,w)=>if w=s.sd.cks.length then s.ends xs else match s.ain with
   | []=>(false,s)
   | p::r=>if s.bk.length=s.nb∨s.ou.length=s.nc then (false,s) else
    (true,if p.1=w then (s.pop r).takes xs w p.2 else s.pop r)
  | none=>match s.ain with
   | []=>(false,s)
   | p::r=>if s.bk.length=s.nb∨s.ou.length=s.nc then (false,s) else
    (true,if p.1=-1 then (s.pop r).opens p.2 else s.pop r)
inductive StR1 (S:List (Nat × Blk)) (sd:Mf):Option (List Int × Nat)→Value→List (Nat × Blk)→Prop
 | nos:StR1 S sd none (.pointer none) []
 | str (xs:List Int) (want st:Nat) (cv:Value) (pd:Nat) (L0:List (Nat × Blk)):zGa sd→RdH S cv sd.cks→Dg pd xs L0→By xs→want≤sd.cks.length→xs.length≤want * 2000→StR1 S sd (some (xs,want)) (ptr st 0) (stB st sd cv pd want L0)
theorem StR1.app{hs}(h:StR1 S sd hs sp T):StR1 (S++X) sd hs sp T:=by
 cases h with
 | nos=>exact .nos
 | str xs want st cv pd L0 h1 h2 h3 h4 h5 h6=>exact .str _ _ _ _ _ _ h1 h2.app h3 h4 h5 h6
theorem StR1.spv{hs}(h:StR1 S sd hs sp T):sp=.pointer none∨∃ st,sp=ptr st 0:=by
 cases h with
 | nos=>exact .inl rfl
 | str xs want st=>exact .inr ⟨_,rfl⟩
structure CkR (S:List (Nat × Blk)) (s:Ck) (A B C:Ring) (kv sv sp:Value) (T:List (Nat × Blk)):Prop where
 kv:RdB S kv s.key
 kb:By s.key
 kl:s.key.length≤1000000
 tl:s.t.pr.length≤1000000
 a:RgP S A s.ain
 b:RgN S B s.bk
 c:RgN S C s.ou
 bn:B.n=s.nb
 cn:C.n=s.nc
 ok:s.sd.Ok
 sv:RdH S sv s.sd.cks
 str:StR1 S s.sd s.hs sp T
theorem zjq{s:Ck}(h:CkR S s A B C kv sv sp T)(hO:St H ((S++F)++mB A B C c (ckC kv s.t A.r B.r C.r s.sd sv sp s.dn s.er) T))(hk:K (int s.wants) H):wCall P zHa [ptr c 0] H K:=by
 have hs:=h.str
 unfold Ck.wants at hk
 generalize s.hs=hs0 at *
 cases hs with
 | nos=>exact zpv h.ok.dl hO hk
 | str xs want st cv pd L0 h1 h2 h3 h4 h5 h6=>exact zqv h.ok.dl h.ok.dl h2.app hO hk
end J
set_option maxRecDepth 100000
namespace J
open Go Go.Ab
variable{H:Heap}{Γ Γ0 Γ2 Δ G L S T L0 X:List (Nat × Blk)}{K:VH}{v w x cv dv kv sv sp:Value}{xs ys zs bs b key ms:List Int}{i j p q r o n k f wd pd st want c:Nat}{e er:Int}{cs cs' c1 ck:List Value}{l:List UInt8}{m sd:Mf}{t u:Tm}{es:List (List Value)}{el:List Value}{cks:List (List Int)}{dn:Bool}{A B C A' B' C':Ring}{r1 r2 r3:Nat}{s:Ck}{F:List (Nat × Blk)}
structure Ring.Same (A A':Ring):Prop where
 r:A'.r=A.r
 q:A'.q=A.q
 n:A'.n=A.n
theorem Ring.Same.rfl':Ring.Same A A:=⟨rfl,rfl,rfl⟩
theorem zjg:Ring.Same A (A.more cs' el):=⟨rfl,rfl,rfl⟩
theorem zyj:Ring.Same A (A.rest cs' es):=⟨rfl,rfl,rfl⟩
theorem Ring.Same.trans{A1:Ring}(h:Ring.Same A A')(h2:Ring.Same A' A1):Ring.Same A A1:=⟨h2.r.trans h.r,h2.q.trans h.q,h2.n.trans h.n⟩
theorem zzz{M:List (Nat × Blk)}(h:St H (((S++F)++X)++M)):St H (((S++X)++F)++M):=h.perm (by
 rw[List.append_assoc S F X,List.append_assoc S X F]
 exact List.Perm.append_right M (List.Perm.append_left S List.perm_append_comm))
def CkSt(S F:List (Nat × Blk))(s:Ck)(A B C:Ring)(c:Nat)(kv:Value)(H:Heap):Prop:=
 ∃ sv sp T,CkR S s A B C kv sv sp T∧St H ((S++F)++mB A B C c (ckC kv s.t A.r B.r C.r s.sd sv sp s.dn s.er) T)
theorem zgy{m:Mf}{w:Nat}(h:zGa m):(zig m w).2≤1024:=by
 unfold zig
 split
 ·show (0:Int)≤1024; omega
 ·have:=h.2.2.2.2.2.2
  have:=h
  unfold zGa at this
  show min m.ck _≤1024
  omega
theorem RgP.rest{l:List (Int × List Int)}{p:Int × List Int}(h:RgP S A (p::l))(he:A.es=el::es)(hg:Rg 2 A.n ((A.f+1) % A.n) es cs'):PcR S p el∧RgP S (A.rest cs' es) l:=by
 have h1:=h.al
 rw[he] at h1
 cases h1 with
 | cons h1 h2=>exact⟨h1,hg,h2,fun q hq=>h.le q (List.mem_cons_of_mem _ hq)⟩
theorem RgN.rest{l:List Sn}{p:Sn}(h:RgN S A (p::l))(he:A.es=el::es)(hg:Rg 1 A.n ((A.f+1) % A.n) es cs'):NtR S p el∧RgN S (A.rest cs' es) l:=by
 have h1:=h.al
 rw[he] at h1
 cases h1 with
 | cons h1 h2=>exact⟨h1,hg,h2⟩
theorem ztv(h:CkR S s A B C kv sv sp T):s.wants=-2↔∃ xs,s.hs=some (xs,s.sd.cks.length):=by
 unfold Ck.wants
 cases hs:s.hs with
 | none=>simp
 | some y=>
  obtain⟨xs,w⟩:=y
  simp only
  by_cases hw:w=s.sd.cks.length
  ·rw[if_pos hw]; simp[hw]
  ·rw[if_neg hw]; simp[hw]
theorem zAz(h:CkR S s A B C kv sv sp T)(hO:St H ((S++F)++mB A B C c (ckC kv s.t A.r B.r C.r s.sd sv sp s.dn s.er) T))(hx:s.hs=some (xs,s.sd.cks.length))
  (hk:∀ H' X C',Ring.Same C C'→CkSt (S++X) F (s.ends xs).2 A B C' c kv H'→K (.bool (s.ends xs).1) H'):wCall P zMc [ptr c 0] H K:=by
 have hs:=h.str
 have ⟨h1,h2,h3,h4,h5,h6,h7,h8,h9,h10,h11,_⟩:=h
 have e1:=h7.len
 have e2:=h7.nn
 rw[hx] at hs
 cases hs with
 | str xs want st cv2 pd L0 g1 g2 g3 g4 g5 g6=>
  have hc64:s.sd.cks.length≤64:=by have:=g1; unfold zGa at this; omega
  unfold Ck.ends at hk
  refine zvC h10.dl h10 g2.app hO h7.rg g3 g4 (by omega) ?_ ?_ ?_
  ·intro hf
   rw[if_pos (by rw[← h9]; omega)] at hk
   exact hk H [] C .rfl' ⟨sv,_,_,by rw[List.append_nil]; exact h,by rw[List.append_nil]; exact hO⟩
  ·clear hO
   intro hf hb H hO
   rw[if_neg (by rw[← h9]; omega),if_neg (by intro e; exact hb ⟨rfl,e⟩)] at hk
   refine hk H [] C .rfl' ⟨sv,_,_,?_,by rw[List.append_nil]; exact hO⟩
   rw[List.append_nil]
   refine⟨h1,h2,h3,h4,h5,h6,h7,h8,h9,h10,h11,?_⟩
   show StR1 S s.sd s.hs _ _
   rw[hx]
   exact .str _ _ _ _ _ _ g1 g2 g3 g4 g5 g6
  ·clear hO
   intro hf hb H cs' hC hO
   rw[if_neg (by rw[← h9]; omega),if_pos hb.2] at hk
   refine hk H [] _ zjg ⟨sv,_,_,?_,by rw[List.append_nil]; exact hO⟩
   rw[List.append_nil]
   refine⟨h1,h2,h3,h4,h5,h6,h7.more hC rfl,h8,h9,h10,h11,?_⟩
   show StR1 S s.sd s.hs _ _
   rw[hx]
   exact .str _ _ _ _ _ _ g1 g2 g3 g4 g5 g6
theorem zXw(h:CkR S s A B C kv sv sp T)(hO:St H ((S++F)++mB A B C c (ckC kv s.t A.r B.r C.r s.sd sv sp s.dn s.er) T))(hx:s.hs=none)(hb1:s.bk.length < s.nb)(hc1:s.ou.length < s.nc)(hw:RdB S w b)(hbb:By b)(hbl:b.length≤1000000)
  (hk:∀ H' X B' C',Ring.Same B B'→Ring.Same C C'→CkSt (S++X) F (s.opens b) A B' C' c kv H'→K (.tuple [].toArray) H'):wCall P zzc [ptr c 0,w] H K:=by
 have hs:=h.str
 have ⟨h1,h2,h3,h4,h5,h6,h7,h8,h9,h10,h11,_⟩:=h
 have e1:=h7.len
 have e2:=h6.len
 rw[hx] at hs
 generalize hsp:sp=sp' at hs
 generalize hT:T=T' at hs
 cases hs with
 | nos=>
  subst hsp hT
  unfold Ck.opens at hk
  refine zwz h10.dl hO h6.rg h7.rg h1.app h2 h3 hw.app hbb hbl h4 (by omega) (by omega) ?_ ?_ ?_
  ·clear hO
   intro he H cs' hB hO
   rw[if_pos he] at hk
   refine hk H [] _ C zjg .rfl' ⟨sv,_,_,?_,by rw[List.append_nil]; exact hO⟩
   rw[List.append_nil]
   refine⟨h1,h2,h3,h4,h5,h6.more hB rfl,h7,h8,h9,h10,h11,?_⟩
   show StR1 S s.sd s.hs _ _
   rw[hx]; exact .nos
  ·clear hO
   intro he ha H hO
   rw[if_neg (by simpa using he),if_pos ha] at hk
   refine hk H [] B C .rfl' .rfl' ⟨sv,_,_,?_,by rw[List.append_nil]; exact hO⟩
   rw[List.append_nil]
   refine⟨h1,h2,h3,h4,h5,h6,h7,h8,h9,h10,h11,?_⟩
   show StR1 S s.sd s.hs _ _
   rw[hx]; exact .nos
  ·clear hO
   have ok:=znt (key:=s.key) hbb hbl
   intro he ha hr H X cv cv2 st pd L0 cs2 cs3 hdg g1 g2 hB hC hO
   rw[if_neg (by simpa using he),if_neg (by simpa using ha)] at hk
   refine hk H X _ _ zjg zjg ⟨cv,_,_,?_,zzz hO⟩
   refine⟨h1.app,h2,h3,h4,h5.app,h6.app.more hB ⟨cv,rfl,g1.app',ok⟩,h7.app.more hC ⟨cv,rfl,g1.app',ok⟩,h8,h9,ok,g1.app',?_⟩
   exact .str _ _ _ _ _ _ hr g2.app' hdg (fun x hx=>by cases hx) (Nat.zero_le _) (Nat.zero_le _)
theorem zYw(h:CkR S s A B C kv sv sp T)(hO:St H ((S++F)++mB A B C c (ckC kv s.t A.r B.r C.r s.sd sv sp s.dn s.er) T))(hx:s.hs=some (xs,want))(hwant:want≠s.sd.cks.length)(hb1:s.bk.length < s.nb)(hc1:s.ou.length < s.nc)(hw:RdB S w ys)(hbb:By ys)(hbl:ys.length≤1000000)
  (hk:∀ H' X B' C',Ring.Same B B'→Ring.Same C C'→CkSt (S++X) F (s.takes xs want ys) A B' C' c kv H'→K (.tuple [].toArray) H'):wCall P zAc [ptr c 0,agg [int want,w]] H K:=by
 have hs:=h.str
 have ⟨h1,h2,h3,h4,h5,h6,h7,h8,h9,h10,h11,_⟩:=h
 have e1:=h7.len
 have e2:=h6.len
 rw[hx] at hs
 cases hs with
 | str xs want st cv2 pd L0 g1 g2 g3 g4 g5 g6=>
  have hlt:want < s.sd.cks.length:=by omega
  have hc64:s.sd.cks.length≤64:=by have:=g1; unfold zGa at this; omega
  have hgd:s.sd.cks.getD want []=s.sd.cks[want]:=by simp[hlt]
  have hsp:=zgy (w:=want) g1
  unfold Ck.takes at hk
  rw[hgd] at hk
  refine zvz h10.dl h10 g1 g2.app hO h6.rg h7.rg g3 g4 (by omega) hw.app hbb hbl hlt (by omega) (by omega) ?_ ?_
  ·clear hO
   intro hg H cs' hB hO
   rw[if_neg hg] at hk
   refine hk H [] _ C zjg .rfl' ⟨sv,_,_,?_,by rw[List.append_nil]; exact hO⟩
   rw[List.append_nil]
   refine⟨h1,h2,h3,h4,h5,h6.more hB rfl,h7,h8,h9,h10,h11,?_⟩
   show StR1 S s.sd s.hs _ _
   rw[hx]
   exact .str _ _ _ _ _ _ g1 g2 g3 g4 g5 g6
  ·clear hO
   intro hg H cs' L' hdg hC hO
   rw[if_pos hg] at hk
   refine hk H [] B _ .rfl' zjg ⟨sv,_,_,?_,by rw[List.append_nil]; exact hO⟩
   rw[List.append_nil]
   refine⟨h1,h2,h3,h4,h5,h6,h7.more hC ⟨w,rfl,hw,hbb⟩,h8,h9,h10,h11,?_⟩
   exact .str _ _ _ _ _ _ g1 g2 hdg (by intro x hx; rcases List.mem_append.1 hx with hx|hx; exact g4 x hx; exact hbb x hx) (by show want+1≤s.sd.cks.length; omega) (by rw[List.length_append]; have:=hg.1; omega)
end J
set_option maxRecDepth 100000
namespace J
open Go Go.Ab
variable{H:Heap}{Γ Γ0 Γ2 Δ G L S T L0 X:List (Nat × Blk)}{K:VH}{v w x cv dv kv sv sp:Value}{xs ys zs bs b key ms:List Int}{i j p q r o n k f wd pd st want c:Nat}{e er:Int}{cs cs' c1 ck:List Value}{l:List UInt8}{m sd:Mf}{t u:Tm}{es:List (List Value)}{el:List Value}{cks:List (List Int)}{dn:Bool}{A B C A' B' C':Ring}{r1 r2 r3:Nat}{s:Ck}{F:List (Nat × Blk)}
theorem zFF:(ckC kv t r1 r2 r3 sd sv sp dn er)[0+4]?=some (ptr r1 0):=rfl
theorem znJ:(ckC kv t r1 r2 r3 sd sv sp dn er)[0+5]?=some (ptr r2 0):=rfl
theorem zoJ:(ckC kv t r1 r2 r3 sd sv sp dn er)[0+6]?=some (ptr r3 0):=rfl
theorem zZw(h:CkR S s A B C kv sv sp T):-2≤s.wants∧s.wants≤1000:=by
 have h1:=h.str
 unfold Ck.wants
 generalize s.hs=hs at *
 cases h1 with
 | nos=>simp
 | str xs want st cv2 pd L0 g1 g2 g3 g4 g5 g6=>
  have hc64:s.sd.cks.length≤64:=by have:=g1; unfold zGa at this; omega
  simp only
  split <;> omega
set_option maxHeartbeats 4000000 in
theorem zEh(h:CkSt S F s A B C c kv H)(hk:∀ H' X A' B' C',Ring.Same A A'→Ring.Same B B'→Ring.Same C C'→CkSt (S++X) F s.step.2 A' B' C' c kv H'→K (.bool s.step.1) H'):wCall P zib [ptr c 0] H K:=by
 obtain⟨sv,sp,T,h,hO⟩:=h
 have ⟨h1,h2,h3,h4,h5,h6,h7,h8,h9,h10,h11,h12⟩:=h
 have hd:=h10.dl
 have e5:=h5.len
 have e6:=h6.len
 have e7:=h7.len
 have n5:=h5.nn
 have n6:=h6.nn
 have n7:=h7.nn
 have stay:K (.bool false) H∨True:=.inr trivial
 apply zcj; unfold zJg
 refine zjq h hO ?_
 refine zxa (fun l' H'=>l'=[ptr c 0,int s.wants,.bool (decide (s.er≠0∨s.dn=true))]∧H=H') ?_ ?_
 ·refine zaa zca ?_
  refine zaa zba ?_
  refine ld hO 6 rfl (zDF hd) ?_
  refine zaa zQa ?_
  refine zma (fun he=>?_) (fun he=>?_)
  ·repeat (first|refine oi ?_|refine ow ?_|refine wy ?_|refine wn ?_|refine wt ?_|refine wf' ?_|refine cy ?_|refine cn ?_)
   exact⟨by rw[decide_eq_true (.inl he:s.er≠0∨s.dn=true)],rfl⟩
  ·refine zaa zca ?_
   refine zaa zba ?_
   refine ld hO 6 rfl (zCF hd) ?_
   repeat (first|refine oi ?_|refine ow ?_|refine wy ?_|refine wn ?_|refine wt ?_|refine wf' ?_|refine cy ?_|refine cn ?_)
   refine⟨?_,rfl⟩
   cases hd:s.dn with
   | true=>rw[decide_eq_true (.inr rfl:s.er≠0∨true=true)]
   | false=>rw[decide_eq_false (by simpa using he:¬ (s.er≠0∨false=true))]
 rintro l' H' ⟨rfl,rfl⟩
 try simp only[zia,zja]
 unfold Ck.step at hk
 have idle:K (.bool false) H→K (.bool false) H:=fun h=>h
 refine zma (fun he=>?_) (fun he=>?_)
 ·rw[if_pos he] at hk
  exact hk H [] A B C .rfl' .rfl' .rfl' ⟨sv,sp,T,by rw[List.append_nil]; exact h,by rw[List.append_nil]; exact hO⟩
 rw[if_neg he] at hk
 refine zaa zUa ?_
 refine zma (fun hw=>?_) (fun hw=>?_)
 ·obtain⟨xs,hx⟩:=(ztv h).1 hw
  rw[hx] at hk
  simp only[if_true] at hk
  refine zAz h hO hx ?_
  intro H' X C' hC hS
  exact hk H' X A B C' .rfl' .rfl' hC hS
 have hr:=zZw h
 refine zxa (fun l' H'=>l'=[ptr c 0,int s.wants,.bool (decide (s.ain=[]∨s.bk.length=s.nb∨s.ou.length=s.nc))]∧H=H') ?_ ?_
 ·refine zaa zca ?_
  refine zaa zba ?_
  refine ld hO 6 rfl zFF ?_
  refine zkv (i:=1) hO rfl ?_
  refine zaa zUa ?_
  refine zma (fun h0=>?_) (fun h0=>?_)
  ·repeat (first|refine oi ?_|refine ow ?_|refine wy ?_|refine wn ?_|refine wt ?_|refine wf' ?_|refine cy ?_|refine cn ?_)
   have:s.ain=[]:=by rw[← List.length_eq_zero_iff]; omega
   exact⟨by rw[decide_eq_true (.inl this:s.ain=[]∨s.bk.length=s.nb∨s.ou.length=s.nc)],rfl⟩
  have h0':¬ s.ain=[]:=by rw[← List.length_eq_zero_iff]; omega
  refine zaa zca ?_
  refine zaa zba ?_
  refine ld hO 6 rfl znJ ?_
  refine zQj (i:=3) hO rfl h6.rg.kl h6.rg.n16 ?_
  refine zaa zUa ?_
  refine zaa (zWa h0) ?_
  refine zma (fun h3=>?_) (fun h3=>?_)
  ·repeat (first|refine oi ?_|refine ow ?_|refine wy ?_|refine wn ?_|refine wt ?_|refine wf' ?_|refine cy ?_|refine cn ?_)
   exact⟨by rw[decide_eq_true (.inr (.inl (by omega)):s.ain=[]∨s.bk.length=s.nb∨s.ou.length=s.nc)],rfl⟩
  refine zaa zca ?_
  refine zaa zba ?_
  refine ld hO 6 rfl zoJ ?_
  refine zQj (i:=5) hO rfl h7.rg.kl h7.rg.n16 ?_
  refine zaa zUa ?_
  refine zaa (zWa h3) ?_
  refine⟨?_,rfl⟩
  have:(((C.n - C.es.length:Nat):Int)=0)↔(s.ain=[]∨s.bk.length=s.nb∨s.ou.length=s.nc):=by
   constructor
   ·intro h; exact .inr (.inr (by omega))
   ·rintro (h|h|h)
    ·exact absurd h h0'
    ·omega
    ·omega
  simp only[this]
 rintro l' H' ⟨rfl,rfl⟩
 try simp only[zia,zja]
 refine zma (fun hi=>?_) (fun hi=>?_)
 ·have hk2:=hk H [] A B C .rfl' .rfl' .rfl'
  have hS:CkSt (S++[]) F s A B C c kv H:=⟨sv,sp,T,by rw[List.append_nil]; exact h,by rw[List.append_nil]; exact hO⟩
  clear hk
  cases hx:s.hs with
  | none=>
   rw[hx] at hk2
   cases ha:s.ain with
   | nil=>rw[ha] at hk2; exact hk2 hS
   | cons y ys=>
    rw[ha] at hk2 hi
    simp only at hk2
    rw[if_pos (by simpa using hi)] at hk2
    exact hk2 hS
  | some y=>
   obtain⟨xs,want⟩:=y
   rw[hx] at hk2
   have:¬ want=s.sd.cks.length:=by
    intro e
    exact hw ((ztv h).2 ⟨xs,by rw[hx,e]⟩)
   simp only at hk2
   rw[if_neg this] at hk2
   cases ha:s.ain with
   | nil=>rw[ha] at hk2; exact hk2 hS
   | cons y ys=>
    rw[ha] at hk2 hi
    simp only at hk2
    rw[if_pos (by simpa using hi)] at hk2
    exact hk2 hS
 have hin:s.ain≠[]:=fun e=>hi (.inl e)
 have hb1:s.bk.length < s.nb:=by have:¬ s.bk.length=s.nb:=fun e=>hi (.inr (.inl e)); omega
 have hc1:s.ou.length < s.nc:=by have:¬ s.ou.length=s.nc:=fun e=>hi (.inr (.inr e)); omega
 obtain⟨pc,ain,ha⟩:∃ p r,s.ain=p::r:=by
  cases h:s.ain with
  | nil=>exact absurd h hin
  | cons p r=>exact⟨p,r,rfl⟩
 refine zaa zca ?_
 refine zaa zba ?_
 refine ld hO 6 rfl zFF ?_
 refine zpz (i:=1) (j:=0) hO rfl rfl (by omega) h5.rg h5.one (fun e=>absurd e (by intro e; rw[e,ha] at e5; simp at e5)) ?_
 clear hO
 intro el er hes H cs' hA hO
 replace hO:=zDL hO
 rw[ha] at h5
 obtain⟨hp,h5'⟩:=h5.rest hes hA
 obtain⟨w,rfl,hw1,hw2,_⟩:=hp
 have hpl:=h5.le pc (.head _)
 obtain⟨s2,hs2⟩:∃ s2,s.pop ain=s2:=⟨_,rfl⟩
 have hR:CkR S s2 (A.rest cs' er) B C kv sv sp T:=by
  subst hs2
  exact⟨h1,h2,h3,h4,h5',h6,h7,h8,h9,h10,h11,h12⟩
 replace hO:St H ((S++F)++mB (A.rest cs' er) B C c (ckC kv s2.t (A.rest cs' er).r B.r C.r s2.sd sv sp s2.dn s2.er) T):=by subst hs2; exact hO
 have hwt:s.wants=s2.wants:=by subst hs2; rfl
 have hsh:s.hs=s2.hs:=by subst hs2; rfl
 have hb1:s2.bk.length < s2.nb:=by subst hs2; exact hb1
 have hc1:s2.ou.length < s2.nc:=by subst hs2; exact hc1
 have hcl:s.sd=s2.sd:=by subst hs2; rfl
 refine zaa zrm ?_
 refine zaa zsm ?_
 rw[zpt]
 generalize hΓ:(S++F)++mB (A.rest cs' er) B C c (ckC kv s2.t (A.rest cs' er).r B.r C.r s2.sd sv sp s2.dn s2.er) T=Γ at hO
 refine nw hO.z ?_
 clear hO
 intro p4 H hO
 replace hO:St H (Γ++[(p4,⟨[int 0,zqa],true⟩)]):=hO
 obtain⟨aw,nw',cw,rfl⟩:=hw1.shape
 refine sw hO 0 rfl rfl rfl rfl ?_
 clear hO
 intro H hO
 replace hO:St H (Γ++[(p4,⟨[int pc.1,.slice aw nw' cw],true⟩)]):=hO
 refine zaa zba ?_
 refine ld hO 0 rfl (v:=int pc.1) rfl ?_
 refine zaa zQa ?_
 have hstep:∀ (z:Ck),z=(if pc.1=s2.wants then (match s2.hs with|none=>s2.opens pc.2|some (xs,w)=>s2.takes xs w pc.2) else s2)→∀ H' X A' B' C',Ring.Same A A'→Ring.Same B B'→Ring.Same C C'→CkSt (S++X) F z A' B' C' c kv H'→K (.bool true) H':=by
  intro z hz H' X A' B' C' q1 q2 q3 hS
  subst hz
  have hk2:=hk H' X A' B' C' q1 q2 q3
  rw[hwt] at hw
  have hww:s2.wants=match s2.hs with|none=>-1|some (_,w)=>if w=s2.sd.cks.length then -2 else (w:Int):=rfl
  rw[hcl,ha] at hk2
  cases hx:s2.hs with
  | none=>
   rw[hx] at hww hS
   rw[hsh,hx] at hk2
   simp only at hk2 hww hS
   rw[if_neg (by intro e; exact hi (.inr e))] at hk2
   rw[hww] at hS
   rw[hs2] at hk2
   exact hk2 hS
  | some y=>
   obtain⟨xs,want⟩:=y
   rw[hx] at hww hS
   rw[hsh,hx] at hk2
   simp only at hk2 hww hS
   by_cases e:want=s2.sd.cks.length
   ·rw[if_pos e] at hww; exact absurd hww hw
   ·rw[if_neg e] at hww hk2
    rw[if_neg (by intro e; exact hi (.inr e))] at hk2
    rw[hww] at hS
    rw[hs2] at hk2
    exact hk2 hS
 clear hk
 rw[hwt]
 refine zma (fun hat=>?_) (fun hat=>?_)
 ·refine hstep s2 (by rw[if_neg hat]) H [] (A.rest cs' er) B C zyj .rfl' .rfl' ⟨sv,sp,T,by rw[List.append_nil]; exact hR,?_⟩
  rw[List.append_nil,hΓ]
  exact hO.left
 have hat:pc.1=s2.wants:=Classical.not_not.1 hat
 refine zaa zUa ?_
 refine zma (fun hm=>?_) (fun hm=>?_)
 ·have hx:s2.hs=none:=by
   cases hx:s2.hs with
   | none=>rfl
   | some y=>
    exfalso
    unfold Ck.wants at hm
    rw[hx] at hm
    simp only at hm
    split at hm <;> omega
  refine zaa zba ?_
  refine ld hO 0 rfl (v:=.slice aw nw' cw) rfl ?_
  have hO:=hO.left
  rw[← hΓ] at hO
  refine zXw hR hO hx hb1 hc1 hw1 hw2 hpl ?_
  clear hO
  intro H' X B' C' q2 q3 hS
  refine hstep _ ?_ H' X _ B' C' zyj q2 q3 hS
  rw[if_pos hat,hx]
 ·cases hx:s2.hs with
  | none=>exfalso; apply hm; unfold Ck.wants; rw[hx]
  | some y=>
   obtain⟨xs,want⟩:=y
   have hww:s2.wants=if want=s2.sd.cks.length then -2 else (want:Int):=by unfold Ck.wants; rw[hx]
   have hwne:want≠s2.sd.cks.length:=by
    intro e
    rw[if_pos e] at hww
    exact hw (hwt.trans hww)
   rw[if_neg hwne] at hww
   rw[hww] at hat
   refine lw hO 0 rfl (n:=2) rfl (by omega) ?_
   have hO:=hO.left
   rw[← hΓ] at hO
   rw[hat]
   refine zYw hR hO hx hwne hb1 hc1 hw1 hw2 hpl ?_
   clear hO
   intro H' X B' C' q2 q3 hS
   refine hstep _ ?_ H' X _ B' C' zyj q2 q3 hS
   rw[hww,if_pos hat,hx]
end J
set_option maxRecDepth 100000
namespace J
open Go Go.Ab
variable{H:Heap}{Γ Γ0 Γ2 Δ G L S T L0 X F R:List (Nat × Blk)}{K:VH}{v w x cv dv kv sv sp iv bv ov yv:Value}{xs ys zs bs b key ms:List Int}{i j p q r o n k f wd pd st want c:Nat}{e er:Int}{cs cs' c1 ck ics bcs ocs ycs:List Value}{l:List UInt8}{m sd:Mf}{t u:Tm}{es:List (List Value)}{el:List Value}{cks:List (List Int)}{dn:Bool}{s:Ck}
theorem _root_.Go.Ab.St.keepP(h:St H Γ)(hp:Γ.Perm (Δ++R)):St H Δ:=(h.perm hp).left
theorem zBC{Γ Δ:List (Nat × Blk)}{y:Nat × Blk}{j:Nat}(h:Δ[j]?=some y)(hs:∀ x ∈ Δ,x ∈ Γ):∃ j':Nat,Γ[j']?=some y:=List.mem_iff_getElem?.1 (hs y (List.mem_of_getElem? h))
theorem RdT.mono{size:Nat}(h:RdT size Δ v n cs)(hs:∀ x ∈ Δ,x ∈ Γ):RdT size Γ v n cs:=by
 rcases h with h|⟨p,c,j,w,h1,h2,h3⟩
 ·exact .inl h
 ·obtain⟨j',hj⟩:=zBC h2 hs
  exact .inr ⟨p,c,j',w,h1,hj,h3⟩
theorem _root_.Go.Ab.RdB.mono(h:RdB Δ v xs)(hs:∀ x ∈ Δ,x ∈ Γ):RdB Γ v xs:=by
 rcases h with h|⟨p,o,c,h1,h2,h3⟩
 ·exact .inl h
 ·refine .inr ⟨p,o,c,h1,h2,?_⟩
  rcases h3 with h3|⟨j,bk,h3,h4⟩
  ·exact .inl h3
  ·obtain⟨j',hj⟩:=zBC h3 hs
   exact .inr ⟨j',bk,hj,h4⟩
theorem RdH.mono(h:RdH Δ v cks)(hs:∀ x ∈ Δ,x ∈ Γ):RdH Γ v cks:=by
 rcases h with h|⟨p,c,j,w,h1,h2⟩
 ·exact .inl h
 ·obtain⟨j',hj⟩:=zBC h2 hs
  exact .inr ⟨p,c,j',w,h1,hj⟩
theorem _root_.Go.Ab.Own.rdT{size:Nat}(h:Own size v n cs):RdT size (zKa v cs) v n cs:=by
 rcases h with h|⟨p,h1,h2⟩
 ·exact .inl h
 ·rcases h1 with rfl|rfl
  ·exact .inr ⟨p,_,0,true,rfl,rfl,h2⟩
  ·exact .inr ⟨p,_,0,true,rfl,rfl,h2⟩
theorem _root_.Go.Ab.Own.one1{size:Nat}(h:Own size v n cs):oneCell v=true:=by
 rcases h with⟨rfl,_⟩|⟨p,rfl|rfl,_⟩ <;> rfl
theorem _root_.Go.Ab.Own.shape{size:Nat}(h:Own size v n cs):∃ a n c,v=.slice a n c:=by
 rcases h with⟨rfl,_⟩|⟨p,rfl|rfl,_⟩ <;> exact⟨_,_,_,rfl⟩
theorem ToldR.app{a:Sn}(h:ToldR S a el):ToldR (S++X) a el:=by
 cases a with
 | again a=>exact h
 | go n m=>obtain⟨cv,h1,h2,h3⟩:=h; exact⟨cv,h1,h2.app,h3⟩
 | body a bs=>obtain⟨v,h1,h2,h3⟩:=h; exact⟨v,h1,h2.app,h3⟩
 | fin=>exact h
theorem zom(hd:m.dg.length=32)(a b d:Value)(x:Value)(ha:oneCell a=true)(hb:oneCell b=true)(hdd:oneCell d=true)(hc:oneCell cv=true)(hx:oneCell x=true):(a::b::d::(mfC m cv++[x])).length=41∧(a::b::d::(mfC m cv++[x])).all oneCell=true:=by
 constructor
 ·simp[zra hd]
 ·show (oneCell a && (oneCell b && (oneCell d && (mfC m cv++[x]).all oneCell)))=true
  rw[List.all_append,ztb hc,ha,hb,hdd]
  simp[hx]
theorem zJE:m0.dg.length=32:=rfl
theorem ToldR.row{a:Sn}(h:ToldR S a el):el.length=41∧el.all oneCell=true:=by
 cases a with
 | again a=>have h:el=_:=h; rw[h]; exact zom zJE _ _ _ _ rfl rfl rfl rfl rfl
 | go n m=>obtain⟨cv,rfl,h2,h3⟩:=h; exact zom h3.dl _ _ _ _ rfl rfl rfl h2.one rfl
 | body a bs=>obtain⟨v,rfl,h2,h3⟩:=h; obtain⟨a,n,c,rfl⟩:=h2.shape; exact zom zJE _ _ _ _ rfl rfl rfl rfl rfl
 | fin=>have h:el=_:=h; rw[h]; exact zom zJE _ _ _ _ rfl rfl rfl rfl rfl
structure Row {α:Type} (size:Nat) (P:α→List Value→Prop) (v:Value) (l:List α) (cs:List Value):Prop where
 own:Own size v l.length cs
 al:∃ es,cs=es.flatten∧Al P l es
 one:cs.all oneCell=true
theorem Row.imp{α:Type}{size:Nat}{P P':α→List Value→Prop}{l:List α}(hi:∀ a b,P a b→P' a b)(h:Row size P v l cs):Row size P' v l cs:=by
 obtain⟨h1,⟨es,h2,h3⟩,h4⟩:=h
 exact⟨h1,⟨es,h2,h3.imp hi⟩,h4⟩
theorem Row.nil{α:Type}{size:Nat}{P:α→List Value→Prop}:Row size P zqa [] []:=⟨.inl ⟨rfl,rfl,rfl⟩,⟨[],rfl,.nil⟩,rfl⟩
theorem Row.more{α:Type}{size:Nat}{P:α→List Value→Prop}{l:List α}{a:α}(h:Row size P v l cs)(ha:P a el)(ho:el.all oneCell=true)(h2:Own size w (l.length+1) (cs++el)):Row size P w (l++[a]) (cs++el):=by
 obtain⟨h1,⟨es,rfl,h3⟩,h4⟩:=h
 exact⟨by rw[List.length_append]; exact h2,⟨es++[el],by simp,h3.app (.one ha)⟩,by rw[List.all_append,h4,ho]; rfl⟩
theorem zaf{l:List Sn}{a:Sn}(hO:St H Γ)(h:Row 41 (ToldR S) v l cs)(hs:∀ x ∈ zKa v cs,x ∈ Γ)(hn:l.length≤100000)(he:ToldR S a el)
  (hk:∀ v1 H' cs1,St H' (Γ++zKa v1 cs1)→Row 41 (ToldR S) v1 (l++[a]) cs1→K v1 H'):wCall P zec [v,agg el] H K:=by
 obtain⟨r1,r2⟩:=he.row
 refine zyz hO (h.own.rdT.mono hs) h.one hn r1 r2 ?_
 intro v1 H' hO' hv
 exact hk v1 H' _ hO' (h.more he r2 hv)
end J
set_option maxRecDepth 100000
namespace J
open Go Go.Ab
variable{H:Heap}{Γ Γ0 Γ2 Δ G L S T L0 X F R:List (Nat × Blk)}{K:VH}{v w x cv dv kv sv sp iv bv ov yv:Value}{xs ys zs bs b key ms:List Int}{i j p q r o n k f wd pd st want c:Nat}{e er:Int}{cs cs' c1 ck ics bcs ocs ycs:List Value}{l:List UInt8}{m sd:Mf}{t u:Tm}{es:List (List Value)}{el:List Value}{cks:List (List Int)}{dn:Bool}{s:Ck}
def rkL(c st:Nat)(cB sB:List Value)(iv bv ov yv:Value)(ics bcs ocs ycs:List Value):List (Nat × Blk):=
 [(c,⟨cB,true⟩),(st,⟨sB,true⟩)]++(zKa iv ics++(zKa bv bcs++(zKa ov ocs++zKa yv ycs)))
structure RkR (S:List (Nat × Blk)) (s:Ck) (kv cv iv bv ov yv:Value) (ics bcs ocs ycs:List Value):Prop where
 kv:RdB S kv s.key
 kst:s.key≠[]→True
 kb:By s.key
 kl:s.key.length≤1000000
 tl:s.t.pr.length≤1000000
 i:Row 2 (PcR S) iv s.ain ics
 b:Row 41 (ToldR S) bv s.bk bcs
 o:Row 41 (ToldR S) ov s.ou ocs
 il:∀ p ∈ s.ain,p.2.length≤1000000
 n:s.bk.length≤s.nb∧s.ou.length≤s.nc∧s.nb≤16∧s.nc≤16∧s.ain.length≤1000
 ok:s.sd.Ok
 cv:RdH S cv s.sd.cks
 y:OwnB yv (s.hs.getD ([],0)).1 ycs
 ylen:∀ xs w,s.hs=some (xs,w)→zGa s.sd∧By xs∧w≤s.sd.cks.length∧xs.length≤w * 2000
def rkB(kv:Value)(s:Ck)(st:Nat)(iv bv ov:Value):List Value:=rkC kv s.t iv bv ov s.nb s.nc s.hs.isSome s.dn st s.er
def rsB(s:Ck)(cv yv:Value):List Value:=rsC s.sd cv yv (s.hs.getD ([],0)).2
def zQH(S F:List (Nat × Blk))(s:Ck)(c:Nat)(kv:Value)(H:Heap):Prop:=
 ∃ st cv iv bv ov yv ics bcs ocs ycs,RkR S s kv cv iv bv ov yv ics bcs ocs ycs∧St H ((S++F)++rkL c st (rkB kv s st iv bv ov) (rsB s cv yv) iv bv ov yv ics bcs ocs ycs)
theorem bT1(e:Int):(zAa P 54).f [(0,int 1),(1,int e)]=some (agg (int 1::int e::int 0::(mfC m0 zqa++[zqa]))):=by kernel_rfl
theorem bT4:(zAa P 54).f [(0,int 4)]=some (agg (int 4::int 0::int 0::(mfC m0 zqa++[zqa]))):=by kernel_rfl
theorem bT3(e:Int)(a:Option Addr)(n c:Nat):(zAa P 54).f [(0,int 3),(1,int e),(4,.slice a n c)]=some (agg (int 3::int e::int 0::(mfC m0 zqa++[.slice a n c]))):=by kernel_rfl
theorem bT2(hd:m.dg.length=32)(e:Int)(a:Option Addr)(k c:Nat):(zAa P 54).f [(0,int 2),(2,int e),(3,agg (mfC m (.slice a k c)))]=some (agg (int 2::int 0::int e::(mfC m (.slice a k c)++[zqa]))):=by
 obtain⟨pr,ver,sz,ck,dg,cks⟩:=m
 have hd:dg.length=32:=hd
 match dg,hd with
 | [a0,a1,a2,a3,a4,a5,a6,a7,a8,a9,a10,a11,a12,a13,a14,a15,a16,a17,a18,a19,a20,a21,a22,a23,a24,a25,a26,a27,a28,a29,a30,a31],_=>show _=_; kernel_rfl
theorem zIL(M:List (Nat × Blk)){Γ:List (Nat × Blk)}{cB sB:List Value}{w1:Value}{cs1:List Value}(h:St H ((Γ++(M++rkL c st cB sB iv bv ov yv ics bcs ocs ycs))++zKa w1 cs1)):St H (Γ++(M++rkL c st cB sB w1 bv ov yv cs1 bcs ocs ycs)):=by
 unfold rkL at *
 refine h.keepP (R:=zKa iv ics) ?_
 generalize zKa bv bcs=B0; generalize zKa w1 cs1=B1; generalize zKa iv ics=I0; generalize zKa ov ocs=O0; generalize zKa yv ycs=Y0
 exact (by classical exact List.perm_iff_count.2 fun _=>by simp only[List.count_append,List.count_nil,List.set_cons_zero]; omega)
theorem zTJ(M:List (Nat × Blk)){Γ:List (Nat × Blk)}{cB sB:List Value}{w1:Value}{cs1:List Value}(h:St H ((Γ++(M++rkL c st cB sB iv bv ov yv ics bcs ocs ycs))++zKa w1 cs1)):St H (Γ++(M++rkL c st cB sB iv w1 ov yv ics cs1 ocs ycs)):=by
 unfold rkL at *
 refine h.keepP (R:=zKa bv bcs) ?_
 generalize zKa bv bcs=B0; generalize zKa w1 cs1=B1; generalize zKa iv ics=I0; generalize zKa ov ocs=O0; generalize zKa yv ycs=Y0
 exact (by classical exact List.perm_iff_count.2 fun _=>by simp only[List.count_append,List.count_nil,List.set_cons_zero]; omega)
theorem zUJ(M:List (Nat × Blk)){Γ:List (Nat × Blk)}{cB sB:List Value}{w1:Value}{cs1:List Value}(h:St H ((Γ++(M++rkL c st cB sB iv bv ov yv ics bcs ocs ycs))++zKa w1 cs1)):St H (Γ++(M++rkL c st cB sB iv bv w1 yv ics bcs cs1 ycs)):=by
 unfold rkL at *
 refine h.keepP (R:=zKa ov ocs) ?_
 generalize zKa bv bcs=B0; generalize zKa w1 cs1=B1; generalize zKa iv ics=I0; generalize zKa ov ocs=O0; generalize zKa yv ycs=Y0
 exact (by classical exact List.perm_iff_count.2 fun _=>by simp only[List.count_append,List.count_nil,List.set_cons_zero]; omega)
theorem zhy(M:List (Nat × Blk)){Γ:List (Nat × Blk)}{cB cB' sB:List Value}(h:St H (Γ++(M++rkL c st cB sB iv bv ov yv ics bcs ocs ycs).set M.length (c,⟨cB',true⟩))):St H (Γ++(M++rkL c st cB' sB iv bv ov yv ics bcs ocs ycs)):=by
 rw[List.set_append_right _ _ (Nat.le_refl _),Nat.sub_self] at h
 exact h
theorem zJL(M:List (Nat × Blk)){Γ:List (Nat × Blk)}{cB sB sB':List Value}(h:St H (Γ++(M++rkL c st cB sB iv bv ov yv ics bcs ocs ycs).set (M.length+1) (st,⟨sB',true⟩))):St H (Γ++(M++rkL c st cB sB' iv bv ov yv ics bcs ocs ycs)):=by
 rw[List.set_append_right _ _ (by omega),show M.length+1 - M.length=1 by omega] at h
 exact h
theorem nwF{cs:List Value}(h:St H (Γ++L))(hk:∀ p H',St H' (Γ++((p,⟨cs,true⟩)::L))→K (ptr p 0) H'):zCb cs H K:=
 zeb h fun p H' hO=>hk p H' (hO.perm (by
  rw[List.append_assoc]
  exact List.Perm.append_left Γ (List.perm_append_comm (l₁:=L) (l₂:=[(p,_)]))))
theorem zpJ{p c size bytes:Nat}{w:Bool}(hO:St H (Γ++[(q,⟨[],true⟩)]))(hj:Γ[j]?=some (p,⟨cs,w⟩))(hl:cs.length=(n+1) * size)(h1:cs.all oneCell=true)(hp:0 < size)(hb:(0+n) * bytes≤140737488355328)(hn:n≤1000000)
  (hk:∀ v1 H',St H' (Γ++zKa v1 (cs.drop size))→Own size v1 n (cs.drop size)→K v1 H'):opW (zsa size bytes (sl q 0 0 (2 * size+1)) (sl p (0+1 * size) n c) H) K:=by
 have hll:(n+1) * size=n * size+size:=Nat.succ_mul n size
 by_cases h0:n=0
 ·subst h0
  have e:cs.drop size=[]:=List.length_eq_zero_iff.1 (by rw[List.length_drop]; omega)
  rw[e] at hk
  refine zva (show _=some (sl q 0 0 (2 * size+1),H) from rfl) ?_
  exact hk (sl q 0 0 (2 * size+1)) H hO (.inr ⟨q,.inr rfl,by simp⟩)
 ·have hg:H.get p=some ⟨cs,w⟩:=hO.at j (zCa hj) (.inr fun e=>by
   have e:cs=[]:=e
   rw[e] at hl; simp at hl; omega)
  have he:ztg H size n (sl p (0+1 * size) n c)=some (cs.drop size):=by
   rw[zHj hg (by show 0+1 * size+n * size≤cs.length; omega)]
   show some ((cs.drop (0+1 * size)).take (n * size))=_
   rw[show 0+1 * size=size by omega,List.take_of_length_le (by rw[List.length_drop]; omega)]
  have hO2:St H (Γ++zKa (sl q 0 0 (2 * size+1)) []):=hO
  refine zIj (n:=0) (m:=n) (cs:=[]) (new:=cs.drop size) hO2 (.inr ⟨q,.inr rfl,by simp⟩) hp rfl he (by omega) hb (by omega) ?_ (by rw[List.length_drop]; omega) ?_
  ·rw[List.all_eq_true] at h1 ⊢
   intro x hx
   exact h1 x (List.mem_of_mem_drop hx)
  intro p2 H' hO' _
  rw[Nat.zero_add]
  exact hk (sl p2 0 n (2 * size)) H' hO' (.inr ⟨p2,.inl rfl,by rw[List.length_drop]; omega⟩)
theorem zCC{size p n c:Nat}{H:Heap}(hp:0 < size)(hc:c=2 * size∨c=2 * size+1):∃ c',zTa size (sl p 0 (n+1) c) (some (int 1)) none none=some (sl p (0+1 * size) n c'):=by
 have e1:Nat.beq (2 * size) (2 * size+1)=false:=by
  cases hb:Nat.beq (2 * size) (2 * size+1) with
  | false=>rfl
  | true=>have:=Nat.eq_of_beq_eq_true hb; omega
 have e2:zjd (n+1) (some (int 1))=some 1:=by
  unfold zjd
  have h1:leB 0 1=true:=rfl
  have h2:Nat.ble (Int.toNat 1) (n+1)=true:=by rw[zVb]; exact decide_eq_true (by show 1≤n+1; omega)
  simp only[h1,h2]
  rfl
 unfold zTa
 simp only[zCc,e2,zdl]
 rcases hc with rfl|rfl
 ·rw[e1]
  simp only[Nat.beq_refl,Bool.true_or]
  exact⟨_,rfl⟩
 ·rw[Nat.beq_refl]
  exact⟨_,rfl⟩
end J
set_option maxRecDepth 100000
namespace J
open Go Go.Ab
variable{H:Heap}{Γ Γ0 Γ2 Δ G L S T L0 X F R:List (Nat × Blk)}{K:VH}{v w x cv dv kv sv sp iv bv ov yv:Value}{xs ys zs bs b key ms:List Int}{i j p q r o n k f wd pd st want c:Nat}{e er:Int}{cs cs' c1 ck ics bcs ocs ycs:List Value}{l:List UInt8}{m sd:Mf}{t u:Tm}{es:List (List Value)}{el:List Value}{cks:List (List Int)}{dn:Bool}{s:Ck}
theorem RkR.app(h:RkR S s kv cv iv bv ov yv ics bcs ocs ycs):RkR (S++X) s kv cv iv bv ov yv ics bcs ocs ycs:=
 ⟨h.kv.app,h.kst,h.kb,h.kl,h.tl,h.i.imp fun _ _=>PcR.app,h.b.imp fun _ _=>ToldR.app,h.o.imp fun _ _=>ToldR.app,h.il,h.n,h.ok,h.cv.app,h.y,h.ylen⟩
theorem zuH(hd:m.dg.length=32)(hd2:sd.dg.length=32):mfC m v++(rsC sd cv yv want).drop 37=rsC m v yv want:=by
 unfold rsC
 rw[List.drop_left' (zra hd2)]
set_option maxHeartbeats 4000000 in
theorem zBz(h:RkR S s kv cv iv bv ov yv ics bcs ocs ycs)(hx:s.hs=none)(he0:s.er=0)(hb1:s.bk.length < s.nb)(hc1:s.ou.length < s.nc)
  (hO:St H ((S++F)++rkL c st (rkB kv s st iv bv ov) (rsB s cv yv) iv bv ov yv ics bcs ocs ycs)) (hw:RdB S w b) (hst:b≠[]→Stay S w) (hbb:By b) (hbl:b.length≤1000000)
  (hk:∀ H' X,zQH (S++X) F (s.opens b) c kv H'→K (.tuple [].toArray) H'):wCall P zSi [ptr c 0,w] H K:=by
 apply zLs; unfold zrr
 have ok:=znt (key:=s.key) hbb hbl
 have hcase:=zhn (key:=s.key) hbb hbl
 have hn:=h.n
 refine zaa zca ?_
 refine zaa zba ?_
 refine ld hO 0 rfl (v:=kv) rfl ?_
 refine zbq hO h.kv.app.app hw.app.app (fun h=>(hst h).app.app) h.kb hbb h.kl hbl ?_
 clear hO
 intro H cv1 hO h1
 unfold Ck.opens at hk
 generalize zrb s.key b=o3 at *
 obtain⟨m,n3,e3⟩:=o3
 simp only at *
 have hO:=swapT hO
 generalize hX:zKa cv1 (hsC m.cks)=X at *
 refine zaa zaL ?_
 refine zaa zbL ?_
 refine zaa zcL ?_
 rw[zcM]
 refine nwF hO ?_
 clear hO
 intro p4 H hO
 refine sw hO 0 rfl rfl (zra ok.dl) (ztb h1.one) ?_
 clear hO
 intro H hO
 replace hO:St H (((S++F)++X)++([(p4,⟨mfC m cv1,true⟩)]++rkL c st (rkB kv s st iv bv ov) (rsB s cv yv) iv bv ov yv ics bcs ocs ycs)):=hO
 refine zaa zQa ?_
 refine zma (fun he=>?_) (fun he=>?_)
 ·refine zaa zca ?_
  refine zaa zba ?_
  refine ld hO 1 rfl (v:=bv) rfl ?_
  refine zaa (bT1 _) ?_
  refine zaf (S:=S) (a:=.again (-1)) hO h.b (by intro x hx; unfold rkL; simp[hx]) (by omega) rfl ?_
  clear hO
  intro v1 H cs1 hO hv1
  replace hO:=zTJ [_] hO
  refine zaa zca ?_
  refine zaa zba ?_
  refine s1 hO 1 rfl hv1.own.one1 (by simp[rkB,rkC]) ?_
  clear hO
  intro H hO
  replace hO:=zhy [_] hO
  rw[if_pos he] at hk
  refine hk H X ⟨st,cv,iv,v1,ov,yv,ics,cs1,ocs,ycs,?_,?_⟩
  ·have h':=h.app (X:=X)
   exact⟨h'.kv,h'.kst,h'.kb,h'.kl,h'.tl,h'.i,hv1.imp fun _ _=>ToldR.app,h'.o,h'.il,⟨by simp; omega,hn.2.1,hn.2.2.1,hn.2.2.2.1,hn.2.2.2.2⟩,h'.ok,h'.cv,h'.y,h'.ylen⟩
  ·refine zzz ?_
   exact zhg hO
 have he:e3=0:=Classical.not_not.1 he
 refine lw hO 0 rfl (zra ok.dl) (by omega) ?_
 refine zaa zca ?_
 refine zaa zba ?_
 refine zua hO (((S++F)++X).length+1) (zwa rfl) (cs:=tmC s.t) rfl rfl (by omega) ?_
 refine zio ok (h1.mono (by intro x hx; simp[hx])) h.tl hO ?_
 clear hO
 intro H hO
 refine zaa zca ?_
 refine zaa zba ?_
 refine s1 hO 1 rfl rfl (by simp[rkB,rkC]) ?_
 clear hO
 intro H hO
 replace hO:=zhy [_] hO
 refine zaa zca ?_
 refine zaa zba ?_
 refine ld hO 1 rfl (v:=int (zLr m s.t)) rfl ?_
 refine zaa zQa ?_
 refine zma (fun ha=>?_) (fun ha=>?_)
 ·rw[if_neg (by simpa using he),if_pos ha] at hk
  refine hk H X ⟨st,cv,iv,bv,ov,yv,ics,bcs,ocs,ycs,?_,?_⟩
  ·have h':=h.app (X:=X)
   exact⟨h'.kv,h'.kst,h'.kb,h'.kl,h'.tl,h'.i,h'.b,h'.o,h'.il,h'.n,h'.ok,h'.cv,h'.y,h'.ylen⟩
  ·refine zzz ?_
   exact zhg hO
 have ha:zLr m s.t=0:=Classical.not_not.1 ha
 have hr:zGa m:=(zxK.1 ha).1
 have hs0:rsB s cv yv=rsC s.sd cv yv 0:=by unfold rsB; rw[hx]; rfl
 have hy0:OwnB yv [] ycs:=by have:=h.y; rw[hx] at this; exact this
 refine zaa zca ?_
 refine zaa zba ?_
 refine s1 hO 1 rfl rfl (by simp[rkB,rkC]) ?_
 clear hO
 intro H hO
 replace hO:=zhy [_] hO
 refine zaa zca ?_
 refine zaa zba ?_
 refine ld hO 1 rfl (v:=ptr st 0) rfl ?_
 refine lw hO 0 rfl (zra ok.dl) (by omega) ?_
 refine zaa zca ?_
 refine zaa zba ?_
 rw[hs0] at hO
 refine zed hO (((S++F)++X).length+2) (zwa rfl) (zra ok.dl) (by rw[zUw h.ok.dl]; omega) (ztb h1.one) ?_
 clear hO
 intro H hO
 replace hO:=hO.set_r
 rw[ztc] at hO
 replace hO:=zJL [_] hO
 rw[show (rsC s.sd cv yv 0).take (0+0)++(mfC m cv1++(rsC s.sd cv yv 0).drop (0+0+37))=rsC m cv1 yv 0 from zuH ok.dl h.ok.dl] at hO
 refine lw hO 0 rfl (zra ok.dl) (by omega) ?_
 obtain⟨a1,k1,q1,rfl⟩:=h1.shape
 refine zaa (bT2 ok.dl _ _ _ _) ?_
 rw[show zc P 54=int 0::int 0::int 0::(mfC m0 zqa++[zqa]) by kernel_rfl]
 refine nwF hO ?_
 clear hO
 intro p7 H hO
 have hgo:ToldR X (.go n3 m) (int 2::int 0::int n3::(mfC m (.slice a1 k1 q1)++[zqa])):=⟨_,rfl,h1,ok⟩
 refine sw hO 0 rfl (by rfl) hgo.row.1 hgo.row.2 ?_
 clear hO
 intro H hO
 refine zaa zca ?_
 refine zaa zba ?_
 refine ld hO 2 rfl (v:=bv) rfl ?_
 refine lw hO 0 rfl hgo.row.1 (by omega) ?_
 replace hO:St H (((S++F)++X)++([(p7,⟨int 2::int 0::int n3::(mfC m (.slice a1 k1 q1)++[zqa]),true⟩),(p4,⟨mfC m (.slice a1 k1 q1),true⟩)]++rkL c st (rkC kv s.t iv bv ov s.nb s.nc true s.dn st (zLr m s.t)) (rsC m (.slice a1 k1 q1) yv 0) iv bv ov yv ics bcs ocs ycs)):=by unfold rkB at hO; rw[hx] at hO; exact hO
 refine zaf (S:=S++X) (a:=.go n3 m) hO (h.b.imp fun _ _=>ToldR.app) (by intro x hx; unfold rkL; simp[hx]) (by omega) ⟨_,rfl,h1.app',ok⟩ ?_
 clear hO
 intro v1 H cs1 hO hv1
 replace hO:=zTJ [_,_] hO
 refine zaa zca ?_
 refine zaa zba ?_
 refine s1 hO 2 rfl hv1.own.one1 (by simp[rkC]) ?_
 clear hO
 intro H hO
 replace hO:=zhy [_,_] hO
 refine zaa zca ?_
 refine zaa zba ?_
 refine ld hO 2 rfl (v:=ov) rfl ?_
 refine lw hO 0 rfl hgo.row.1 (by omega) ?_
 refine zaf (S:=S++X) (a:=.go n3 m) hO (h.o.imp fun _ _=>ToldR.app) (by intro x hx; unfold rkL; simp[hx]) (by omega) ⟨_,rfl,h1.app',ok⟩ ?_
 clear hO
 intro v2 H cs2 hO hv2
 replace hO:=zUJ [_,_] hO
 refine zaa zca ?_
 refine zaa zba ?_
 refine s1 hO 2 rfl hv2.own.one1 (by simp[rkC]) ?_
 clear hO
 intro H hO
 replace hO:=zhy [_,_] hO
 rw[if_neg (by simpa using he),if_neg (by simpa using ha)] at hk
 refine hk H X ⟨st,.slice a1 k1 q1,iv,v1,v2,yv,ics,cs1,cs2,ycs,?_,?_⟩
 ·have h':=h.app (X:=X)
  exact⟨h'.kv,h'.kst,h'.kb,h'.kl,h'.tl,h'.i,hv1,hv2,h'.il,⟨by simp; omega,by simp; omega,hn.2.2.1,hn.2.2.2.1,hn.2.2.2.2⟩,ok,h1.app',hy0,by
   intro xs w hh; cases hh; exact⟨hr,(fun x hx=>by cases hx),Nat.zero_le _,Nat.zero_le _⟩⟩
 ·refine zzz ?_
  have hO:=zhg (A:=[_,_]) hO
  rw[show zLr m s.t=s.er from ha.trans he0.symm] at hO
  rw[show rkB kv ({ s with sd:=m,hs:=some ([],0),bk:=s.bk++[.go n3 m],ou:=s.ou++[.go n3 m] }:Ck) st iv v1 v2=rkC kv s.t iv v1 v2 s.nb s.nc true s.dn st s.er from rfl]
  exact hO
end J
set_option maxRecDepth 100000
namespace J
open Go Go.Ab
variable{H:Heap}{Γ Γ0 Γ2 Δ G L S T L0 X F R:List (Nat × Blk)}{K:VH}{v w x cv dv kv sv sp iv bv ov yv:Value}{xs ys zs bs b key ms:List Int}{i j p q r o n k f wd pd st want c:Nat}{e er:Int}{cs cs' c1 ck ics bcs ocs ycs:List Value}{l:List UInt8}{m sd:Mf}{t u:Tm}{es:List (List Value)}{el:List Value}{cks:List (List Int)}{dn:Bool}{s:Ck}
def rk0(c st:Nat)(cB sB:List Value)(iv bv ov:Value)(ics bcs ocs:List Value):List (Nat × Blk):=
 [(c,⟨cB,true⟩),(st,⟨sB,true⟩)]++(zKa iv ics++(zKa bv bcs++zKa ov ocs))
theorem zVJ(M:List (Nat × Blk)){cB sB:List Value}:Γ++(M++rkL c st cB sB iv bv ov yv ics bcs ocs ycs)=(Γ++(M++rk0 c st cB sB iv bv ov ics bcs ocs))++zKa yv ycs:=by
 simp[rkL,rk0]
theorem zKL(H:Heap):(zla P 78 0).f [] H=some (sl H.next 0 0 5,H.push []):=by kernel_rfl
theorem zDC(h:RkR S s kv cv iv bv ov yv ics bcs ocs ycs):(if s.hs.isSome=true then (if (s.hs.getD ([],0)).2=s.sd.cks.length then (-2:Int) else (((s.hs.getD ([],0)).2:Nat):Int)) else -1)=s.wants:=by
 unfold Ck.wants
 cases s.hs with
 | none=>rfl
 | some y=>obtain⟨xs,w⟩:=y; simp
theorem zNn(h:RkR S s kv cv iv bv ov yv ics bcs ocs ycs)(hO:St H ((S++F)++rkL c st (rkB kv s st iv bv ov) (rsB s cv yv) iv bv ov yv ics bcs ocs ycs))(hk:K (int s.wants) H):wCall P zxd [ptr c 0] H K:=by
 refine zWw (i:=(S++F).length+0) (j:=(S++F).length+1) h.ok.dl h.cv.app.app hO (zwa rfl) (zwa rfl) ?_
 rw[zDC h]
 exact hk
theorem zCz(h:RkR S s kv cv iv bv ov yv ics bcs ocs ycs)(hO:St H ((S++F)++rkL c st (rkB kv s st iv bv ov) (rsB s cv yv) iv bv ov yv ics bcs ocs ycs))(hx:s.hs=some (xs,s.sd.cks.length))(hf:s.ou.length≠s.nc)
  (hk0:¬ sha xs=s.sd.dg→∀ H',St H' ((S++F)++rkL c st (rkB kv s st iv bv ov) (rsB s cv yv) iv bv ov yv ics bcs ocs ycs)→K (.bool false) H')
  (hk1:sha xs=s.sd.dg→∀ H',St H' ((S++F)++rkL c st (rkB kv s st iv bv ov) (rsB s cv yv) iv bv ov yv ics bcs ocs ycs)→K (.bool true) H'):wCall P zne [ptr st 0] H K:=by
 have e:=zVJ (Γ:=S++F) [] (c:=c) (st:=st) (cB:=rkB kv s st iv bv ov) (sB:=rsB s cv yv) (iv:=iv) (bv:=bv) (ov:=ov) (yv:=yv) (ics:=ics) (bcs:=bcs) (ocs:=ocs) (ycs:=ycs)
 rw[List.nil_append,List.nil_append] at e
 rw[e] at hO hk0 hk1
 obtain⟨g1,g2,g3,g4⟩:=h.ylen _ _ hx
 have hy:OwnB yv xs ycs:=by have:=h.y; rw[hx] at this; exact this
 have hc64:s.sd.cks.length≤64:=by have:=g1; unfold zGa at this; omega
 have hsb:rsB s cv yv=rsC s.sd cv yv s.sd.cks.length:=by unfold rsB; rw[hx]; rfl
 rw[hsb] at hO hk0 hk1
 refine zVw (i:=(S++F).length+1) h.ok h.cv.app.app hO (zwa rfl) hy g2 (by omega) ?_
 clear hO
 intro H' hO
 by_cases hd:sha xs=s.sd.dg
 ·rw[decide_eq_true (show s.sd.cks.length=s.sd.cks.length∧sha xs=s.sd.dg from⟨rfl,hd⟩)]
  exact hk1 hd H' hO
 ·rw[decide_eq_false (by intro h; exact hd h.2)]
  exact hk0 hd H' hO
set_option maxHeartbeats 4000000 in
theorem zDz(h:RkR S s kv cv iv bv ov yv ics bcs ocs ycs)(hO:St H ((S++F)++rkL c st (rkB kv s st iv bv ov) (rsB s cv yv) iv bv ov yv ics bcs ocs ycs))(hx:s.hs=some (xs,s.sd.cks.length))(hw:w=ptr c 0)
  (hk:∀ H' X,zQH (S++X) F (s.ends xs).2 c kv H'→K (.bool (s.ends xs).1) H') :
 opP (zea w) fun t21=>
 opP (zfa 6 t21) fun t22=>
 opW (zda t22 H) fun t23 H20=>
 opW (lenSl t23 H20) fun t24 H22=>
 opP (zea w) fun t26=>
 opP (zfa 8 t26) fun t27=>
 opW (zda t27 H22) fun t28 H26=>
 opP ((zpa P .geq 3 false).f t24 t28) fun t29=>
 wIf t29 (
 K (.bool false) H26) (
 opP (zea w) fun t31=>
 opP (zfa 11 t31) fun t32=>
 opW (zda t32 H26) fun t33 H31=>
 wCall P zne [t33] H31 fun t34 H33=>
 wIf t34 (
 opP (zea w) fun t37=>
 opP (zfa 6 t37) fun t38=>
 opW (zda t38 H33) fun t39 H37=>
 opP ((zAa P 54).f [(0,(.int .i64 4))]) fun t40=>
 wCall P zec [t39,t40] H37 fun t41 H40=>
 opP (zea w) fun t42=>
 opP (zfa 6 t42) fun t43=>
 opW (zha 1 t43 t41 H40) fun u H44=>
 opP (zea w) fun t45=>
 opP (zfa 10 t45) fun t46=>
 opW (zha 1 t46 (.bool true) H44) fun u_1 H48=>
 K (.bool true) H48) (
 opP (zea w) fun t48=>
 opP (zfa 12 t48) fun t49=>
 opW (zha 1 t49 (.int .i64 153) H33) fun u_2 H52=>
 K (.bool true) H52)):=by
 subst hw
 have hn:=h.n
 refine zaa zca ?_
 refine zaa zba ?_
 refine ld hO 0 rfl (v:=ov) rfl ?_
 refine zva h.o.own.lenSl ?_
 refine zaa zca ?_
 refine zaa zba ?_
 refine ld hO 0 rfl (v:=int s.nc) rfl ?_
 refine zaa zSf ?_
 unfold Ck.ends at hk
 refine zma (fun hf=>?_) (fun hf=>?_)
 ·rw[if_pos (by omega)] at hk
  exact hk H [] ⟨st,cv,iv,bv,ov,yv,ics,bcs,ocs,ycs,by rw[List.append_nil]; exact h,by rw[List.append_nil]; exact hO⟩
 rw[if_neg (by omega)] at hk
 refine zaa zca ?_
 refine zaa zba ?_
 refine ld hO 0 rfl (v:=ptr st 0) rfl ?_
 refine zCz h hO hx (by omega) ?_ ?_
 ·clear hO
  intro hd H hO
  refine zDb rfl ?_
  refine zaa zca ?_
  refine zaa zba ?_
  refine s1 hO 0 rfl rfl (by simp[rkB,rkC]) ?_
  clear hO
  intro H hO
  replace hO:=zhy [] hO
  rw[if_neg hd] at hk
  refine hk H [] ⟨st,cv,iv,bv,ov,yv,ics,bcs,ocs,ycs,?_,by rw[List.append_nil]; exact hO⟩
  rw[List.append_nil]
  exact⟨h.kv,h.kst,h.kb,h.kl,h.tl,h.i,h.b,h.o,h.il,h.n,h.ok,h.cv,h.y,h.ylen⟩
 ·clear hO
  intro hd H hO
  refine zvd rfl ?_
  refine zaa zca ?_
  refine zaa zba ?_
  refine ld hO 0 rfl (v:=ov) rfl ?_
  refine zaa bT4 ?_
  refine zaf (S:=S) (a:=.fin) hO h.o (by intro x hx; unfold rkL; simp[hx]) (by omega) rfl ?_
  clear hO
  intro v1 H cs1 hO hv1
  replace hO:=zUJ [] hO
  refine zaa zca ?_
  refine zaa zba ?_
  refine s1 hO 0 rfl hv1.own.one1 (by simp[rkB,rkC]) ?_
  clear hO
  intro H hO
  replace hO:=zhy [] hO
  refine zaa zca ?_
  refine zaa zba ?_
  refine s1 hO 0 rfl rfl (by simp[rkB,rkC]) ?_
  clear hO
  intro H hO
  replace hO:=zhy [] hO
  rw[if_pos hd] at hk
  refine hk H [] ⟨st,cv,iv,bv,v1,yv,ics,bcs,cs1,ycs,?_,by rw[List.append_nil]; exact hO⟩
  rw[List.append_nil]
  exact⟨h.kv,h.kst,h.kb,h.kl,h.tl,h.i,h.b,hv1,h.il,⟨hn.1,by simp; omega,hn.2.2⟩,h.ok,h.cv,h.y,h.ylen⟩
end J
set_option maxRecDepth 100000
namespace J
open Go Go.Ab
variable{H:Heap}{Γ Γ0 Γ2 Δ G L S T L0 X F R:List (Nat × Blk)}{K:VH}{v w x cv dv kv sv sp iv bv ov yv:Value}{xs ys zs bs b key ms:List Int}{i j p q r o n k f wd pd st want c:Nat}{e er:Int}{cs cs' c1 ck ics bcs ocs ycs:List Value}{l:List UInt8}{m sd:Mf}{t u:Tm}{es:List (List Value)}{el:List Value}{cks:List (List Int)}{dn:Bool}{s:Ck}
theorem Row.head{α:Type}{size:Nat}{P:α→List Value→Prop}{a:α}{l:List α}(h:Row size P v (a::l) cs)(hp:∀ a el,P a el→el.length=size):∃ el,P a el∧cs.take size=el∧∀ v1,Own size v1 l.length (cs.drop size)→Row size P v1 l (cs.drop size):=by
 obtain⟨h1,⟨es,rfl,h3⟩,h4⟩:=h
 cases h3 with
 | cons h5 h6=>
  rename_i el es
  have hl:=hp _ _ h5
  have e1:((el::es).flatten).take size=el:=by rw[List.flatten_cons]; exact List.take_left' hl
  have e2:((el::es).flatten).drop size=es.flatten:=by rw[List.flatten_cons]; exact List.drop_left' hl
  refine⟨el,h5,e1,fun v1 hv=>?_⟩
  rw[e2] at hv ⊢
  refine⟨hv,⟨es,rfl,h6⟩,?_⟩
  rw[List.flatten_cons,List.all_append,Bool.and_eq_true] at h4
  exact h4.2
theorem PcR.len{a:Int × List Int}(h:PcR S a el):el.length=2:=by obtain⟨v,rfl,_⟩:=h; rfl
theorem _root_.Go.Ab.Own.sl{size:Nat}(h:Own size v (n+1) cs):∃ p c,v=Go.Ab.sl p 0 (n+1) c∧(c=2 * size∨c=2 * size+1)∧zKa v cs=[(p,⟨cs,true⟩)]:=by
 rcases h with⟨_,h,_⟩|⟨p,h|h,_⟩
 ·cases h
 ·exact⟨p,_,h,.inl rfl,by rw[h]; rfl⟩
 ·exact⟨p,_,h,.inr rfl,by rw[h]; rfl⟩
set_option maxHeartbeats 8000000 in
theorem zEz(hS:zQH S F s c kv H)(hk:∀ H' X,zQH (S++X) F s.step.2 c kv H'→K (.bool s.step.1) H'):wCall P zDg [ptr c 0] H K:=by
 obtain⟨st,cv,iv,bv,ov,yv,ics,bcs,ocs,ycs,h,hO⟩:=hS
 have hn:=h.n
 apply zHs; unfold znr
 have stay:∀ {B:Bool × Ck},s.step=B→B=(false,s)→K (.bool false) H:=by
  intro B e1 e2
  have:=hk H []
  rw[e1,e2] at this
  exact this ⟨st,cv,iv,bv,ov,yv,ics,bcs,ocs,ycs,by rw[List.append_nil]; exact h,by rw[List.append_nil]; exact hO⟩
 refine zxa (fun l' H'=>l'=[ptr c 0]∧H=H'∧¬ (s.er≠0∨s.dn=true)) ?_ ?_
 ·refine zaa zca ?_
  refine zaa zba ?_
  refine ld hO 0 rfl (v:=int s.er) rfl ?_
  refine zaa zQa ?_
  refine zma (fun he=>?_) (fun he=>?_)
  ·repeat (first|refine oi ?_|refine ow ?_|refine wy ?_|refine wn ?_|refine wt ?_|refine wf' ?_|refine cy ?_|refine cn ?_)
   exact stay rfl (by unfold Ck.step; rw[if_pos (.inl he)])
  ·refine zaa zca ?_
   refine zaa zba ?_
   refine ld hO 0 rfl (v:=.bool s.dn) rfl ?_
   refine zaa (zWa he) ?_
   refine zTc (fun hd=>?_) (fun hd=>?_)
   ·exact stay rfl (by unfold Ck.step; rw[if_pos (.inr hd)])
   ·exact⟨rfl,rfl,by rintro (h|h); exact he h; rw[h] at hd; cases hd⟩
 rintro l' H' ⟨rfl,rfl,he⟩
 try simp only[zia,zja]
 have he0:s.er=0:=Classical.byContradiction fun h=>he (.inl h)
 unfold Ck.step at hk stay
 rw[if_neg he] at hk stay
 refine zNn h hO ?_
 refine zaa zUa ?_
 refine zma (fun hw=>?_) (fun hw=>?_)
 ·obtain⟨xs,hx⟩:∃ xs,s.hs=some (xs,s.sd.cks.length):=by
   unfold Ck.wants at hw
   cases hx:s.hs with
   | none=>rw[hx] at hw; simp at hw
   | some y=>
    obtain⟨xs,w⟩:=y
    rw[hx] at hw
    simp only at hw
    by_cases e:w=s.sd.cks.length
    ·exact⟨xs,by rw[e]⟩
    ·rw[if_neg e] at hw; omega
  rw[hx] at hk
  simp only[if_true] at hk
  exact zDz h hO hx rfl hk
 have hidle:(s.ain=[]∨s.bk.length=s.nb∨s.ou.length=s.nc)→K (.bool false) H:=by
  intro hi
  cases hx:s.hs with
  | none=>
   rw[hx] at stay
   cases ha:s.ain with
   | nil=>rw[ha] at stay; exact stay rfl rfl
   | cons y ys=>
    rw[ha] at stay hi
    simp only at stay
    rw[if_pos (by simpa using hi)] at stay
    exact stay rfl rfl
  | some y=>
   obtain⟨xs,want⟩:=y
   rw[hx] at stay
   have:¬ want=s.sd.cks.length:=by
    intro e
    exact hw (by unfold Ck.wants; rw[hx]; simp[e])
   simp only at stay
   rw[if_neg this] at stay
   cases ha:s.ain with
   | nil=>rw[ha] at stay; exact stay rfl rfl
   | cons y ys=>
    rw[ha] at stay hi
    simp only at stay
    rw[if_pos (by simpa using hi)] at stay
    exact stay rfl rfl
 refine zxa (fun l' H'=>l'=[ptr c 0,int s.wants]∧H=H'∧¬ (s.ain=[]∨s.bk.length=s.nb∨s.ou.length=s.nc)) ?_ ?_
 ·refine zaa zca ?_
  refine zaa zba ?_
  refine ld hO 0 rfl (v:=iv) rfl ?_
  refine zva h.i.own.lenSl ?_
  refine zaa zUa ?_
  refine zma (fun h0=>?_) (fun h0=>?_)
  ·repeat (first|refine oi ?_|refine ow ?_|refine wy ?_|refine wn ?_|refine wt ?_|refine wf' ?_|refine cy ?_|refine cn ?_)
   exact hidle (.inl (List.length_eq_zero_iff.1 (by omega)))
  have h0':¬ s.ain=[]:=by rw[← List.length_eq_zero_iff]; omega
  refine zaa zca ?_
  refine zaa zba ?_
  refine ld hO 0 rfl (v:=bv) rfl ?_
  refine zva h.b.own.lenSl ?_
  refine zaa zca ?_
  refine zaa zba ?_
  refine ld hO 0 rfl (v:=int s.nb) rfl ?_
  refine zaa zSf ?_
  refine zaa (zWa h0) ?_
  refine zma (fun h3=>?_) (fun h3=>?_)
  ·repeat (first|refine oi ?_|refine ow ?_|refine wy ?_|refine wn ?_|refine wt ?_|refine wf' ?_|refine cy ?_|refine cn ?_)
   exact hidle (.inr (.inl (by omega)))
  refine zaa zca ?_
  refine zaa zba ?_
  refine ld hO 0 rfl (v:=ov) rfl ?_
  refine zva h.o.own.lenSl ?_
  refine zaa zca ?_
  refine zaa zba ?_
  refine ld hO 0 rfl (v:=int s.nc) rfl ?_
  refine zaa zSf ?_
  refine zaa (zWa h3) ?_
  refine zma (fun h4=>?_) (fun h4=>?_)
  ·exact hidle (.inr (.inr (by omega)))
  ·exact⟨rfl,rfl,by rintro (h|h|h); exact h0' h; omega; omega⟩
 rintro l' H' ⟨rfl,rfl,hi⟩
 try simp only[zia,zja]
 have hin:s.ain≠[]:=fun e=>hi (.inl e)
 have hb1:s.bk.length < s.nb:=by have:¬ s.bk.length=s.nb:=fun e=>hi (.inr (.inl e)); omega
 have hc1:s.ou.length < s.nc:=by have:¬ s.ou.length=s.nc:=fun e=>hi (.inr (.inr e)); omega
 clear hidle stay
 obtain⟨pc,ain,ha⟩:∃ p r,s.ain=p::r:=by
  cases h:s.ain with
  | nil=>exact absurd h hin
  | cons p r=>exact⟨p,r,rfl⟩
 have hI:=h.i
 have hil:=h.il
 rw[ha] at hI hil
 obtain⟨el,hp,ht,hrest⟩:=hI.head (fun a el h=>h.len)
 obtain⟨p,c0,rfl,hc0,hout⟩:=hI.own.sl
 have hlen:=hI.own.len
 obtain⟨w,rfl,hw1,hw2,hw3⟩:=hp
 have hpl:=hil pc (.head _)
 have hmem:(p,(⟨ics,true⟩:Blk)) ∈ rkL c st (rkB kv s st (sl p 0 (ain.length+1) c0) bv ov) (rsB s cv yv) (sl p 0 (ain.length+1) c0) bv ov yv ics bcs ocs ycs:=by
  unfold rkL; rw[hout]; simp
 obtain⟨jp,hjp⟩:=List.mem_iff_getElem?.1 hmem
 refine zaa zca ?_
 refine zaa zba ?_
 refine ld hO 0 rfl (v:=sl p 0 (ain.length+1) c0) rfl ?_
 refine zaa (zqb (by omega) (by omega)) ?_
 refine zua hO (_+jp) (zwa hjp) (cs:=[int pc.1,w]) (by show (ics.drop (0+0 * 2)).take 2=_; simpa using ht) rfl (by omega) ?_
 rw[zpt]
 refine nwF hO ?_
 clear hO
 intro p4 H hO
 obtain⟨aw,nw',cw,rfl⟩:=hw1.shape
 refine sw hO 0 rfl rfl rfl rfl ?_
 clear hO
 intro H hO
 replace hO:St H ((S++F)++([(p4,⟨[int pc.1,.slice aw nw' cw],true⟩)]++rkL c st (rkB kv s st (sl p 0 (ain.length+1) c0) bv ov) (rsB s cv yv) (sl p 0 (ain.length+1) c0) bv ov yv ics bcs ocs ycs)):=hO
 refine zDa hO (zKL _) ?_
 clear hO
 intro q H hO
 refine zaa zca ?_
 refine zaa zba ?_
 refine zoa hO (_+1) (zCa (zwa rfl)) (v:=sl p 0 (ain.length+1) c0) rfl ?_
 obtain⟨c',hsl⟩:=zCC (size:=2) (p:=p) (n:=ain.length) (c:=c0) (H:=H) (by omega) hc0
 refine zaa hsl ?_
 have hnl:ain.length≤1000:=by have:=hn.2.2.2.2; rw[ha] at this; simp at this; omega
 have hjp2:((S++F)++([(p4,(⟨[int pc.1,.slice aw nw' cw],true⟩:Blk))]++rkL c st (rkB kv s st (sl p 0 (ain.length+1) c0) bv ov) (rsB s cv yv) (sl p 0 (ain.length+1) c0) bv ov yv ics bcs ocs ycs))[(S++F).length+(1+jp)]?=some (p,⟨ics,true⟩):=zwa (by rw[show 1+jp=[(p4,(⟨[int pc.1,.slice aw nw' cw],true⟩:Blk))].length+jp from rfl]; exact zwa hjp)
 refine zpJ hO hjp2 hlen hI.one (by omega) (by omega) (by omega) ?_
 clear hO
 intro iv1 H hO hv1
 replace hO:=zIL [_] hO
 refine zaa zca ?_
 refine zaa zba ?_
 refine s1 hO 1 rfl hv1.one1 (by simp[rkB,rkC]) ?_
 clear hO
 intro H hO
 replace hO:=zhy [_] hO
 refine zaa zba ?_
 refine ld hO 0 rfl (v:=int pc.1) rfl ?_
 refine zaa zQa ?_
 obtain⟨s2,hs2⟩:∃ s2,s.pop ain=s2:=⟨_,rfl⟩
 have h2:RkR S s2 kv cv iv1 bv ov yv (ics.drop 2) bcs ocs ycs:=by
  subst hs2
  exact⟨h.kv,h.kst,h.kb,h.kl,h.tl,hrest _ hv1,h.b,h.o,fun q hq=>hil q (List.mem_cons_of_mem _ hq),⟨hn.1,hn.2.1,hn.2.2.1,hn.2.2.2.1,hnl⟩,h.ok,h.cv,h.y,h.ylen⟩
 replace hO:St H ((S++F)++([(p4,⟨[int pc.1,.slice aw nw' cw],true⟩)]++rkL c st (rkB kv s2 st iv1 bv ov) (rsB s2 cv yv) iv1 bv ov yv (ics.drop 2) bcs ocs ycs)):=by subst hs2; exact hO
 have hwt:s.wants=s2.wants:=by subst hs2; rfl
 have hsh:s.hs=s2.hs:=by subst hs2; rfl
 have hb1:s2.bk.length < s2.nb:=by subst hs2; exact hb1
 have hc1:s2.ou.length < s2.nc:=by subst hs2; exact hc1
 have hcl:s.sd=s2.sd:=by subst hs2; rfl
 have he0:s2.er=0:=by subst hs2; exact he0
 have hstep:∀ (z:Ck),z=(if pc.1=s2.wants then (match s2.hs with|none=>s2.opens pc.2|some (xs,w)=>s2.takes xs w pc.2) else s2)→∀ H' X,zQH (S++X) F z c kv H'→K (.bool true) H':=by
  intro z hz H' X hS
  subst hz
  have hk2:=hk H' X
  rw[hwt] at hw
  have hww:s2.wants=match s2.hs with|none=>-1|some (_,w)=>if w=s2.sd.cks.length then -2 else (w:Int):=rfl
  rw[hcl,ha] at hk2
  cases hx:s2.hs with
  | none=>
   rw[hx] at hww hS
   rw[hsh,hx] at hk2
   simp only at hk2 hww hS
   rw[if_neg (by intro e; exact hi (.inr e))] at hk2
   rw[hww] at hS
   rw[hs2] at hk2
   exact hk2 hS
  | some y=>
   obtain⟨xs,want⟩:=y
   rw[hx] at hww hS
   rw[hsh,hx] at hk2
   simp only at hk2 hww hS
   by_cases e:want=s2.sd.cks.length
   ·rw[if_pos e] at hww; exact absurd hww hw
   ·rw[if_neg e] at hww hk2
    rw[if_neg (by intro e; exact hi (.inr e))] at hk2
    rw[hww] at hS
    rw[hs2] at hk2
    exact hk2 hS
 clear hk
 rw[hwt]
 refine zma (fun hat=>?_) (fun hat=>?_)
 ·refine hstep s2 (by rw[if_neg hat]) H [] ⟨st,cv,iv1,bv,ov,yv,ics.drop 2,bcs,ocs,ycs,by rw[List.append_nil]; exact h2,?_⟩
  rw[List.append_nil]
  exact zhg hO
 have hat:pc.1=s2.wants:=Classical.not_not.1 hat
 refine zaa zUa ?_
 refine zma (fun hm=>?_) (fun hm=>?_)
 ·have hx:s2.hs=none:=by
   cases hx:s2.hs with
   | none=>rfl
   | some y=>
    exfalso
    unfold Ck.wants at hm
    rw[hx] at hm
    simp only at hm
    split at hm <;> omega
  refine zaa zba ?_
  refine ld hO 0 rfl (v:=.slice aw nw' cw) rfl ?_
  refine zBz h2 hx he0 hb1 hc1 (zhg hO) hw1 hw3 hw2 hpl ?_
  clear hO
  intro H' X hS
  refine hstep _ ?_ H' X hS
  rw[if_pos hat,hx]
 ·cases hx:s2.hs with
  | none=>exfalso; apply hm; unfold Ck.wants; rw[hx]
  | some y=>
   obtain⟨xs,want⟩:=y
   have hww:s2.wants=if want=s2.sd.cks.length then -2 else (want:Int):=by unfold Ck.wants; rw[hx]
   have hwne:want≠s2.sd.cks.length:=by
    intro e
    rw[if_pos e] at hww
    exact hw (hwt.trans hww)
   rw[if_neg hwne] at hww
   rw[hww] at hat
   obtain⟨g1,g2,g3,g4⟩:=h2.ylen _ _ hx
   have hlt:want < s2.sd.cks.length:=by omega
   have hc64:s2.sd.cks.length≤64:=by have:=g1; unfold zGa at this; omega
   have hgd:s2.sd.cks.getD want []=s2.sd.cks[want]:=by simp[hlt]
   have hsp:=zgy (w:=want) g1
   have hyy:OwnB yv xs ycs:=by have:=h2.y; rw[hx] at this; exact this
   have hsb:rsB s2 cv yv=rsC s2.sd cv yv want:=by unfold rsB; rw[hx]; rfl
   have hn2:=h2.n
   replace hstep:∀ H' X,zQH (S++X) F (s2.takes xs want pc.2) c kv H'→K (.bool true) H':=fun H' X hS=>hstep _ (by rw[hww,if_pos hat,hx]) H' X hS
   unfold Ck.takes at hstep
   rw[hgd] at hstep
   rw[hsb] at hO
   refine zaa zca ?_
   refine zaa zba ?_
   refine ld hO 1 rfl (v:=ptr st 0) rfl ?_
   refine zaa zba ?_
   refine ld hO 0 rfl (v:=int pc.1) rfl ?_
   refine zaa zba ?_
   refine ld hO 0 rfl (v:=.slice aw nw' cw) rfl ?_
   rw[zVJ] at hO
   rw[hat] at hO ⊢
   refine zuz (i:=(S++F).length+2) h2.ok g1 h2.cv.app.app hO (zwa rfl) hyy g2 (by omega) hw1.app.app hw2 hpl hlt ?_ ?_
   ·clear hO
    intro hg H hO
    rw[← zVJ] at hO
    rw[if_neg hg] at hstep
    refine zaa zQa ?_
    refine zNb (by decide) ?_
    refine zaa zca ?_
    refine zaa zba ?_
    refine ld hO 1 rfl (v:=bv) rfl ?_
    refine zaa zba ?_
    refine ld hO 0 rfl (v:=int want) rfl ?_
    refine zaa (bT1 _) ?_
    refine zaf (S:=S) (a:=.again want) hO h2.b (by intro x hx; unfold rkL; simp[hx]) (by omega) rfl ?_
    clear hO
    intro v1 H cs1 hO hv1
    replace hO:=zTJ [_] hO
    refine zaa zca ?_
    refine zaa zba ?_
    refine s1 hO 1 rfl hv1.own.one1 (by simp[rkB,rkC]) ?_
    clear hO
    intro H hO
    replace hO:=zhg (zhy [_] hO)
    rw[← hsb] at hO
    refine hstep H [] ⟨st,cv,iv1,v1,ov,yv,ics.drop 2,cs1,ocs,ycs,?_,by rw[List.append_nil]; exact hO⟩
    rw[List.append_nil]
    exact⟨h2.kv,h2.kst,h2.kb,h2.kl,h2.tl,h2.i,hv1,h2.o,h2.il,⟨by simp; omega,hn2.2⟩,h2.ok,h2.cv,h2.y,h2.ylen⟩
   ·clear hO
    intro hg H yv1 ycs1 hy1 hO
    rw[Go.Ab.set_r] at hO
    replace hO:St H (((S++F)++([(p4,⟨[int want,.slice aw nw' cw],true⟩)]++rk0 c st (rkB kv s2 st iv1 bv ov) (rsC s2.sd cv yv1 (want+1)) iv1 bv ov (ics.drop 2) bcs ocs))++zKa yv1 ycs1):=hO
    rw[← zVJ] at hO
    rw[if_pos hg] at hstep
    refine zaa zQa ?_
    refine zqc (fun h=>h rfl) ?_
    refine zaa zca ?_
    refine zaa zba ?_
    refine ld hO 1 rfl (v:=ov) rfl ?_
    refine zaa zba ?_
    refine ld hO 0 rfl (v:=int want) rfl ?_
    refine zaa zba ?_
    refine ld hO 0 rfl (v:=.slice aw nw' cw) rfl ?_
    refine zaa (bT3 _ _ _ _) ?_
    refine zaf (S:=S) (a:=.body want pc.2) hO h2.o (by intro x hx; unfold rkL; simp[hx]) (by omega) ⟨_,rfl,hw1,hw2⟩ ?_
    clear hO
    intro v1 H cs1 hO hv1
    replace hO:=zUJ [_] hO
    refine zaa zca ?_
    refine zaa zba ?_
    refine s1 hO 1 rfl hv1.own.one1 (by simp[rkB,rkC]) ?_
    clear hO
    intro H hO
    replace hO:=zhg (zhy [_] hO)
    refine hstep H [] ⟨st,cv,iv1,bv,v1,yv1,ics.drop 2,bcs,cs1,ycs1,?_,?_⟩
    ·rw[List.append_nil]
     refine⟨h2.kv,h2.kst,h2.kb,h2.kl,h2.tl,h2.i,h2.b,hv1,h2.il,⟨hn2.1,by simp; omega,hn2.2.2⟩,h2.ok,h2.cv,hy1,?_⟩
     intro xs' w' hh
     cases hh
     exact⟨g1,by intro x hx; rcases List.mem_append.1 hx with hx|hx; exact g2 x hx; exact hw2 x hx,(by show want+1≤s2.sd.cks.length; omega),(by show (xs++pc.2).length≤_; rw[List.length_append]; have:=hg.1; omega)⟩
    ·rw[List.append_nil]
     have e1:rkB kv s2 st iv1 bv v1=rkC kv s2.t iv1 bv v1 s2.nb s2.nc true s2.dn st s2.er:=by unfold rkB; rw[hx]; rfl
     have e2:rkB kv s2 st iv1 bv ov=rkC kv s2.t iv1 bv ov s2.nb s2.nc true s2.dn st s2.er:=by unfold rkB; rw[hx]; rfl
     rw[e2] at hO
     exact hO
end J
set_option maxRecDepth 100000
namespace J
open Go Go.Ab
variable{H:Heap}{Γ Γ0 Γ2 Δ G L S T L0 X F:List (Nat × Blk)}{K:VH}{v w x cv dv kv sv sp iv bv ov yv:Value}{xs ys zs bs b key ms:List Int}{i j p q r o n k f wd pd st want c:Nat}{e er:Int}{cs cs' c1 ck ics bcs ocs ycs:List Value}{l:List UInt8}{m sd:Mf}{t u:Tm}{es:List (List Value)}{el:List Value}{cks:List (List Int)}{dn:Bool}{s:Ck}{R:Ring}{nl:List Sn}
theorem zLL(x:Value):zpc 103 (ztd P 103) (.iface 103 x)=some (.tuple #[x,.bool true]):=by kernel_rfl
theorem zML(x:Value):zpc 103 (ztd P 103) (.iface 105 x)=some (.tuple #[agg (zc P 103),.bool false]):=by kernel_rfl
theorem zNL(x:Value):zpc 103 (ztd P 103) (.iface 106 x)=some (.tuple #[agg (zc P 103),.bool false]):=by kernel_rfl
theorem zOL(x:Value):zpc 103 (ztd P 103) (.iface 108 x)=some (.tuple #[agg (zc P 103),.bool false]):=by kernel_rfl
theorem zPL(x:Value):zpc 105 (ztd P 105) (.iface 105 x)=some (.tuple #[x,.bool true]):=by kernel_rfl
theorem zQL(x:Value):zpc 105 (ztd P 105) (.iface 106 x)=some (.tuple #[agg (zc P 105),.bool false]):=by kernel_rfl
theorem zRL(x:Value):zpc 105 (ztd P 105) (.iface 108 x)=some (.tuple #[agg (zc P 105),.bool false]):=by kernel_rfl
theorem zSL(x:Value):zpc 106 (ztd P 106) (.iface 106 x)=some (.tuple #[x,.bool true]):=by kernel_rfl
theorem zTL(x:Value):zpc 106 (ztd P 106) (.iface 108 x)=some (.tuple #[agg (zc P 106),.bool false]):=by kernel_rfl
theorem zUL(x:Value):zpc 108 (ztd P 108) (.iface 108 x)=some (.tuple #[x,.bool true]):=by kernel_rfl
def zuv:List Value:=int 0::int 0::int 0::(mfC m0 zqa++[zqa])
theorem zcT:zc P 54=zuv:=by kernel_rfl
theorem bT0:(zAa P 54).f []=some (agg zuv):=by kernel_rfl
theorem zvH:zc P 103=[int 0]:=by kernel_rfl
theorem zVL:zc P 105=int 0::mfC m0 zqa:=by kernel_rfl
theorem zqJ:zc P 106=[int 0,zqa]:=by kernel_rfl
theorem zAK:zc P 108=[]:=by kernel_rfl
theorem zUb:zuv.length=41∧zuv.all oneCell=true:=zom zJE _ _ _ _ rfl rfl rfl rfl rfl
set_option maxHeartbeats 8000000 in
theorem zQr(hO:St H (Γ++L))(hi:L[i]?=some (R.r,⟨rgC R.q R.n 1 R.f R.es.length,true⟩))(hj:L[j]?=some (R.q,⟨R.cs,true⟩))(hij:i≠j)(h:RgN S R nl)
  (hno:nl=[]→∀ H',St H' (Γ++L)→K (.tuple [agg zuv,.bool false].toArray) H')
  (hyes:∀ a rest,nl=a::rest→∀ H' cs' es' el,ToldR S a el→RgN S (R.rest cs' es') rest→St H' (Γ++((L.set j (R.q,⟨cs',true⟩)).set i (R.r,⟨rgC R.q R.n 1 ((R.f+1) % R.n) es'.length,true⟩)))→K (.tuple [agg el,.bool true].toArray) H') :
  wCall P zcc [ptr R.r 0] H K:=by
 apply zuq; unfold zpp
 have hil:=(List.getElem?_eq_some_iff.1 hi).1
 have hjl:=(List.getElem?_eq_some_iff.1 hj).1
 rw[zcT]
 refine nw hO ?_
 clear hO
 intro p2 H hO
 refine zrz hO (zCa hi) (zCa hj) hij h.rg ?_ ?_
 ·intro he
  have hnl:nl=[]:=List.length_eq_zero_iff.1 (by rw[← h.len,he]; rfl)
  refine zaa zrm ?_
  refine zaa zsm ?_
  refine zaa zGc ?_
  refine zvd rfl ?_
  refine zaa bT0 ?_
  rw[← List.append_assoc] at hO
  refine zya hO (_+0) (zwa rfl) zUb.1 zUb.1 zUb.2 ?_
  clear hO
  intro H hO
  replace hO:=hO.set_r
  refine zFa hO (_+0) (zwa rfl) zUb.1 (by omega) ?_
  exact hno hnl H hO.left
 clear hO hno
 intro a1 er hes H cs' hg hO
 obtain⟨a,rest,rfl⟩:∃ a rest,nl=a::rest:=by
  cases nl with
  | nil=>have:=h.len; rw[hes] at this; simp at this
  | cons a rest=>exact⟨a,rest,rfl⟩
 obtain⟨ha,hrest⟩:=h.rest hes hg
 have hyes:=hyes a rest rfl
 rw[List.set_append_left _ _ hjl,List.set_append_left _ _ (by rw[List.length_set]; exact hil),← List.append_assoc] at hO
 generalize hL2:(L.set j (R.q,(⟨cs',true⟩:Blk))).set i (R.r,⟨rgC R.q R.n 1 ((R.f+1) % R.n) er.length,true⟩)=L2 at *
 have fin:∀ (el:List Value),ToldR S a el→K (.tuple [agg el,.bool true].toArray)=K (.tuple [agg el,.bool true].toArray)→∀ H (R2:List (Nat × Blk)),St H (((Γ++L2)++[(p2,⟨zuv,true⟩)])++R2)→opW (zha 41 (ptr p2 0) (agg el) H) fun u H1=>opW (zka 41 (ptr p2 0) H1) fun r _=>K (.tuple [r,.bool true].toArray) H1:=by
  intro el hel _ H R2 hO
  refine zya hO.left (_+0) (zwa rfl) zUb.1 hel.row.1 hel.row.2 ?_
  clear hO
  intro H hO
  replace hO:=hO.set_r
  refine zFa hO (_+0) (zwa rfl) hel.row.1 (by omega) ?_
  have hO:=hO.left
  rw[← hL2] at hO
  exact hyes H cs' er el hel hrest hO
 refine zaa zrm ?_
 refine zaa zsm ?_
 refine zaa zGc ?_
 refine zDb rfl ?_
 cases a with
 | again e=>
  have ha:[a1]=_:=ha
  cases ha
  refine zaa (zLL _) ?_
  refine zaa zsm ?_
  refine zaa zrm ?_
  refine zvd rfl ?_
  rw[zvH]
  refine zeb hO ?_
  clear hO
  intro p6 H hO
  refine zya hO (_+0) (zwa rfl) rfl rfl rfl ?_
  clear hO
  intro H hO
  replace hO:=hO.set_r
  refine zaa zba ?_
  refine zoa hO (_+0) (zwa rfl) (v:=int e) rfl ?_
  refine zaa (bT1 _) ?_
  exact fin _ (show ToldR S (.again e) _ from rfl) rfl _ _ hO
 | go n m=>
  obtain⟨cv,ha,hcv,ok⟩:=ha
  cases ha
  obtain⟨ac,nc,cc,rfl⟩:=hcv.shape
  have hrow:(int n::mfC m (.slice ac nc cc)).length=38∧(int n::mfC m (.slice ac nc cc)).all oneCell=true:=⟨by simp[zra ok.dl],by show (true && _)=true; rw[ztb hcv.one]; rfl⟩
  refine zaa (zML _) ?_
  refine zaa zsm ?_
  refine zaa zrm ?_
  refine zDb rfl ?_
  refine zaa (zPL _) ?_
  refine zaa zsm ?_
  refine zaa zrm ?_
  refine zvd rfl ?_
  rw[zVL]
  refine zeb hO ?_
  clear hO
  intro p6 H hO
  refine zya hO (_+0) (zwa rfl) rfl hrow.1 hrow.2 ?_
  clear hO
  intro H hO
  replace hO:=hO.set_r
  refine zaa zba ?_
  refine zoa hO (_+0) (zwa rfl) (v:=int n) rfl ?_
  refine zaa zba ?_
  refine zua hO (_+0) (zwa rfl) (cs:=mfC m (.slice ac nc cc)) (by show (mfC m (.slice ac nc cc)).take 37=_; exact List.take_of_length_le (by rw[zra ok.dl]; omega)) (zra ok.dl) (by omega) ?_
  refine zaa (bT2 ok.dl _ _ _ _) ?_
  exact fin _ (show ToldR S (.go n m) _ from⟨_,rfl,hcv,ok⟩) rfl _ _ hO
 | body e bs=>
  obtain⟨v,ha,hv,hb⟩:=ha
  cases ha
  obtain⟨ac,nc,cc,rfl⟩:=hv.shape
  refine zaa (zNL _) ?_
  refine zaa zsm ?_
  refine zaa zrm ?_
  refine zDb rfl ?_
  refine zaa (zQL _) ?_
  refine zaa zsm ?_
  refine zaa zrm ?_
  refine zDb rfl ?_
  refine zaa (zSL _) ?_
  refine zaa zsm ?_
  refine zaa zrm ?_
  refine zvd rfl ?_
  rw[zqJ]
  refine zeb hO ?_
  clear hO
  intro p6 H hO
  refine zya hO (_+0) (zwa rfl) rfl rfl rfl ?_
  clear hO
  intro H hO
  replace hO:=hO.set_r
  refine zaa zba ?_
  refine zoa hO (_+0) (zwa rfl) (v:=int e) rfl ?_
  refine zaa zba ?_
  refine zoa hO (_+0) (zwa rfl) (v:=.slice ac nc cc) rfl ?_
  refine zaa (bT3 _ _ _ _) ?_
  exact fin _ (show ToldR S (.body e bs) _ from⟨_,rfl,hv,hb⟩) rfl _ _ hO
 | fin=>
  have ha:[a1]=_:=ha
  cases ha
  refine zaa (zOL _) ?_
  refine zaa zsm ?_
  refine zaa zrm ?_
  refine zDb rfl ?_
  refine zaa (zRL _) ?_
  refine zaa zsm ?_
  refine zaa zrm ?_
  refine zDb rfl ?_
  refine zaa (zTL _) ?_
  refine zaa zsm ?_
  refine zaa zrm ?_
  refine zDb rfl ?_
  refine zaa (zUL _) ?_
  refine zaa zsm ?_
  refine zaa zrm ?_
  refine zvd rfl ?_
  rw[zAK]
  refine zeb hO ?_
  clear hO
  intro p6 H hO
  refine zya hO (_+0) (zwa rfl) rfl rfl rfl ?_
  clear hO
  intro H hO
  replace hO:=hO.set_r
  refine zaa bT4 ?_
  exact fin _ (show ToldR S .fin _ from rfl) rfl _ _ hO
theorem zrJ(x:Int):(zAa P 75).f [(0,int x)]=some (agg [int x,zqa,.bool false]):=by kernel_rfl
theorem zkq{x:Int}(hO:St H Γ)(hk:∀ H' p,St H' (Γ++[(p,⟨[int (zJa x),zqa,.bool false],true⟩)])→K (ptr p 0) H'):wCall P zTh [int x] H K:=by
 apply zsu; unfold zru
 obtain⟨r1,r2,r3⟩:=zmm x
 refine zxa (fun l' H'=>l'=[int (max 1 x)]∧H=H') ?_ ?_
 ·refine zaa zMa ?_
  refine zma (fun h=>?_) (fun h=>?_)
  ·exact⟨by rw[show max 1 x=1 by omega],rfl⟩
  ·exact⟨by rw[show max 1 x=x by omega],rfl⟩
 rintro l' H' ⟨rfl,rfl⟩
 try simp only[zia,zja]
 refine zaa zTb ?_
 refine zma (fun h=>?_) (fun h=>?_)
 ·refine zaa (zrJ _) ?_
  refine zeb hO ?_
  intro p H' hO
  refine hk H' p ?_
  rw[show (zJa x:Int)=16 by omega]
  exact hO
 ·refine zaa (zrJ _) ?_
  refine zeb hO ?_
  intro p H' hO
  refine hk H' p ?_
  rw[show (zJa x:Int)=max 1 x by omega]
  exact hO
end J
