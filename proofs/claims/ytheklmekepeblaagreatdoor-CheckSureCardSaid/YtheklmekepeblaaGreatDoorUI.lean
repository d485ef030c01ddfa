/- texts of the proof, one behind the other -/
import Derived.Test.YtheklmekepeblaaGreatDoorUH
set_option linter.unusedVariables false
set_option linter.unusedSimpArgs false
set_option linter.unusedSectionVars false
set_option maxRecDepth 100000
namespace J
open Go Go.Ab
variable{H:Heap}{Γ Γ0 Γ2 Δ G L S T L0:List (Nat × Blk)}{K:VH}{v w x cv dv kv sv sp iv bv ov yv:Value}{xs ys zs bs b key ms:List Int}{i j p q r o n k f wd pd st want c br oR:Nat}{e er:Int}{cs cs' c1 ck:List Value}{l:List UInt8}{m sd:Mf}{t u:Tm}{es:List (List Value)}{el:List Value}{cks:List (List Int)}{dn hs:Bool}{A B C:Ring}{r1 r2 r3:Nat}
def rkC(kv:Value)(t:Tm)(iv bv ov:Value)(br oR:Nat)(hs dn:Bool)(st:Nat)(er:Int):List Value:=
 [kv,str t.pr,zwb .u64 t.fl,int t.rm,iv,bv,ov,int br,int oR,.bool hs,.bool dn,ptr st 0,int er]
end J
set_option maxRecDepth 100000
namespace J
open Go Go.Ab
variable{H:Heap}{Γ Γ0 Γ2 Δ G L S T L0:List (Nat × Blk)}{K:VH}{v w x kv:Value}{xs key:List Int}{st c br oR:Nat}{t:Tm}
end J
set_option maxRecDepth 100000
namespace J
open Go Go.Ab
variable{H:Heap}{Γ Γ0 Γ2 Δ G L S T L0:List (Nat × Blk)}{K:VH}{v w x kv:Value}{xs key:List Int}{st c br oR n size:Nat}{t:Tm}{cs el:List Value}
def RdT(size:Nat)(Γ:List (Nat × Blk))(v:Value)(n:Nat)(cs:List Value):Prop:=
 (v=zwa∧n=0∧cs=[])∨∃ (p c j:Nat) (w:Bool),v=sl p 0 n c∧Γ[j]?=some (p,(⟨cs,w⟩:Blk))∧cs.length=n * size
theorem RdT.app(h:RdT size Γ v n cs):RdT size (Γ++Δ) v n cs:=by
 rcases h with h|⟨p,c,j,w,h1,h2,h3⟩
 ·exact .inl h
 ·exact .inr ⟨p,c,j,w,h1,zAa h2,h3⟩
theorem zBB{a p:Nat}(h1:a≠p):zac [a] [p]=true:=by
 have e1:Nat.beq a p=false:=by
  cases hb:Nat.beq a p with
  | false=>rfl
  | true=>exact absurd (Nat.eq_of_beq_eq_true hb) h1
 simp[zac,zqb,zSy,e1]
theorem zUJ(H:Heap):(zia P 42 0).f [] H=some (sl H.next 0 0 83,H.push []):=by kernel_rfl
end J
set_option maxRecDepth 100000
namespace J
open Go Go.Ab
variable{H:Heap}{Γ Γ0 Γ2 Δ G L S T L0:List (Nat × Blk)}{K:VH}{v w x kv:Value}{xs key:List Int}{st c br oR n size q:Nat}{t:Tm}{cs el:List Value}
end J
set_option maxRecDepth 100000
namespace J
open Go Go.Ab
variable{H:Heap}{Γ Γ0 Γ2 Δ G L S T L0:List (Nat × Blk)}{K:VH}{v w x kv:Value}{xs key:List Int}{st c br oR n size q:Nat}{t:Tm}{cs el:List Value}
theorem zVJ(h:el.length=41)(H:Heap):(zia P 42 1).f [(0,agg el)] H=some (sl H.next 0 1 83,H.push el):=by
 obtain⟨l1,l2,rfl,h1,h2⟩:∃ l1 l2:List Value,el=l1++l2∧l1.length=21∧l2.length=20:=⟨el.take 21,el.drop 21,(List.take_append_drop 21 el).symm,by simp[h],by simp[h]⟩
 match l1,h1,l2,h2 with
 | [a0,a1,a2,a3,a4,a5,a6,a7,a8,a9,a10,a11,a12,a13,a14,a15,a16,a17,a18,a19,a20],_,[b0,b1,b2,b3,b4,b5,b6,b7,b8,b9,b10,b11,b12,b13,b14,b15,b16,b17,b18,b19],_=>show _=_; kernel_rfl
end J
set_option maxRecDepth 100000
namespace J
open Go Go.Ab
variable{H:Heap}{Γ Γ0 Γ2 Δ G L S T L0:List (Nat × Blk)}{K:VH}{v w x cv dv kv sv sp:Value}{xs ys zs bs b key ms:List Int}{i j p q r o n k f wd pd st want c:Nat}{e er:Int}{cs cs' c1 ck:List Value}{l:List UInt8}{m sd:Mf}{t u:Tm}{es:List (List Value)}{el:List Value}{cks:List (List Int)}{dn:Bool}{A B C:Ring}{r1 r2 r3:Nat}
theorem zCB(hd:m.dg.length=32):(mfC m cv).set (0+36) v=mfC m v:=by
 unfold mfC
 rw[show (str m.pr::zwb .u64 m.ver::int m.sz::int m.ck::(by8 m.dg++[cv]))=(str m.pr::zwb .u64 m.ver::int m.sz::int m.ck::by8 m.dg)++[cv] from rfl,List.set_append_right _ _ (by simp[hd])]
 simp[hd]
def zhG:Value→Bool
 | .pointer none=>false
 | _=>true
theorem zZH(p:Nat):(zna P .neq 94 true).f (ptr p 0) (.pointer none)=some (.bool true):=by kernel_rfl
theorem zaI:(zna P .neq 94 true).f (.pointer none) (.pointer none)=some (.bool false):=by kernel_rfl
theorem ziG{p q o o':Nat}{l:List Value}(h:p≠q):zlk (zJa [ptr p o]) (zJa [ptr q o',agg l]):=zBB h
set_option maxHeartbeats 2000000 in
theorem ziq(ok:sd.Ok)(hc:RdH S sv sd.cks)(hsp:sp=.pointer none∨∃ st,sp=ptr st 0)(hO:St H (S++mB A B C c (ckC kv t r1 r2 r3 sd sv sp dn er) T))
  (hk:∀ H' v',St H' ((S++mB A B C c (ckC kv t r1 r2 r3 sd sv sp dn er) T)++zRa v' (hsC sd.cks))→RdH (zRa v' (hsC sd.cks)) v' sd.cks→K (.tuple [agg (mfC sd v'),.bool (zhG sp)].toArray) H'):wCall P zTb [ptr c 0] H K:=by
 apply zZg; unfold zGe
 generalize hM:S++mB A B C c (ckC kv t r1 r2 r3 sd sv sp dn er) T=Γ at *
 have hi:Γ[S.length+6]?=some (c,⟨ckC kv t r1 r2 r3 sd sv sp dn er,true⟩):=by rw[← hM]; exact zza rfl
 have hcS:RdH Γ sv sd.cks:=by rw[← hM]; exact hc.app
 clear hM
 have hml:=zta (cv:=sv) ok.dl
 rw[zcM]
 refine zhb hO ?_
 clear hO
 intro p2 H hO
 refine zaa zda ?_
 refine zaa zba ?_
 refine zFa hO (S.length+6) (zAa hi) (zWH ok.dl) hml (by omega) ?_
 refine nw hO ?_
 clear hO
 intro p4 H hO
 replace hO:St H (Γ++[(p2,⟨mfC m0 zwa,true⟩),(p4,⟨mfC m0 zwa,true⟩)]):=hO
 refine sw hO 1 rfl rfl hml (zlc hcS.one) ?_
 clear hO
 intro H hO
 replace hO:St H (Γ++[(p2,⟨mfC m0 zwa,true⟩),(p4,⟨mfC sd sv,true⟩)]):=hO
 refine zaa zba ?_
 refine ld hO 1 rfl (zzf ok.dl) ?_
 refine zCp hcS.app ok.cl ok.n hO ?_
 clear hO
 intro H v1 hO h1
 refine zaa zba ?_
 refine zZa hO (Γ.length+1) (zAa (zza rfl)) h1.one (by rw[hml]; omega) (zCB ok.dl) ?_
 clear hO
 intro H hO
 rw[List.set_append_left _ _ (by simp),Go.Ab.set_r] at hO
 replace hO:St H ((Γ++[(p2,⟨mfC m0 zwa,true⟩),(p4,⟨mfC sd v1,true⟩)])++zRa v1 (hsC sd.cks)):=hO
 refine zHa hO (Γ.length+1) (zAa (zza rfl)) (zta ok.dl) (by omega) ?_
 refine zaa zda ?_
 refine zaa zba ?_
 refine zpa hO (S.length+6) (zAa (zAa hi)) (zDp ok.dl) ?_
 refine zaa (v:=.bool (zhG sp)) (by rcases hsp with rfl|⟨st,rfl⟩ <;> first|exact zaI|exact zZH _) ?_
 have hil:=(List.getElem?_eq_some_iff.1 hi).1
 have hne:=J.St.ne' hO (i:=S.length+6) (j:=Γ.length+0) (zAa (zAa hi)) (zAa (zza rfl)) (by omega)
 refine zva hO (Γ.length+0) (zAa (zza rfl)) (by rfl) (zta ok.dl) (zlc h1.one) ?_
 clear hO
 intro H hO
 rw[List.set_append_left _ _ (by simp),Go.Ab.set_r] at hO
 replace hO:St H ((Γ++[(p2,⟨mfC sd v1,true⟩),(p4,⟨mfC sd v1,true⟩)])++zRa v1 (hsC sd.cks)):=hO
 refine⟨ziG hne,?_⟩
 refine zHa hO (Γ.length+0) (zAa (zza rfl)) (zta ok.dl) (by omega) ?_
 refine hk H v1 ?_ h1
 rw[List.append_assoc] at hO
 exact zwv hO
end J
set_option maxRecDepth 100000
namespace J
open Go Go.Ab
variable{H:Heap}{Γ Γ0 Γ2 Δ G L S T L0 X:List (Nat × Blk)}{K:VH}{v w x cv dv kv sv sp:Value}{xs ys zs bs b key ms:List Int}{i j p q r o n k f wd pd st want c:Nat}{e er:Int}{cs cs' c1 ck:List Value}{l:List UInt8}{m sd:Mf}{t u:Tm}{es:List (List Value)}{el:List Value}{cks:List (List Int)}{dn:Bool}{A B C:Ring}{r1 r2 r3:Nat}{F:List (Nat × Blk)}
inductive Al {α β:Type} (R:α→β→Prop):List α→List β→Prop
 | nil:Al R [] []
 | cons {a b l m}:R a b→Al R l m→Al R (a::l) (b::m)
namespace Al
variable{α β:Type}{R R':α→β→Prop}{l l':List α}{m m':List β}
theorem len(h:Al R l m):l.length=m.length:=by
 induction h with
 | nil=>rfl
 | cons _ _ ih=>simp[ih]
theorem imp(hi:∀ a b,R a b→R' a b)(h:Al R l m):Al R' l m:=by
 induction h with
 | nil=>exact .nil
 | cons h _ ih=>exact .cons (hi _ _ h) ih
theorem app(h:Al R l m)(h':Al R l' m'):Al R (l++l') (m++m'):=by
 induction h with
 | nil=>exact h'
 | cons h _ ih=>exact .cons h ih
theorem one{a:α}{b:β}(h:R a b):Al R [a] [b]:=.cons h .nil
theorem all{p:β→Prop}(hp:∀ a b,R a b→p b)(h:Al R l m):∀ x ∈ m,p x:=by
 induction h with
 | nil=>intro x hx; cases hx
 | cons h _ ih=>intro x hx; rcases List.mem_cons.1 hx with rfl|hx; exact hp _ _ h; exact ih x hx
end Al
theorem PcR.app{p:Int × List Int}(h:PcR S p el):PcR (S++X) p el:=by
 obtain⟨v,h1,h2,h3,h4⟩:=h
 exact⟨v,h1,h2.app,h3,fun h=>(h4 h).app⟩
theorem NtR.app{s:Sn}(h:NtR S s el):NtR (S++X) s el:=by
 cases s with
 | again a=>exact h
 | go n m=>obtain⟨cv,h1,h2,h3⟩:=h; exact⟨cv,h1,h2.app,h3⟩
 | body a bs=>obtain⟨v,h1,h2,h3⟩:=h; exact⟨v,h1,h2.app,h3⟩
 | fin=>exact h
structure RgP (S:List (Nat × Blk)) (R:Ring) (l:List (Int × List Int)):Prop where
 rg:Rg 2 R.n R.f R.es R.cs
 al:Al (PcR S) l R.es
 le:∀ p ∈ l,p.2.length≤1000000
structure RgN (S:List (Nat × Blk)) (R:Ring) (l:List Sn):Prop where
 rg:Rg 1 R.n R.f R.es R.cs
 al:Al (NtR S) l R.es
theorem RgP.app{l}(h:RgP S A l):RgP (S++X) A l:=⟨h.rg,h.al.imp fun _ _=>PcR.app,h.le⟩
theorem RgN.app{l}(h:RgN S A l):RgN (S++X) A l:=⟨h.rg,h.al.imp fun _ _=>NtR.app⟩
theorem RgP.len{l}(h:RgP S A l):A.es.length=l.length:=h.al.len.symm
theorem RgN.len{l}(h:RgN S A l):A.es.length=l.length:=h.al.len.symm
theorem RgP.nn{l}(h:RgP S A l):l.length≤A.n:=by rw[← h.len]; exact h.rg.kl
theorem RgN.nn{l}(h:RgN S A l):l.length≤A.n:=by rw[← h.len]; exact h.rg.kl
theorem RgN.more{l}{s:Sn}(h:RgN S A l)(hg:Rg 1 A.n A.f (A.es++[el]) cs')(hs:NtR S s el):RgN S (A.more cs' el) (l++[s]):=⟨hg,h.al.app (.one hs)⟩
theorem RgP.more{l}{p:Int × List Int}(h:RgP S A l)(hg:Rg 2 A.n A.f (A.es++[el]) cs')(hs:PcR S p el)(hp:p.2.length≤1000000):RgP S (A.more cs' el) (l++[p]):=⟨hg,h.al.app (.one hs),fun q hq=>by
 rcases List.mem_append.1 hq with h1|h1
 ·exact h.le q h1
 ·rw[List.mem_singleton.1 h1]; exact hp⟩
theorem RgP.one{l}(h:RgP S A l):∀ e ∈ A.es,e.all oneCell=true:=h.al.all fun p el hp=>by
 obtain⟨v,rfl,h2,h3,_⟩:=hp
 obtain⟨a,n,c,rfl⟩:=h2.shape
 rfl
structure Ck where
 key:List Int
 t:Tm
 ain:List (Int × List Int)
 bk:List Sn
 ou:List Sn
 nb:Nat
 nc:Nat
 sd:Mf
 hs:Option (List Int × Nat)
 dn:Bool
 er:Int
def Ck.wants(s:Ck):Int:=match s.hs with
 | none=>-1
 | some (_,w)=>if w=s.sd.cks.length then -2 else (w:Int)
def Ck.opens(s:Ck)(b:List Int):Ck:=
 if (zdb s.key b).2.2≠0 then { s with bk:=s.bk++[.again (-1)] }
 else if zLn (zdb s.key b).1 s.t≠0 then { s with er:=zLn (zdb s.key b).1 s.t }
 else { s with sd:=(zdb s.key b).1,hs:=some ([],0),bk:=s.bk++[.go (zdb s.key b).2.1 (zdb s.key b).1],ou:=s.ou++[.go (zdb s.key b).2.1 (zdb s.key b).1] }
def Ck.takes(s:Ck)(xs:List Int)(w:Nat)(ys:List Int):Ck:=
 if (ys.length:Int)=(zsf s.sd w).2∧sha ys=s.sd.cks.getD w [] then { s with hs:=some (xs++ys,w+1),ou:=s.ou++[.body w ys] }
 else { s with bk:=s.bk++[.again w] }
def Ck.ends(s:Ck)(xs:List Int):Bool × Ck:=
 if s.ou.length=s.nc then (false,s)
 else if sha xs=s.sd.dg then (true,{ s with ou:=s.ou++[.fin],dn:=true }) else (true,{ s with er:=153 })
def Ck.pop(s:Ck)(r:List (Int × List Int)):Ck:={ s with ain:=r }
def Ck.step(s:Ck):Bool × Ck:=
 if s.er≠0∨s.dn=true then (false,s)
 else match s.hs with
  | some (xs,w)=>if w=s.sd.cks.length then s.ends xs else match s.ain with
   | []=>(false,s)
   | p::r=>if s.bk.length=s.nb∨s.ou.length=s.nc then (false,s) else
    (true,if p.1=w then (s.pop r).takes xs w p.2 else s.pop r)
  | none=>match s.ain with
   | []=>(false,s)
   | p::r=>if s.bk.length=s.nb∨s.ou.length=s.nc then (false,s) else
    (true,if p.1=-1 then (s.pop r).opens p.2 else s.pop r)
inductive StR1 (S:List (Nat × Blk)) (sd:Mf):Option (List Int × Nat)→Value→List (Nat × Blk)→Prop
 | nos:StR1 S sd none (.pointer none) []
 | str (xs:List Int) (want st:Nat) (cv:Value) (pd:Nat) (L0:List (Nat × Blk)):zIa sd→RdH S cv sd.cks→Dg pd xs L0→By xs→want≤sd.cks.length→xs.length≤want * 2000→StR1 S sd (some (xs,want)) (ptr st 0) (stB st sd cv pd want L0)
theorem StR1.app{hs}(h:StR1 S sd hs sp T):StR1 (S++X) sd hs sp T:=by
 cases h with
 | nos=>exact .nos
 | str xs want st cv pd L0 h1 h2 h3 h4 h5 h6=>exact .str _ _ _ _ _ _ h1 h2.app h3 h4 h5 h6
theorem StR1.spv{hs}(h:StR1 S sd hs sp T):sp=.pointer none∨∃ st,sp=ptr st 0:=by
 cases h with
 | nos=>exact .inl rfl
 | str xs want st=>exact .inr ⟨_,rfl⟩
structure CkR (S:List (Nat × Blk)) (s:Ck) (A B C:Ring) (kv sv sp:Value) (T:List (Nat × Blk)):Prop where
 kv:RdB S kv s.key
 kb:By s.key
 kl:s.key.length≤1000000
 tl:s.t.pr.length≤1000000
 a:RgP S A s.ain
 b:RgN S B s.bk
 c:RgN S C s.ou
 bn:B.n=s.nb
 cn:C.n=s.nc
 ok:s.sd.Ok
 sv:RdH S sv s.sd.cks
 str:StR1 S s.sd s.hs sp T
theorem zGp{s:Ck}(h:CkR S s A B C kv sv sp T)(hO:St H ((S++F)++mB A B C c (ckC kv s.t A.r B.r C.r s.sd sv sp s.dn s.er) T))(hk:K (int s.wants) H):wCall P zGa [ptr c 0] H K:=by
 have hs:=h.str
 unfold Ck.wants at hk
 generalize s.hs=hs0 at *
 cases hs with
 | nos=>exact zeu h.ok.dl hO hk
 | str xs want st cv pd L0 h1 h2 h3 h4 h5 h6=>exact zfu h.ok.dl h.ok.dl h2.app hO hk
end J
set_option maxRecDepth 100000
namespace J
open Go Go.Ab
variable{H:Heap}{Γ Γ0 Γ2 Δ G L S T L0 X:List (Nat × Blk)}{K:VH}{v w x cv dv kv sv sp:Value}{xs ys zs bs b key ms:List Int}{i j p q r o n k f wd pd st want c:Nat}{e er:Int}{cs cs' c1 ck:List Value}{l:List UInt8}{m sd:Mf}{t u:Tm}{es:List (List Value)}{el:List Value}{cks:List (List Int)}{dn:Bool}{A B C A' B' C':Ring}{r1 r2 r3:Nat}{s:Ck}{F:List (Nat × Blk)}
structure Ring.Same (A A':Ring):Prop where
 r:A'.r=A.r
 q:A'.q=A.q
 n:A'.n=A.n
theorem Ring.Same.rfl':Ring.Same A A:=⟨rfl,rfl,rfl⟩
theorem zjg:Ring.Same A (A.more cs' el):=⟨rfl,rfl,rfl⟩
theorem zkg:Ring.Same A (A.rest cs' es):=⟨rfl,rfl,rfl⟩
theorem Ring.Same.trans{A1:Ring}(h:Ring.Same A A')(h2:Ring.Same A' A1):Ring.Same A A1:=⟨h2.r.trans h.r,h2.q.trans h.q,h2.n.trans h.n⟩
theorem zjG{M:List (Nat × Blk)}(h:St H (((S++F)++X)++M)):St H (((S++X)++F)++M):=h.perm (by
 rw[List.append_assoc S F X,List.append_assoc S X F]
 exact List.Perm.append_right M (List.Perm.append_left S List.perm_append_comm))
def CkSt(S F:List (Nat × Blk))(s:Ck)(A B C:Ring)(c:Nat)(kv:Value)(H:Heap):Prop:=
 ∃ sv sp T,CkR S s A B C kv sv sp T∧St H ((S++F)++mB A B C c (ckC kv s.t A.r B.r C.r s.sd sv sp s.dn s.er) T)
theorem zex{m:Mf}{w:Nat}(h:zIa m):(zsf m w).2≤1024:=by
 unfold zsf
 split
 ·show (0:Int)≤1024; omega
 ·have:=h.2.2.2.2.2.2
  have:=h
  unfold zIa at this
  show min m.ck _≤1024
  omega
theorem RgP.rest{l:List (Int × List Int)}{p:Int × List Int}(h:RgP S A (p::l))(he:A.es=el::es)(hg:Rg 2 A.n ((A.f+1) % A.n) es cs'):PcR S p el∧RgP S (A.rest cs' es) l:=by
 have h1:=h.al
 rw[he] at h1
 cases h1 with
 | cons h1 h2=>exact⟨h1,hg,h2,fun q hq=>h.le q (List.mem_cons_of_mem _ hq)⟩
theorem RgN.rest{l:List Sn}{p:Sn}(h:RgN S A (p::l))(he:A.es=el::es)(hg:Rg 1 A.n ((A.f+1) % A.n) es cs'):NtR S p el∧RgN S (A.rest cs' es) l:=by
 have h1:=h.al
 rw[he] at h1
 cases h1 with
 | cons h1 h2=>exact⟨h1,hg,h2⟩
theorem zhu(h:CkR S s A B C kv sv sp T):s.wants=-2↔∃ xs,s.hs=some (xs,s.sd.cks.length):=by
 unfold Ck.wants
 cases hs:s.hs with
 | none=>simp
 | some y=>
  obtain⟨xs,w⟩:=y
  simp only
  by_cases hw:w=s.sd.cks.length
  ·rw[if_pos hw]; simp[hw]
  ·rw[if_neg hw]; simp[hw]
theorem zDy(h:CkR S s A B C kv sv sp T)(hO:St H ((S++F)++mB A B C c (ckC kv s.t A.r B.r C.r s.sd sv sp s.dn s.er) T))(hx:s.hs=some (xs,s.sd.cks.length))
  (hk:∀ H' X C',Ring.Same C C'→CkSt (S++X) F (s.ends xs).2 A B C' c kv H'→K (.bool (s.ends xs).1) H'):wCall P zLc [ptr c 0] H K:=by
 have hs:=h.str
 have ⟨h1,h2,h3,h4,h5,h6,h7,h8,h9,h10,h11,_⟩:=h
 have e1:=h7.len
 have e2:=h7.nn
 rw[hx] at hs
 cases hs with
 | str xs want st cv2 pd L0 g1 g2 g3 g4 g5 g6=>
  have hc64:s.sd.cks.length≤64:=by have:=g1; unfold zIa at this; omega
  unfold Ck.ends at hk
  refine zyB h10.dl h10 g2.app hO h7.rg g3 g4 (by omega) ?_ ?_ ?_
  ·intro hf
   rw[if_pos (by rw[← h9]; omega)] at hk
   exact hk H [] C .rfl' ⟨sv,_,_,by rw[List.append_nil]; exact h,by rw[List.append_nil]; exact hO⟩
  ·clear hO
   intro hf hb H hO
   rw[if_neg (by rw[← h9]; omega),if_neg (by intro e; exact hb ⟨rfl,e⟩)] at hk
   refine hk H [] C .rfl' ⟨sv,_,_,?_,by rw[List.append_nil]; exact hO⟩
   rw[List.append_nil]
   refine⟨h1,h2,h3,h4,h5,h6,h7,h8,h9,h10,h11,?_⟩
   show StR1 S s.sd s.hs _ _
   rw[hx]
   exact .str _ _ _ _ _ _ g1 g2 g3 g4 g5 g6
  ·clear hO
   intro hf hb H cs' hC hO
   rw[if_neg (by rw[← h9]; omega),if_pos hb.2] at hk
   refine hk H [] _ zjg ⟨sv,_,_,?_,by rw[List.append_nil]; exact hO⟩
   rw[List.append_nil]
   refine⟨h1,h2,h3,h4,h5,h6,h7.more hC rfl,h8,h9,h10,h11,?_⟩
   show StR1 S s.sd s.hs _ _
   rw[hx]
   exact .str _ _ _ _ _ _ g1 g2 g3 g4 g5 g6
theorem zQv(h:CkR S s A B C kv sv sp T)(hO:St H ((S++F)++mB A B C c (ckC kv s.t A.r B.r C.r s.sd sv sp s.dn s.er) T))(hx:s.hs=none)(hb1:s.bk.length < s.nb)(hc1:s.ou.length < s.nc)(hw:RdB S w b)(hbb:By b)(hbl:b.length≤1000000)
  (hk:∀ H' X B' C',Ring.Same B B'→Ring.Same C C'→CkSt (S++X) F (s.opens b) A B' C' c kv H'→K (.tuple [].toArray) H'):wCall P zyc [ptr c 0,w] H K:=by
 have hs:=h.str
 have ⟨h1,h2,h3,h4,h5,h6,h7,h8,h9,h10,h11,_⟩:=h
 have e1:=h7.len
 have e2:=h6.len
 rw[hx] at hs
 generalize hsp:sp=sp' at hs
 generalize hT:T=T' at hs
 cases hs with
 | nos=>
  subst hsp hT
  unfold Ck.opens at hk
  refine zBy h10.dl hO h6.rg h7.rg h1.app h2 h3 hw.app hbb hbl h4 (by omega) (by omega) ?_ ?_ ?_
  ·clear hO
   intro he H cs' hB hO
   rw[if_pos he] at hk
   refine hk H [] _ C zjg .rfl' ⟨sv,_,_,?_,by rw[List.append_nil]; exact hO⟩
   rw[List.append_nil]
   refine⟨h1,h2,h3,h4,h5,h6.more hB rfl,h7,h8,h9,h10,h11,?_⟩
   show StR1 S s.sd s.hs _ _
   rw[hx]; exact .nos
  ·clear hO
   intro he ha H hO
   rw[if_neg (by simpa using he),if_pos ha] at hk
   refine hk H [] B C .rfl' .rfl' ⟨sv,_,_,?_,by rw[List.append_nil]; exact hO⟩
   rw[List.append_nil]
   refine⟨h1,h2,h3,h4,h5,h6,h7,h8,h9,h10,h11,?_⟩
   show StR1 S s.sd s.hs _ _
   rw[hx]; exact .nos
  ·clear hO
   have ok:=zZw (key:=s.key) hbb hbl
   intro he ha hr H X cv cv2 st pd L0 cs2 cs3 hdg g1 g2 hB hC hO
   rw[if_neg (by simpa using he),if_neg (by simpa using ha)] at hk
   refine hk H X _ _ zjg zjg ⟨cv,_,_,?_,zjG hO⟩
   refine⟨h1.app,h2,h3,h4,h5.app,h6.app.more hB ⟨cv,rfl,g1.app',ok⟩,h7.app.more hC ⟨cv,rfl,g1.app',ok⟩,h8,h9,ok,g1.app',?_⟩
   exact .str _ _ _ _ _ _ hr g2.app' hdg (fun x hx=>by cases hx) (Nat.zero_le _) (Nat.zero_le _)
theorem zRv(h:CkR S s A B C kv sv sp T)(hO:St H ((S++F)++mB A B C c (ckC kv s.t A.r B.r C.r s.sd sv sp s.dn s.er) T))(hx:s.hs=some (xs,want))(hwant:want≠s.sd.cks.length)(hb1:s.bk.length < s.nb)(hc1:s.ou.length < s.nc)(hw:RdB S w ys)(hbb:By ys)(hbl:ys.length≤1000000)
  (hk:∀ H' X B' C',Ring.Same B B'→Ring.Same C C'→CkSt (S++X) F (s.takes xs want ys) A B' C' c kv H'→K (.tuple [].toArray) H'):wCall P zzc [ptr c 0,agg [int want,w]] H K:=by
 have hs:=h.str
 have ⟨h1,h2,h3,h4,h5,h6,h7,h8,h9,h10,h11,_⟩:=h
 have e1:=h7.len
 have e2:=h6.len
 rw[hx] at hs
 cases hs with
 | str xs want st cv2 pd L0 g1 g2 g3 g4 g5 g6=>
  have hlt:want < s.sd.cks.length:=by omega
  have hc64:s.sd.cks.length≤64:=by have:=g1; unfold zIa at this; omega
  have hgd:s.sd.cks.getD want []=s.sd.cks[want]:=by simp[hlt]
  have hsp:=zex (w:=want) g1
  unfold Ck.takes at hk
  rw[hgd] at hk
  refine zAy h10.dl h10 g1 g2.app hO h6.rg h7.rg g3 g4 (by omega) hw.app hbb hbl hlt (by omega) (by omega) ?_ ?_
  ·clear hO
   intro hg H cs' hB hO
   rw[if_neg hg] at hk
   refine hk H [] _ C zjg .rfl' ⟨sv,_,_,?_,by rw[List.append_nil]; exact hO⟩
   rw[List.append_nil]
   refine⟨h1,h2,h3,h4,h5,h6.more hB rfl,h7,h8,h9,h10,h11,?_⟩
   show StR1 S s.sd s.hs _ _
   rw[hx]
   exact .str _ _ _ _ _ _ g1 g2 g3 g4 g5 g6
  ·clear hO
   intro hg H cs' L' hdg hC hO
   rw[if_pos hg] at hk
   refine hk H [] B _ .rfl' zjg ⟨sv,_,_,?_,by rw[List.append_nil]; exact hO⟩
   rw[List.append_nil]
   refine⟨h1,h2,h3,h4,h5,h6,h7.more hC ⟨w,rfl,hw,hbb⟩,h8,h9,h10,h11,?_⟩
   exact .str _ _ _ _ _ _ g1 g2 hdg (by intro x hx; rcases List.mem_append.1 hx with hx|hx; exact g4 x hx; exact hbb x hx) (by show want+1≤s.sd.cks.length; omega) (by rw[List.length_append]; have:=hg.1; omega)
end J
set_option maxRecDepth 100000
namespace J
open Go Go.Ab
variable{H:Heap}{Γ Γ0 Γ2 Δ G L S T L0 X:List (Nat × Blk)}{K:VH}{v w x cv dv kv sv sp:Value}{xs ys zs bs b key ms:List Int}{i j p q r o n k f wd pd st want c:Nat}{e er:Int}{cs cs' c1 ck:List Value}{l:List UInt8}{m sd:Mf}{t u:Tm}{es:List (List Value)}{el:List Value}{cks:List (List Int)}{dn:Bool}{A B C A' B' C':Ring}{r1 r2 r3:Nat}{s:Ck}{F:List (Nat × Blk)}
theorem zCE:(ckC kv t r1 r2 r3 sd sv sp dn er)[0+4]?=some (ptr r1 0):=rfl
theorem zbI:(ckC kv t r1 r2 r3 sd sv sp dn er)[0+5]?=some (ptr r2 0):=rfl
theorem zcI:(ckC kv t r1 r2 r3 sd sv sp dn er)[0+6]?=some (ptr r3 0):=rfl
theorem zSv(h:CkR S s A B C kv sv sp T):-2≤s.wants∧s.wants≤1000:=by
 have h1:=h.str
 unfold Ck.wants
 generalize s.hs=hs at *
 cases h1 with
 | nos=>simp
 | str xs want st cv2 pd L0 g1 g2 g3 g4 g5 g6=>
  have hc64:s.sd.cks.length≤64:=by have:=g1; unfold zIa at this; omega
  simp only
  split <;> omega
set_option maxHeartbeats 4000000 in
theorem zEc(h:CkSt S F s A B C c kv H)(hk:∀ H' X A' B' C',Ring.Same A A'→Ring.Same B B'→Ring.Same C C'→CkSt (S++X) F s.step.2 A' B' C' c kv H'→K (.bool s.step.1) H'):wCall P zua [ptr c 0] H K:=by
 obtain⟨sv,sp,T,h,hO⟩:=h
 have ⟨h1,h2,h3,h4,h5,h6,h7,h8,h9,h10,h11,h12⟩:=h
 have hd:=h10.dl
 have e5:=h5.len
 have e6:=h6.len
 have e7:=h7.len
 have n5:=h5.nn
 have n6:=h6.nn
 have n7:=h7.nn
 have stay:K (.bool false) H∨True:=.inr trivial
 apply zWi; unfold zIg
 refine zGp h hO ?_
 refine zEa (fun l' H'=>l'=[ptr c 0,int s.wants,.bool (decide (s.er≠0∨s.dn=true))]∧H=H') ?_ ?_
 ·refine zaa zda ?_
  refine zaa zba ?_
  refine ld hO 6 rfl (zAE hd) ?_
  refine zaa zeb ?_
  refine zoa (fun he=>?_) (fun he=>?_)
  ·repeat (first|refine oi ?_|refine ow ?_|refine wy ?_|refine wn ?_|refine wt ?_|refine wf' ?_|refine cy ?_|refine cn ?_)
   exact⟨by rw[decide_eq_true (.inl he:s.er≠0∨s.dn=true)],rfl⟩
  ·refine zaa zda ?_
   refine zaa zba ?_
   refine ld hO 6 rfl (zzE hd) ?_
   repeat (first|refine oi ?_|refine ow ?_|refine wy ?_|refine wn ?_|refine wt ?_|refine wf' ?_|refine cy ?_|refine cn ?_)
   refine⟨?_,rfl⟩
   cases hd:s.dn with
   | true=>rw[decide_eq_true (.inr rfl:s.er≠0∨true=true)]
   | false=>rw[decide_eq_false (by simpa using he:¬ (s.er≠0∨false=true))]
 rintro l' H' ⟨rfl,rfl⟩
 try simp only[zja,zka]
 unfold Ck.step at hk
 have idle:K (.bool false) H→K (.bool false) H:=fun h=>h
 refine zoa (fun he=>?_) (fun he=>?_)
 ·rw[if_pos he] at hk
  exact hk H [] A B C .rfl' .rfl' .rfl' ⟨sv,sp,T,by rw[List.append_nil]; exact h,by rw[List.append_nil]; exact hO⟩
 rw[if_neg he] at hk
 refine zaa zYa ?_
 refine zoa (fun hw=>?_) (fun hw=>?_)
 ·obtain⟨xs,hx⟩:=(zhu h).1 hw
  rw[hx] at hk
  simp only[if_true] at hk
  refine zDy h hO hx ?_
  intro H' X C' hC hS
  exact hk H' X A B C' .rfl' .rfl' hC hS
 have hr:=zSv h
 refine zEa (fun l' H'=>l'=[ptr c 0,int s.wants,.bool (decide (s.ain=[]∨s.bk.length=s.nb∨s.ou.length=s.nc))]∧H=H') ?_ ?_
 ·refine zaa zda ?_
  refine zaa zba ?_
  refine ld hO 6 rfl zCE ?_
  refine zsB (i:=1) hO rfl ?_
  refine zaa zYa ?_
  refine zoa (fun h0=>?_) (fun h0=>?_)
  ·repeat (first|refine oi ?_|refine ow ?_|refine wy ?_|refine wn ?_|refine wt ?_|refine wf' ?_|refine cy ?_|refine cn ?_)
   have:s.ain=[]:=by rw[← List.length_eq_zero_iff]; omega
   exact⟨by rw[decide_eq_true (.inl this:s.ain=[]∨s.bk.length=s.nb∨s.ou.length=s.nc)],rfl⟩
  have h0':¬ s.ain=[]:=by rw[← List.length_eq_zero_iff]; omega
  refine zaa zda ?_
  refine zaa zba ?_
  refine ld hO 6 rfl zbI ?_
  refine zNj (i:=3) hO rfl h6.rg.kl h6.rg.n16 ?_
  refine zaa zYa ?_
  refine zaa (zsb h0) ?_
  refine zoa (fun h3=>?_) (fun h3=>?_)
  ·repeat (first|refine oi ?_|refine ow ?_|refine wy ?_|refine wn ?_|refine wt ?_|refine wf' ?_|refine cy ?_|refine cn ?_)
   exact⟨by rw[decide_eq_true (.inr (.inl (by omega)):s.ain=[]∨s.bk.length=s.nb∨s.ou.length=s.nc)],rfl⟩
  refine zaa zda ?_
  refine zaa zba ?_
  refine ld hO 6 rfl zcI ?_
  refine zNj (i:=5) hO rfl h7.rg.kl h7.rg.n16 ?_
  refine zaa zYa ?_
  refine zaa (zsb h3) ?_
  refine⟨?_,rfl⟩
  have:(((C.n - C.es.length:Nat):Int)=0)↔(s.ain=[]∨s.bk.length=s.nb∨s.ou.length=s.nc):=by
   constructor
   ·intro h; exact .inr (.inr (by omega))
   ·rintro (h|h|h)
    ·exact absurd h h0'
    ·omega
    ·omega
  simp only[this]
 rintro l' H' ⟨rfl,rfl⟩
 try simp only[zja,zka]
 refine zoa (fun hi=>?_) (fun hi=>?_)
 ·have hk2:=hk H [] A B C .rfl' .rfl' .rfl'
  have hS:CkSt (S++[]) F s A B C c kv H:=⟨sv,sp,T,by rw[List.append_nil]; exact h,by rw[List.append_nil]; exact hO⟩
  clear hk
  cases hx:s.hs with
  | none=>
   rw[hx] at hk2
   cases ha:s.ain with
   | nil=>rw[ha] at hk2; exact hk2 hS
   | cons y ys=>
    rw[ha] at hk2 hi
    simp only at hk2
    rw[if_pos (by simpa using hi)] at hk2
    exact hk2 hS
  | some y=>
   obtain⟨xs,want⟩:=y
   rw[hx] at hk2
   have:¬ want=s.sd.cks.length:=by
    intro e
    exact hw ((zhu h).2 ⟨xs,by rw[hx,e]⟩)
   simp only at hk2
   rw[if_neg this] at hk2
   cases ha:s.ain with
   | nil=>rw[ha] at hk2; exact hk2 hS
   | cons y ys=>
    rw[ha] at hk2 hi
    simp only at hk2
    rw[if_pos (by simpa using hi)] at hk2
    exact hk2 hS
 have hin:s.ain≠[]:=fun e=>hi (.inl e)
 have hb1:s.bk.length < s.nb:=by have:¬ s.bk.length=s.nb:=fun e=>hi (.inr (.inl e)); omega
 have hc1:s.ou.length < s.nc:=by have:¬ s.ou.length=s.nc:=fun e=>hi (.inr (.inr e)); omega
 obtain⟨pc,ain,ha⟩:∃ p r,s.ain=p::r:=by
  cases h:s.ain with
  | nil=>exact absurd h hin
  | cons p r=>exact⟨p,r,rfl⟩
 refine zaa zda ?_
 refine zaa zba ?_
 refine ld hO 6 rfl zCE ?_
 refine zwy (i:=1) (j:=0) hO rfl rfl (by omega) h5.rg h5.one (fun e=>absurd e (by intro e; rw[e,ha] at e5; simp at e5)) ?_
 clear hO
 intro el er hes H cs' hA hO
 replace hO:=zTJ hO
 rw[ha] at h5
 obtain⟨hp,h5'⟩:=h5.rest hes hA
 obtain⟨w,rfl,hw1,hw2,_⟩:=hp
 have hpl:=h5.le pc (.head _)
 obtain⟨s2,hs2⟩:∃ s2,s.pop ain=s2:=⟨_,rfl⟩
 have hR:CkR S s2 (A.rest cs' er) B C kv sv sp T:=by
  subst hs2
  exact⟨h1,h2,h3,h4,h5',h6,h7,h8,h9,h10,h11,h12⟩
 replace hO:St H ((S++F)++mB (A.rest cs' er) B C c (ckC kv s2.t (A.rest cs' er).r B.r C.r s2.sd sv sp s2.dn s2.er) T):=by subst hs2; exact hO
 have hwt:s.wants=s2.wants:=by subst hs2; rfl
 have hsh:s.hs=s2.hs:=by subst hs2; rfl
 have hb1:s2.bk.length < s2.nb:=by subst hs2; exact hb1
 have hc1:s2.ou.length < s2.nc:=by subst hs2; exact hc1
 have hcl:s.sd=s2.sd:=by subst hs2; rfl
 refine zaa zHj ?_
 refine zaa zIj ?_
 rw[zMv]
 generalize hΓ:(S++F)++mB (A.rest cs' er) B C c (ckC kv s2.t (A.rest cs' er).r B.r C.r s2.sd sv sp s2.dn s2.er) T=Γ at hO
 refine nw hO.z ?_
 clear hO
 intro p4 H hO
 replace hO:St H (Γ++[(p4,⟨[int 0,zwa],true⟩)]):=hO
 obtain⟨aw,nw',cw,rfl⟩:=hw1.shape
 refine sw hO 0 rfl rfl rfl rfl ?_
 clear hO
 intro H hO
 replace hO:St H (Γ++[(p4,⟨[int pc.1,.slice aw nw' cw],true⟩)]):=hO
 refine zaa zba ?_
 refine ld hO 0 rfl (v:=int pc.1) rfl ?_
 refine zaa zeb ?_
 have hstep:∀ (z:Ck),z=(if pc.1=s2.wants then (match s2.hs with|none=>s2.opens pc.2|some (xs,w)=>s2.takes xs w pc.2) else s2)→∀ H' X A' B' C',Ring.Same A A'→Ring.Same B B'→Ring.Same C C'→CkSt (S++X) F z A' B' C' c kv H'→K (.bool true) H':=by
  intro z hz H' X A' B' C' q1 q2 q3 hS
  subst hz
  have hk2:=hk H' X A' B' C' q1 q2 q3
  rw[hwt] at hw
  have hww:s2.wants=match s2.hs with|none=>-1|some (_,w)=>if w=s2.sd.cks.length then -2 else (w:Int):=rfl
  rw[hcl,ha] at hk2
  cases hx:s2.hs with
  | none=>
   rw[hx] at hww hS
   rw[hsh,hx] at hk2
   simp only at hk2 hww hS
   rw[if_neg (by intro e; exact hi (.inr e))] at hk2
   rw[hww] at hS
   rw[hs2] at hk2
   exact hk2 hS
  | some y=>
   obtain⟨xs,want⟩:=y
   rw[hx] at hww hS
   rw[hsh,hx] at hk2
   simp only at hk2 hww hS
   by_cases e:want=s2.sd.cks.length
   ·rw[if_pos e] at hww; exact absurd hww hw
   ·rw[if_neg e] at hww hk2
    rw[if_neg (by intro e; exact hi (.inr e))] at hk2
    rw[hww] at hS
    rw[hs2] at hk2
    exact hk2 hS
 clear hk
 rw[hwt]
 refine zoa (fun hat=>?_) (fun hat=>?_)
 ·refine hstep s2 (by rw[if_neg hat]) H [] (A.rest cs' er) B C zkg .rfl' .rfl' ⟨sv,sp,T,by rw[List.append_nil]; exact hR,?_⟩
  rw[List.append_nil,hΓ]
  exact hO.left
 have hat:pc.1=s2.wants:=Classical.not_not.1 hat
 refine zaa zYa ?_
 refine zoa (fun hm=>?_) (fun hm=>?_)
 ·have hx:s2.hs=none:=by
   cases hx:s2.hs with
   | none=>rfl
   | some y=>
    exfalso
    unfold Ck.wants at hm
    rw[hx] at hm
    simp only at hm
    split at hm <;> omega
  refine zaa zba ?_
  refine ld hO 0 rfl (v:=.slice aw nw' cw) rfl ?_
  have hO:=hO.left
  rw[← hΓ] at hO
  refine zQv hR hO hx hb1 hc1 hw1 hw2 hpl ?_
  clear hO
  intro H' X B' C' q2 q3 hS
  refine hstep _ ?_ H' X _ B' C' zkg q2 q3 hS
  rw[if_pos hat,hx]
 ·cases hx:s2.hs with
  | none=>exfalso; apply hm; unfold Ck.wants; rw[hx]
  | some y=>
   obtain⟨xs,want⟩:=y
   have hww:s2.wants=if want=s2.sd.cks.length then -2 else (want:Int):=by unfold Ck.wants; rw[hx]
   have hwne:want≠s2.sd.cks.length:=by
    intro e
    rw[if_pos e] at hww
    exact hw (hwt.trans hww)
   rw[if_neg hwne] at hww
   rw[hww] at hat
   refine lw hO 0 rfl (n:=2) rfl (by omega) ?_
   have hO:=hO.left
   rw[← hΓ] at hO
   rw[hat]
   refine zRv hR hO hx hwne hb1 hc1 hw1 hw2 hpl ?_
   clear hO
   intro H' X B' C' q2 q3 hS
   refine hstep _ ?_ H' X _ B' C' zkg q2 q3 hS
   rw[hww,if_pos hat,hx]
end J
set_option maxRecDepth 100000
namespace J
open Go Go.Ab
variable{H:Heap}{Γ Γ0 Γ2 Δ G L S T L0 X F R:List (Nat × Blk)}{K:VH}{v w x cv dv kv sv sp iv bv ov yv:Value}{xs ys zs bs b key ms:List Int}{i j p q r o n k f wd pd st want c:Nat}{e er:Int}{cs cs' c1 ck ics bcs ocs ycs:List Value}{l:List UInt8}{m sd:Mf}{t u:Tm}{es:List (List Value)}{el:List Value}{cks:List (List Int)}{dn:Bool}{s:Ck}
theorem zfx{Γ Δ:List (Nat × Blk)}{y:Nat × Blk}{j:Nat}(h:Δ[j]?=some y)(hs:∀ x ∈ Δ,x ∈ Γ):∃ j':Nat,Γ[j']?=some y:=List.mem_iff_getElem?.1 (hs y (List.mem_of_getElem? h))
theorem RdT.mono{size:Nat}(h:RdT size Δ v n cs)(hs:∀ x ∈ Δ,x ∈ Γ):RdT size Γ v n cs:=by
 rcases h with h|⟨p,c,j,w,h1,h2,h3⟩
 ·exact .inl h
 ·obtain⟨j',hj⟩:=zfx h2 hs
  exact .inr ⟨p,c,j',w,h1,hj,h3⟩
theorem _root_.Go.Ab.RdB.mono(h:RdB Δ v xs)(hs:∀ x ∈ Δ,x ∈ Γ):RdB Γ v xs:=by
 rcases h with h|⟨p,o,c,h1,h2,h3⟩
 ·exact .inl h
 ·refine .inr ⟨p,o,c,h1,h2,?_⟩
  rcases h3 with h3|⟨j,bk,h3,h4⟩
  ·exact .inl h3
  ·obtain⟨j',hj⟩:=zfx h3 hs
   exact .inr ⟨j',bk,hj,h4⟩
theorem RdH.mono(h:RdH Δ v cks)(hs:∀ x ∈ Δ,x ∈ Γ):RdH Γ v cks:=by
 rcases h with h|⟨p,c,j,w,h1,h2⟩
 ·exact .inl h
 ·obtain⟨j',hj⟩:=zfx h2 hs
  exact .inr ⟨p,c,j',w,h1,hj⟩
theorem _root_.Go.Ab.Own.one1{size:Nat}(h:Own size v n cs):oneCell v=true:=by
 rcases h with⟨rfl,_⟩|⟨p,rfl|rfl,_⟩ <;> rfl
theorem _root_.Go.Ab.Own.shape{size:Nat}(h:Own size v n cs):∃ a n c,v=.slice a n c:=by
 rcases h with⟨rfl,_⟩|⟨p,rfl|rfl,_⟩ <;> exact⟨_,_,_,rfl⟩
theorem ToldR.app{a:Sn}(h:ToldR S a el):ToldR (S++X) a el:=by
 cases a with
 | again a=>exact h
 | go n m=>obtain⟨cv,h1,h2,h3⟩:=h; exact⟨cv,h1,h2.app,h3⟩
 | body a bs=>obtain⟨v,h1,h2,h3⟩:=h; exact⟨v,h1,h2.app,h3⟩
 | fin=>exact h
theorem zXl(hd:m.dg.length=32)(a b d:Value)(x:Value)(ha:oneCell a=true)(hb:oneCell b=true)(hdd:oneCell d=true)(hc:oneCell cv=true)(hx:oneCell x=true):(a::b::d::(mfC m cv++[x])).length=41∧(a::b::d::(mfC m cv++[x])).all oneCell=true:=by
 constructor
 ·simp[zta hd]
 ·show (oneCell a && (oneCell b && (oneCell d && (mfC m cv++[x]).all oneCell)))=true
  rw[List.all_append,zlc hc,ha,hb,hdd]
  simp[hx]
theorem zTv:m0.dg.length=32:=rfl
theorem ToldR.row{a:Sn}(h:ToldR S a el):el.length=41∧el.all oneCell=true:=by
 cases a with
 | again a=>have h:el=_:=h; rw[h]; exact zXl zTv _ _ _ _ rfl rfl rfl rfl rfl
 | go n m=>obtain⟨cv,rfl,h2,h3⟩:=h; exact zXl h3.dl _ _ _ _ rfl rfl rfl h2.one rfl
 | body a bs=>obtain⟨v,rfl,h2,h3⟩:=h; obtain⟨a,n,c,rfl⟩:=h2.shape; exact zXl zTv _ _ _ _ rfl rfl rfl rfl rfl
 | fin=>have h:el=_:=h; rw[h]; exact zXl zTv _ _ _ _ rfl rfl rfl rfl rfl
structure Row {α:Type} (size:Nat) (P:α→List Value→Prop) (v:Value) (l:List α) (cs:List Value):Prop where
 own:Own size v l.length cs
 al:∃ es,cs=es.flatten∧Al P l es
 one:cs.all oneCell=true
theorem Row.imp{α:Type}{size:Nat}{P P':α→List Value→Prop}{l:List α}(hi:∀ a b,P a b→P' a b)(h:Row size P v l cs):Row size P' v l cs:=by
 obtain⟨h1,⟨es,h2,h3⟩,h4⟩:=h
 exact⟨h1,⟨es,h2,h3.imp hi⟩,h4⟩
theorem Row.nil{α:Type}{size:Nat}{P:α→List Value→Prop}:Row size P zwa [] []:=⟨.inl ⟨rfl,rfl,rfl⟩,⟨[],rfl,.nil⟩,rfl⟩
theorem Row.more{α:Type}{size:Nat}{P:α→List Value→Prop}{l:List α}{a:α}(h:Row size P v l cs)(ha:P a el)(ho:el.all oneCell=true)(h2:Own size w (l.length+1) (cs++el)):Row size P w (l++[a]) (cs++el):=by
 obtain⟨h1,⟨es,rfl,h3⟩,h4⟩:=h
 exact⟨by rw[List.length_append]; exact h2,⟨es++[el],by simp,h3.app (.one ha)⟩,by rw[List.all_append,h4,ho]; rfl⟩
end J
set_option maxRecDepth 100000
namespace J
open Go Go.Ab
variable{H:Heap}{Γ Γ0 Γ2 Δ G L S T L0 X F R:List (Nat × Blk)}{K:VH}{v w x cv dv kv sv sp iv bv ov yv:Value}{xs ys zs bs b key ms:List Int}{i j p q r o n k f wd pd st want c:Nat}{e er:Int}{cs cs' c1 ck ics bcs ocs ycs:List Value}{l:List UInt8}{m sd:Mf}{t u:Tm}{es:List (List Value)}{el:List Value}{cks:List (List Int)}{dn:Bool}{s:Ck}
def rkL(c st:Nat)(cB sB:List Value)(iv bv ov yv:Value)(ics bcs ocs ycs:List Value):List (Nat × Blk):=
 [(c,⟨cB,true⟩),(st,⟨sB,true⟩)]++(zRa iv ics++(zRa bv bcs++(zRa ov ocs++zRa yv ycs)))
structure RkR (S:List (Nat × Blk)) (s:Ck) (kv cv iv bv ov yv:Value) (ics bcs ocs ycs:List Value):Prop where
 kv:RdB S kv s.key
 kst:s.key≠[]→True
 kb:By s.key
 kl:s.key.length≤1000000
 tl:s.t.pr.length≤1000000
 i:Row 2 (PcR S) iv s.ain ics
 b:Row 41 (ToldR S) bv s.bk bcs
 o:Row 41 (ToldR S) ov s.ou ocs
 il:∀ p ∈ s.ain,p.2.length≤1000000
 n:s.bk.length≤s.nb∧s.ou.length≤s.nc∧s.nb≤16∧s.nc≤16∧s.ain.length≤1000
 ok:s.sd.Ok
 cv:RdH S cv s.sd.cks
 y:OwnB yv (s.hs.getD ([],0)).1 ycs
 ylen:∀ xs w,s.hs=some (xs,w)→zIa s.sd∧By xs∧w≤s.sd.cks.length∧xs.length≤w * 2000
def rkB(kv:Value)(s:Ck)(st:Nat)(iv bv ov:Value):List Value:=rkC kv s.t iv bv ov s.nb s.nc s.hs.isSome s.dn st s.er
def rsB(s:Ck)(cv yv:Value):List Value:=rsC s.sd cv yv (s.hs.getD ([],0)).2
theorem bT1(e:Int):(zDa P 54).f [(0,int 1),(1,int e)]=some (agg (int 1::int e::int 0::(mfC m0 zwa++[zwa]))):=by kernel_rfl
theorem bT4:(zDa P 54).f [(0,int 4)]=some (agg (int 4::int 0::int 0::(mfC m0 zwa++[zwa]))):=by kernel_rfl
theorem bT3(e:Int)(a:Option Addr)(n c:Nat):(zDa P 54).f [(0,int 3),(1,int e),(4,.slice a n c)]=some (agg (int 3::int e::int 0::(mfC m0 zwa++[.slice a n c]))):=by kernel_rfl
theorem bT2(hd:m.dg.length=32)(e:Int)(a:Option Addr)(k c:Nat):(zDa P 54).f [(0,int 2),(2,int e),(3,agg (mfC m (.slice a k c)))]=some (agg (int 2::int 0::int e::(mfC m (.slice a k c)++[zwa]))):=by
 obtain⟨pr,ver,sz,ck,dg,cks⟩:=m
 have hd:dg.length=32:=hd
 match dg,hd with
 | [a0,a1,a2,a3,a4,a5,a6,a7,a8,a9,a10,a11,a12,a13,a14,a15,a16,a17,a18,a19,a20,a21,a22,a23,a24,a25,a26,a27,a28,a29,a30,a31],_=>show _=_; kernel_rfl
theorem zkG{size p n c:Nat}{H:Heap}(hp:0 < size)(hc:c=2 * size∨c=2 * size+1):∃ c',zVa size (sl p 0 (n+1) c) (some (int 1)) none none=some (sl p (0+1 * size) n c'):=by
 have e1:Nat.beq (2 * size) (2 * size+1)=false:=by
  cases hb:Nat.beq (2 * size) (2 * size+1) with
  | false=>rfl
  | true=>have:=Nat.eq_of_beq_eq_true hb; omega
 have e2:zjd (n+1) (some (int 1))=some 1:=by
  unfold zjd
  have h1:leB 0 1=true:=rfl
  have h2:Nat.ble (Int.toNat 1) (n+1)=true:=by rw[zSb]; exact decide_eq_true (by show 1≤n+1; omega)
  simp only[h1,h2]
  rfl
 unfold zVa
 simp only[zBc,e2,zWk]
 rcases hc with rfl|rfl
 ·rw[e1]
  simp only[Nat.beq_refl,Bool.true_or]
  exact⟨_,rfl⟩
 ·rw[Nat.beq_refl]
  exact⟨_,rfl⟩
end J
set_option maxRecDepth 100000
namespace J
open Go Go.Ab
variable{H:Heap}{Γ Γ0 Γ2 Δ G L S T L0 X F R:List (Nat × Blk)}{K:VH}{v w x cv dv kv sv sp iv bv ov yv:Value}{xs ys zs bs b key ms:List Int}{i j p q r o n k f wd pd st want c:Nat}{e er:Int}{cs cs' c1 ck ics bcs ocs ycs:List Value}{l:List UInt8}{m sd:Mf}{t u:Tm}{es:List (List Value)}{el:List Value}{cks:List (List Int)}{dn:Bool}{s:Ck}
theorem RkR.app(h:RkR S s kv cv iv bv ov yv ics bcs ocs ycs):RkR (S++X) s kv cv iv bv ov yv ics bcs ocs ycs:=
 ⟨h.kv.app,h.kst,h.kb,h.kl,h.tl,h.i.imp fun _ _=>PcR.app,h.b.imp fun _ _=>ToldR.app,h.o.imp fun _ _=>ToldR.app,h.il,h.n,h.ok,h.cv.app,h.y,h.ylen⟩
end J
set_option maxRecDepth 100000
namespace J
open Go Go.Ab
variable{H:Heap}{Γ Γ0 Γ2 Δ G L S T L0 X F R:List (Nat × Blk)}{K:VH}{v w x cv dv kv sv sp iv bv ov yv:Value}{xs ys zs bs b key ms:List Int}{i j p q r o n k f wd pd st want c:Nat}{e er:Int}{cs cs' c1 ck ics bcs ocs ycs:List Value}{l:List UInt8}{m sd:Mf}{t u:Tm}{es:List (List Value)}{el:List Value}{cks:List (List Int)}{dn:Bool}{s:Ck}
end J
set_option maxRecDepth 100000
namespace J
open Go Go.Ab
variable{H:Heap}{Γ Γ0 Γ2 Δ G L S T L0 X F R:List (Nat × Blk)}{K:VH}{v w x cv dv kv sv sp iv bv ov yv:Value}{xs ys zs bs b key ms:List Int}{i j p q r o n k f wd pd st want c:Nat}{e er:Int}{cs cs' c1 ck ics bcs ocs ycs:List Value}{l:List UInt8}{m sd:Mf}{t u:Tm}{es:List (List Value)}{el:List Value}{cks:List (List Int)}{dn:Bool}{s:Ck}
theorem Row.head{α:Type}{size:Nat}{P:α→List Value→Prop}{a:α}{l:List α}(h:Row size P v (a::l) cs)(hp:∀ a el,P a el→el.length=size):∃ el,P a el∧cs.take size=el∧∀ v1,Own size v1 l.length (cs.drop size)→Row size P v1 l (cs.drop size):=by
 obtain⟨h1,⟨es,rfl,h3⟩,h4⟩:=h
 cases h3 with
 | cons h5 h6=>
  rename_i el es
  have hl:=hp _ _ h5
  have e1:((el::es).flatten).take size=el:=by rw[List.flatten_cons]; exact List.take_left' hl
  have e2:((el::es).flatten).drop size=es.flatten:=by rw[List.flatten_cons]; exact List.drop_left' hl
  refine⟨el,h5,e1,fun v1 hv=>?_⟩
  rw[e2] at hv ⊢
  refine⟨hv,⟨es,rfl,h6⟩,?_⟩
  rw[List.flatten_cons,List.all_append,Bool.and_eq_true] at h4
  exact h4.2
theorem PcR.len{a:Int × List Int}(h:PcR S a el):el.length=2:=by obtain⟨v,rfl,_⟩:=h; rfl
theorem _root_.Go.Ab.Own.sl{size:Nat}(h:Own size v (n+1) cs):∃ p c,v=Go.Ab.sl p 0 (n+1) c∧(c=2 * size∨c=2 * size+1)∧zRa v cs=[(p,⟨cs,true⟩)]:=by
 rcases h with⟨_,h,_⟩|⟨p,h|h,_⟩
 ·cases h
 ·exact⟨p,_,h,.inl rfl,by rw[h]; rfl⟩
 ·exact⟨p,_,h,.inr rfl,by rw[h]; rfl⟩
end J
set_option maxRecDepth 100000
namespace J
open Go Go.Ab
variable{H:Heap}{Γ Γ0 Γ2 Δ G L S T L0 X F:List (Nat × Blk)}{K:VH}{v w x cv dv kv sv sp iv bv ov yv:Value}{xs ys zs bs b key ms:List Int}{i j p q r o n k f wd pd st want c:Nat}{e er:Int}{cs cs' c1 ck ics bcs ocs ycs:List Value}{l:List UInt8}{m sd:Mf}{t u:Tm}{es:List (List Value)}{el:List Value}{cks:List (List Int)}{dn:Bool}{s:Ck}{R:Ring}{nl:List Sn}
theorem zWJ(x:Value):znc 103 (ztd P 103) (.iface 103 x)=some (.tuple #[x,.bool true]):=by kernel_rfl
theorem zXJ(x:Value):znc 103 (ztd P 103) (.iface 105 x)=some (.tuple #[agg (zc P 103),.bool false]):=by kernel_rfl
theorem zYJ(x:Value):znc 103 (ztd P 103) (.iface 106 x)=some (.tuple #[agg (zc P 103),.bool false]):=by kernel_rfl
theorem zZJ(x:Value):znc 103 (ztd P 103) (.iface 108 x)=some (.tuple #[agg (zc P 103),.bool false]):=by kernel_rfl
theorem zaK(x:Value):znc 105 (ztd P 105) (.iface 105 x)=some (.tuple #[x,.bool true]):=by kernel_rfl
theorem zbK(x:Value):znc 105 (ztd P 105) (.iface 106 x)=some (.tuple #[agg (zc P 105),.bool false]):=by kernel_rfl
theorem zcK(x:Value):znc 105 (ztd P 105) (.iface 108 x)=some (.tuple #[agg (zc P 105),.bool false]):=by kernel_rfl
theorem zdK(x:Value):znc 106 (ztd P 106) (.iface 106 x)=some (.tuple #[x,.bool true]):=by kernel_rfl
theorem zeK(x:Value):znc 106 (ztd P 106) (.iface 108 x)=some (.tuple #[agg (zc P 106),.bool false]):=by kernel_rfl
theorem zfK(x:Value):znc 108 (ztd P 108) (.iface 108 x)=some (.tuple #[x,.bool true]):=by kernel_rfl
def ziu:List Value:=int 0::int 0::int 0::(mfC m0 zwa++[zwa])
theorem zcT:zc P 54=ziu:=by kernel_rfl
theorem bT0:(zDa P 54).f []=some (agg ziu):=by kernel_rfl
theorem zlG:zc P 103=[int 0]:=by kernel_rfl
theorem zgK:zc P 105=int 0::mfC m0 zwa:=by kernel_rfl
theorem zdI:zc P 106=[int 0,zwa]:=by kernel_rfl
theorem zfJ:zc P 108=[]:=by kernel_rfl
theorem zRb:ziu.length=41∧ziu.all oneCell=true:=zXl zTv _ _ _ _ rfl rfl rfl rfl rfl
set_option maxHeartbeats 8000000 in
theorem zbr(hO:St H (Γ++L))(hi:L[i]?=some (R.r,⟨rgC R.q R.n 1 R.f R.es.length,true⟩))(hj:L[j]?=some (R.q,⟨R.cs,true⟩))(hij:i≠j)(h:RgN S R nl)
  (hno:nl=[]→∀ H',St H' (Γ++L)→K (.tuple [agg ziu,.bool false].toArray) H')
  (hyes:∀ a rest,nl=a::rest→∀ H' cs' es' el,ToldR S a el→RgN S (R.rest cs' es') rest→St H' (Γ++((L.set j (R.q,⟨cs',true⟩)).set i (R.r,⟨rgC R.q R.n 1 ((R.f+1) % R.n) es'.length,true⟩)))→K (.tuple [agg el,.bool true].toArray) H') :
  wCall P zTa [ptr R.r 0] H K:=by
 apply zSp; unfold zTo
 have hil:=(List.getElem?_eq_some_iff.1 hi).1
 have hjl:=(List.getElem?_eq_some_iff.1 hj).1
 rw[zcT]
 refine nw hO ?_
 clear hO
 intro p2 H hO
 refine zMm hO (zAa hi) (zAa hj) hij h.rg ?_ ?_
 ·intro he
  have hnl:nl=[]:=List.length_eq_zero_iff.1 (by rw[← h.len,he]; rfl)
  refine zaa zHj ?_
  refine zaa zIj ?_
  refine zaa zJb ?_
  refine zhd rfl ?_
  refine zaa bT0 ?_
  rw[← List.append_assoc] at hO
  refine zva hO (_+0) (zza rfl) zRb.1 zRb.1 zRb.2 ?_
  clear hO
  intro H hO
  replace hO:=hO.set_r
  refine zHa hO (_+0) (zza rfl) zRb.1 (by omega) ?_
  exact hno hnl H hO.left
 clear hO hno
 intro a1 er hes H cs' hg hO
 obtain⟨a,rest,rfl⟩:∃ a rest,nl=a::rest:=by
  cases nl with
  | nil=>have:=h.len; rw[hes] at this; simp at this
  | cons a rest=>exact⟨a,rest,rfl⟩
 obtain⟨ha,hrest⟩:=h.rest hes hg
 have hyes:=hyes a rest rfl
 rw[List.set_append_left _ _ hjl,List.set_append_left _ _ (by rw[List.length_set]; exact hil),← List.append_assoc] at hO
 generalize hL2:(L.set j (R.q,(⟨cs',true⟩:Blk))).set i (R.r,⟨rgC R.q R.n 1 ((R.f+1) % R.n) er.length,true⟩)=L2 at *
 have fin:∀ (el:List Value),ToldR S a el→K (.tuple [agg el,.bool true].toArray)=K (.tuple [agg el,.bool true].toArray)→∀ H (R2:List (Nat × Blk)),St H (((Γ++L2)++[(p2,⟨ziu,true⟩)])++R2)→opW (zla 41 (ptr p2 0) (agg el) H) fun u H1=>opW (zma 41 (ptr p2 0) H1) fun r _=>K (.tuple [r,.bool true].toArray) H1:=by
  intro el hel _ H R2 hO
  refine zva hO.left (_+0) (zza rfl) zRb.1 hel.row.1 hel.row.2 ?_
  clear hO
  intro H hO
  replace hO:=hO.set_r
  refine zHa hO (_+0) (zza rfl) hel.row.1 (by omega) ?_
  have hO:=hO.left
  rw[← hL2] at hO
  exact hyes H cs' er el hel hrest hO
 refine zaa zHj ?_
 refine zaa zIj ?_
 refine zaa zJb ?_
 refine zKb rfl ?_
 cases a with
 | again e=>
  have ha:[a1]=_:=ha
  cases ha
  refine zaa (zWJ _) ?_
  refine zaa zIj ?_
  refine zaa zHj ?_
  refine zhd rfl ?_
  rw[zlG]
  refine zhb hO ?_
  clear hO
  intro p6 H hO
  refine zva hO (_+0) (zza rfl) rfl rfl rfl ?_
  clear hO
  intro H hO
  replace hO:=hO.set_r
  refine zaa zba ?_
  refine zpa hO (_+0) (zza rfl) (v:=int e) rfl ?_
  refine zaa (bT1 _) ?_
  exact fin _ (show ToldR S (.again e) _ from rfl) rfl _ _ hO
 | go n m=>
  obtain⟨cv,ha,hcv,ok⟩:=ha
  cases ha
  obtain⟨ac,nc,cc,rfl⟩:=hcv.shape
  have hrow:(int n::mfC m (.slice ac nc cc)).length=38∧(int n::mfC m (.slice ac nc cc)).all oneCell=true:=⟨by simp[zta ok.dl],by show (true && _)=true; rw[zlc hcv.one]; rfl⟩
  refine zaa (zXJ _) ?_
  refine zaa zIj ?_
  refine zaa zHj ?_
  refine zKb rfl ?_
  refine zaa (zaK _) ?_
  refine zaa zIj ?_
  refine zaa zHj ?_
  refine zhd rfl ?_
  rw[zgK]
  refine zhb hO ?_
  clear hO
  intro p6 H hO
  refine zva hO (_+0) (zza rfl) rfl hrow.1 hrow.2 ?_
  clear hO
  intro H hO
  replace hO:=hO.set_r
  refine zaa zba ?_
  refine zpa hO (_+0) (zza rfl) (v:=int n) rfl ?_
  refine zaa zba ?_
  refine zFa hO (_+0) (zza rfl) (cs:=mfC m (.slice ac nc cc)) (by show (mfC m (.slice ac nc cc)).take 37=_; exact List.take_of_length_le (by rw[zta ok.dl]; omega)) (zta ok.dl) (by omega) ?_
  refine zaa (bT2 ok.dl _ _ _ _) ?_
  exact fin _ (show ToldR S (.go n m) _ from⟨_,rfl,hcv,ok⟩) rfl _ _ hO
 | body e bs=>
  obtain⟨v,ha,hv,hb⟩:=ha
  cases ha
  obtain⟨ac,nc,cc,rfl⟩:=hv.shape
  refine zaa (zYJ _) ?_
  refine zaa zIj ?_
  refine zaa zHj ?_
  refine zKb rfl ?_
  refine zaa (zbK _) ?_
  refine zaa zIj ?_
  refine zaa zHj ?_
  refine zKb rfl ?_
  refine zaa (zdK _) ?_
  refine zaa zIj ?_
  refine zaa zHj ?_
  refine zhd rfl ?_
  rw[zdI]
  refine zhb hO ?_
  clear hO
  intro p6 H hO
  refine zva hO (_+0) (zza rfl) rfl rfl rfl ?_
  clear hO
  intro H hO
  replace hO:=hO.set_r
  refine zaa zba ?_
  refine zpa hO (_+0) (zza rfl) (v:=int e) rfl ?_
  refine zaa zba ?_
  refine zpa hO (_+0) (zza rfl) (v:=.slice ac nc cc) rfl ?_
  refine zaa (bT3 _ _ _ _) ?_
  exact fin _ (show ToldR S (.body e bs) _ from⟨_,rfl,hv,hb⟩) rfl _ _ hO
 | fin=>
  have ha:[a1]=_:=ha
  cases ha
  refine zaa (zZJ _) ?_
  refine zaa zIj ?_
  refine zaa zHj ?_
  refine zKb rfl ?_
  refine zaa (zcK _) ?_
  refine zaa zIj ?_
  refine zaa zHj ?_
  refine zKb rfl ?_
  refine zaa (zeK _) ?_
  refine zaa zIj ?_
  refine zaa zHj ?_
  refine zKb rfl ?_
  refine zaa (zfK _) ?_
  refine zaa zIj ?_
  refine zaa zHj ?_
  refine zhd rfl ?_
  rw[zfJ]
  refine zhb hO ?_
  clear hO
  intro p6 H hO
  refine zva hO (_+0) (zza rfl) rfl rfl rfl ?_
  clear hO
  intro H hO
  replace hO:=hO.set_r
  refine zaa bT4 ?_
  exact fin _ (show ToldR S .fin _ from rfl) rfl _ _ hO
end J
