/- texts of the proof, one behind the other -/
import Derived.Test.YtheklmekepeblaaGreatDoorUI
set_option linter.unusedVariables false
set_option linter.unusedSimpArgs false
set_option linter.unusedSectionVars false
set_option maxRecDepth 100000
namespace J
open Go Go.Ab
variable{H:Heap}{Γ Γ0 Γ2 Δ G L S T L0 X F:List (Nat × Blk)}{K:VH}{v w x cv dv kv sv sp iv bv ov yv:Value}{xs ys zs bs b key ms:List Int}{i j p q r o n k f wd pd st want c:Nat}{e er:Int}{cs cs' c1 ck ics bcs ocs ycs:List Value}{l:List UInt8}{m sd:Mf}{t u:Tm}{es:List (List Value)}{el e1 e2:List Value}{cks:List (List Int)}{dn:Bool}{s:Ck}
def Sn.kd:Sn→Int
 | .again _=>1
 | .go _ _=>2
 | .body _ _=>3
 | .fin=>4
def Sn.at':Sn→Int
 | .again a=>a
 | .body a _=>a
 | _=>0
def Sn.hd:Sn→Int
 | .go n _=>n
 | _=>0
def Sn.mf:Sn→Mf
 | .go _ m=>m
 | _=>m0
def Sn.by1:Sn→List Int
 | .body _ b=>b
 | _=>[]
theorem zlf{a:Sn}(h:ToldR Γ a el):∃ cv x,el=int a.kd::int a.at'::int a.hd::(mfC a.mf cv++[x])∧RdH Γ cv a.mf.cks∧a.mf.Ok∧RdB Γ x a.by1∧By a.by1:=by
 cases a with
 | again e=>have h:el=_:=h; exact⟨zwa,zwa,h,.inl ⟨rfl,rfl⟩,zny,.inl ⟨rfl,rfl⟩,(fun x hx=>by cases hx)⟩
 | go n m=>obtain⟨cv,h1,h2,h3⟩:=h; exact⟨cv,zwa,h1,h2,h3,.inl ⟨rfl,rfl⟩,(fun x hx=>by cases hx)⟩
 | body e bs=>obtain⟨v,h1,h2,h3⟩:=h; exact⟨zwa,v,h1,.inl ⟨rfl,rfl⟩,zny,h2,h3⟩
 | fin=>have h:el=_:=h; exact⟨zwa,zwa,h,.inl ⟨rfl,rfl⟩,zny,.inl ⟨rfl,rfl⟩,(fun x hx=>by cases hx)⟩
theorem zUv(hd:m.dg.length=32)(a b d:Value):(a::b::d::(mfC m cv++[x]))[0+40]?=some x:=by
 show (mfC m cv++[x])[37]?=_
 rw[List.getElem?_append_right (by rw[zta hd]; omega),zta hd]; rfl
theorem zeI(hd:m.dg.length=32)(a b d:Value):((a::b::d::(mfC m cv++[x])).drop (0+3)).take 37=mfC m cv:=by
 show (mfC m cv++[x]).take 37=_
 exact List.take_left' (zta hd)
structure ActP where
 k:Int
 p:Int × List Int
def ActR(S:List (Nat × Blk))(a:ActP)(el:List Value):Prop:=∃ v,el=[int a.k,int a.p.1,v]∧PcR S a.p [int a.p.1,v]
theorem Al.get{α:Type}{R:α→List Value→Prop}{size:Nat}{l:List α}(h:Al R l es)(hp:∀ a el,R a el→el.length=size):∀ i (hi:i < l.length),∃ el,R l[i] el∧(es.flatten.drop (i * size)).take size=el:=by
 induction h with
 | nil=>intro i hi; cases hi
 | @cons a b l m h1 h2 ih=>
  intro i hi
  cases i with
  | zero=>exact⟨b,h1,by simp[List.take_left' (hp _ _ h1)]⟩
  | succ i=>
   obtain⟨el,g1,g2⟩:=ih i (by simpa using hi)
   refine⟨el,g1,?_⟩
   rw[List.flatten_cons,show (i+1) * size=b.length+i * size by rw[hp _ _ h1,Nat.succ_mul]; omega,← List.drop_drop,List.drop_left]
   exact g2
def RdA(S:List (Nat × Blk))(v:Value)(acts:List ActP):Prop:=∃ es,RdT 3 S v acts.length es.flatten∧Al (ActR S) acts es
theorem ActR.app{a:ActP}(h:ActR S a el):ActR (S++X) a el:=by
 obtain⟨v,h1,h2⟩:=h
 exact⟨v,h1,h2.app⟩
theorem RdA.app{acts:List ActP}(h:RdA S v acts):RdA (S++X) v acts:=by
 obtain⟨es,h1,h2⟩:=h
 exact⟨es,h1.app,h2.imp fun _ _=>ActR.app⟩
theorem RdT.lenSl{size:Nat}(h:RdT size Γ v n cs):Go.Ab.lenSl v H=some (int n,H):=by
 rcases h with⟨rfl,rfl,_⟩|⟨p,c,j,w,rfl,_⟩ <;> rfl
theorem RdA.at'{acts:List ActP}(h:RdA S v acts)(hi:i < acts.length):∃ (p c j:Nat) (w:Bool) (cs:List Value) (x:Value),v=sl p 0 acts.length c∧S[j]?=some (p,(⟨cs,w⟩:Blk))∧(cs.drop (0+i * 3)).take 3=[int acts[i].k,int acts[i].p.1,x]∧PcR S acts[i].p [int acts[i].p.1,x]:=by
 obtain⟨es,h1,h2⟩:=h
 obtain⟨el,g1,g2⟩:=h2.get (size:=3) (fun a el h=>by obtain⟨v,rfl,_⟩:=h; rfl) i hi
 rcases h1 with⟨_,h0,_⟩|⟨p,c,j,w,e1,e2,e3⟩
 ·omega
 ·obtain⟨x,rfl,g3⟩:=g1
  exact⟨p,c,j,w,_,x,e1,e2,by rw[Nat.zero_add]; exact g2,g3⟩
def wdC(kv:Value)(t:Tm)(r:List Int):List Value:=kv::str t.pr::zwb .u64 t.fl::int t.rm::r.map int
theorem zfI:zc P 45=[int 0,int 0,zwa]:=by kernel_rfl
theorem PcR.shape{a:Int × List Int}{z:Value}(h:PcR S a [z,v]):∃ b n c,v=.slice b n c:=by
 obtain⟨w,h1,h2,_⟩:=h
 cases h1
 exact h2.shape
theorem PcR.rd{a:Int × List Int}{z:Value}(h:PcR S a [z,v]):RdB S v a.2:=by
 obtain⟨w,h1,h2,_⟩:=h
 cases h1
 exact h2
set_option maxHeartbeats 2000000 in
theorem zEy{rs:List Int}{acts:List ActP}(hr:rs.length=3)(hO:St H Γ)(hv:RdB Γ kv key)(ha:RdA Γ v acts)
  (hk0:∀ H',St H' Γ→K (.bool true) H')
  (hk1:key.length≤200→t.pr.length≤200→acts.length≤80→(∀ a ∈ acts,a.p.2.length≤2500)→∀ H',St H' Γ→K (.bool false) H'):wCall P zFf [agg (wdC kv t rs),v] H K:=by
 apply zRp; unfold zSo
 rw[zkf]
 refine nw hO.z ?_
 clear hO
 intro p2 H hO
 replace hO:St H (Γ++[(p2,⟨wdC kv t rs,true⟩)]):=hO
 have hlen:=hv.lenA
 refine zEa (fun l' H'=>l'=[v,.bool false]∧H=H'∧key.length≤200∧t.pr.length≤200∧acts.length≤80) ?_ ?_
 ·refine zaa zba ?_
  refine ld hO 0 rfl (v:=kv) rfl ?_
  refine zxa hv.lenSl ?_
  refine zaa zKc ?_
  refine zoa (fun h=>?_) (fun h=>?_)
  ·repeat (first|refine oi ?_|refine ow ?_|refine wy ?_|refine wn ?_|refine wt ?_|refine wf' ?_|refine cy ?_|refine cn ?_)
   exact hk0 H hO.left
  refine zaa zba ?_
  refine zaa zba ?_
  refine ld hO 0 rfl (v:=str t.pr) rfl ?_
  refine zxa (zsp) ?_
  refine zaa zKc ?_
  refine zaa (zsb h) ?_
  refine zoa (fun h1=>?_) (fun h1=>?_)
  ·repeat (first|refine oi ?_|refine ow ?_|refine wy ?_|refine wn ?_|refine wt ?_|refine wf' ?_|refine cy ?_|refine cn ?_)
   exact hk0 H hO.left
  obtain⟨es,ha1,_⟩:=ha
  refine zxa ha1.lenSl ?_
  refine zaa zKc ?_
  refine zaa (zsb h1) ?_
  refine zoa (fun h2=>?_) (fun h2=>?_)
  ·exact hk0 H hO.left
  ·exact⟨rfl,rfl,by omega,by omega,by omega⟩
 rintro l' H' ⟨rfl,rfl,b1,b2,b3⟩
 try simp only[zja,zka]
 replace hO:=hO.left
 obtain⟨es,ha1,ha2⟩:=ha
 refine zxa ha1.lenSl ?_
 have ha:RdA Γ v acts:=⟨es,ha1,ha2⟩
 refine zql (fun k l H=>∃ i:Nat,k=acts.length - i∧i≤acts.length∧l=[.bool false,v,int acts.length,int i]∧St H Γ∧∀ a ∈ acts.take i,a.p.2.length≤2500) _ _ ?_ acts.length _ _ ⟨0,rfl,Nat.zero_le _,rfl,hO,by simp⟩
 clear hO
 rintro k l H ⟨i,rfl,hi,rfl,hO,hall⟩
 unfold znk
 try simp only[zja,zka]
 refine zaa zMa ?_
 refine zoa (fun h=>?_) (fun h=>?_)
 ·have hi2:i < acts.length:=by omega
  obtain⟨p,c,j,w,cs,x,e1,e2,e3,e4⟩:=ha.at' hi2
  subst e1
  refine zaa (zpb (by omega) (by omega)) ?_
  rw[Int.toNat_natCast]
  refine zFa hO j e2 e3 rfl (by omega) ?_
  rw[zfI]
  refine nw hO.z ?_
  clear hO
  intro p6 H hO
  obtain⟨a0,n0,c0,rfl⟩:=e4.shape
  refine sw hO 0 rfl rfl rfl rfl ?_
  clear hO
  intro H hO
  refine zaa zba ?_
  refine zaa zba ?_
  refine ld hO 0 rfl (v:=.slice a0 n0 c0) rfl ?_
  refine zxa e4.rd.lenSl ?_
  refine zaa zKc ?_
  refine zoa (fun h=>?_) (fun h=>?_)
  ·exact hk0 H hO.left
  ·refine zaa (zCe (b:=1) (by omega)) ?_
   refine⟨_,?_,i+1,rfl,hi2,rfl,hO.left,?_⟩
   ·omega
   ·intro a ha'
    rw[List.take_succ_eq_append_getElem hi2] at ha'
    rcases List.mem_append.1 ha' with h'|h'
    ·exact hall a h'
    ·rw[List.mem_singleton.1 h']; omega
 ·refine zSa rfl ?_
  refine hk1 b1 b2 b3 ?_ H hO
  rw[List.take_of_length_le (by omega)] at hall
  exact hall
end J
set_option maxRecDepth 100000
namespace J
open Go Go.Ab
variable{H:Heap}{Γ Γ0 Γ2 Δ G L S T L0 X F:List (Nat × Blk)}{K:VH}{v w x cv dv kv sv sp iv bv ov yv:Value}{xs ys zs bs b key ms:List Int}{i j p q r o n k f wd pd st want c:Nat}{e er:Int}{cs cs' c1 ck ics bcs ocs ycs:List Value}{l:List UInt8}{m sd:Mf}{t u:Tm}{es:List (List Value)}{el e1 e2:List Value}{cks:List (List Int)}{dn:Bool}{s:Ck}{A B C:Ring}
theorem _root_.Go.Ab.RdB.simp9(h:RdB Γ v xs):zrb v=true:=by
 rcases h with⟨rfl,_⟩|⟨p,o,c,rfl,_⟩ <;> rfl
def Ck.push(s:Ck)(p:Int × List Int):Ck:={ s with ain:=s.ain++[p] }
def Ck.popB(s:Ck)(r:List Sn):Ck:={ s with bk:=r }
def Ck.popO(s:Ck)(r:List Sn):Ck:={ s with ou:=r }
theorem CkSt.nil(h:CkSt S F s A B C c kv H):CkSt (S++[]) F s A B C c kv H:=by rw[List.append_nil]; exact h
theorem zqj{p:Int × List Int}(h:CkSt S F s A B C c kv H)(hp:PcR S p [int p.1,v])(hl:p.2.length≤1000000)
  (hk:∀ b H' A',Ring.Same A A'→(b=true→s.ain.length < A.n)→(b=false→s.ain.length=A.n)→CkSt S F (if b=true then s.push p else s) A' B C c kv H'→K (.bool b) H'):wCall P zsa [ptr A.r 0,agg [int p.1,v]] H K:=by
 obtain⟨sv,sp,T,h,hO⟩:=h
 have ⟨h1,h2,h3,h4,h5,h6,h7,h8,h9,h10,h11,h12⟩:=h
 have e5:=h5.len
 obtain⟨a,n,c',rfl⟩:=hp.shape
 refine zuy (i:=1) (j:=0) hO rfl rfl (by omega) h5.rg hp.rd.simp9 rfl ?_ ?_
 ·intro hf H' hO'
  refine hk false H' A .rfl' (fun h=>by cases h) (fun _=>by omega) ⟨sv,sp,T,h,hO'⟩
 ·intro hf H' cs' hg hO'
  refine hk true H' _ zjg (fun _=>by omega) (fun h=>by cases h) ⟨sv,sp,T,?_,zeJ (el:=[int p.1,.slice a n c']) hO'⟩
  exact⟨h1,h2,h3,h4,h5.more hg hp hl,h6,h7,h8,h9,h10,h11,h12⟩
theorem zYl(h:CkSt S F s A B C c kv H)
  (hk0:s.bk=[]→∀ H',CkSt S F s A B C c kv H'→K (.tuple [agg ziu,.bool false].toArray) H')
  (hk1:∀ a rest,s.bk=a::rest→∀ H' B' el,Ring.Same B B'→ToldR S a el→CkSt S F (s.popB rest) A B' C c kv H'→K (.tuple [agg el,.bool true].toArray) H'):wCall P zTa [ptr B.r 0] H K:=by
 obtain⟨sv,sp,T,h,hO⟩:=h
 have ⟨h1,h2,h3,h4,h5,h6,h7,h8,h9,h10,h11,h12⟩:=h
 refine zbr (i:=3) (j:=2) hO rfl rfl (by omega) h6 ?_ ?_
 ·intro he H' hO'
  exact hk0 he H' ⟨sv,sp,T,h,hO'⟩
 ·intro a rest he H' cs' es' el hel hr hO'
  exact hk1 a rest he H' _ el zkg hel ⟨sv,sp,T,⟨h1,h2,h3,h4,h5,hr,h7,h8,h9,h10,h11,h12⟩,zsJ hO'⟩
theorem zrj(h:CkSt S F s A B C c kv H)
  (hk0:s.ou=[]→∀ H',CkSt S F s A B C c kv H'→K (.tuple [agg ziu,.bool false].toArray) H')
  (hk1:∀ a rest,s.ou=a::rest→∀ H' C' el,Ring.Same C C'→ToldR S a el→CkSt S F (s.popO rest) A B C' c kv H'→K (.tuple [agg el,.bool true].toArray) H'):wCall P zTa [ptr C.r 0] H K:=by
 obtain⟨sv,sp,T,h,hO⟩:=h
 have ⟨h1,h2,h3,h4,h5,h6,h7,h8,h9,h10,h11,h12⟩:=h
 refine zbr (i:=5) (j:=4) hO rfl rfl (by omega) h7 ?_ ?_
 ·intro he H' hO'
  exact hk0 he H' ⟨sv,sp,T,h,hO'⟩
 ·intro a rest he H' cs' es' el hel hr hO'
  exact hk1 a rest he H' _ el zkg hel ⟨sv,sp,T,⟨h1,h2,h3,h4,h5,h6,hr,h8,h9,h10,h11,h12⟩,ztJ hO'⟩
theorem zCD{hs:Option (List Int × Nat)}(h:StR1 S sd hs sp T):zhG sp=hs.isSome:=by
 cases h with
 | nos=>rfl
 | str=>rfl
theorem zgI(h:CkSt S F s A B C c kv H)
  (hk:∀ H' X v',RdH X v' s.sd.cks→CkSt (S++X) F s A B C c kv H'→K (.tuple [agg (mfC s.sd v'),.bool s.hs.isSome].toArray) H'):wCall P zTb [ptr c 0] H K:=by
 obtain⟨sv,sp,T,h,hO⟩:=h
 have ⟨h1,h2,h3,h4,h5,h6,h7,h8,h9,h10,h11,h12⟩:=h
 refine ziq h10 h11.app h12.spv hO ?_
 intro H' v' hO' hv
 rw[zCD h12]
 exact hk H' _ v' hv ⟨sv,sp,T,⟨h1.app,h2,h3,h4,h5.app,h6.app,h7.app,h8,h9,h10,h11.app,h12.app⟩,zjG (swapT hO')⟩
theorem zfo(h:CkSt S F s A B C c kv H)(hk:K (int s.wants) H):wCall P zGa [ptr c 0] H K:=by
 obtain⟨sv,sp,T,h,hO⟩:=h
 exact zGp h hO hk
theorem zVv(h:CkSt S F s A B C c kv H)(hk:K (.bool s.dn) H):wCall P zob [ptr c 0] H K:=by
 obtain⟨sv,sp,T,h,hO⟩:=h
 exact zCy h.ok.dl hO hk
theorem zDE(h:CkSt S F s A B C c kv H)(hk:K (int s.er) H):wCall P zfc [ptr c 0] H K:=by
 obtain⟨sv,sp,T,h,hO⟩:=h
 exact zzB h.ok.dl hO hk
theorem zmG(h:CkSt S F s A B C c kv H)(hk:K (int s.bk.length) H):wCall P zya [ptr B.r 0] H K:=by
 obtain⟨sv,sp,T,h,hO⟩:=h
 rw[← h.b.len] at hk
 exact zbu (i:=3) hO rfl hk
theorem zWv(h:CkSt S F s A B C c kv H)(hk:K (int s.ou.length) H):wCall P zya [ptr C.r 0] H K:=by
 obtain⟨sv,sp,T,h,hO⟩:=h
 rw[← h.c.len] at hk
 exact zbu (i:=5) hO rfl hk
def Bo(S:List (Nat × Blk))(s1 s2:Ck)(A B C:Ring)(c:Nat)(kv:Value)(cr:Nat)(kw:Value)(H:Heap):Prop:=
 ∃ sv sp T st cv iv bv ov yv ics bcs ocs ycs,CkR S s1 A B C kv sv sp T∧RkR S s2 kw cv iv bv ov yv ics bcs ocs ycs ∧
  St H (S++(mB A B C c (ckC kv s1.t A.r B.r C.r s1.sd sv sp s1.dn s1.er) T++rkL cr st (rkB kw s2 st iv bv ov) (rsB s2 cv yv) iv bv ov yv ics bcs ocs ycs))
theorem CkR.app(h:CkR S s A B C kv sv sp T):CkR (S++X) s A B C kv sv sp T:=
 ⟨h.kv.app,h.kb,h.kl,h.tl,h.a.app,h.b.app,h.c.app,h.bn,h.cn,h.ok,h.sv.app,h.str.app⟩
end J
set_option maxRecDepth 100000
namespace J
open Go Go.Ab
variable{H:Heap}{Γ Γ0 Γ2 Δ G L S T L0 X F:List (Nat × Blk)}{K:VH}{v w x cv dv kv kw sv sp iv bv ov yv:Value}{xs ys zs bs b key ms:List Int}{i j p q r o n k f wd pd st want c cr:Nat}{e er:Int}{cs cs' c1 ck ics bcs ocs ycs new:List Value}{l:List UInt8}{m sd:Mf}{t u:Tm}{es:List (List Value)}{el e1 e2:List Value}{cks:List (List Int)}{dn:Bool}{s s1 s2:Ck}{A B C:Ring}
theorem Bo.st'(h:Bo S s1 s2 A B C c kv cr kw H):∃ R,St H (S++R):=by
 obtain⟨sv,sp,T,st,cv,iv,bv,ov,yv,ics,bcs,ocs,ycs,h1,h2,hO⟩:=h
 exact⟨_,hO⟩
theorem CkSt.st'(h:CkSt S F s A B C c kv H):∃ R,St H (S++R):=by
 obtain⟨sv,sp,T,h1,hO⟩:=h
 rw[List.append_assoc] at hO
 exact⟨_,hO⟩
theorem zsj(h:CkSt S F s A B C c kv H)(hc:cs.length=n)(hn:new.length=n)(h1:new.all oneCell=true)
  (hk:∀ p H',CkSt (S++[(p,⟨new,true⟩)]) F s A B C c kv H'→K (ptr p 0) H'):zNb cs H fun t H5=>opW (zla n t (agg new) H5) fun _ H7=>K t H7:=by
 obtain⟨sv,sp,T,h,hO⟩:=h
 refine zhb hO ?_
 clear hO
 intro p H hO
 refine zva hO (_+0) (zza rfl) hc hn h1 ?_
 clear hO
 intro H hO
 replace hO:=hO.set_r
 exact hk p H ⟨sv,sp,T,h.app,zjG (swapT hO)⟩
end J
set_option maxRecDepth 100000
namespace J
open Go Go.Ab
variable{H:Heap}{Γ Γ0 Γ2 Δ G L S T L0 X F:List (Nat × Blk)}{K:VH}{v w x cv dv kv kw sv sp iv bv ov yv:Value}{xs ys zs bs b key ms:List Int}{i j p q r o n k f wd pd st want c cr:Nat}{e er:Int}{cs cs' c1 ck ics bcs ocs ycs new:List Value}{l:List UInt8}{m sd:Mf}{t u:Tm}{es:List (List Value)}{el e1 e2:List Value}{cks:List (List Int)}{dn:Bool}{s s1 s2:Ck}{A B C:Ring}
theorem ToldR.len{a:Sn}(h:ToldR S a el):el.length=41:=h.row.1
end J
set_option maxRecDepth 100000
namespace J
open Go Go.Ab
variable{H:Heap}{Γ Γ0 Γ2 Δ G L S T L0 X F:List (Nat × Blk)}{K:VH}{v w x cv dv kv kw sv sp iv bv ov yv av:Value}{xs ys zs bs b key ms:List Int}{i j p q r o n k f wd pd st want c cr:Nat}{e er:Int}{cs cs' c1 ck ics bcs ocs ycs new:List Value}{l:List UInt8}{m sd:Mf}{t u:Tm}{es:List (List Value)}{el e1 e2:List Value}{cks:List (List Int)}{dn:Bool}{s s1 s2:Ck}{A B C:Ring}
theorem Bo.n16(h:Bo S s1 s2 A B C c kv cr kw H):A.n≤16∧s1.ain.length≤16:=by
 obtain⟨sv,sp,T,st,cv,iv,bv,ov,yv,ics,bcs,ocs,ycs,h1,h2,hO⟩:=h
 have:=h1.a.nn
 have:=h1.a.rg.n16
 omega
theorem ckl{bk:Blk}(h:CkSt S F s A B C c kv H)(j:Nat)(hj:S[j]?=some (p,bk))(hv:bk.cells[o]?=some v)(hk:K v H):opW (zca (ptr p o) H) K:=by
 obtain⟨R,hO⟩:=h.st'
 exact zpa hO j (zAa hj) hv hk
end J
set_option maxRecDepth 100000
namespace J
open Go Go.Ab
variable{H:Heap}{Γ Γ0 Γ2 Δ G L S T X F:List (Nat × Blk)}{K:VH}{v w x cv dv kv:Value}{xs ys zs bs b key ms:List Int}{i j p q r o n k f:Nat}{e er:Int}{cs cs':List Value}{l pr:List UInt8}{m sd:Mf}{ver:Nat}{ck:Int}
def zhI(b:List Int)(C i:Nat):List Int:=sha ((b.drop (i * C)).take C)
def mkY(pr:List UInt8)(ver:Nat)(ck:Int)(b:List Int)(y:Nat):Mf:=⟨pr,ver,b.length,ck,sha b,(List.range y).map (zhI b ck.toNat)⟩
def mkF(pr:List UInt8)(ver:Nat)(ck:Int)(b:List Int):Mf:=mkY pr ver ck b (cnt b.length ck).toNat
theorem zhi{y:Nat}:(mkY pr ver ck b y).cks.length=y:=by simp[mkY]
theorem zju{y:Nat}(hv:ver < 18446744073709551616)(hc:-9223372036854775808≤ck∧ck≤9223372036854775807)(hl:b.length≤1000000)(hp:pr.length≤10000)(hy:y≤10000):(mkY pr ver ck b y).Ok:=by
 refine⟨zDb,zUq,?_,?_,hv,⟨by show -9223372036854775808≤((b.length:Nat):Int); omega,by show ((b.length:Nat):Int)≤_; omega⟩,hc,by rw[zhi]; exact hy,hp⟩
 ·intro x hx
  obtain⟨i,_,rfl⟩:=List.mem_map.1 hx
  exact zDb
 ·intro x hx
  obtain⟨i,_,rfl⟩:=List.mem_map.1 hx
  exact zUq
theorem bMk(pr:List UInt8)(ver:Nat)(sz ck:Int)(dg:List Int)(hd:dg.length=32):(zDa P 52).f [(0,str pr),(1,zwb .u64 ver),(2,int sz),(3,int ck),(4,agg (by8 dg))]=some (agg (mfC ⟨pr,ver,sz,ck,dg,[]⟩ zwa)):=by
 match dg,hd with
 | [a0,a1,a2,a3,a4,a5,a6,a7,a8,a9,a10,a11,a12,a13,a14,a15,a16,a17,a18,a19,a20,a21,a22,a23,a24,a25,a26,a27,a28,a29,a30,a31],_=>show _=_; kernel_rfl
theorem zuJ:(zDa P 52).f []=some (agg (mfC m0 zwa)):=by kernel_rfl
theorem ziI{m a:Mf}(h1:m.pr=a.pr)(h2:m.ver=a.ver)(h3:m.sz=a.sz)(h4:m.ck=a.ck)(h5:m.dg=a.dg):mfC m v=mfC a v:=by
 unfold mfC; rw[h1,h2,h3,h4,h5]
theorem zDB{size n:Nat}(h:Own size v n cs):zrb v=true:=by
 rcases h with⟨rfl,_⟩|⟨p,rfl|rfl,_⟩ <;> rfl
theorem zFy(y:Nat):(mkY pr ver ck b (y+1)).cks=(mkY pr ver ck b y).cks++[zhI b ck.toNat y]:=by
 simp[mkY,List.range_succ]
set_option maxHeartbeats 4000000 in
theorem zHp(hO:St H Γ)(hv:RdB Γ v b)(hb:By b)(hl:b.length≤1000000)(hver:ver < 18446744073709551616)(hck:-9223372036854775808≤ck∧ck≤9223372036854775807)(hp:pr.length≤10000)
  (hk0:¬ zIa (mkF pr ver ck b)→∀ H',St H' Γ→K (.tuple [agg (mfC m0 zwa),int 131].toArray) H')
  (hk1:zIa (mkF pr ver ck b)→∀ H' cv,St H' (Γ++zRa cv (hsC (mkF pr ver ck b).cks))→RdH (zRa cv (hsC (mkF pr ver ck b).cks)) cv (mkF pr ver ck b).cks→K (.tuple [agg (mfC (mkF pr ver ck b) cv),int 0].toArray) H') :
  wCall P zWd [str pr,zwb .u64 ver,int ck,v] H K:=by
 apply zPr; unfold zFq
 rw[zcM]
 refine nw hO.z ?_
 clear hO
 intro p8 H hO
 replace hO:St H (Γ++[(p8,⟨mfC m0 zwa,true⟩)]):=hO
 refine zxa hv.lenSl ?_
 refine zig hO hv.app hb (by omega) ?_
 clear hO
 intro H hO
 refine zaa (bMk _ _ _ _ _ zDb) ?_
 refine nw hO ?_
 clear hO
 intro p10 H hO
 refine sw hO 1 rfl (by rfl) (zta zDb) (zlc rfl) ?_
 clear hO
 intro H hO
 refine zxa hv.lenSl ?_
 refine zui (by omega) (by omega) ?_
 have hcnt:mkF pr ver ck b=mkY pr ver ck b (cnt b.length ck).toNat:=rfl
 have hc0:0≤cnt b.length ck:=zIm
 generalize hQ:cnt b.length ck=Q at *
 obtain⟨N,rfl⟩:∃ N:Nat,Q=N:=⟨Q.toNat,by omega⟩
 rw[Int.toNat_natCast] at hcnt
 rw[hcnt] at hk0 hk1
 refine zaa zKc ?_
 refine zoa (fun h64=>?_) (fun h64=>?_)
 ·refine zaa zuJ ?_
  refine sw hO 0 rfl (by rfl) (by rfl) (by rfl) ?_
  clear hO
  intro H hO
  refine lw hO 0 rfl (by rfl) (by omega) ?_
  refine hk0 ?_ H hO.left
  intro hr
  have:=hr.2.2.2.2.2.2.2.2.2
  rw[zhi] at this
  omega
 have hN:N≤64:=by omega
 have hmul:N=0∨∃ C:Nat,ck=C∧0 < C∧(N - 1) * C≤b.length∧b.length≤N * C∧0 < N:=by
  unfold cnt at hQ
  split at hQ
  ·left; omega
  ·right
   rename_i hne
   refine⟨ck.toNat,by omega,by omega,?_⟩
   have e1:(((b.length:Nat):Int) - 1) / ck=(((b.length - 1) / ck.toNat:Nat):Int):=by
    rw[Int.natCast_ediv,show ((b.length - 1:Nat):Int)=(b.length:Int) - 1 by omega,show ((ck.toNat:Nat):Int)=ck by omega]
   rw[e1] at hQ
   have h1:=Nat.div_mul_le_self (b.length - 1) ck.toNat
   have h2:=Nat.lt_div_mul_add (a:=b.length - 1) (b:=ck.toNat) (by omega)
   have h3:N - 1=(b.length - 1) / ck.toNat:=by
    have:N=(b.length - 1) / ck.toNat+1:=Int.ofNat_inj.1 (by rw[← hQ]; rfl)
    rw[this]; rfl
   have hN1:0 < N:=by
    have:N=(b.length - 1) / ck.toNat+1:=Int.ofNat_inj.1 (by rw[← hQ]; rfl)
    rw[this]; exact Nat.succ_pos _
   have h4:N * ck.toNat=(b.length - 1) / ck.toNat * ck.toNat+ck.toNat:=by
    rw[show N=(b.length - 1) / ck.toNat+1 from Int.ofNat_inj.1 (by rw[← hQ]; rfl),Nat.succ_mul]
   rw[h3]
   generalize (b.length - 1) / ck.toNat * ck.toNat=Z at *
   generalize N * ck.toNat=Z2 at *
   refine⟨?_,?_,?_⟩ <;> omega
 have okY:∀ y,y≤N→(mkY pr ver ck b y).Ok:=fun y hy=>zju hver hck hl hp (by omega)
 have hhd:∀ (y:Nat) (z:Value),mfC (mkY pr ver ck b y) z=mfC (mkY pr ver ck b 0) z:=fun y z=>ziI rfl rfl rfl rfl rfl
 have hd:=(okY 0 (Nat.zero_le _)).dl
 replace hO:St H ((Γ++[(p8,⟨mfC m0 zwa,true⟩),(p10,⟨mfC (mkY pr ver ck b 0) zwa,true⟩)])++zRa zwa (hsC (mkY pr ver ck b 0).cks)):=hO.z
 refine zwm (fun k l' H'=>∃ (y:Nat) (cv:Value),y≤N∧k=N - y∧l'=[int ck,v,ptr p8 0,int 0,ptr p10 0,int N,int y]∧St H' ((Γ++[(p8,⟨mfC m0 zwa,true⟩),(p10,⟨mfC (mkY pr ver ck b 0) cv,true⟩)])++zRa cv (hsC (mkY pr ver ck b y).cks))∧Own 32 cv y (hsC (mkY pr ver ck b y).cks)) _ _ ?_ N _ _ ⟨0,zwa,by omega,by omega,rfl,hO,.nil⟩
 clear hO
 rintro k l' H ⟨y,cv,hy,rfl,rfl,hO,how⟩
 unfold zsl
 try simp only[zja,zka]
 refine zaa zMa ?_
 refine zoa (fun hlt=>?_) (fun hlt=>?_)
 ·have hy:y < N:=by omega
  obtain⟨C,rfl,hC,hm1,hm2,hN0⟩:=hmul.resolve_left (by omega)
  have hyC:y * C≤(N - 1) * C:=Nat.mul_le_mul_right C (by omega)
  have hto:(y+1) * C=y * C+C:=Nat.succ_mul y C
  refine zaa (zdu (by rw[← Int.natCast_mul]; omega) (by rw[← Int.natCast_mul]; omega)) ?_
  refine zxa hv.lenSl ?_
  refine zEa (fun l' H'=>l'=[int C,v,ptr p8 0,int 0,ptr p10 0,int N,int y,int ((y * C:Nat):Int),int ((min (y * C+C) b.length:Nat):Int)]∧H=H') ?_ ?_
  ·refine zaa (zBb (by omega) (by omega)) ?_
   refine zaa zMa ?_
   refine zoa (fun h=>?_) (fun h=>?_)
   ·have h5:y * C+C≤(N - 1) * C:=by rw[← hto]; exact Nat.mul_le_mul_right C (by omega)
    refine zaa (zoc (by rw[← Int.natCast_mul]; omega) (by rw[← Int.natCast_mul]; omega)) ?_
    refine⟨?_,rfl⟩
    rw[show min (y * C+C) b.length=y * C+C by omega,Int.natCast_add,Int.natCast_mul]
   ·have h6:y=N - 1:=by omega
    have h5:N * C=y * C+C:=by rw[← hto,h6,show N - 1+1=N by omega]
    refine⟨?_,rfl⟩
    rw[show min (y * C+C) b.length=b.length by omega,Int.natCast_mul]
  rintro l' H' ⟨rfl,rfl⟩
  try simp only[zja,zka]
  refine zaa zba ?_
  refine zpa hO (Γ.length+1) (zAa (zza rfl)) (zzf hd) ?_
  obtain⟨w,hw,hin⟩:=zUl hv (i:=y * C) (t:=min (y * C+C) b.length) (by omega) (by omega)
  refine zaa hw ?_
  have hO1:=hO
  refine zig hO (hin _ hv).app.app (By.drop (By.take hb)) (by rw[List.length_drop,List.length_take]; omega) ?_
  clear hO
  intro H hO
  refine⟨zFb hO1 (Γ.length+1) (zAa (zza rfl)) hO (Γ.length+1) (zAa (zza rfl)) (zce (zDB how)),?_⟩
  clear hO1
  have hch:sha ((b.take (min (y * C+C) b.length)).drop (y * C))=zhI b (C:Int).toNat y:=by
   unfold zhI
   rw[Int.toNat_natCast]
   congr 1
   rw[List.drop_take]
   by_cases h7:y * C+C≤b.length
   ·rw[show min (y * C+C) b.length - y * C=C by omega]
   ·rw[List.take_of_length_le (by rw[List.length_drop]; omega),List.take_of_length_le (by rw[List.length_drop]; omega)]
  rw[hch]
  have hcl:(zhI b (C:Int).toNat y).length=32:=zDb
  refine zCa hO (zqJ _ hcl _) ?_
  clear hO
  intro q H hO
  refine zei hO how (by rw[zoj]; exact hcl) (by omega) (zze _) (by omega) (by omega) ?_
  clear hO
  intro cv2 H hO how2
  rw[← zks,← zFy] at hO how2
  refine zaa zba ?_
  refine zZa hO (Γ.length+1) (zAa (zza rfl)) how2.one1 (by rw[zta hd]; omega) (zCB hd) ?_
  clear hO
  intro H hO
  rw[List.set_append_left _ _ (by simp),Go.Ab.set_r] at hO
  refine zaa (zCe (b:=1) (by omega)) ?_
  exact⟨N - (y+1),by omega,y+1,cv2,by omega,rfl,rfl,hO,how2⟩
 ·have ey:y=N:=by omega
  subst ey
  refine zSa rfl ?_
  try simp only[zja,zka]
  have oky:=okY y (Nat.le_refl _)
  have hrd:RdH (zRa cv (hsC (mkY pr ver ck b y).cks)) cv (mkY pr ver ck b y).cks:=zbB (by rw[zhi]; exact how)
  rw[← hhd y cv] at hO
  refine zHa hO (Γ.length+1) (zAa (zza rfl)) (zta oky.dl) (by omega) ?_
  refine zUc oky hrd.app' hO ?_
  clear hO
  intro H hO
  refine zaa zJb ?_
  refine znd (fun hr=>?_) (fun hr=>?_)
  ·have hr:¬ zIa (mkY pr ver ck b y):=by simpa using hr
   refine zaa zuJ ?_
   refine zva hO (Γ.length+0) (zAa (zza rfl)) (by rfl) (by rfl) (by rfl) ?_
   clear hO
   intro H hO
   rw[List.set_append_left _ _ (by simp),Go.Ab.set_r] at hO
   refine zHa hO (Γ.length+0) (zAa (zza rfl)) (by rfl) (by omega) ?_
   exact hk0 hr H hO.left.left
  ·have hr:zIa (mkY pr ver ck b y):=by simpa using hr
   refine zHa hO (Γ.length+1) (zAa (zza rfl)) (zta oky.dl) (by omega) ?_
   refine zva hO (Γ.length+0) (zAa (zza rfl)) (by rfl) (zta oky.dl) (zlc hrd.one) ?_
   clear hO
   intro H hO
   rw[List.set_append_left _ _ (by simp),Go.Ab.set_r] at hO
   refine zHa hO (Γ.length+0) (zAa (zza rfl)) (zta oky.dl) (by omega) ?_
   exact hk1 hr H cv (St.mid hO) hrd
end J
set_option maxRecDepth 100000
namespace J
open Go Go.Ab
variable{H:Heap}{Γ Γ0 Γ1 Γ2 Δ G L S T X F:List (Nat × Blk)}{K:VH}{v w x cv dv kv:Value}{xs ys zs b key:List Int}{i j p q o n k c:Nat}{e er:Int}{cs cs':List Value}{l pr:List UInt8}{m sd:Mf}{t:Tm}{A B C:Ring}{s:Ck}
def mR(A B C:Ring):List (Nat × Blk):=[(A.q,⟨A.cs,true⟩),(A.r,⟨rgC A.q A.n 2 A.f A.es.length,true⟩),(B.q,⟨B.cs,true⟩),(B.r,⟨rgC B.q B.n 1 B.f B.es.length,true⟩),(C.q,⟨C.cs,true⟩),(C.r,⟨rgC C.q C.n 1 C.f C.es.length,true⟩)]
def Ck.new(key:List Int)(t:Tm)(nb nc:Nat):Ck:=⟨key,t,[],[],[],nb,nc,m0,none,false,0⟩
theorem znG(h:Rg 2 A.n A.f [] A.cs)(he:A.es=[]):RgP S A []:=⟨by rw[he]; exact h,by rw[he]; exact .nil,fun p hp=>by cases hp⟩
theorem zEB(h:Rg 1 A.n A.f [] A.cs)(he:A.es=[]):RgN S A []:=⟨by rw[he]; exact h,by rw[he]; exact .nil⟩
theorem zOj(hO:St H Γ1)(hp:Γ1.Perm (Γ++mR A B C))(hv:RdB Γ v key)(hb:By key)(hl:key.length≤1000000)(ht:t.pr.length≤1000000)
  (hA:Rg 2 A.n A.f [] A.cs) (hB:Rg 1 B.n B.f [] B.cs) (hC:Rg 1 C.n C.f [] C.cs) (eA:A.es=[]) (eB:B.es=[]) (eC:C.es=[])
  (hk:∀ H' X kv c,CkSt (Γ++X) [] (Ck.new key t B.n C.n) A B C c kv H'→K (ptr c 0) H'):wCall P zPd [v,agg (tmC t),ptr A.r 0,ptr B.r 0,ptr C.r 0] H K:=by
 refine zAB (hO.perm hp) hv.app hl ?_
 intro H' kv kc c hO' hkv
 refine hk H' (zRa kv kc) kv c ⟨zwa,.pointer none,[],⟨hkv.rd.app',hb,hl,ht,znG hA eA,zEB hB eB,zEB hC eC,rfl,rfl,zny,.inl ⟨rfl,rfl⟩,.nos⟩,?_⟩
 have h2:St H' (((Γ++zRa kv kc)++[])++(mR A B C++[(c,⟨ckC kv t A.r B.r C.r m0 zwa (.pointer none) false 0,true⟩)])):=by
  refine hO'.perm ?_
  generalize mR A B C=M; generalize zRa kv kc=Y
  exact (by classical exact List.perm_iff_count.2 fun _=>by simp only[List.count_append,List.count_nil,List.set_cons_zero]; omega)
 exact h2
theorem bPc(a:Int)(x:Option Addr)(n c:Nat):(zDa P 35).f [(0,int a),(1,.slice x n c)]=some (agg [int a,.slice x n c]):=by kernel_rfl
theorem zhK(a:Int):(zDa P 35).f [(0,int a)]=some (agg [int a,zwa]):=by kernel_rfl
theorem nnP(p:Nat):(zna P .eql 32 true).f (ptr p 0) (.pointer none)=some (.bool false):=by kernel_rfl
theorem nnN(p:Nat):(zna P .eql 36 true).f (ptr p 0) (.pointer none)=some (.bool false):=by kernel_rfl
theorem nnC(p:Nat):(zna P .eql 40 true).f (ptr p 0) (.pointer none)=some (.bool false):=by kernel_rfl
theorem zDD(k:Nat)(hi:Γ[k]?=some (q,⟨by8 xs,true⟩)):Stay Γ (Go.Ab.sl q 0 n c):=.inr ⟨q,0,n,c,k,_,rfl,hi,zxd _,.inl rfl⟩
section step
variable{ain r:List (Int × List Int)}{bk ou:List Sn}{nb nc w:Nat}{a:Int}
theorem zZl(h1:bk.length≠nb)(h2:ou.length≠nc):(⟨key,t,(-1,b)::r,bk,ou,nb,nc,sd,none,false,0⟩:Ck).step=(true,(⟨key,t,r,bk,ou,nb,nc,sd,none,false,0⟩:Ck).opens b):=by
 unfold Ck.step
 rw[if_neg (by simp)]
 simp only
 rw[if_neg (by rintro (h|h); exact h1 h; exact h2 h),if_pos trivial]
 rfl
theorem zGy(h1:bk.length≠nb)(h2:ou.length≠nc)(ha:a≠-1):(⟨key,t,(a,b)::r,bk,ou,nb,nc,sd,none,false,0⟩:Ck).step=(true,(⟨key,t,r,bk,ou,nb,nc,sd,none,false,0⟩:Ck)):=by
 unfold Ck.step
 rw[if_neg (by simp)]
 simp only
 rw[if_neg (by rintro (h|h); exact h1 h; exact h2 h),if_neg ha]
 rfl
theorem zIp(h1:bk.length≠nb)(h2:ou.length≠nc)(hw:w≠sd.cks.length):(⟨key,t,((w:Int),b)::r,bk,ou,nb,nc,sd,some (xs,w),false,0⟩:Ck).step=(true,(⟨key,t,r,bk,ou,nb,nc,sd,some (xs,w),false,0⟩:Ck).takes xs w b):=by
 unfold Ck.step
 rw[if_neg (by simp)]
 simp only
 rw[if_neg hw,if_neg (by rintro (h|h); exact h1 h; exact h2 h),if_pos trivial]
 rfl
theorem step_skip(h1:bk.length≠nb)(h2:ou.length≠nc)(hw:w≠sd.cks.length)(ha:a≠w):(⟨key,t,(a,b)::r,bk,ou,nb,nc,sd,some (xs,w),false,0⟩:Ck).step=(true,(⟨key,t,r,bk,ou,nb,nc,sd,some (xs,w),false,0⟩:Ck)):=by
 unfold Ck.step
 rw[if_neg (by simp)]
 simp only
 rw[if_neg hw,if_neg (by rintro (h|h); exact h1 h; exact h2 h),if_neg ha]
 rfl
theorem step_end(h2:ou.length≠nc)(hw:w=sd.cks.length)(hd:sha xs=sd.dg):(⟨key,t,r,bk,ou,nb,nc,sd,some (xs,w),false,0⟩:Ck).step=(true,(⟨key,t,r,bk,ou++[.fin],nb,nc,sd,some (xs,w),true,0⟩:Ck)):=by
 unfold Ck.step
 rw[if_neg (by simp)]
 simp only
 rw[if_pos hw]
 unfold Ck.ends
 simp only
 rw[if_neg h2,if_pos hd]
theorem zFB{hs:Option (List Int × Nat)}:(⟨key,t,r,bk,ou,nb,nc,sd,hs,true,er⟩:Ck).step=(false,(⟨key,t,r,bk,ou,nb,nc,sd,hs,true,er⟩:Ck)):=by
 unfold Ck.step
 rw[if_pos (.inr rfl)]
theorem zED{hs:Option (List Int × Nat)}{dn:Bool}(h:er≠0):(⟨key,t,r,bk,ou,nb,nc,sd,hs,dn,er⟩:Ck).step=(false,(⟨key,t,r,bk,ou,nb,nc,sd,hs,dn,er⟩:Ck)):=by
 unfold Ck.step
 rw[if_pos (.inl h)]
theorem zgx{n:Int}(h1:zdb key b=(m,n,0))(h2:zLn m t=0):(⟨key,t,r,bk,ou,nb,nc,sd,none,false,0⟩:Ck).opens b=⟨key,t,r,bk++[.go n m],ou++[.go n m],nb,nc,m,some ([],0),false,0⟩:=by
 unfold Ck.opens
 simp only[h1,h2]
 rfl
theorem zGB{m':Mf}{n:Int}(h1:zdb key b=(m',n,e))(h2:e≠0):(⟨key,t,r,bk,ou,nb,nc,sd,none,false,0⟩:Ck).opens b=⟨key,t,r,bk++[.again (-1)],ou,nb,nc,sd,none,false,0⟩:=by
 unfold Ck.opens
 simp only[h1]
 rw[if_pos h2]
theorem zHB{n:Int}(h1:zdb key b=(m,n,0))(h2:zLn m t≠0):(⟨key,t,r,bk,ou,nb,nc,sd,none,false,0⟩:Ck).opens b=⟨key,t,r,bk,ou,nb,nc,sd,none,false,zLn m t⟩:=by
 unfold Ck.opens
 simp only[h1]
 rw[if_neg (by simp),if_pos h2]
theorem zhx(h:(b.length:Int)=(zsf sd w).2∧sha b=sd.cks.getD w []):(⟨key,t,r,bk,ou,nb,nc,sd,some (xs,w),false,0⟩:Ck).takes xs w b=⟨key,t,r,bk,ou++[.body w b],nb,nc,sd,some (xs++b,w+1),false,0⟩:=by
 unfold Ck.takes
 simp only
 rw[if_pos h]
theorem zIB(h:¬ ((b.length:Int)=(zsf sd w).2∧sha b=sd.cks.getD w [])):(⟨key,t,r,bk,ou,nb,nc,sd,some (xs,w),false,0⟩:Ck).takes xs w b=⟨key,t,r,bk++[.again w],ou,nb,nc,sd,some (xs,w),false,0⟩:=by
 unfold Ck.takes
 simp only
 rw[if_neg h]
end step
theorem zku{ver:Nat}{C i:Nat}(hi:i < (mkF pr ver C b).cks.length):(mkF pr ver C b).cks.getD i []=sha ((b.drop (i * C)).take C):=by
 have:i < (List.range (cnt b.length (C:Int)).toNat).length:=by
  have:=hi
  unfold mkF at this
  rw[zhi] at this
  simpa using this
 unfold mkF mkY
 simp only[List.getD_eq_getElem?_getD,List.getElem?_map,List.getElem?_eq_getElem this,Option.map_some,Option.getD_some,List.getElem_range]
 rfl
end J
set_option maxRecDepth 100000
namespace J
open Go Go.Ab
variable{H:Heap}{Γ Γ0 Γ1 Γ2 Δ G L S T X F:List (Nat × Blk)}{K:VH}{v w x cv dv kv:Value}{xs ys zs b key:List Int}{i j p q o n k c:Nat}{e er:Int}{cs cs':List Value}{l pr:List UInt8}{m sd:Mf}{t:Tm}{A B C:Ring}{s:Ck}
theorem zlu{ver:Nat}{ck:Int}(hn:zRl pr=0)(v1:1≤ver)(v2:ver≤281474976710656)(b1:1≤b.length)(b2:b.length≤65536)(c1:64≤ck)(c2:ck≤1024)(c3:ck % 64=0)(hc:cnt b.length ck≤64):zIa (mkF pr ver ck b):=by
 have h0:0≤cnt b.length ck:=zIm
 refine⟨hn,v1,v2,?_,?_,c1,c2,c3,?_,?_⟩
 ·show (1:Int)≤((b.length:Nat):Int); omega
 ·show ((b.length:Nat):Int)≤65536; omega
 ·unfold mkF; rw[zhi]; show _=cnt ((b.length:Nat):Int) ck; omega
 ·unfold mkF; rw[zhi]; omega
def zMb:List UInt8:=[99,111,114,101]
def zrs:List Int:=[97,110,32,105,109,97,103,101]
def zQg:List Int:=[107,101,121]
theorem zmu:zRl zMb=0:=by kernel_rfl
theorem zEE:By zrs:=by intro x hx; simp[zrs] at hx; omega
theorem zix:By zQg:=by intro x hx; simp[zQg] at hx; omega
theorem zgJ(H:Heap):(zia P 22 8).f [(0,.int .u8 97),(1,.int .u8 110),(2,.int .u8 32),(3,.int .u8 105),(4,.int .u8 109),(5,.int .u8 97),(6,.int .u8 103),(7,.int .u8 101)] H=some (Go.Ab.sl H.next 0 8 3,H.push (by8 zrs)):=by kernel_rfl
theorem zjx(H:Heap):(zia P 22 3).f [(0,.int .u8 107),(1,.int .u8 101),(2,.int .u8 121)] H=some (Go.Ab.sl H.next 0 3 3,H.push (by8 zQg)):=by kernel_rfl
def tmA:Tm:=⟨zMb,0,100⟩
theorem ziK:(zDa P 25).f [(0,.string ⟨#[99,111,114,101]⟩),(2,.int .i64 100)]=some (agg (tmC tmA)):=by kernel_rfl
theorem kpG{q o n c j:Nat}(hO:St H Γ)(hi:Γ[j]?=some (q,⟨cs,true⟩))(hn:0 < n)(hk:K (Go.Ab.sl q o n c) H):opW (zSf (Go.Ab.sl q o n c) H) K:=by
 have hj:=(List.getElem?_eq_some_iff.1 hi).1
 refine kp (Γ:=[]) (L:=Γ) (cs:=cs) (by simpa using hO) j hi hn hk
theorem zJp{m:Mf}(ok:m.Ok)(h:zIa m):(zXa key m).length≤2228∧84≤(zXa key m).length:=⟨(zVl ok h).2.1,(zVl ok h).2.2.1⟩
theorem zHy{m:Mf}(hr:zIa m)(h1:m.cks.length=1):(zsf m ((0:Nat):Int)).2=min m.ck m.sz:=by
 unfold zsf
 rw[if_neg (by intro h; rcases h with h|h|h; exact h hr; omega; rw[h1] at h; omega)]
 show min m.ck (m.sz - ((0:Nat):Int) * m.ck)=_
 simp
theorem zss{m:Mf}(ok:m.Ok):By (zXa key m):=zyd (zYw ok) zjB
structure R3 (A B C:Ring) (x1 x2 x3:Int):Prop where
 a:Rg 2 A.n A.f [] A.cs
 b:Rg 1 B.n B.f [] B.cs
 c:Rg 1 C.n C.f [] C.cs
 ea:A.es=[]
 eb:B.es=[]
 ec:C.es=[]
 na:A.n=zgd x1
 nb:B.n=zgd x2
 nc:C.n=zgd x3
theorem zFD{x1 x2 x3:Int}{K:Value→Value→VH}(hO:St H Γ)(hk:∀ H' A B C,R3 A B C x1 x2 x3→St H' (Γ++mR A B C)→K (ptr A.r 0) (ptr B.r 0) (ptr C.r 0) H') :
  wCall P znb [int x1] H fun t1 H1=>wCall P zNa [int x2] H1 fun t2 H2=>wCall P zNa [int x3] H2 fun t3 H3=>K t1 t2 t3 H3:=by
 refine ztB hO.z ?_
 clear hO
 intro H q1 r1 cs1 g1 hO
 refine zcu hO ?_
 clear hO
 intro H q2 r2 cs2 g2 hO
 refine zcu hO ?_
 clear hO
 intro H q3 r3 cs3 g3 hO
 exact hk H ⟨q1,r1,zgd x1,0,cs1,[]⟩ ⟨q2,r2,zgd x2,0,cs2,[]⟩ ⟨q3,r3,zgd x3,0,cs3,[]⟩ ⟨g1,g2,g3,rfl,rfl,rfl,rfl,rfl,rfl⟩ hO
def mA:Mf:=mkF zMb 3 64 zrs
theorem zPj:zIa mA:=zlu zmu (by decide) (by decide) (by decide) (by decide) (by decide) (by decide) (by decide) (by decide)
theorem zIy:mA.Ok:=zju (by decide) (by decide) (by decide) (by decide) (by decide)
theorem zcr:mA.cks.length=1:=by unfold mA mkF; rw[zhi]; decide
theorem zhJ:mA.cks.getD 0 []=sha zrs:=by
 have h:0 < (mkF zMb 3 ((64:Nat):Int) zrs).cks.length:=by show 0 < mA.cks.length; rw[zcr]; omega
 exact (zku h).trans rfl
theorem zjI:zLn mA tmA=0:=by
 refine zdJ.2 ⟨zPj,rfl,?_,?_⟩
 ·show ¬ (3:Nat) < 0; omega
 ·show ¬ ((zrs.length:Nat):Int) > 100; decide
theorem zKp(h:CkSt S [] s A B C c kv H):St H S:=by
 obtain⟨sv,sp,T,h1,hO⟩:=h
 exact hO.left.left
set_option maxHeartbeats 8000000 in
theorem ztj(hO:St H Γ)(hk:∀ H',St H' Γ→K (.bool true) H'):wCall P zpc [] H K:=by
 apply zOk; unfold zni
 refine zCa hO (zgJ _) ?_
 clear hO
 intro qi H hO
 refine kpG hO (zza (k:=0) rfl) (by omega) ?_
 have hq:RdB (Γ++[(qi,⟨by8 zrs,true⟩)]) (Go.Ab.sl qi 0 8 3) zrs:=zMy 0 rfl (.inr rfl) rfl
 have hs:Stay (Γ++[(qi,⟨by8 zrs,true⟩)]) (Go.Ab.sl qi 0 8 3):=zDD (Γ.length+0) (zza rfl)
 have back:∀ {H},St H (Γ++[(qi,⟨by8 zrs,true⟩)])→St H Γ:=fun h=>h.left
 generalize Γ++[(qi,(⟨by8 zrs,true⟩:Blk))]=Γ1 at *
 refine zHp (pr:=zMb) (ver:=3) (ck:=64) hO hq zEE (by decide) (by decide) (by decide) (by decide) (fun h=>absurd zPj h) ?_
 clear hO
 intro _ H cv hO hcv
 replace hO:St H (Γ1++zRa cv (hsC mA.cks)):=hO
 replace hcv:RdH (zRa cv (hsC mA.cks)) cv mA.cks:=hcv
 show opP (zFc 0 (.tuple [agg (mfC mA cv),int 0].toArray)) _
 refine zaa zHj ?_
 refine zaa zIj ?_
 rw[zcM]
 refine nw hO ?_
 clear hO
 intro p2 H hO
 rw[← List.append_assoc] at hO
 refine zva hO (_+0) (zza rfl) (by rfl) (zta zIy.dl) (zlc hcv.one) ?_
 clear hO
 intro H hO
 replace hO:=hO.set_r
 replace hO:St H ((Γ1++zRa cv (hsC mA.cks))++[(p2,⟨mfC mA cv,true⟩)]):=hO
 refine zCa hO (zjx _) ?_
 clear hO
 intro qk H hO
 refine kpG hO (zza (k:=0) rfl) (by omega) ?_
 refine zHa hO ((Γ1++zRa cv (hsC mA.cks)).length+0) (zAa (zza rfl)) (zta zIy.dl) (by omega) ?_
 refine zAe (key:=zQg) zIy hO (zMy 0 rfl (.inr rfl) rfl) hcv.app'.app.app zix (by decide) (fun h=>absurd zPj h) ?_
 clear hO
 intro _ H hv hcs hO hh
 refine zaa zHj ?_
 refine zaa zIj ?_
 have hq1:RdB ((((Γ1++zRa cv (hsC mA.cks))++[(p2,⟨mfC mA cv,true⟩)])++[(qk,⟨by8 zQg,true⟩)])++zRa hv hcs) (Go.Ab.sl qi 0 8 3) zrs:=hq.app.app.app.app
 have hs1:Stay ((((Γ1++zRa cv (hsC mA.cks))++[(p2,⟨mfC mA cv,true⟩)])++[(qk,⟨by8 zQg,true⟩)])++zRa hv hcs) (Go.Ab.sl qi 0 8 3):=hs.app.app.app.app
 have hh1:RdB ((((Γ1++zRa cv (hsC mA.cks))++[(p2,⟨mfC mA cv,true⟩)])++[(qk,⟨by8 zQg,true⟩)])++zRa hv hcs) hv (zXa zQg mA):=hh.rd.app'
 have hh2:Stay ((((Γ1++zRa cv (hsC mA.cks))++[(p2,⟨mfC mA cv,true⟩)])++[(qk,⟨by8 zQg,true⟩)])++zRa hv hcs) hv:=(OwnB.stay hh).app'
 have back1:∀ {H},St H ((((Γ1++zRa cv (hsC mA.cks))++[(p2,⟨mfC mA cv,true⟩)])++[(qk,⟨by8 zQg,true⟩)])++zRa hv hcs)→St H Γ:=fun h=>back h.left.left.left.left
 clear hq hs hh back hcv
 generalize (((Γ1++zRa cv (hsC mA.cks))++[(p2,(⟨mfC mA cv,true⟩:Blk))])++[(qk,(⟨by8 zQg,true⟩:Blk))])++zRa hv hcs=Γ2 at *
 refine zFD hO ?_
 clear hO
 intro H A B C h3 hO
 refine zYb ?_
 refine zaa (nnP _) ?_
 refine zKb rfl ?_
 refine zaa (nnN _) ?_
 refine zaa zbb ?_
 refine zKb rfl ?_
 try simp only[zja,zka]
 refine zCa hO (zjx _) ?_
 clear hO
 intro qk H hO
 refine kpG hO (zza (k:=0) rfl) (by omega) ?_
 refine zaa ziK ?_
 refine zOj (Γ:=Γ2++[(qk,⟨by8 zQg,true⟩)]) (key:=zQg) (t:=tmA) hO (by generalize mR A B C=M; exact (by classical exact List.perm_iff_count.2 fun _=>by simp only[List.count_append,List.count_nil,List.set_cons_zero]; omega)) (zMy 0 rfl (.inr rfl) rfl) zix (by decide) (by decide) h3.a h3.b h3.c h3.ea h3.eb h3.ec ?_
 clear hO
 intro H X kv c hS
 obtain⟨ah,nh,ch,rfl⟩:=hh1.shape
 have hl:=(zJp (key:=zQg) zIy zPj).1
 refine zaa (bPc _ _ _ _) ?_
 refine zqj (p:=(-1,zXa zQg mA)) hS ⟨_,rfl,hh1.app.app,zss zIy,fun _=>hh2.app.app⟩ (by show (zXa zQg mA).length≤1000000; omega) ?_
 clear hS
 intro b1 H A1 sA ht hf hS
 have e4:A.n=4:=h3.na
 have nb4:B.n=4:=h3.nb
 have nc4:C.n=4:=h3.nc
 obtain rfl:b1=true:=by
  cases b1 with
  | true=>rfl
  | false=>have:=hf rfl; rw[e4] at this; cases this
 refine zaa (bPc _ _ _ _) ?_
 rw[← sA.r]
 refine zqj (p:=(0,zrs)) hS ⟨_,rfl,hq1.app.app,zEE,fun _=>hs1.app.app⟩ (by decide) ?_
 clear hS
 intro b2 H A2 sA2 ht2 hf2 hS
 obtain rfl:b2=true:=by
  cases b2 with
  | true=>rfl
  | false=>have:=hf2 rfl; rw[sA.n,e4] at this; cases this
 rw[nb4,nc4] at hS
 replace hS:CkSt ((Γ2++[(qk,⟨by8 zQg,true⟩)])++X) [] ⟨zQg,tmA,[(-1,zXa zQg mA),(((0:Nat):Int),zrs)],[],[],4,4,m0,none,false,0⟩ A2 B C c kv H:=hS
 have hopen:zdb zQg (zXa zQg mA)=(mA,((zXa zQg mA).length:Int),0):=by
  have:=zKm (key:=zQg) zIy zPj []
  rwa [List.append_nil] at this
 refine zYb ?_
 refine zaa (nnC _) ?_
 refine zKb rfl ?_
 refine zfo hS ?_
 refine zaa zeb ?_
 refine zaa zbb ?_
 refine zhc (fun h=>h rfl) ?_
 refine zEc hS ?_
 clear hS
 rw[zZl (by decide) (by decide),zgx hopen zjI]
 intro H X1 A3 B1 C1 q1 q2 q3 hS
 refine zaa zJb ?_
 refine zaa (zsb (fun h=>h rfl)) ?_
 refine zKb rfl ?_
 refine zfo hS ?_
 have hw1:(⟨zQg,tmA,[(((0:Nat):Int),zrs)],[]++[.go ((zXa zQg mA).length:Int) mA],[]++[.go ((zXa zQg mA).length:Int) mA],4,4,mA,some ([],0),false,0⟩:Ck).wants=0:=by
  unfold Ck.wants
  simp only
  rw[if_neg (by rw[zcr]; omega)]
  rfl
 rw[hw1]
 refine zaa zeb ?_
 refine zaa zbb ?_
 refine zhc (fun h=>h rfl) ?_
 refine zEc hS ?_
 clear hS hw1
 rw[zIp (by decide) (by decide) (by rw[zcr]; omega),zhx ⟨by rw[zHy zPj zcr]; rfl,by rw[zhJ]⟩]
 intro H X2 A4 B2 C2 q4 q5 q6 hS
 refine zaa zJb ?_
 refine zaa (zsb (fun h=>h rfl)) ?_
 refine zKb rfl ?_
 refine zfo hS ?_
 have hw2:(⟨zQg,tmA,[],[]++[.go ((zXa zQg mA).length:Int) mA],([]++[.go ((zXa zQg mA).length:Int) mA])++[.body ((0:Nat):Int) zrs],4,4,mA,some ([]++zrs,0+1),false,0⟩:Ck).wants=-2:=by
  unfold Ck.wants
  simp only
  rw[if_pos (by rw[zcr])]
 rw[hw2]
 refine zaa zeb ?_
 refine zaa zbb ?_
 refine zhc (fun h=>h rfl) ?_
 refine zEc hS ?_
 clear hS hw2
 rw[step_end (by decide) (by rw[zcr]) rfl]
 intro H X3 A5 B3 C3 q7 q8 q9 hS
 refine zaa zJb ?_
 refine zaa (zsb (fun h=>h rfl)) ?_
 refine zKb rfl ?_
 refine zEc hS ?_
 clear hS
 rw[zFB]
 intro H X4 A6 B4 C4 q10 q11 q12 hS
 refine zaa zbb ?_
 refine zKb rfl ?_
 refine zVv hS ?_
 refine zaa zJb ?_
 refine zaa zbb ?_
 refine zKb rfl ?_
 try simp only[zja,zka]
 have rB:B.r=B4.r:=by rw[q11.r,q8.r,q5.r,q2.r]
 have rC:C.r=C4.r:=by rw[q12.r,q9.r,q6.r,q3.r]
 rw[rB,rC]
 refine zYl hS (fun h=>by cases h) ?_
 clear hS
 intro a rest he H B5 el1 sB hel1 hS
 cases he
 obtain⟨cv1,x1,rfl,_⟩:=zlf hel1
 have row1:=hel1.row
 refine zaa zHj ?_
 refine zaa zIj ?_
 rw[zcT]
 refine zsj hS zRb.1 row1.1 row1.2 ?_
 clear hS
 intro p10 H hS
 refine zrj hS (fun h=>by cases h) ?_
 clear hS
 intro a rest he H C5 el2 sC hel2 hS
 cases he
 obtain⟨cv2,x2,rfl,_⟩:=zlf hel2
 have row2:=hel2.row
 refine zaa zHj ?_
 refine zaa zIj ?_
 refine zsj hS zRb.1 row2.1 row2.2 ?_
 clear hS
 intro p12 H hS
 rw[← sC.r]
 refine zrj hS (fun h=>by cases h) ?_
 clear hS
 intro a rest he H C6 el3 sC2 hel3 hS
 cases he
 obtain⟨cv3,x3,rfl,_,_,hx3,_⟩:=zlf hel3
 have row3:=hel3.row
 refine zaa zHj ?_
 refine zaa zIj ?_
 refine zsj hS zRb.1 row3.1 row3.2 ?_
 clear hS
 intro p14 H hS
 rw[← sC2.r]
 refine zrj hS (fun h=>by cases h) ?_
 clear hS
 intro a rest he H C7 el4 sC3 hel4 hS
 cases he
 obtain⟨cv4,x4,rfl,_⟩:=zlf hel4
 have row4:=hel4.row
 refine zaa zHj ?_
 refine zaa zIj ?_
 refine zsj hS zRb.1 row4.1 row4.2 ?_
 clear hS
 intro p16 H hS
 refine zaa zba ?_
 refine ckl hS _ (zAa (zAa (zAa (zza (k:=0) rfl)))) (v:=int 2) rfl ?_
 refine zaa zYa ?_
 refine zsc rfl ?_
 refine zaa zba ?_
 refine ckl hS _ (zAa (zAa (zAa (zza (k:=0) rfl)))) (v:=int ((zXa zQg mA).length:Int)) rfl ?_
 refine zxa hh1.lenSl ?_
 refine zaa zYa ?_
 refine zaa (zub rfl) ?_
 refine zsc rfl ?_
 refine zaa zba ?_
 refine ckl hS _ (zAa (zAa (zza (k:=0) rfl))) (v:=int 2) rfl ?_
 refine zaa zYa ?_
 refine zaa (zub rfl) ?_
 refine zsc rfl ?_
 refine zaa zba ?_
 refine ckl hS _ (zAa (zza (k:=0) rfl)) (v:=int 3) rfl ?_
 refine zaa zYa ?_
 refine zaa (zub rfl) ?_
 refine zsc rfl ?_
 refine zaa zba ?_
 refine ckl hS _ (zAa (zza (k:=0) rfl)) (v:=x3) rfl ?_
 refine zxa (RdB.str (xs:=zrs) (zKp hS) hx3.app.app) ?_
 refine zaa (v:=.bool true) (by kernel_rfl) ?_
 refine zaa (zub rfl) ?_
 refine zhd rfl ?_
 refine zaa zba ?_
 refine ckl hS _ (zza (k:=0) rfl) (v:=int 4) rfl ?_
 refine zaa zYa ?_
 refine zaa zQb ?_
 have:=zKp hS
 refine hk H (back1 ?_)
 simp only[List.append_assoc] at this
 exact this.left
end J
set_option maxRecDepth 100000
namespace J
open Go Go.Ab
variable{H:Heap}{Γ Γ0 Γ1 Γ2 Δ G L S T X F:List (Nat × Blk)}{K:VH}{v w x cv dv kv av:Value}{xs ys zs b key:List Int}{i j p q o n k c:Nat}{e er x0 x1 x2:Int}{cs cs':List Value}{l pr:List UInt8}{m sd:Mf}{t:Tm}{A B C:Ring}{s:Ck}
end J
set_option maxRecDepth 100000
namespace J
open Go Go.Ab
variable{H:Heap}{Γ Γ0 Γ2 Δ G L:List (Nat × Blk)}{K:VH}{v w x cv dv iv:Value}{xs ys zs:List Int}{m a:Mf}{cks:List (List Int)}
theorem zJB{ts:List TypeId}{N:Nat}{c:List Value}{b:List (List Value)}(h:ShpL P (22::ts) N c b) :
  ∃ v c' b1 b2 xs,c=v::c'∧b=b1++b2∧RdB (zsu N b1) v xs∧(xs≠[]→Stay (zsu N b1) v)∧By xs∧ShpL P ts (N+b1.length) c' b2:=by
 rcases zeA zAI h with⟨c',e1,h3⟩|⟨len,cells,c',bs,b',e1,eb1,hm,hl,h3,h4⟩
 ·exact⟨_,c',[],b,[],e1,rfl,.inl ⟨rfl,rfl⟩,fun _=>.inl rfl,fun x hx=>(by cases hx),h3⟩
 ·obtain⟨hb,xs,rfl,rfl,hw⟩:=zNo (k:=.u8) Go.Proofs.Tryz.underlying5 _ _ _ _ h3
  subst hb
  subst eb1
  refine⟨_,c',[_],b',xs,e1,rfl,.inr ⟨N,0,_,rfl,.inl rfl,.inr ⟨0,_,rfl,by rw[List.drop_zero]; exact List.take_of_length_le (by simp)⟩⟩,fun hne=>?_,fun x hx=>wf_u8 (hw x hx),h4⟩
  exact .inr ⟨N,0,_,_,0,_,rfl,rfl,zxd xs,.inr (by simpa [by8] using hne)⟩
theorem zoG{ts:List TypeId}{N:Nat}{c:List Value}{b:List (List Value)}(h:ShpL P (25::ts) N c b):∃ (t:Tm) (c':List Value),c=tmC t++c'∧ShpL P ts N c' b:=by
 have h0:=zgi Go.Proofs.Tryz.underlying25 h
 have h0:ShpL P (9::23::3::ts) N c b:=h0
 obtain⟨pr,c1,rfl,h1⟩:=zvD Go.Proofs.Tryz.underlying9 h0
 obtain⟨fl,c2,rfl,w2,h2⟩:=zCj (k:=.u64) Go.Proofs.Tryz.underlying23 h1
 obtain⟨rm,c3,rfl,w3,h3⟩:=zCj (k:=.i64) Go.Proofs.Tryz.underlying3 h2
 have v2:=wf_u64 w2
 have ev:Value.int .u64 fl=zwb .u64 fl.toNat:=zvm v2.1
 refine⟨⟨pr,fl.toNat,rm⟩,c3,?_,h3⟩
 unfold tmC
 rw[← ev]; rfl
theorem arg_world{ts:List TypeId}{N:Nat}{av:List Value}{b:List (List Value)}(h:ArgS P (28::ts) N av b) :
  ∃ kv t x0 x1 x2 key vs b1 b2,av=agg (wdC kv t [x0,x1,x2])::vs∧b=b1++b2∧RdB (zsu N b1) kv key∧By key∧ArgS P ts (N+b1.length) vs b2:=by
 obtain⟨cs,vs,b1,b2,rfl,rfl,h1,h2⟩:=zgF h (.inl ⟨_,Go.Proofs.Tryz.underlying28⟩)
 have h0:=zgi Go.Proofs.Tryz.underlying28 h1
 have h0:ShpL P [22,25,26] N cs b1:=h0
 obtain⟨kv,c1,b3,b4,key,rfl,rfl,g1,g2,g3,h3⟩:=zJB h0
 obtain⟨t,c2,rfl,h4⟩:=zoG h3
 have h5:=zqy Go.Proofs.Tryz.underlying26 h4
 obtain⟨rs,c3,hl,rfl,hw,h6⟩:=zXt (k:=.i64) Go.Proofs.Tryz.underlying3 _ _ _ _ h5
 obtain⟨rfl,rfl⟩:=zhv h6
 match rs,hl with
 | [x0,x1,x2],_=>
  exact⟨kv,t,x0,x1,x2,key,vs,b3,b2,rfl,by simp,g1,g3,by simpa using h2⟩
theorem zpG:P.underlying 29=some (.slice 45):=by kernel_rfl
theorem ziJ:P.cellsOf 45=3:=by kernel_rfl
theorem ActR.app'{S X:List (Nat × Blk)}{a:ActP}{el:List Value}(h:ActR S a el):ActR (X++S) a el:=by
 obtain⟨v,h1,w,h2,h3,h4,h5⟩:=h
 exact⟨v,h1,w,h2,h3.app',h4,fun h=>(h5 h).app'⟩
theorem RdA.app'{S X:List (Nat × Blk)}{v:Value}{acts:List ActP}(h:RdA S v acts):RdA (X++S) v acts:=by
 obtain⟨es,h1,h2⟩:=h
 exact⟨es,h1.mono (fun x hx=>List.mem_append_right _ hx),h2.imp fun _ _=>ActR.app'⟩
theorem zkx:∀ (n N:Nat) (c:List Value) (b:List (List Value)),ShpL P (List.replicate n 45) N c b→∃ (acts:List ActP) (es:List (List Value)),c=es.flatten∧acts.length=n∧Al (ActR (zsu N b)) acts es
 | 0,N,c,b,h=>by cases h; exact⟨[],[],rfl,rfl,.nil⟩
 | n+1,N,c,b,h=>by
  have h0:=zgi Go.Proofs.Tryz.underlying45 (show ShpL P (45::List.replicate n 45) N c b from h)
  have h0:ShpL P (3::35::List.replicate n 45) N c b:=h0
  obtain⟨k,c1,rfl,w1,h1⟩:=zCj (k:=.i64) Go.Proofs.Tryz.underlying3 h0
  have h2:=zgi Go.Proofs.Tryz.underlying35 h1
  have h2:ShpL P (3::22::List.replicate n 45) N c1 b:=h2
  obtain⟨a,c2,rfl,w2,h3⟩:=zCj (k:=.i64) Go.Proofs.Tryz.underlying3 h2
  obtain⟨v,c3,b1,b2,xs,rfl,rfl,g1,g2,g3,h4⟩:=zJB h3
  obtain⟨acts,es,rfl,hl,hal⟩:=zkx n _ _ _ h4
  rw[argG_append]
  refine⟨⟨k,(a,xs)⟩::acts,[int k,int a,v]::es,rfl,by simp[hl],.cons ⟨v,rfl,v,rfl,g1.app,g3,fun h=>(g2 h).app⟩ (hal.imp fun _ _=>ActR.app')⟩
theorem arg_acts{ts:List TypeId}{N:Nat}{av:List Value}{b:List (List Value)}(h:ArgS P (29::ts) N av b) :
  ∃ v vs b1 b2 acts,av=v::vs∧b=b1++b2∧RdA (zsu N b1) v acts∧ArgS P ts (N+b1.length) vs b2:=by
 obtain⟨v,vs,b1,b2,e,eb,h1,h2⟩:=ziv h (by rw[zpG]; simp) (by rw[zpG]; simp)
 rcases zeA zpG h1 with⟨c',e1,h3⟩|⟨len,cells,c',bs,b',e1,eb1,hm,hl,h3,h4⟩
 ·cases e1
  exact⟨_,vs,b1,b2,[],e,eb,⟨[],.inl ⟨rfl,rfl,rfl⟩,.nil⟩,h2⟩
 ·cases e1
  obtain⟨acts,es,rfl,rfl,hal⟩:=zkx _ _ _ _ h3
  obtain⟨-,rfl⟩:=zhv h4
  subst eb1
  rw[List.append_nil] at *
  refine⟨_,vs,_,b2,acts,e,eb,⟨es,.inr ⟨N,_,0,false,rfl,rfl,?_⟩,?_⟩,h2⟩
  ·rw[hl,ziJ]
  ·exact hal.imp fun _ _=>ActR.app' (X:=[(N,⟨es.flatten,false⟩)])
end J
set_option maxRecDepth 100000
namespace J
open Go Go.Ab
variable{H:Heap}{Γ Γ0 Γ1 Γ2 Δ G L S T X F:List (Nat × Blk)}{K:VH}{v w x cv dv kv:Value}{xs ys zs b key:List Int}{i j p q o n k c:Nat}{e er:Int}{cs cs':List Value}{l pr:List UInt8}{m sd:Mf}{t:Tm}{A B C:Ring}{s:Ck}
theorem zjK(H:Heap):(zia P 22 1).f [(0,.int .u8 120)] H=some (Go.Ab.sl H.next 0 1 3,H.push (by8 [120])):=by kernel_rfl
def tmN:Tm:=⟨zMb,4,100⟩
theorem zkK:(zDa P 25).f [(0,.string ⟨#[99,111,114,101]⟩),(2,.int .i64 100),(1,.int .u64 4)]=some (agg (tmC tmN)):=by kernel_rfl
def mN:Mf:=mkF zMb 3 64 [120]
theorem zlK:By [120]:=by intro x hx; simp at hx; omega
theorem zQj:zIa mN:=zlu zmu (by decide) (by decide) (by decide) (by decide) (by decide) (by decide) (by decide) (by decide)
theorem zXv:mN.Ok:=zju (by decide) (by decide) (by decide) (by decide) (by decide)
theorem zFE:zLn mN tmN=144:=by
 unfold zLn
 rw[if_neg (fun h=>h zQj),if_neg (fun h=>h rfl),if_pos (by show (3:Nat) < 4; omega)]
theorem znu{b:Bool}(ht:b=false→s.ain.length=n)(h:s.ain.length≠n):b=true:=by
 cases b with
 | true=>rfl
 | false=>exact absurd (ht rfl) h
set_option maxHeartbeats 8000000 in
theorem cnames_main(hO:St H Γ):wCall P zAg [] H fun v _=>v=.bool true:=by
 apply zNk; unfold zmi
 refine ztj hO ?_
 clear hO
 intro H hO
 refine zaa zJb ?_
 refine zKb rfl ?_
 refine zCa hO (zjK _) ?_
 clear hO
 intro qi H hO
 refine kpG hO (zza (k:=0) rfl) (by omega) ?_
 have hq:RdB (Γ++[(qi,⟨by8 [120],true⟩)]) (Go.Ab.sl qi 0 1 3) [120]:=zMy 0 rfl (.inr rfl) rfl
 generalize Γ++[(qi,(⟨by8 [120],true⟩:Blk))]=Γ1 at *
 refine zHp (pr:=zMb) (ver:=3) (ck:=64) hO hq zlK (by decide) (by decide) (by decide) (by decide) (fun h=>absurd zQj h) ?_
 clear hO
 intro _ H cv hO hcv
 replace hO:St H (Γ1++zRa cv (hsC mN.cks)):=hO
 replace hcv:RdH (zRa cv (hsC mN.cks)) cv mN.cks:=hcv
 show opP (zFc 0 (.tuple [agg (mfC mN cv),int 0].toArray)) _
 refine zaa zHj ?_
 refine zaa zIj ?_
 rw[zcM]
 refine nw hO ?_
 clear hO
 intro p2 H hO
 rw[← List.append_assoc] at hO
 refine zva hO (_+0) (zza rfl) (by rfl) (zta zXv.dl) (zlc hcv.one) ?_
 clear hO
 intro H hO
 replace hO:=hO.set_r
 replace hO:St H ((Γ1++zRa cv (hsC mN.cks))++[(p2,⟨mfC mN cv,true⟩)]):=hO
 refine zCa hO (zjx _) ?_
 clear hO
 intro qk H hO
 refine kpG hO (zza (k:=0) rfl) (by omega) ?_
 refine zHa hO ((Γ1++zRa cv (hsC mN.cks)).length+0) (zAa (zza rfl)) (zta zXv.dl) (by omega) ?_
 refine zAe (key:=zQg) zXv hO (zMy 0 rfl (.inr rfl) rfl) hcv.app'.app.app zix (by decide) (fun h=>absurd zQj h) ?_
 clear hO
 intro _ H hv hcs hO hh
 refine zaa zHj ?_
 refine zaa zIj ?_
 have hh1:RdB ((((Γ1++zRa cv (hsC mN.cks))++[(p2,⟨mfC mN cv,true⟩)])++[(qk,⟨by8 zQg,true⟩)])++zRa hv hcs) hv (zXa zQg mN):=hh.rd.app'
 have hh2:Stay ((((Γ1++zRa cv (hsC mN.cks))++[(p2,⟨mfC mN cv,true⟩)])++[(qk,⟨by8 zQg,true⟩)])++zRa hv hcs) hv:=(OwnB.stay hh).app'
 clear hh hcv hq
 generalize (((Γ1++zRa cv (hsC mN.cks))++[(p2,(⟨mfC mN cv,true⟩:Blk))])++[(qk,(⟨by8 zQg,true⟩:Blk))])++zRa hv hcs=Γ2 at *
 refine zFD hO ?_
 clear hO
 intro H A B C h3 hO
 refine zCa hO (zjx _) ?_
 clear hO
 intro qk H hO
 refine kpG hO (zza (k:=0) rfl) (by omega) ?_
 refine zaa zkK ?_
 refine zOj (Γ:=Γ2++[(qk,⟨by8 zQg,true⟩)]) (key:=zQg) (t:=tmN) hO (by generalize mR A B C=M; exact (by classical exact List.perm_iff_count.2 fun _=>by simp only[List.count_append,List.count_nil,List.set_cons_zero]; omega)) (zMy 0 rfl (.inr rfl) rfl) zix (by decide) (by decide) h3.a h3.b h3.c h3.ea h3.eb h3.ec ?_
 clear hO
 intro H X kv c hS
 have hl:=zJp (key:=zQg) zXv zQj
 generalize hb:zXa zQg mN=hB at *
 have hbb:By hB:=by rw[← hb]; exact zss zXv
 refine zxa hh1.lenSl ?_
 refine zaa (zBb (by omega) (by omega)) ?_
 rw[show ((hB.length:Int) - 1)=((hB.length - 1:Nat):Int) by omega]
 obtain⟨w,hw,hin⟩:=zKl hh1 (n:=hB.length - 1) (by omega)
 refine zaa hw ?_
 have hw1:=hin _ hh1
 have hw2:Stay Γ2 w:=Stay.slice hh2 hw
 obtain⟨aw,nw',cw,rfl⟩:=hw1.shape
 obtain⟨ah,nh,ch,rfl⟩:=hh1.shape
 have e4:A.n=4:=h3.na
 have nb4:B.n=4:=h3.nb
 have nc4:C.n=4:=h3.nc
 refine zaa (bPc _ _ _ _) ?_
 refine zqj (p:=(-1,hB.take (hB.length - 1))) hS ⟨_,rfl,hw1.app.app,By.take hbb,fun _=>hw2.app.app⟩ (by show (hB.take _).length≤1000000; rw[List.length_take]; omega) ?_
 clear hS
 intro b1 H A1 sA ht hf hS
 obtain rfl:=znu hf (by rw[e4]; show (0:Nat)≠4; decide)
 refine zaa (zhK _) ?_
 rw[← sA.r]
 refine zqj (p:=(0,[])) hS ⟨_,rfl,.inl ⟨rfl,rfl⟩,(fun x hx=>by cases hx),fun h=>absurd rfl h⟩ (by decide) ?_
 clear hS
 intro b2 H A2 sA2 ht2 hf2 hS
 obtain rfl:=znu hf2 (by rw[sA.n,e4]; show (1:Nat)≠4; decide)
 refine zaa (bPc _ _ _ _) ?_
 rw[← sA2.r]
 refine zqj (p:=(-1,hB)) hS ⟨_,rfl,hh1.app.app,hbb,fun _=>hh2.app.app⟩ (by show hB.length≤1000000; omega) ?_
 clear hS
 intro b3 H A3 sA3 ht3 hf3 hS
 obtain rfl:=znu hf3 (by rw[sA2.n,sA.n,e4]; show (2:Nat)≠4; decide)
 rw[nb4,nc4] at hS
 replace hS:CkSt ((Γ2++[(qk,⟨by8 zQg,true⟩)])++X) [] ⟨zQg,tmN,[(-1,hB.take (hB.length - 1)),(0,[]),(-1,hB)],[],[],4,4,m0,none,false,0⟩ A3 B C c kv H:=hS
 have hcut:zdb zQg (hB.take (hB.length - 1))=(m0,0,141):=by rw[← hb]; exact zmB zXv zQj (by rw[hb]; omega)
 have hopen:zdb zQg hB=(mN,(hB.length:Int),0):=by
  have:=zKm (key:=zQg) zXv zQj []
  rwa [List.append_nil,hb] at this
 refine zEc hS ?_
 clear hS
 rw[zZl (by decide) (by decide),zGB hcut (by decide)]
 intro H X1 A4 B1 C1 q1 q2 q3 hS
 refine zEc hS ?_
 clear hS
 rw[zGy (by decide) (by decide) (by decide)]
 intro H X2 A5 B2 C2 q4 q5 q6 hS
 refine zEc hS ?_
 clear hS
 rw[zZl (by decide) (by decide),zHB hopen (by rw[zFE]; decide),zFE]
 intro H X3 A6 B3 C3 q7 q8 q9 hS
 refine zEc hS ?_
 clear hS
 rw[zED (by decide)]
 intro H X4 A7 B4 C4 q10 q11 q12 hS
 have rB:B.r=B4.r:=by rw[q11.r,q8.r,q5.r,q2.r]
 have rC:C.r=C4.r:=by rw[q12.r,q9.r,q6.r,q3.r]
 rw[rB,rC]
 refine zYl hS (fun h=>by cases h) ?_
 clear hS
 intro a rest he H B5 el1 sB hel1 hS
 cases he
 obtain⟨cv1,x1,rfl,_⟩:=zlf hel1
 have row1:=hel1.row
 refine zaa zHj ?_
 refine zaa zIj ?_
 rw[zcT]
 refine zsj hS zRb.1 row1.1 row1.2 ?_
 clear hS
 intro p13 H hS
 rw[← sB.r]
 refine zYl hS ?_ (fun a rest h=>by cases h)
 clear hS
 intro _ H hS
 refine zaa zHj ?_
 refine zaa zIj ?_
 refine zsj hS zRb.1 zRb.1 zRb.2 ?_
 clear hS
 intro p15 H hS
 refine zgI hS ?_
 clear hS
 intro H Xm mv hmv hS
 refine zaa zHj ?_
 refine zaa zIj ?_
 refine zsj hS (by rfl) (zta zTv) (zlc hmv.one) ?_
 clear hS
 intro p17 H hS
 refine zhd rfl ?_
 refine zaa zQb ?_
 refine zhd rfl ?_
 refine zaa zQb ?_
 refine zhd rfl ?_
 refine zaa zJb ?_
 refine zaa zQb ?_
 refine zhd rfl ?_
 refine zDE hS ?_
 refine zaa zYa ?_
 refine zaa zQb ?_
 refine zsc rfl ?_
 refine zaa (zub rfl) ?_
 refine zhd rfl ?_
 refine zaa zba ?_
 refine ckl hS _ (zAa (zAa (zAa (zza (k:=0) rfl)))) (v:=int 1) rfl ?_
 refine zaa zYa ?_
 refine zaa zQb ?_
 refine zsc rfl ?_
 refine zaa zba ?_
 refine ckl hS _ (zAa (zAa (zAa (zza (k:=0) rfl)))) (v:=int (-1)) rfl ?_
 refine zaa zYa ?_
 refine zaa (zub rfl) ?_
 refine zsc rfl ?_
 refine zaa zJb ?_
 refine zaa (zub rfl) ?_
 refine zhd rfl ?_
 refine zaa zJb ?_
 refine zaa zQb ?_
 refine zhd rfl ?_
 refine zWv hS ?_
 refine zaa zYa ?_
 refine zaa zQb ?_
 refine zsc rfl ?_
 refine zVv hS ?_
 refine zaa zJb ?_
 refine zaa (zub rfl) ?_
 rfl
end J
