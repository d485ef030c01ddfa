/- texts of the proof, one behind the other -/
import Derived.Test.YtheklmekepeblaaGreatDoorUI
set_option linter.unusedVariables false
set_option linter.unusedSimpArgs false
set_option linter.unusedSectionVars false
set_option maxRecDepth 100000
namespace J
open Go Go.Ab
variable{H:Heap}{Γ Γ0 Γ2 Δ G L S T L0 X F:List (Nat × Blk)}{K:VH}{v w x cv dv kv sv sp iv bv ov yv:Value}{xs ys zs bs b key ms:List Int}{i j p q r o n k f wd pd st want c:Nat}{e er:Int}{cs cs' c1 ck ics bcs ocs ycs:List Value}{l:List UInt8}{m sd:Mf}{t u:Tm}{es:List (List Value)}{el e1 e2:List Value}{cks:List (List Int)}{dn:Bool}{s:Ck}
def Sn.kd:Sn→Int
 | .again _=>1
 | .go _ _=>2
 | .body _ _=>3
 | .fin=>4
def Sn.at':Sn→Int
 | .again a=>a
 | .body a _=>a
 | _=>0
def Sn.hd:Sn→Int
 | .go n _=>n
 | _=>0
def Sn.mf:Sn→Mf
 | .go _ m=>m
 | _=>m0
def Sn.by1:Sn→List Int
 | .body _ b=>b
 | _=>[]
theorem zFh{a:Sn}(h:ToldR Γ a el):∃ cv x,el=int a.kd::int a.at'::int a.hd::(mfC a.mf cv++[x])∧RdH Γ cv a.mf.cks∧a.mf.Ok∧RdB Γ x a.by1∧By a.by1:=by
 cases a with
 | again e=>have h:el=_:=h; exact⟨zqa,zqa,h,.inl ⟨rfl,rfl⟩,zJw,.inl ⟨rfl,rfl⟩,(fun x hx=>by cases hx)⟩
 | go n m=>obtain⟨cv,h1,h2,h3⟩:=h; exact⟨cv,zqa,h1,h2,h3,.inl ⟨rfl,rfl⟩,(fun x hx=>by cases hx)⟩
 | body e bs=>obtain⟨v,h1,h2,h3⟩:=h; exact⟨zqa,v,h1,.inl ⟨rfl,rfl⟩,zJw,h2,h3⟩
 | fin=>have h:el=_:=h; exact⟨zqa,zqa,h,.inl ⟨rfl,rfl⟩,zJw,.inl ⟨rfl,rfl⟩,(fun x hx=>by cases hx)⟩
theorem zEC(hd:m.dg.length=32)(a b d:Value):(a::b::d::(mfC m cv++[x]))[0+40]?=some x:=by
 show (mfC m cv++[x])[37]?=_
 rw[List.getElem?_append_right (by rw[zra hd]; omega),zra hd]; rfl
theorem zGF(hd:m.dg.length=32)(a b d:Value):((a::b::d::(mfC m cv++[x])).drop (0+3)).take 37=mfC m cv:=by
 show (mfC m cv++[x]).take 37=_
 exact List.take_left' (zra hd)
set_option maxHeartbeats 2000000 in
theorem zRr{a:Sn}(h1:ToldR Γ a e1)(h2:ToldR Γ a e2)(hO:St H Γ)(hk:∀ H',St H' Γ→K (.bool true) H'):wCall P zRi [agg e1,agg e2] H K:=by
 obtain⟨cv,x,rfl,g1,g2,g3,g4⟩:=zFh h1
 obtain⟨dv,y,rfl,k1,k2,k3,k4⟩:=zFh h2
 apply zGs; unfold zmr
 rw[ztc,ztc]
 refine nw hO.z ?_
 clear hO
 intro p2 H hO
 refine nw hO ?_
 clear hO
 intro p3 H hO
 generalize hA:(int a.kd::int a.at'::int a.hd::(mfC a.mf cv++[x]))=A at *
 generalize hB:(int a.kd::int a.at'::int a.hd::(mfC a.mf dv++[y]))=B at *
 replace hO:St H (Γ++[(p2,⟨A,true⟩),(p3,⟨B,true⟩)]):=hO
 refine zaa zba ?_
 refine ld hO 0 rfl (v:=int a.kd) (by rw[← hA]; rfl) ?_
 refine zaa zba ?_
 refine ld hO 1 rfl (v:=int a.kd) (by rw[← hB]; rfl) ?_
 refine zaa zUa ?_
 refine zNb rfl ?_
 refine zaa zba ?_
 refine ld hO 0 rfl (v:=int a.at') (by rw[← hA]; rfl) ?_
 refine zaa zba ?_
 refine ld hO 1 rfl (v:=int a.at') (by rw[← hB]; rfl) ?_
 refine zaa zUa ?_
 refine zaa (zjb rfl) ?_
 refine zNb rfl ?_
 refine zaa zba ?_
 refine ld hO 0 rfl (v:=int a.hd) (by rw[← hA]; rfl) ?_
 refine zaa zba ?_
 refine ld hO 1 rfl (v:=int a.hd) (by rw[← hB]; rfl) ?_
 refine zaa zUa ?_
 refine zaa (zjb rfl) ?_
 refine zNb rfl ?_
 refine zaa zba ?_
 refine zua hO (Γ.length+0) (zwa rfl) (cs:=mfC a.mf cv) (by rw[← hA]; exact zGF g2.dl _ _ _) (zra g2.dl) (by omega) ?_
 refine zaa zba ?_
 refine zua hO (Γ.length+1) (zwa rfl) (cs:=mfC a.mf dv) (by rw[← hB]; exact zGF g2.dl _ _ _) (zra g2.dl) (by omega) ?_
 refine zav g2 g2 g1.app k1.app hO ?_
 clear hO
 intro H hO
 refine zaa (zjb rfl) ?_
 refine zNb (zVp.2 rfl) ?_
 refine zaa zba ?_
 refine ld hO 0 rfl (v:=x) (by rw[← hA]; exact zEC g2.dl _ _ _) ?_
 refine zva (RdB.str hO g3.app) ?_
 refine zaa zba ?_
 refine ld hO 1 rfl (v:=y) (by rw[← hB]; exact zEC g2.dl _ _ _) ?_
 refine zva (RdB.str hO k3.app) ?_
 refine zaa (zSD _ _ _) ?_
 refine zaa (zjb (zVp.2 rfl)) ?_
 exact hk H hO.left
structure ActP where
 k:Int
 p:Int × List Int
def ActR(S:List (Nat × Blk))(a:ActP)(el:List Value):Prop:=∃ v,el=[int a.k,int a.p.1,v]∧PcR S a.p [int a.p.1,v]
theorem Al.get{α:Type}{R:α→List Value→Prop}{size:Nat}{l:List α}(h:Al R l es)(hp:∀ a el,R a el→el.length=size):∀ i (hi:i < l.length),∃ el,R l[i] el∧(es.flatten.drop (i * size)).take size=el:=by
 induction h with
 | nil=>intro i hi; cases hi
 | @cons a b l m h1 h2 ih=>
  intro i hi
  cases i with
  | zero=>exact⟨b,h1,by simp[List.take_left' (hp _ _ h1)]⟩
  | succ i=>
   obtain⟨el,g1,g2⟩:=ih i (by simpa using hi)
   refine⟨el,g1,?_⟩
   rw[List.flatten_cons,show (i+1) * size=b.length+i * size by rw[hp _ _ h1,Nat.succ_mul]; omega,← List.drop_drop,List.drop_left]
   exact g2
def RdA(S:List (Nat × Blk))(v:Value)(acts:List ActP):Prop:=∃ es,RdT 3 S v acts.length es.flatten∧Al (ActR S) acts es
theorem ActR.app{a:ActP}(h:ActR S a el):ActR (S++X) a el:=by
 obtain⟨v,h1,h2⟩:=h
 exact⟨v,h1,h2.app⟩
theorem RdA.app{acts:List ActP}(h:RdA S v acts):RdA (S++X) v acts:=by
 obtain⟨es,h1,h2⟩:=h
 exact⟨es,h1.app,h2.imp fun _ _=>ActR.app⟩
theorem RdT.lenSl{size:Nat}(h:RdT size Γ v n cs):Go.Ab.lenSl v H=some (int n,H):=by
 rcases h with⟨rfl,rfl,_⟩|⟨p,c,j,w,rfl,_⟩ <;> rfl
theorem RdA.at'{acts:List ActP}(h:RdA S v acts)(hi:i < acts.length):∃ (p c j:Nat) (w:Bool) (cs:List Value) (x:Value),v=sl p 0 acts.length c∧S[j]?=some (p,(⟨cs,w⟩:Blk))∧(cs.drop (0+i * 3)).take 3=[int acts[i].k,int acts[i].p.1,x]∧PcR S acts[i].p [int acts[i].p.1,x]:=by
 obtain⟨es,h1,h2⟩:=h
 obtain⟨el,g1,g2⟩:=h2.get (size:=3) (fun a el h=>by obtain⟨v,rfl,_⟩:=h; rfl) i hi
 rcases h1 with⟨_,h0,_⟩|⟨p,c,j,w,e1,e2,e3⟩
 ·omega
 ·obtain⟨x,rfl,g3⟩:=g1
  exact⟨p,c,j,w,_,x,e1,e2,by rw[Nat.zero_add]; exact g2,g3⟩
def wdC(kv:Value)(t:Tm)(r:List Int):List Value:=kv::str t.pr::zsb .u64 t.fl::int t.rm::r.map int
theorem zsJ:zc P 45=[int 0,int 0,zqa]:=by kernel_rfl
theorem PcR.shape{a:Int × List Int}{z:Value}(h:PcR S a [z,v]):∃ b n c,v=.slice b n c:=by
 obtain⟨w,h1,h2,_⟩:=h
 cases h1
 exact h2.shape
theorem PcR.rd{a:Int × List Int}{z:Value}(h:PcR S a [z,v]):RdB S v a.2:=by
 obtain⟨w,h1,h2,_⟩:=h
 cases h1
 exact h2
set_option maxHeartbeats 2000000 in
theorem zFz{rs:List Int}{acts:List ActP}(hr:rs.length=3)(hO:St H Γ)(hv:RdB Γ kv key)(ha:RdA Γ v acts)
  (hk0:∀ H',St H' Γ→K (.bool true) H')
  (hk1:key.length≤200→t.pr.length≤200→acts.length≤80→(∀ a ∈ acts,a.p.2.length≤2500)→∀ H',St H' Γ→K (.bool false) H'):wCall P zFf [agg (wdC kv t rs),v] H K:=by
 apply ztq; unfold zop
 rw[ztc]
 refine nw hO.z ?_
 clear hO
 intro p2 H hO
 replace hO:St H (Γ++[(p2,⟨wdC kv t rs,true⟩)]):=hO
 have hlen:=hv.lenA
 refine zxa (fun l' H'=>l'=[v,.bool false]∧H=H'∧key.length≤200∧t.pr.length≤200∧acts.length≤80) ?_ ?_
 ·refine zaa zba ?_
  refine ld hO 0 rfl (v:=kv) rfl ?_
  refine zva hv.lenSl ?_
  refine zaa zTb ?_
  refine zma (fun h=>?_) (fun h=>?_)
  ·repeat (first|refine oi ?_|refine ow ?_|refine wy ?_|refine wn ?_|refine wt ?_|refine wf' ?_|refine cy ?_|refine cn ?_)
   exact hk0 H hO.left
  refine zaa zba ?_
  refine zaa zba ?_
  refine ld hO 0 rfl (v:=str t.pr) rfl ?_
  refine zva (zft) ?_
  refine zaa zTb ?_
  refine zaa (zWa h) ?_
  refine zma (fun h1=>?_) (fun h1=>?_)
  ·repeat (first|refine oi ?_|refine ow ?_|refine wy ?_|refine wn ?_|refine wt ?_|refine wf' ?_|refine cy ?_|refine cn ?_)
   exact hk0 H hO.left
  obtain⟨es,ha1,_⟩:=ha
  refine zva ha1.lenSl ?_
  refine zaa zTb ?_
  refine zaa (zWa h1) ?_
  refine zma (fun h2=>?_) (fun h2=>?_)
  ·exact hk0 H hO.left
  ·exact⟨rfl,rfl,by omega,by omega,by omega⟩
 rintro l' H' ⟨rfl,rfl,b1,b2,b3⟩
 try simp only[zia,zja]
 replace hO:=hO.left
 obtain⟨es,ha1,ha2⟩:=ha
 refine zva ha1.lenSl ?_
 have ha:RdA Γ v acts:=⟨es,ha1,ha2⟩
 refine zzl (fun k l H=>∃ i:Nat,k=acts.length - i∧i≤acts.length∧l=[.bool false,v,int acts.length,int i]∧St H Γ∧∀ a ∈ acts.take i,a.p.2.length≤2500) _ _ ?_ acts.length _ _ ⟨0,rfl,Nat.zero_le _,rfl,hO,by simp⟩
 clear hO
 rintro k l H ⟨i,rfl,hi,rfl,hO,hall⟩
 unfold zok
 try simp only[zia,zja]
 refine zaa zMa ?_
 refine zma (fun h=>?_) (fun h=>?_)
 ·have hi2:i < acts.length:=by omega
  obtain⟨p,c,j,w,cs,x,e1,e2,e3,e4⟩:=ha.at' hi2
  subst e1
  refine zaa (zqb (by omega) (by omega)) ?_
  rw[Int.toNat_natCast]
  refine zua hO j e2 e3 rfl (by omega) ?_
  rw[zsJ]
  refine nw hO.z ?_
  clear hO
  intro p6 H hO
  obtain⟨a0,n0,c0,rfl⟩:=e4.shape
  refine sw hO 0 rfl rfl rfl rfl ?_
  clear hO
  intro H hO
  refine zaa zba ?_
  refine zaa zba ?_
  refine ld hO 0 rfl (v:=.slice a0 n0 c0) rfl ?_
  refine zva e4.rd.lenSl ?_
  refine zaa zTb ?_
  refine zma (fun h=>?_) (fun h=>?_)
  ·exact hk0 H hO.left
  ·refine zaa (zCi (b:=1) (by omega)) ?_
   refine⟨_,?_,i+1,rfl,hi2,rfl,hO.left,?_⟩
   ·omega
   ·intro a ha'
    rw[List.take_succ_eq_append_getElem hi2] at ha'
    rcases List.mem_append.1 ha' with h'|h'
    ·exact hall a h'
    ·rw[List.mem_singleton.1 h']; omega
 ·refine zZa rfl ?_
  refine hk1 b1 b2 b3 ?_ H hO
  rw[List.take_of_length_le (by omega)] at hall
  exact hall
end J
set_option maxRecDepth 100000
namespace J
open Go Go.Ab
variable{H:Heap}{Γ Γ0 Γ2 Δ G L S T L0 X F:List (Nat × Blk)}{K:VH}{v w x cv dv kv sv sp iv bv ov yv:Value}{xs ys zs bs b key ms:List Int}{i j p q r o n k f wd pd st want c:Nat}{e er:Int}{cs cs' c1 ck ics bcs ocs ycs:List Value}{l:List UInt8}{m sd:Mf}{t u:Tm}{es:List (List Value)}{el e1 e2:List Value}{cks:List (List Int)}{dn:Bool}{s:Ck}{A B C:Ring}
theorem _root_.Go.Ab.RdB.simp9(h:RdB Γ v xs):zab v=true:=by
 rcases h with⟨rfl,_⟩|⟨p,o,c,rfl,_⟩ <;> rfl
def Ck.push(s:Ck)(p:Int × List Int):Ck:={ s with ain:=s.ain++[p] }
def Ck.popB(s:Ck)(r:List Sn):Ck:={ s with bk:=r }
def Ck.popO(s:Ck)(r:List Sn):Ck:={ s with ou:=r }
theorem CkSt.nil(h:CkSt S F s A B C c kv H):CkSt (S++[]) F s A B C c kv H:=by rw[List.append_nil]; exact h
theorem zax{p:Int × List Int}(h:CkSt S F s A B C c kv H)(hp:PcR S p [int p.1,v])(hl:p.2.length≤1000000)
  (hk:∀ b H' A',Ring.Same A A'→(b=true→s.ain.length < A.n)→(b=false→s.ain.length=A.n)→CkSt S F (if b=true then s.push p else s) A' B C c kv H'→K (.bool b) H'):wCall P zbb [ptr A.r 0,agg [int p.1,v]] H K:=by
 obtain⟨sv,sp,T,h,hO⟩:=h
 have ⟨h1,h2,h3,h4,h5,h6,h7,h8,h9,h10,h11,h12⟩:=h
 have e5:=h5.len
 obtain⟨a,n,c',rfl⟩:=hp.shape
 refine znz (i:=1) (j:=0) hO rfl rfl (by omega) h5.rg hp.rd.simp9 rfl ?_ ?_
 ·intro hf H' hO'
  refine hk false H' A .rfl' (fun h=>by cases h) (fun _=>by omega) ⟨sv,sp,T,h,hO'⟩
 ·intro hf H' cs' hg hO'
  refine hk true H' _ zjg (fun _=>by omega) (fun h=>by cases h) ⟨sv,sp,T,?_,zyK (el:=[int p.1,.slice a n c']) hO'⟩
  exact⟨h1,h2,h3,h4,h5.more hg hp hl,h6,h7,h8,h9,h10,h11,h12⟩
theorem zvv(h:CkSt S F s A B C c kv H)
  (hk0:s.bk=[]→∀ H',CkSt S F s A B C c kv H'→K (.tuple [agg zuv,.bool false].toArray) H')
  (hk1:∀ a rest,s.bk=a::rest→∀ H' B' el,Ring.Same B B'→ToldR S a el→CkSt S F (s.popB rest) A B' C c kv H'→K (.tuple [agg el,.bool true].toArray) H'):wCall P zcc [ptr B.r 0] H K:=by
 obtain⟨sv,sp,T,h,hO⟩:=h
 have ⟨h1,h2,h3,h4,h5,h6,h7,h8,h9,h10,h11,h12⟩:=h
 refine zQr (i:=3) (j:=2) hO rfl rfl (by omega) h6 ?_ ?_
 ·intro he H' hO'
  exact hk0 he H' ⟨sv,sp,T,h,hO'⟩
 ·intro a rest he H' cs' es' el hel hr hO'
  exact hk1 a rest he H' _ el zyj hel ⟨sv,sp,T,⟨h1,h2,h3,h4,h5,hr,h7,h8,h9,h10,h11,h12⟩,zEL hO'⟩
theorem zpm(h:CkSt S F s A B C c kv H)
  (hk0:s.ou=[]→∀ H',CkSt S F s A B C c kv H'→K (.tuple [agg zuv,.bool false].toArray) H')
  (hk1:∀ a rest,s.ou=a::rest→∀ H' C' el,Ring.Same C C'→ToldR S a el→CkSt S F (s.popO rest) A B C' c kv H'→K (.tuple [agg el,.bool true].toArray) H'):wCall P zcc [ptr C.r 0] H K:=by
 obtain⟨sv,sp,T,h,hO⟩:=h
 have ⟨h1,h2,h3,h4,h5,h6,h7,h8,h9,h10,h11,h12⟩:=h
 refine zQr (i:=5) (j:=4) hO rfl rfl (by omega) h7 ?_ ?_
 ·intro he H' hO'
  exact hk0 he H' ⟨sv,sp,T,h,hO'⟩
 ·intro a rest he H' cs' es' el hel hr hO'
  exact hk1 a rest he H' _ el zyj hel ⟨sv,sp,T,⟨h1,h2,h3,h4,h5,h6,hr,h8,h9,h10,h11,h12⟩,zFL hO'⟩
theorem zKE{hs:Option (List Int × Nat)}(h:StR1 S sd hs sp T):zsH sp=hs.isSome:=by
 cases h with
 | nos=>rfl
 | str=>rfl
theorem ztJ(h:CkSt S F s A B C c kv H)
  (hk:∀ H' X v',RdH X v' s.sd.cks→CkSt (S++X) F s A B C c kv H'→K (.tuple [agg (mfC s.sd v'),.bool s.hs.isSome].toArray) H'):wCall P zxb [ptr c 0] H K:=by
 obtain⟨sv,sp,T,h,hO⟩:=h
 have ⟨h1,h2,h3,h4,h5,h6,h7,h8,h9,h10,h11,h12⟩:=h
 refine zOq h10 h11.app h12.spv hO ?_
 intro H' v' hO' hv
 rw[zKE h12]
 exact hk H' _ v' hv ⟨sv,sp,T,⟨h1.app,h2,h3,h4,h5.app,h6.app,h7.app,h8,h9,h10,h11.app,h12.app⟩,zzz (swapT hO')⟩
theorem zCo(h:CkSt S F s A B C c kv H)(hk:K (int s.wants) H):wCall P zHa [ptr c 0] H K:=by
 obtain⟨sv,sp,T,h,hO⟩:=h
 exact zjq h hO hk
theorem zFC(h:CkSt S F s A B C c kv H)(hk:K (.bool s.dn) H):wCall P zGb [ptr c 0] H K:=by
 obtain⟨sv,sp,T,h,hO⟩:=h
 exact zxz h.ok.dl hO hk
theorem zuJ(h:CkSt S F s A B C c kv H)(hk:K (int s.er) H):wCall P zgc [ptr c 0] H K:=by
 obtain⟨sv,sp,T,h,hO⟩:=h
 exact zwC h.ok.dl hO hk
theorem zwH(h:CkSt S F s A B C c kv H)(hk:K (int s.ain.length) H):wCall P zgb [ptr A.r 0] H K:=by
 obtain⟨sv,sp,T,h,hO⟩:=h
 rw[← h.a.len] at hk
 exact zkv (i:=1) hO rfl hk
theorem zxH(h:CkSt S F s A B C c kv H)(hk:K (int s.bk.length) H):wCall P zPa [ptr B.r 0] H K:=by
 obtain⟨sv,sp,T,h,hO⟩:=h
 rw[← h.b.len] at hk
 exact zlv (i:=3) hO rfl hk
theorem zyH(h:CkSt S F s A B C c kv H)(hk:K (int s.ou.length) H):wCall P zPa [ptr C.r 0] H K:=by
 obtain⟨sv,sp,T,h,hO⟩:=h
 rw[← h.c.len] at hk
 exact zlv (i:=5) hO rfl hk
def Bo(S:List (Nat × Blk))(s1 s2:Ck)(A B C:Ring)(c:Nat)(kv:Value)(cr:Nat)(kw:Value)(H:Heap):Prop:=
 ∃ sv sp T st cv iv bv ov yv ics bcs ocs ycs,CkR S s1 A B C kv sv sp T∧RkR S s2 kw cv iv bv ov yv ics bcs ocs ycs ∧
  St H (S++(mB A B C c (ckC kv s1.t A.r B.r C.r s1.sd sv sp s1.dn s1.er) T++rkL cr st (rkB kw s2 st iv bv ov) (rsB s2 cv yv) iv bv ov yv ics bcs ocs ycs))
theorem zBK{M N:List (Nat × Blk)}(h:St H (S++(M++N))):St H ((S++N)++M):=h.perm (by
 rw[List.append_assoc]
 exact List.Perm.append_left S List.perm_append_comm)
theorem zzH{M N:List (Nat × Blk)}(h:St H ((S++N)++M)):St H (S++(M++N)):=h.perm (by
 rw[List.append_assoc]
 exact List.Perm.append_left S List.perm_append_comm)
theorem Bo.toCk{s1 s2:Ck}{cr:Nat}{kw:Value}(h:Bo S s1 s2 A B C c kv cr kw H):∃ st cv iv bv ov yv ics bcs ocs ycs,RkR S s2 kw cv iv bv ov yv ics bcs ocs ycs∧CkSt S (rkL cr st (rkB kw s2 st iv bv ov) (rsB s2 cv yv) iv bv ov yv ics bcs ocs ycs) s1 A B C c kv H:=by
 obtain⟨sv,sp,T,st,cv,iv,bv,ov,yv,ics,bcs,ocs,ycs,h1,h2,hO⟩:=h
 exact⟨st,cv,iv,bv,ov,yv,ics,bcs,ocs,ycs,h2,sv,sp,T,h1,zBK hO⟩
theorem Bo.ofck{s1 s2:Ck}{cr:Nat}{kw:Value}(h2:RkR S s2 kw cv iv bv ov yv ics bcs ocs ycs)(h:CkSt S (rkL cr st (rkB kw s2 st iv bv ov) (rsB s2 cv yv) iv bv ov yv ics bcs ocs ycs) s1 A B C c kv H):Bo S s1 s2 A B C c kv cr kw H:=by
 obtain⟨sv,sp,T,h1,hO⟩:=h
 exact⟨sv,sp,T,st,cv,iv,bv,ov,yv,ics,bcs,ocs,ycs,h1,h2,zzH hO⟩
theorem CkR.app(h:CkR S s A B C kv sv sp T):CkR (S++X) s A B C kv sv sp T:=
 ⟨h.kv.app,h.kb,h.kl,h.tl,h.a.app,h.b.app,h.c.app,h.bn,h.cn,h.ok,h.sv.app,h.str.app⟩
theorem zLE{s1 s2:Ck}{cr:Nat}{kw:Value}(h:Bo S s1 s2 A B C c kv cr kw H)(hk:∀ H' X A' B' C',Ring.Same A A'→Ring.Same B B'→Ring.Same C C'→Bo (S++X) s1.step.2 s2 A' B' C' c kv cr kw H'→K (.bool s1.step.1) H'):wCall P zib [ptr c 0] H K:=by
 obtain⟨st,cv,iv,bv,ov,yv,ics,bcs,ocs,ycs,h2,h1⟩:=h.toCk
 refine zEh h1 ?_
 intro H' X A' B' C' q1 q2 q3 hS
 exact hk H' X A' B' C' q1 q2 q3 (Bo.ofck h2.app hS)
theorem zME{s1 s2:Ck}{cr:Nat}{kw:Value}(h:Bo S s1 s2 A B C c kv cr kw H)(hk:∀ H' X,Bo (S++X) s1 s2.step.2 A B C c kv cr kw H'→K (.bool s2.step.1) H'):wCall P zDg [ptr cr 0] H K:=by
 obtain⟨sv,sp,T,st,cv,iv,bv,ov,yv,ics,bcs,ocs,ycs,h1,h2,hO⟩:=h
 refine zEz (F:=mB A B C c (ckC kv s1.t A.r B.r C.r s1.sd sv sp s1.dn s1.er) T) ⟨st,cv,iv,bv,ov,yv,ics,bcs,ocs,ycs,h2,by rw[List.append_assoc]; exact hO⟩ ?_
 intro H' X hS
 obtain⟨st,cv,iv,bv,ov,yv,ics,bcs,ocs,ycs,h2,hO⟩:=hS
 exact hk H' X ⟨sv,sp,T,st,cv,iv,bv,ov,yv,ics,bcs,ocs,ycs,h1.app,h2,by rw[← List.append_assoc]; exact hO⟩
end J
set_option maxRecDepth 100000
namespace J
open Go Go.Ab
variable{H:Heap}{Γ Γ0 Γ2 Δ G L S T L0 X F:List (Nat × Blk)}{K:VH}{v w x cv dv kv kw sv sp iv bv ov yv:Value}{xs ys zs bs b key ms:List Int}{i j p q r o n k f wd pd st want c cr:Nat}{e er:Int}{cs cs' c1 ck ics bcs ocs ycs new:List Value}{l:List UInt8}{m sd:Mf}{t u:Tm}{es:List (List Value)}{el e1 e2:List Value}{cks:List (List Int)}{dn:Bool}{s s1 s2:Ck}{A B C:Ring}
theorem Bo.st'(h:Bo S s1 s2 A B C c kv cr kw H):∃ R,St H (S++R):=by
 obtain⟨sv,sp,T,st,cv,iv,bv,ov,yv,ics,bcs,ocs,ycs,h1,h2,hO⟩:=h
 exact⟨_,hO⟩
theorem CkSt.st'(h:CkSt S F s A B C c kv H):∃ R,St H (S++R):=by
 obtain⟨sv,sp,T,h1,hO⟩:=h
 rw[List.append_assoc] at hO
 exact⟨_,hO⟩
theorem zqm(h:CkSt S F s A B C c kv H)(hc:cs.length=n)(hn:new.length=n)(h1:new.all oneCell=true)
  (hk:∀ p H',CkSt (S++[(p,⟨new,true⟩)]) F s A B C c kv H'→K (ptr p 0) H'):zCb cs H fun t H5=>opW (zha n t (agg new) H5) fun _ H7=>K t H7:=by
 obtain⟨sv,sp,T,h,hO⟩:=h
 refine zeb hO ?_
 clear hO
 intro p H hO
 refine zya hO (_+0) (zwa rfl) hc hn h1 ?_
 clear hO
 intro H hO
 replace hO:=hO.set_r
 exact hk p H ⟨sv,sp,T,h.app,zzz (swapT hO)⟩
theorem zHF(h:Bo S s1 s2 A B C c kv cr kw H)(hc:cs.length=n)(hn:new.length=n)(h1:new.all oneCell=true)
  (hk:∀ p H',Bo (S++[(p,⟨new,true⟩)]) s1 s2 A B C c kv cr kw H'→K (ptr p 0) H'):zCb cs H fun t H5=>opW (zha n t (agg new) H5) fun _ H7=>K t H7:=by
 obtain⟨st,cv,iv,bv,ov,yv,ics,bcs,ocs,ycs,h2,h⟩:=h.toCk
 exact zqm h hc hn h1 fun p H' h=>hk p H' (Bo.ofck h2.app h)
theorem zCK{bk:Blk}(h:Bo S s1 s2 A B C c kv cr kw H)(j:Nat)(hj:S[j]?=some (p,bk))(hv:bk.cells[o]?=some v)(hk:K v H):opW (zda (ptr p o) H) K:=by
 obtain⟨R,hO⟩:=h.st'
 exact zoa hO j (zCa hj) hv hk
theorem zAH{bk:Blk}(h:Bo S s1 s2 A B C c kv cr kw H)(j:Nat)(hj:S[j]?=some (p,bk))(hv:(bk.cells.drop o).take n=cs)(hn:cs.length=n)(hp:0 < n)(hk:K (agg cs) H):opW (zka n (ptr p o) H) K:=by
 obtain⟨R,hO⟩:=h.st'
 exact zua hO j (zCa hj) hv hn hp hk
theorem zGz(h:Bo S s1 s2 A B C c kv cr kw H):∃ (Γ:List (Nat × Blk)) (i st:Nat) (iv bv ov:Value),St H Γ∧Γ[i]?=some (cr,⟨rkB kw s2 st iv bv ov,true⟩)∧(∀ H,lenSl iv H=some (int s2.ain.length,H))∧(∀ H,lenSl bv H=some (int s2.bk.length,H))∧(∀ H,lenSl ov H=some (int s2.ou.length,H)) ∧
  ∃ (j:Nat) (cv yv:Value),Γ[j]?=some (st,⟨rsC s2.sd cv yv (s2.hs.getD ([],0)).2,true⟩)∧RdH Γ cv s2.sd.cks∧s2.sd.Ok:=by
 obtain⟨sv,sp,T,st,cv,iv,bv,ov,yv,ics,bcs,ocs,ycs,h1,h2,hO⟩:=h
 rw[← List.append_assoc] at hO
 exact⟨_,_,st,iv,bv,ov,hO,zwa (k:=0) rfl,fun H=>h2.i.own.lenSl,fun H=>h2.b.own.lenSl,fun H=>h2.o.own.lenSl,_,cv,yv,zwa (k:=1) rfl,h2.cv.app.app,h2.ok⟩
theorem zGC(h:Bo S s1 s2 A B C c kv cr kw H)(hk:K (int s2.wants) H):wCall P zxd [ptr cr 0] H K:=by
 obtain⟨sv,sp,T,st,cv,iv,bv,ov,yv,ics,bcs,ocs,ycs,h1,h2,hO⟩:=h
 rw[← List.append_assoc] at hO
 exact zNn h2 hO hk
theorem zvJ(h:Bo S s1 s2 A B C c kv cr kw H)(hk:∀ H' X v',RdH X v' s1.sd.cks→Bo (S++X) s1 s2 A B C c kv cr kw H'→K (.tuple [agg (mfC s1.sd v'),.bool s1.hs.isSome].toArray) H'):wCall P zxb [ptr c 0] H K:=by
 obtain⟨st,cv,iv,bv,ov,yv,ics,bcs,ocs,ycs,h2,h⟩:=h.toCk
 exact ztJ h fun H' X v' hv h=>hk H' X v' hv (Bo.ofck h2.app h)
theorem zDK(h:Bo S s1 s2 A B C c kv cr kw H)(hw:K (int s1.wants) H):wCall P zHa [ptr c 0] H K:=by
 obtain⟨st,cv,iv,bv,ov,yv,ics,bcs,ocs,ycs,h2,h⟩:=h.toCk
 exact zCo h hw
theorem zEK(h:Bo S s1 s2 A B C c kv cr kw H)(hw:K (.bool s1.dn) H):wCall P zGb [ptr c 0] H K:=by
 obtain⟨st,cv,iv,bv,ov,yv,ics,bcs,ocs,ycs,h2,h⟩:=h.toCk
 exact zFC h hw
theorem zFK(h:Bo S s1 s2 A B C c kv cr kw H)(hw:K (int s1.er) H):wCall P zgc [ptr c 0] H K:=by
 obtain⟨st,cv,iv,bv,ov,yv,ics,bcs,ocs,ycs,h2,h⟩:=h.toCk
 exact zuJ h hw
theorem zGK(h:Bo S s1 s2 A B C c kv cr kw H)(hw:K (int s1.ain.length) H):wCall P zgb [ptr A.r 0] H K:=by
 obtain⟨st,cv,iv,bv,ov,yv,ics,bcs,ocs,ycs,h2,h⟩:=h.toCk
 exact zwH h hw
theorem zHK(h:Bo S s1 s2 A B C c kv cr kw H)(hw:K (int s1.bk.length) H):wCall P zPa [ptr B.r 0] H K:=by
 obtain⟨st,cv,iv,bv,ov,yv,ics,bcs,ocs,ycs,h2,h⟩:=h.toCk
 exact zxH h hw
theorem zIK(h:Bo S s1 s2 A B C c kv cr kw H)(hw:K (int s1.ou.length) H):wCall P zPa [ptr C.r 0] H K:=by
 obtain⟨st,cv,iv,bv,ov,yv,ics,bcs,ocs,ycs,h2,h⟩:=h.toCk
 exact zyH h hw
theorem zJK(a:Int)(b:Option Addr)(n c:Nat)(H:Heap):(zla P 78 1).f [(0,agg [int a,.slice b n c])] H=some (Go.Ab.sl H.next 0 1 5,H.push [int a,.slice b n c]):=by kernel_rfl
set_option maxHeartbeats 1000000 in
theorem zBH{a k:Int}{t11:Nat}(h:Bo S s1 s2 A B C c kv cr kw H)(j:Nat)(hj:S[j]?=some (t11,⟨[int k,int a,v],true⟩))(hp:PcR S (a,ys) [int a,v])(hl:ys.length≤1000000)(hn:s2.ain.length < 1000)
  (hk:∀ H',Bo S s1 (s2.push (a,ys)) A B C c kv cr kw H'→K undef H') :
 opP (zea (ptr cr 0)) fun t83=>
 opP (zfa 4 t83) fun t84=>
 opW (zda t84 H) fun t85 H21=>
 opP (zfa 1 (ptr t11 0)) fun t86=>
 opW (zka 2 t86 H21) fun t87 H24=>
 opW ((zla P 78 1).f [(0,t87)] H24) fun t88 H26=>
 opW (zsa 2 32 t85 t88 H26) fun t89 H28=>
 opP (zea (ptr cr 0)) fun t90=>
 opP (zfa 4 t90) fun t91=>
 opW (zha 1 t91 t89 H28) K:=by
 obtain⟨sv,sp,T,st,cv,iv,bv,ov,yv,ics,bcs,ocs,ycs,h1,h2,hO⟩:=h
 have hO:St H ((S++mB A B C c (ckC kv s1.t A.r B.r C.r s1.sd sv sp s1.dn s1.er) T)++([]++rkL cr st (rkB kw s2 st iv bv ov) (rsB s2 cv yv) iv bv ov yv ics bcs ocs ycs)):=by
  rw[List.append_assoc]; exact hO
 generalize hM:mB A B C c (ckC kv s1.t A.r B.r C.r s1.sd sv sp s1.dn s1.er) T=M at *
 refine zaa zca ?_
 refine zaa zba ?_
 refine ld hO 0 rfl (v:=iv) rfl ?_
 refine zaa zba ?_
 refine zua hO j (zCa (zCa hj)) (cs:=[int a,v]) rfl rfl (by omega) ?_
 obtain⟨b0,n0,c0,rfl⟩:=hp.shape
 refine zDa hO (zJK _ _ _ _ _) ?_
 clear hO
 intro q H hO
 have hO2:St H (((((S++M)++([]++([(cr,⟨rkB kw s2 st iv bv ov,true⟩),(st,⟨rsB s2 cv yv,true⟩)]++(zKa bv bcs++(zKa ov ocs++zKa yv ycs))))))++zKa iv ics)++[(q,⟨[int a,.slice b0 n0 c0],true⟩)]):=by
  refine hO.perm ?_
  unfold rkL
  generalize zKa bv bcs=B0; generalize zKa iv ics=I0; generalize zKa ov ocs=O0; generalize zKa yv ycs=Y0
  exact (by classical exact List.perm_iff_count.2 fun _=>by simp only[List.count_append,List.count_nil,List.set_cons_zero]; omega)
 clear hO
 refine zYe hO2 h2.i.own rfl (by omega) rfl (by omega) (by omega) ?_
 clear hO2
 intro v1 H hO hv1
 have hO:St H ((S++M)++rkL cr st (rkB kw s2 st iv bv ov) (rsB s2 cv yv) v1 bv ov yv (ics++[int a,.slice b0 n0 c0]) bcs ocs ycs):=by
  refine hO.perm ?_
  unfold rkL
  generalize zKa v1 (ics++[int a,.slice b0 n0 c0])=I0; generalize zKa bv bcs=B0; generalize zKa ov ocs=O0; generalize zKa yv ycs=Y0
  exact (by classical exact List.perm_iff_count.2 fun _=>by simp only[List.count_append,List.count_nil,List.set_cons_zero]; omega)
 refine zaa zca ?_
 refine zaa zba ?_
 refine J.s1 hO 0 rfl hv1.one1 (by simp[rkB,rkC]) ?_
 clear hO
 intro H hO
 replace hO:=zhy [] hO
 refine hk H ⟨sv,sp,T,st,cv,v1,bv,ov,yv,ics++[int a,.slice b0 n0 c0],bcs,ocs,ycs,h1,?_,?_⟩
 ·have hn2:=h2.n
  exact⟨h2.kv,h2.kst,h2.kb,h2.kl,h2.tl,h2.i.more hp rfl hv1,h2.b,h2.o,(by
   intro p hp
   rcases List.mem_append.1 hp with hp|hp
   ·exact h2.il p hp
   ·rw[List.mem_singleton.1 hp]; exact hl),⟨hn2.1,hn2.2.1,hn2.2.2.1,hn2.2.2.2.1,by show (s2.ain++[_]).length≤1000; simp; omega⟩,h2.ok,h2.cv,h2.y,h2.ylen⟩
 ·rw[hM,← List.append_assoc]; exact hO
end J
set_option maxRecDepth 100000
namespace J
open Go Go.Ab
variable{H:Heap}{Γ Γ0 Γ2 Δ G L S T L0 X F:List (Nat × Blk)}{K:VH}{v w x cv dv kv kw sv sp iv bv ov yv:Value}{xs ys zs bs b key ms:List Int}{i j p q r o n k f wd pd st want c cr:Nat}{e er:Int}{cs cs' c1 ck ics bcs ocs ycs new:List Value}{l:List UInt8}{m sd:Mf}{t u:Tm}{es:List (List Value)}{el e1 e2:List Value}{cks:List (List Int)}{dn:Bool}{s s1 s2:Ck}{A B C:Ring}
theorem zHz(h:RkR S s kw cv iv bv ov yv ics bcs ocs ycs):(rkB kw s st iv bv ov).all zab=true:=by
 obtain⟨a1,n1,c1,rfl⟩:=h.kv.shape
 have h1:=h.kv.simp9
 have own:∀ {size n:Nat} {v:Value} {cs:List Value},Own size v n cs→zab v=true:=by
  intro size n v cs h
  rcases h with⟨rfl,_⟩|⟨p,rfl|rfl,_⟩ <;> rfl
 simp only[rkB,rkC,List.all_cons,List.all_nil,h1,own h.i.own,own h.b.own,own h.o.own]
 rfl
theorem zlq(h:Bo S s1 s2 A B C c kv cr kw H):zSa (zRa H H) (zBa [ptr cr o]):=by
 obtain⟨sv,sp,T,st,cv,iv,bv,ov,yv,ics,bcs,ocs,ycs,h1,h2,hO⟩:=h
 rw[← List.append_assoc] at hO
 exact zcb hO (_+0) (zwa rfl) hO (_+0) (zwa rfl) (zHz h2)
theorem zKK(h:Bo S s1 s2 A B C c kv cr kw H)(hk:K (.bool s2.hs.isSome) H):opW (zda (ptr cr (0+9)) H) K:=by
 obtain⟨Γ,i,st,iv,bv,ov,hO,hi,_⟩:=zGz h
 exact zoa hO i hi rfl hk
theorem zwJ(h:Bo S s1 s2 A B C c kv cr kw H)(hk:K (.bool s2.dn) H):opW (zda (ptr cr (0+10)) H) K:=by
 obtain⟨Γ,i,st,iv,bv,ov,hO,hi,_⟩:=zGz h
 exact zoa hO i hi rfl hk
theorem zxJ(h:Bo S s1 s2 A B C c kv cr kw H)(hk:K (int s2.er) H):opW (zda (ptr cr (0+12)) H) K:=by
 obtain⟨Γ,i,st,iv,bv,ov,hO,hi,_⟩:=zGz h
 exact zoa hO i hi rfl hk
theorem zLK(h:Bo S s1 s2 A B C c kv cr kw H)(hk:∀ v,(∀ H,lenSl v H=some (int s2.ain.length,H))→K v H):opW (zda (ptr cr (0+4)) H) K:=by
 obtain⟨Γ,i,st,iv,bv,ov,hO,hi,g1,g2,g3,_⟩:=zGz h
 exact zoa hO i hi rfl (hk _ g1)
theorem zMK(h:Bo S s1 s2 A B C c kv cr kw H)(hk:∀ v,(∀ H,lenSl v H=some (int s2.bk.length,H))→K v H):opW (zda (ptr cr (0+5)) H) K:=by
 obtain⟨Γ,i,st,iv,bv,ov,hO,hi,g1,g2,g3,_⟩:=zGz h
 exact zoa hO i hi rfl (hk _ g2)
theorem zNK(h:Bo S s1 s2 A B C c kv cr kw H)(hk:∀ v,(∀ H,lenSl v H=some (int s2.ou.length,H))→K v H):opW (zda (ptr cr (0+6)) H) K:=by
 obtain⟨Γ,i,st,iv,bv,ov,hO,hi,g1,g2,g3,_⟩:=zGz h
 exact zoa hO i hi rfl (hk _ g3)
theorem zNE(h:Bo S s1 s A B C c kv cr kw H)(hv:RdH S v s.sd.cks)(hk:∀ H',Bo S s1 s A B C c kv cr kw H'→K (.bool true) H') :
 opP (zea (ptr cr 0)) fun t171=>
 opP (zfa 11 t171) fun t172=>
 opW (zda t172 H) fun t173 H154=>
 opP (zea t173) fun t174=>
 opP (zfa 0 t174) fun t175=>
 opW (zka 37 t175 H154) fun t176 H158=>
 wCall P zUd [agg (mfC s.sd v),t176] H158 K:=by
 obtain⟨sv,sp,T,st,cv,iv,bv,ov,yv,ics,bcs,ocs,ycs,h1,h2,hO⟩:=h
 rw[← List.append_assoc] at hO
 refine zaa zca ?_
 refine zaa zba ?_
 refine ld hO 0 rfl (v:=ptr st 0) rfl ?_
 refine zaa zca ?_
 refine zaa zba ?_
 refine zua hO (_+1) (zwa rfl) (zgJ h2.ok.dl) (zra h2.ok.dl) (by omega) ?_
 refine zav h2.ok h2.ok hv.app.app h2.cv.app.app hO ?_
 intro H' hO'
 rw[decide_eq_true (zVp.2 rfl)]
 exact hk H' ⟨sv,sp,T,st,cv,iv,bv,ov,yv,ics,bcs,ocs,ycs,h1,h2,by rw[← List.append_assoc]; exact hO'⟩
theorem zeL{M:List (Nat × Blk)}{j:Nat}{p c0:Nat}(hO:St H (Γ++M))(hj:(Γ++M)[j]?=some (p,(⟨cs,true⟩:Blk)))(hl:cs.length=(n+1) * 41)(h1:cs.all oneCell=true)(hn:n≤100)(hc:c0=2 * 41∨c0=2 * 41+1)
  (hk:∀ v1 H',St H' ((Γ++M)++zKa v1 (cs.drop 41))→Own 41 v1 n (cs.drop 41)→K v1 H') :
 opW ((zla P 42 0).f [] H) fun t136 H91=>
 opP (zTa 41 (Go.Ab.sl p 0 (n+1) c0) (some (.int .i64 1)) none none) fun t138=>
 opW (zsa 41 144 t136 t138 H91) K:=by
 refine zDa hO (zdL _) ?_
 clear hO
 intro q H hO
 obtain⟨c',hsl⟩:=zCC (size:=41) (p:=p) (n:=n) (c:=c0) (H:=H) (by omega) hc
 refine zaa hsl ?_
 exact zpJ hO hj hl h1 (by omega) (by omega) (by omega) hk
theorem ToldR.len{a:Sn}(h:ToldR S a el):el.length=41:=h.row.1
theorem zHC{a:Sn}{rest:List Sn}(h2:RkR S s2 kw cv iv bv ov yv ics bcs ocs ycs)(hb:s2.bk=a::rest)(h:CkSt S (rkL cr st (rkB kw s2 st iv bv ov) (rsB s2 cv yv) iv bv ov yv ics bcs ocs ycs) s1 A B C c kv H)
  (hk:∀ H',Bo S s1 (s2.popB rest) A B C c kv cr kw H'→K undef H') :
 opW ((zla P 42 0).f [] H) fun t136 H91=>
 opP (zTa 41 bv (some (.int .i64 1)) none none) fun t138=>
 opW (zsa 41 144 t136 t138 H91) fun t139 H94=>
 opP (zea (ptr cr 0)) fun t140=>
 opP (zfa 5 t140) fun t141=>
 opW (zha 1 t141 t139 H94) K:=by
 have hB:=h2.b
 have hn:=h2.n
 rw[hb] at hB hn
 obtain⟨el,hp,ht,hrest⟩:=hB.head (fun a el h=>h.len)
 obtain⟨p,c0,rfl,hc0,hout⟩:=hB.own.sl
 obtain⟨sv,sp,T,h1,hO⟩:=h
 have hO:St H ((S++mB A B C c (ckC kv s1.t A.r B.r C.r s1.sd sv sp s1.dn s1.er) T)++([]++rkL cr st (rkB kw s2 st iv (Go.Ab.sl p 0 (rest.length+1) c0) ov) (rsB s2 cv yv) iv (Go.Ab.sl p 0 (rest.length+1) c0) ov yv ics bcs ocs ycs)):=by
  have:=zzH hO
  rw[← List.append_assoc] at this
  exact this
 have hm:(p,(⟨bcs,true⟩:Blk)) ∈ (S++mB A B C c (ckC kv s1.t A.r B.r C.r s1.sd sv sp s1.dn s1.er) T)++([]++rkL cr st (rkB kw s2 st iv (Go.Ab.sl p 0 (rest.length+1) c0) ov) (rsB s2 cv yv) iv (Go.Ab.sl p 0 (rest.length+1) c0) ov yv ics bcs ocs ycs):=by
  unfold rkL; rw[hout]; simp
 obtain⟨jp,hjp⟩:=List.mem_iff_getElem?.1 hm
 simp only[List.length_cons] at hn
 refine zeL hO hjp hB.own.len hB.one (by omega) hc0 ?_
 clear hO
 intro v1 H hO hv1
 replace hO:=zTJ [] hO
 refine zaa zca ?_
 refine zaa zba ?_
 refine J.s1 hO 0 rfl hv1.one1 (by simp[rkB,rkC]) ?_
 clear hO
 intro H hO
 replace hO:=zhy [] hO
 refine hk H ⟨sv,sp,T,st,cv,iv,v1,ov,yv,ics,bcs.drop 41,ocs,ycs,h1,?_,?_⟩
 ·exact⟨h2.kv,h2.kst,h2.kb,h2.kl,h2.tl,h2.i,hrest _ hv1,h2.o,h2.il,⟨by show rest.length≤s2.nb; omega,hn.2⟩,h2.ok,h2.cv,h2.y,h2.ylen⟩
 ·rw[← List.append_assoc]; exact hO
theorem zIC{a:Sn}{rest:List Sn}(h2:RkR S s2 kw cv iv bv ov yv ics bcs ocs ycs)(hb:s2.ou=a::rest)(h:CkSt S (rkL cr st (rkB kw s2 st iv bv ov) (rsB s2 cv yv) iv bv ov yv ics bcs ocs ycs) s1 A B C c kv H)
  (hk:∀ H',Bo S s1 (s2.popO rest) A B C c kv cr kw H'→K undef H') :
 opW ((zla P 42 0).f [] H) fun t136 H91=>
 opP (zTa 41 ov (some (.int .i64 1)) none none) fun t138=>
 opW (zsa 41 144 t136 t138 H91) fun t139 H94=>
 opP (zea (ptr cr 0)) fun t140=>
 opP (zfa 6 t140) fun t141=>
 opW (zha 1 t141 t139 H94) K:=by
 have hB:=h2.o
 have hn:=h2.n
 rw[hb] at hB hn
 obtain⟨el,hp,ht,hrest⟩:=hB.head (fun a el h=>h.len)
 obtain⟨p,c0,rfl,hc0,hout⟩:=hB.own.sl
 obtain⟨sv,sp,T,h1,hO⟩:=h
 have hO:St H ((S++mB A B C c (ckC kv s1.t A.r B.r C.r s1.sd sv sp s1.dn s1.er) T)++([]++rkL cr st (rkB kw s2 st iv bv (Go.Ab.sl p 0 (rest.length+1) c0)) (rsB s2 cv yv) iv bv (Go.Ab.sl p 0 (rest.length+1) c0) yv ics bcs ocs ycs)):=by
  have:=zzH hO
  rw[← List.append_assoc] at this
  exact this
 have hm:(p,(⟨ocs,true⟩:Blk)) ∈ (S++mB A B C c (ckC kv s1.t A.r B.r C.r s1.sd sv sp s1.dn s1.er) T)++([]++rkL cr st (rkB kw s2 st iv bv (Go.Ab.sl p 0 (rest.length+1) c0)) (rsB s2 cv yv) iv bv (Go.Ab.sl p 0 (rest.length+1) c0) yv ics bcs ocs ycs):=by
  unfold rkL; rw[hout]; simp
 obtain⟨jp,hjp⟩:=List.mem_iff_getElem?.1 hm
 simp only[List.length_cons] at hn
 refine zeL hO hjp hB.own.len hB.one (by omega) hc0 ?_
 clear hO
 intro v1 H hO hv1
 replace hO:=zUJ [] hO
 refine zaa zca ?_
 refine zaa zba ?_
 refine J.s1 hO 0 rfl hv1.one1 (by simp[rkB,rkC]) ?_
 clear hO
 intro H hO
 replace hO:=zhy [] hO
 refine hk H ⟨sv,sp,T,st,cv,iv,bv,v1,yv,ics,bcs,ocs.drop 41,ycs,h1,?_,?_⟩
 ·exact⟨h2.kv,h2.kst,h2.kb,h2.kl,h2.tl,h2.i,h2.b,hrest _ hv1,h2.il,⟨hn.1,by show rest.length≤s2.nc; omega,hn.2.2⟩,h2.ok,h2.cv,h2.y,h2.ylen⟩
 ·rw[← List.append_assoc]; exact hO
end J
set_option maxRecDepth 100000
namespace J
open Go Go.Ab
variable{H:Heap}{Γ Γ0 Γ2 Δ G L S T L0 X F:List (Nat × Blk)}{K:VH}{v w x cv dv kv kw sv sp iv bv ov yv av:Value}{xs ys zs bs b key ms:List Int}{i j p q r o n k f wd pd st want c cr:Nat}{e er:Int}{cs cs' c1 ck ics bcs ocs ycs new:List Value}{l:List UInt8}{m sd:Mf}{t u:Tm}{es:List (List Value)}{el e1 e2:List Value}{cks:List (List Int)}{dn:Bool}{s s1 s2:Ck}{A B C:Ring}
theorem Bo.n16(h:Bo S s1 s2 A B C c kv cr kw H):A.n≤16∧s1.ain.length≤16:=by
 obtain⟨sv,sp,T,st,cv,iv,bv,ov,yv,ics,bcs,ocs,ycs,h1,h2,hO⟩:=h
 have:=h1.a.nn
 have:=h1.a.rg.n16
 omega
def zCH(acts:List ActP)(av:Value)(c:Nat)(kv:Value)(cr:Nat)(kw:Value)(i:Nat)(l:List Value)(H:Heap):Prop:=
 ∃ S s A B C,l=[.bool false,ptr A.r 0,ptr B.r 0,ptr C.r 0,ptr c 0,ptr cr 0,av,int acts.length,int i]∧Bo S s s A B C c kv cr kw H∧RdA S av acts
theorem ckl{bk:Blk}(h:CkSt S F s A B C c kv H)(j:Nat)(hj:S[j]?=some (p,bk))(hv:bk.cells[o]?=some v)(hk:K v H):opW (zda (ptr p o) H) K:=by
 obtain⟨R,hO⟩:=h.st'
 exact zoa hO j (zCa hj) hv hk
set_option maxHeartbeats 16000000 in
theorem zJC{acts:List ActP}(hb:∀ a ∈ acts,a.p.2.length≤2500){H:Heap}(hi:i < acts.length)(hB:Bo S s s A B C c kv cr kw H)(hA:RdA S av acts){N:LN}{Qx:LX}{Qr:LN}
  (hlen:acts.length≤80)
  (hN:∀ l H,zCH acts av c kv cr kw (i+1) l H→N l H):zhd [.bool false,ptr A.r 0,ptr B.r 0,ptr C.r 0,ptr c 0,ptr cr 0,av,int acts.length,int i] H N Qx Qr:=by
 unfold zhd
 try simp only[zia,zja]
 refine zaa zMa ?_
 refine zNb (by omega) ?_
 obtain⟨p,c9,j,w,cs,x,e1,e2,e3,e4⟩:=hA.at' hi
 have hbl:=hb _ (List.getElem_mem hi)
 refine zaa (by rw[e1]; exact zqb (by omega) (by omega)) ?_
 rw[Int.toNat_natCast]
 refine zAH hB j e2 e3 rfl (by omega) ?_
 obtain⟨a0,n0,c00,rfl⟩:=e4.shape
 rw[zsJ]
 refine zHF hB rfl rfl rfl ?_
 clear hB
 intro p11 H hB
 have hn16:=hB.n16
 have hA':RdA (S++[(p11,(⟨[int acts[i].k,int acts[i].p.1,.slice a0 n0 c00],true⟩:Blk))]) av acts:=hA.app
 refine zxa (zCH acts av c kv cr kw i) ?_ ?_
 ·refine zaa zba ?_
  refine zCK hB (S.length+0) (zwa rfl) (v:=int acts[i].k) rfl ?_
  refine zaa zUa ?_
  by_cases k1:acts[i].k=1
  ·refine zNb k1 ?_
   refine zaa zba ?_
   refine zAH hB (S.length+0) (zwa rfl) (cs:=[int acts[i].p.1,.slice a0 n0 c00]) rfl rfl (by omega) ?_
   obtain⟨st,cv,iv,bv,ov,yv,ics,bcs,ocs,ycs,h2,hS⟩:=hB.toCk
   refine zax hS e4.app (by omega) ?_
   intro b H A' hsame ht hf hS
   cases b with
   | true=>
    refine zvd rfl ?_
    have hB:=Bo.ofck h2 hS
    refine zBH (ys:=acts[i].p.2) (a:=acts[i].p.1) hB (S.length+0) (zwa rfl) e4.app (by omega) (by have:=ht rfl; omega) ?_
    intro H hB
    refine⟨_,_,A',B,C,?_,hB,hA'⟩
    rw[hsame.r]
   | false=>
    refine zDb rfl ?_
    refine⟨_,s,A',B,C,?_,Bo.ofck h2 hS,hA'⟩
    rw[hsame.r]
  refine zqc k1 ?_
  refine zYa ?_
  refine zaa zUa ?_
  by_cases k2:acts[i].k=2
  ·refine zNb k2 ?_
   try simp only[zia,zja]
   refine zNb k2 ?_
   obtain⟨st,cv,iv,bv,ov,yv,ics,bcs,ocs,ycs,h2,hS⟩:=hB.toCk
   refine zaa zca ?_
   refine zaa zba ?_
   obtain⟨sv0,sp0,T0,hc0',hO0⟩:=hS
   refine zoa hO0 (_+0) (zCa (zwa rfl)) (v:=bv) rfl ?_
   have hS:CkSt (S++[(p11,⟨[int acts[i].k,int acts[i].p.1,.slice a0 n0 c00],true⟩)]) (rkL cr st (rkB kw s st iv bv ov) (rsB s cv yv) iv bv ov yv ics bcs ocs ycs) s A B C c kv H:=⟨sv0,sp0,T0,hc0',hO0⟩
   refine zYa ?_
   refine zaa zba ?_
   refine ckl hS (S.length+0) (zwa rfl) (v:=int acts[i].k) rfl ?_
   refine zaa zUa ?_
   refine zqc (by omega) ?_
   try simp only[zia,zja]
   refine zvv hS ?_ ?_
   ·intro he H hS
    refine zaa zrm ?_
    refine zaa zsm ?_
    rw[zcT]
    refine zqm hS zUb.1 zUb.1 zUb.2 ?_
    intro p14 H hS
    refine zYa ?_
    refine zva h2.b.own.lenSl ?_
    refine zaa zTb ?_
    refine zaa (zTf (by kernel_rfl)) ?_
    rw[he,decide_eq_false (show ¬ (0:Int) < ((([]:List Sn).length:Nat):Int) by simp)]
    refine zDb rfl ?_
    refine zDb rfl ?_
    repeat (first|refine oi ?_|refine ow ?_|refine wy ?_|refine wn ?_|refine wt ?_|refine wf' ?_|refine cy ?_|refine cn ?_)
    refine zYa ?_
    try simp only[zia,zja]
    refine zDb rfl ?_
    repeat (first|refine oi ?_|refine ow ?_|refine wy ?_|refine wn ?_|refine wt ?_|refine wf' ?_|refine cy ?_|refine cn ?_)
    refine⟨_,s,A,B,C,rfl,Bo.ofck (h2.app) hS,hA'.app⟩
   ·intro a rest he H B' el hsame hel hS
    refine zaa zrm ?_
    refine zaa zsm ?_
    rw[zcT]
    have hrow:=hel.row
    refine zqm hS zUb.1 hrow.1 hrow.2 ?_
    intro p14 H hS
    refine zYa ?_
    refine zva h2.b.own.lenSl ?_
    refine zaa zTb ?_
    refine zaa (zTf (by kernel_rfl)) ?_
    have hB2:=h2.b
    rw[he] at hB2 ⊢
    rw[decide_eq_true (show (0:Int) < (((a::rest).length:Nat):Int) by simp)]
    refine zDb rfl ?_
    refine zvd rfl ?_
    obtain⟨el2,hp2,ht2,_⟩:=hB2.head (fun a el h=>h.len)
    obtain⟨pb,c0,hlv,hc0,hout⟩:=hB2.own.sl
    obtain⟨sv',sp',T',hc1,hO⟩:=hS
    refine zua hO (_+0) (zCa (zCa (zwa rfl))) (cs:=el) (by show el.take 41=_; exact List.take_of_length_le (by rw[hrow.1]; omega)) hrow.1 (by omega) ?_
    have hm:(pb,(⟨bcs,true⟩:Blk)) ∈ ((((S++[(p11,(⟨[int acts[i].k,int acts[i].p.1,.slice a0 n0 c00],true⟩:Blk))])++[(p14,(⟨el,true⟩:Blk))])++rkL cr st (rkB kw s st iv bv ov) (rsB s cv yv) iv bv ov yv ics bcs ocs ycs)++mB A B' C c (ckC kv s.t A.r B'.r C.r s.sd sv' sp' s.dn s.er) T':List (Nat × Blk)):=by
     unfold rkL; rw[hout]; simp
    obtain⟨jb,hjb⟩:=List.mem_iff_getElem?.1 hm
    refine zaa (by rw[hlv]; exact zqb (by omega) (by simp; try omega)) ?_
    refine zua hO jb hjb (cs:=el2) (by show (bcs.drop (0+0 * 41)).take 41=_; simpa using ht2) hp2.len (by omega) ?_
    refine zRr (a:=a) hel.app.app.app hp2.app.app.app hO ?_
    clear hO
    intro H hO
    have hS:CkSt ((S++[(p11,⟨[int acts[i].k,int acts[i].p.1,.slice a0 n0 c00],true⟩)])++[(p14,⟨el,true⟩)]) (rkL cr st (rkB kw s st iv bv ov) (rsB s cv yv) iv bv ov yv ics bcs ocs ycs) (s.popB rest) A B' C c kv H:=⟨sv',sp',T',hc1,hO⟩
    refine zaa zGc ?_
    refine zaa zUc ?_
    refine zaa zwb ?_
    refine zDb rfl ?_
    refine zYa ?_
    try simp only[zia,zja]
    refine zvd rfl ?_
    refine zaa zba ?_
    refine ckl hS (S.length+0) (zCa (zwa rfl)) (v:=int acts[i].k) rfl ?_
    refine zaa zUa ?_
    refine zaa zUc ?_
    try simp only[zia,zja]
    refine zNb k2 ?_
    refine zHC (h2.app (X:=[(p14,⟨el,true⟩)])) he hS ?_
    intro H hB
    refine⟨_,s.popB rest,A,B',C,?_,hB,hA'.app⟩
    rw[hsame.r]
  refine zqc k2 ?_
  refine zaa zUa ?_
  by_cases k3:acts[i].k=3
  ·try simp only[zia,zja]
   refine zNb k3 ?_
   obtain⟨st,cv,iv,bv,ov,yv,ics,bcs,ocs,ycs,h2,hS⟩:=hB.toCk
   refine zaa zca ?_
   refine zaa zba ?_
   obtain⟨sv0,sp0,T0,hc0',hO0⟩:=hS
   refine zoa hO0 (_+0) (zCa (zwa rfl)) (v:=bv) rfl ?_
   refine zYa ?_
   refine zaa zba ?_
   refine zoa hO0 (S.length+0) (zCa (zCa (zwa rfl))) (v:=int acts[i].k) rfl ?_
   refine zaa zUa ?_
   refine zNb k3 ?_
   refine zaa zca ?_
   refine zaa zba ?_
   refine zoa hO0 (_+0) (zCa (zwa rfl)) (v:=ov) rfl ?_
   have hS:CkSt (S++[(p11,⟨[int acts[i].k,int acts[i].p.1,.slice a0 n0 c00],true⟩)]) (rkL cr st (rkB kw s st iv bv ov) (rsB s cv yv) iv bv ov yv ics bcs ocs ycs) s A B C c kv H:=⟨sv0,sp0,T0,hc0',hO0⟩
   try simp only[zia,zja]
   refine zpm hS ?_ ?_
   ·intro he H hS
    refine zaa zrm ?_
    refine zaa zsm ?_
    rw[zcT]
    refine zqm hS zUb.1 zUb.1 zUb.2 ?_
    intro p14 H hS
    refine zYa ?_
    refine zva h2.o.own.lenSl ?_
    refine zaa zTb ?_
    refine zaa (zTf (by kernel_rfl)) ?_
    rw[he,decide_eq_false (show ¬ (0:Int) < ((([]:List Sn).length:Nat):Int) by simp)]
    refine zDb rfl ?_
    refine zDb rfl ?_
    repeat (first|refine oi ?_|refine ow ?_|refine wy ?_|refine wn ?_|refine wt ?_|refine wf' ?_|refine cy ?_|refine cn ?_)
    refine zYa ?_
    try simp only[zia,zja]
    refine zDb rfl ?_
    repeat (first|refine oi ?_|refine ow ?_|refine wy ?_|refine wn ?_|refine wt ?_|refine wf' ?_|refine cy ?_|refine cn ?_)
    refine⟨_,s,A,B,C,rfl,Bo.ofck (h2.app) hS,hA'.app⟩
   ·intro a rest he H C' el hsame hel hS
    refine zaa zrm ?_
    refine zaa zsm ?_
    rw[zcT]
    have hrow:=hel.row
    refine zqm hS zUb.1 hrow.1 hrow.2 ?_
    intro p14 H hS
    refine zYa ?_
    refine zva h2.o.own.lenSl ?_
    refine zaa zTb ?_
    refine zaa (zTf (by kernel_rfl)) ?_
    have hB2:=h2.o
    rw[he] at hB2 ⊢
    rw[decide_eq_true (show (0:Int) < (((a::rest).length:Nat):Int) by simp)]
    refine zDb rfl ?_
    refine zvd rfl ?_
    obtain⟨el2,hp2,ht2,_⟩:=hB2.head (fun a el h=>h.len)
    obtain⟨pb,c0,hlv,hc0,hout⟩:=hB2.own.sl
    obtain⟨sv',sp',T',hc1,hO⟩:=hS
    refine zua hO (_+0) (zCa (zCa (zwa rfl))) (cs:=el) (by show el.take 41=_; exact List.take_of_length_le (by rw[hrow.1]; omega)) hrow.1 (by omega) ?_
    have hm:(pb,(⟨ocs,true⟩:Blk)) ∈ ((((S++[(p11,(⟨[int acts[i].k,int acts[i].p.1,.slice a0 n0 c00],true⟩:Blk))])++[(p14,(⟨el,true⟩:Blk))])++rkL cr st (rkB kw s st iv bv ov) (rsB s cv yv) iv bv ov yv ics bcs ocs ycs)++mB A B C' c (ckC kv s.t A.r B.r C'.r s.sd sv' sp' s.dn s.er) T':List (Nat × Blk)):=by
     unfold rkL; rw[hout]; simp
    obtain⟨jb,hjb⟩:=List.mem_iff_getElem?.1 hm
    refine zaa (by rw[hlv]; exact zqb (by omega) (by simp; try omega)) ?_
    refine zua hO jb hjb (cs:=el2) (by show (ocs.drop (0+0 * 41)).take 41=_; simpa using ht2) hp2.len (by omega) ?_
    refine zRr (a:=a) hel.app.app.app hp2.app.app.app hO ?_
    clear hO
    intro H hO
    have hS:CkSt ((S++[(p11,⟨[int acts[i].k,int acts[i].p.1,.slice a0 n0 c00],true⟩)])++[(p14,⟨el,true⟩)]) (rkL cr st (rkB kw s st iv bv ov) (rsB s cv yv) iv bv ov yv ics bcs ocs ycs) (s.popO rest) A B C' c kv H:=⟨sv',sp',T',hc1,hO⟩
    refine zaa zGc ?_
    refine zaa zUc ?_
    refine zaa zwb ?_
    refine zDb rfl ?_
    refine zYa ?_
    try simp only[zia,zja]
    refine zvd rfl ?_
    refine zaa zba ?_
    refine ckl hS (S.length+0) (zCa (zwa rfl)) (v:=int acts[i].k) rfl ?_
    refine zaa zUa ?_
    refine zaa zUc ?_
    try simp only[zia,zja]
    refine zqc k2 ?_
    refine zvd rfl ?_
    refine zIC (h2.app (X:=[(p14,⟨el,true⟩)])) he hS ?_
    intro H hB
    refine⟨_,s.popO rest,A,B,C',?_,hB,hA'.app⟩
    rw[hsame.r]
  try simp only[zia,zja]
  refine zqc k3 ?_
  refine zLE hB ?_
  intro H X A' B' C' q1 q2 q3 hB
  refine zME hB ?_
  intro H X2 hB
  refine zaa (zTf (by kernel_rfl)) ?_
  refine zDb (by simp) ?_
  refine⟨_,_,A',B',C',?_,hB,hA'.app.app⟩
  rw[q1.r,q2.r,q3.r]
 clear hB hA' e2 e3 e4 e1 hA
 rintro l' H' ⟨S,s,A,B,C,rfl,hB,hA⟩
 try simp only[zia,zja]
 refine zvJ hB ?_
 clear hB
 intro H X mv hmv hB
 refine zaa zrm ?_
 refine zaa zsm ?_
 have hokd:s.sd.Ok:=by
  obtain⟨sv,sp,T,st,cv,iv,bv,ov,yv,ics,bcs,ocs,ycs,h1,h2,hO⟩:=hB
  exact h1.ok
 rw[zcM]
 refine zHF hB (by rfl) (zra hokd.dl) (ztb hmv.one) ?_
 clear hB
 intro p16 H hB
 refine zDK hB ?_
 refine zGC hB ?_
 refine zaa zQa ?_
 refine zqc (by simp) ?_
 refine zaa zca ?_
 refine zaa zba ?_
 refine zKK hB ?_
 refine zaa (zTf (by kernel_rfl)) ?_
 refine zaa (zWa (by simp)) ?_
 refine zDb (by simp) ?_
 refine zAH hB ((S++X).length+0) (zwa rfl) (cs:=mfC s.sd mv) (by show (mfC s.sd mv).take 37=_; exact List.take_of_length_le (by rw[zra hokd.dl]; omega)) (zra hokd.dl) (by omega) ?_
 refine zNE hB hmv.app'.app ?_
 clear hB
 intro H hB
 refine zaa zGc ?_
 refine zaa (by simp only[beq_self_eq_true,Bool.not_true]; exact zwb) ?_
 refine zDb rfl ?_
 refine zEK hB ?_
 refine zaa zca ?_
 refine zaa zba ?_
 refine zwJ hB ?_
 refine⟨zlq hB,?_⟩
 refine zaa (zTf (by kernel_rfl)) ?_
 refine zaa zwb ?_
 refine zDb (by simp) ?_
 refine zFK hB ?_
 refine zaa zca ?_
 refine zaa zba ?_
 refine zxJ hB ?_
 refine⟨zlq hB,?_⟩
 refine zaa zQa ?_
 refine zaa (by simp only[beq_self_eq_true,Bool.not_true]; exact zwb) ?_
 refine zqc (by simp) ?_
 refine zGK hB ?_
 refine zaa zca ?_
 refine zaa zba ?_
 refine zLK hB ?_
 intro iv hiv
 refine⟨zlq hB,?_⟩
 refine zva (hiv _) ?_
 refine zaa zQa ?_
 refine zaa (zWa (by simp)) ?_
 refine zqc (by simp) ?_
 refine zHK hB ?_
 refine zaa zca ?_
 refine zaa zba ?_
 refine zMK hB ?_
 intro bv hbv
 refine⟨zlq hB,?_⟩
 refine zva (hbv _) ?_
 refine zaa zQa ?_
 refine zaa (zWa (by simp)) ?_
 refine zqc (by simp) ?_
 refine zIK hB ?_
 refine zaa zca ?_
 refine zaa zba ?_
 refine zNK hB ?_
 intro ov hov
 refine⟨zlq hB,?_⟩
 refine zva (hov _) ?_
 refine zaa zQa ?_
 refine zaa (zWa (by simp)) ?_
 refine zqc (by simp) ?_
 refine zaa (zCi (b:=1) (by omega)) ?_
 exact hN _ _ ⟨_,s,A,B,C,rfl,hB,hA.app.app⟩
end J
set_option maxRecDepth 100000
namespace J
open Go Go.Ab
variable{H:Heap}{Γ Γ0 Γ2 Δ G L S T X F:List (Nat × Blk)}{K:VH}{v w x cv dv kv:Value}{xs ys zs bs b key ms:List Int}{i j p q r o n k f:Nat}{e er:Int}{cs cs':List Value}{l pr:List UInt8}{m sd:Mf}{ver:Nat}{ck:Int}
def zyJ(b:List Int)(C i:Nat):List Int:=sha ((b.drop (i * C)).take C)
def mkY(pr:List UInt8)(ver:Nat)(ck:Int)(b:List Int)(y:Nat):Mf:=⟨pr,ver,b.length,ck,sha b,(List.range y).map (zyJ b ck.toNat)⟩
def mkF(pr:List UInt8)(ver:Nat)(ck:Int)(b:List Int):Mf:=mkY pr ver ck b (cnt b.length ck).toNat
theorem zZk{y:Nat}:(mkY pr ver ck b y).cks.length=y:=by simp[mkY]
theorem zIF{y:Nat}(hv:ver < 18446744073709551616)(hc:-9223372036854775808≤ck∧ck≤9223372036854775807)(hl:b.length≤1000000)(hp:pr.length≤10000)(hy:y≤10000):(mkY pr ver ck b y).Ok:=by
 refine⟨zFb,zIr,?_,?_,hv,⟨by show -9223372036854775808≤((b.length:Nat):Int); omega,by show ((b.length:Nat):Int)≤_; omega⟩,hc,by rw[zZk]; exact hy,hp⟩
 ·intro x hx
  obtain⟨i,_,rfl⟩:=List.mem_map.1 hx
  exact zFb
 ·intro x hx
  obtain⟨i,_,rfl⟩:=List.mem_map.1 hx
  exact zIr
theorem bMk(pr:List UInt8)(ver:Nat)(sz ck:Int)(dg:List Int)(hd:dg.length=32):(zAa P 52).f [(0,str pr),(1,zsb .u64 ver),(2,int sz),(3,int ck),(4,agg (by8 dg))]=some (agg (mfC ⟨pr,ver,sz,ck,dg,[]⟩ zqa)):=by
 match dg,hd with
 | [a0,a1,a2,a3,a4,a5,a6,a7,a8,a9,a10,a11,a12,a13,a14,a15,a16,a17,a18,a19,a20,a21,a22,a23,a24,a25,a26,a27,a28,a29,a30,a31],_=>show _=_; kernel_rfl
theorem zfL:(zAa P 52).f []=some (agg (mfC m0 zqa)):=by kernel_rfl
theorem zzJ{m a:Mf}(h1:m.pr=a.pr)(h2:m.ver=a.ver)(h3:m.sz=a.sz)(h4:m.ck=a.ck)(h5:m.dg=a.dg):mfC m v=mfC a v:=by
 unfold mfC; rw[h1,h2,h3,h4,h5]
theorem zKC{size n:Nat}(h:Own size v n cs):zab v=true:=by
 rcases h with⟨rfl,_⟩|⟨p,rfl|rfl,_⟩ <;> rfl
theorem zIz(y:Nat):(mkY pr ver ck b (y+1)).cks=(mkY pr ver ck b y).cks++[zyJ b ck.toNat y]:=by
 simp[mkY,List.range_succ]
set_option maxHeartbeats 4000000 in
theorem zLC(hO:St H Γ)(hv:RdB Γ v b)(hb:By b)(hl:b.length≤1000000)(hver:ver < 18446744073709551616)(hck:-9223372036854775808≤ck∧ck≤9223372036854775807)(hp:pr.length≤10000)
  (hk0:¬ zGa (mkF pr ver ck b)→∀ H',St H' Γ→K (.tuple [agg (mfC m0 zqa),int 131].toArray) H')
  (hk1:zGa (mkF pr ver ck b)→∀ H' cv,St H' (Γ++zKa cv (hsC (mkF pr ver ck b).cks))→RdH (zKa cv (hsC (mkF pr ver ck b).cks)) cv (mkF pr ver ck b).cks→K (.tuple [agg (mfC (mkF pr ver ck b) cv),int 0].toArray) H') :
  wCall P zCg [str pr,zsb .u64 ver,int ck,v] H K:=by
 apply zEs; unfold zkr
 rw[zcM]
 refine nw hO.z ?_
 clear hO
 intro p8 H hO
 replace hO:St H (Γ++[(p8,⟨mfC m0 zqa,true⟩)]):=hO
 refine zva hv.lenSl ?_
 refine zgg hO hv.app hb (by omega) ?_
 clear hO
 intro H hO
 refine zaa (bMk _ _ _ _ _ zFb) ?_
 refine nw hO ?_
 clear hO
 intro p10 H hO
 refine sw hO 1 rfl (by rfl) (zra zFb) (ztb rfl) ?_
 clear hO
 intro H hO
 refine zva hv.lenSl ?_
 refine zyi (by omega) (by omega) ?_
 have hcnt:mkF pr ver ck b=mkY pr ver ck b (cnt b.length ck).toNat:=rfl
 have hc0:0≤cnt b.length ck:=zdn
 generalize hQ:cnt b.length ck=Q at *
 obtain⟨N,rfl⟩:∃ N:Nat,Q=N:=⟨Q.toNat,by omega⟩
 rw[Int.toNat_natCast] at hcnt
 rw[hcnt] at hk0 hk1
 refine zaa zTb ?_
 refine zma (fun h64=>?_) (fun h64=>?_)
 ·refine zaa zfL ?_
  refine sw hO 0 rfl (by rfl) (by rfl) (by rfl) ?_
  clear hO
  intro H hO
  refine lw hO 0 rfl (by rfl) (by omega) ?_
  refine hk0 ?_ H hO.left
  intro hr
  have:=hr.2.2.2.2.2.2.2.2.2
  rw[zZk] at this
  omega
 have hN:N≤64:=by omega
 have hmul:N=0∨∃ C:Nat,ck=C∧0 < C∧(N - 1) * C≤b.length∧b.length≤N * C∧0 < N:=by
  unfold cnt at hQ
  split at hQ
  ·left; omega
  ·right
   rename_i hne
   refine⟨ck.toNat,by omega,by omega,?_⟩
   have e1:(((b.length:Nat):Int) - 1) / ck=(((b.length - 1) / ck.toNat:Nat):Int):=by
    rw[Int.natCast_ediv,show ((b.length - 1:Nat):Int)=(b.length:Int) - 1 by omega,show ((ck.toNat:Nat):Int)=ck by omega]
   rw[e1] at hQ
   have h1:=Nat.div_mul_le_self (b.length - 1) ck.toNat
   have h2:=Nat.lt_div_mul_add (a:=b.length - 1) (b:=ck.toNat) (by omega)
   have h3:N - 1=(b.length - 1) / ck.toNat:=by
    have:N=(b.length - 1) / ck.toNat+1:=Int.ofNat_inj.1 (by rw[← hQ]; rfl)
    rw[this]; rfl
   have hN1:0 < N:=by
    have:N=(b.length - 1) / ck.toNat+1:=Int.ofNat_inj.1 (by rw[← hQ]; rfl)
    rw[this]; exact Nat.succ_pos _
   have h4:N * ck.toNat=(b.length - 1) / ck.toNat * ck.toNat+ck.toNat:=by
    rw[show N=(b.length - 1) / ck.toNat+1 from Int.ofNat_inj.1 (by rw[← hQ]; rfl),Nat.succ_mul]
   rw[h3]
   generalize (b.length - 1) / ck.toNat * ck.toNat=Z at *
   generalize N * ck.toNat=Z2 at *
   refine⟨?_,?_,?_⟩ <;> omega
 have okY:∀ y,y≤N→(mkY pr ver ck b y).Ok:=fun y hy=>zIF hver hck hl hp (by omega)
 have hhd:∀ (y:Nat) (z:Value),mfC (mkY pr ver ck b y) z=mfC (mkY pr ver ck b 0) z:=fun y z=>zzJ rfl rfl rfl rfl rfl
 have hd:=(okY 0 (Nat.zero_le _)).dl
 replace hO:St H ((Γ++[(p8,⟨mfC m0 zqa,true⟩),(p10,⟨mfC (mkY pr ver ck b 0) zqa,true⟩)])++zKa zqa (hsC (mkY pr ver ck b 0).cks)):=hO.z
 refine zOm (fun k l' H'=>∃ (y:Nat) (cv:Value),y≤N∧k=N - y∧l'=[int ck,v,ptr p8 0,int 0,ptr p10 0,int N,int y]∧St H' ((Γ++[(p8,⟨mfC m0 zqa,true⟩),(p10,⟨mfC (mkY pr ver ck b 0) cv,true⟩)])++zKa cv (hsC (mkY pr ver ck b y).cks))∧Own 32 cv y (hsC (mkY pr ver ck b y).cks)) _ _ ?_ N _ _ ⟨0,zqa,by omega,by omega,rfl,hO,.nil⟩
 clear hO
 rintro k l' H ⟨y,cv,hy,rfl,rfl,hO,how⟩
 unfold zBl
 try simp only[zia,zja]
 refine zaa zMa ?_
 refine zma (fun hlt=>?_) (fun hlt=>?_)
 ·have hy:y < N:=by omega
  obtain⟨C,rfl,hC,hm1,hm2,hN0⟩:=hmul.resolve_left (by omega)
  have hyC:y * C≤(N - 1) * C:=Nat.mul_le_mul_right C (by omega)
  have hto:(y+1) * C=y * C+C:=Nat.succ_mul y C
  refine zaa (zov (by rw[← Int.natCast_mul]; omega) (by rw[← Int.natCast_mul]; omega)) ?_
  refine zva hv.lenSl ?_
  refine zxa (fun l' H'=>l'=[int C,v,ptr p8 0,int 0,ptr p10 0,int N,int y,int ((y * C:Nat):Int),int ((min (y * C+C) b.length:Nat):Int)]∧H=H') ?_ ?_
  ·refine zaa (zBb (by omega) (by omega)) ?_
   refine zaa zMa ?_
   refine zma (fun h=>?_) (fun h=>?_)
   ·have h5:y * C+C≤(N - 1) * C:=by rw[← hto]; exact Nat.mul_le_mul_right C (by omega)
    refine zaa (zLc (by rw[← Int.natCast_mul]; omega) (by rw[← Int.natCast_mul]; omega)) ?_
    refine⟨?_,rfl⟩
    rw[show min (y * C+C) b.length=y * C+C by omega,Int.natCast_add,Int.natCast_mul]
   ·have h6:y=N - 1:=by omega
    have h5:N * C=y * C+C:=by rw[← hto,h6,show N - 1+1=N by omega]
    refine⟨?_,rfl⟩
    rw[show min (y * C+C) b.length=b.length by omega,Int.natCast_mul]
  rintro l' H' ⟨rfl,rfl⟩
  try simp only[zia,zja]
  refine zaa zba ?_
  refine zoa hO (Γ.length+1) (zCa (zwa rfl)) (zIe hd) ?_
  obtain⟨w,hw,hin⟩:=zkm hv (i:=y * C) (t:=min (y * C+C) b.length) (by omega) (by omega)
  refine zaa hw ?_
  have hO1:=hO
  refine zgg hO (hin _ hv).app.app (By.drop (By.take hb)) (by rw[List.length_drop,List.length_take]; omega) ?_
  clear hO
  intro H hO
  refine⟨zcb hO1 (Γ.length+1) (zCa (zwa rfl)) hO (Γ.length+1) (zCa (zwa rfl)) (zbe (zKC how)),?_⟩
  clear hO1
  have hch:sha ((b.take (min (y * C+C) b.length)).drop (y * C))=zyJ b (C:Int).toNat y:=by
   unfold zyJ
   rw[Int.toNat_natCast]
   congr 1
   rw[List.drop_take]
   by_cases h7:y * C+C≤b.length
   ·rw[show min (y * C+C) b.length - y * C=C by omega]
   ·rw[List.take_of_length_le (by rw[List.length_drop]; omega),List.take_of_length_le (by rw[List.length_drop]; omega)]
  rw[hch]
  have hcl:(zyJ b (C:Int).toNat y).length=32:=zFb
  refine zDa hO (zqK _ hcl _) ?_
  clear hO
  intro q H hO
  refine zYe hO how (by rw[zii]; exact hcl) (by omega) (zad _) (by omega) (by omega) ?_
  clear hO
  intro cv2 H hO how2
  rw[← zhm,← zIz] at hO how2
  refine zaa zba ?_
  refine zNa hO (Γ.length+1) (zCa (zwa rfl)) how2.one1 (by rw[zra hd]; omega) (zAC hd) ?_
  clear hO
  intro H hO
  rw[List.set_append_left _ _ (by simp),Go.Ab.set_r] at hO
  refine zaa (zCi (b:=1) (by omega)) ?_
  exact⟨N - (y+1),by omega,y+1,cv2,by omega,rfl,rfl,hO,how2⟩
 ·have ey:y=N:=by omega
  subst ey
  refine zZa rfl ?_
  try simp only[zia,zja]
  have oky:=okY y (Nat.le_refl _)
  have hrd:RdH (zKa cv (hsC (mkY pr ver ck b y).cks)) cv (mkY pr ver ck b y).cks:=zjt (by rw[zZk]; exact how)
  rw[← hhd y cv] at hO
  refine zFa hO (Γ.length+1) (zCa (zwa rfl)) (zra oky.dl) (by omega) ?_
  refine zWc oky hrd.app' hO ?_
  clear hO
  intro H hO
  refine zaa zGc ?_
  refine zTc (fun hr=>?_) (fun hr=>?_)
  ·have hr:¬ zGa (mkY pr ver ck b y):=by simpa using hr
   refine zaa zfL ?_
   refine zya hO (Γ.length+0) (zCa (zwa rfl)) (by rfl) (by rfl) (by rfl) ?_
   clear hO
   intro H hO
   rw[List.set_append_left _ _ (by simp),Go.Ab.set_r] at hO
   refine zFa hO (Γ.length+0) (zCa (zwa rfl)) (by rfl) (by omega) ?_
   exact hk0 hr H hO.left.left
  ·have hr:zGa (mkY pr ver ck b y):=by simpa using hr
   refine zFa hO (Γ.length+1) (zCa (zwa rfl)) (zra oky.dl) (by omega) ?_
   refine zya hO (Γ.length+0) (zCa (zwa rfl)) (by rfl) (zra oky.dl) (ztb hrd.one) ?_
   clear hO
   intro H hO
   rw[List.set_append_left _ _ (by simp),Go.Ab.set_r] at hO
   refine zFa hO (Γ.length+0) (zCa (zwa rfl)) (zra oky.dl) (by omega) ?_
   exact hk1 hr H cv (St.mid hO) hrd
end J
set_option maxRecDepth 100000
namespace J
open Go Go.Ab
variable{H:Heap}{Γ Γ0 Γ1 Γ2 Δ G L S T X F:List (Nat × Blk)}{K:VH}{v w x cv dv kv:Value}{xs ys zs b key:List Int}{i j p q o n k c:Nat}{e er:Int}{cs cs':List Value}{l pr:List UInt8}{m sd:Mf}{t:Tm}{A B C:Ring}{s:Ck}
def mR(A B C:Ring):List (Nat × Blk):=[(A.q,⟨A.cs,true⟩),(A.r,⟨rgC A.q A.n 2 A.f A.es.length,true⟩),(B.q,⟨B.cs,true⟩),(B.r,⟨rgC B.q B.n 1 B.f B.es.length,true⟩),(C.q,⟨C.cs,true⟩),(C.r,⟨rgC C.q C.n 1 C.f C.es.length,true⟩)]
def Ck.new(key:List Int)(t:Tm)(nb nc:Nat):Ck:=⟨key,t,[],[],[],nb,nc,m0,none,false,0⟩
theorem zDH(h:Rg 2 A.n A.f [] A.cs)(he:A.es=[]):RgP S A []:=⟨by rw[he]; exact h,by rw[he]; exact .nil,fun p hp=>by cases hp⟩
theorem zMC(h:Rg 1 A.n A.f [] A.cs)(he:A.es=[]):RgN S A []:=⟨by rw[he]; exact h,by rw[he]; exact .nil⟩
theorem zSr(hO:St H Γ1)(hp:Γ1.Perm (Γ++mR A B C))(hv:RdB Γ v key)(hb:By key)(hl:key.length≤1000000)(ht:t.pr.length≤1000000)
  (hA:Rg 2 A.n A.f [] A.cs) (hB:Rg 1 B.n B.f [] B.cs) (hC:Rg 1 C.n C.f [] C.cs) (eA:A.es=[]) (eB:B.es=[]) (eC:C.es=[])
  (hk:∀ H' X kv c,CkSt (Γ++X) [] (Ck.new key t B.n C.n) A B C c kv H'→K (ptr c 0) H'):wCall P zVf [v,agg (tmC t),ptr A.r 0,ptr B.r 0,ptr C.r 0] H K:=by
 refine zxC (hO.perm hp) hv.app hl ?_
 intro H' kv kc c hO' hkv
 refine hk H' (zKa kv kc) kv c ⟨zqa,.pointer none,[],⟨hkv.rd.app',hb,hl,ht,zDH hA eA,zMC hB eB,zMC hC eC,rfl,rfl,zJw,.inl ⟨rfl,rfl⟩,.nos⟩,?_⟩
 have h2:St H' (((Γ++zKa kv kc)++[])++(mR A B C++[(c,⟨ckC kv t A.r B.r C.r m0 zqa (.pointer none) false 0,true⟩)])):=by
  refine hO'.perm ?_
  generalize mR A B C=M; generalize zKa kv kc=Y
  exact (by classical exact List.perm_iff_count.2 fun _=>by simp only[List.count_append,List.count_nil,List.set_cons_zero]; omega)
 exact h2
theorem bPc(a:Int)(x:Option Addr)(n c:Nat):(zAa P 35).f [(0,int a),(1,.slice x n c)]=some (agg [int a,.slice x n c]):=by kernel_rfl
theorem nnP(p:Nat):(zpa P .eql 32 true).f (ptr p 0) (.pointer none)=some (.bool false):=by kernel_rfl
theorem nnN(p:Nat):(zpa P .eql 36 true).f (ptr p 0) (.pointer none)=some (.bool false):=by kernel_rfl
theorem nnC(p:Nat):(zpa P .eql 40 true).f (ptr p 0) (.pointer none)=some (.bool false):=by kernel_rfl
theorem zOE(k:Nat)(hi:Γ[k]?=some (q,⟨by8 xs,true⟩)):Stay Γ (Go.Ab.sl q 0 n c):=.inr ⟨q,0,n,c,k,_,rfl,hi,zae _,.inl rfl⟩
section step
variable{ain r:List (Int × List Int)}{bk ou:List Sn}{nb nc w:Nat}{a:Int}
theorem zNC(h1:bk.length≠nb)(h2:ou.length≠nc):(⟨key,t,(-1,b)::r,bk,ou,nb,nc,sd,none,false,0⟩:Ck).step=(true,(⟨key,t,r,bk,ou,nb,nc,sd,none,false,0⟩:Ck).opens b):=by
 unfold Ck.step
 rw[if_neg (by simp)]
 simp only
 rw[if_neg (by rintro (h|h); exact h1 h; exact h2 h),if_pos trivial]
 rfl
theorem zOC(h1:bk.length≠nb)(h2:ou.length≠nc)(hw:w≠sd.cks.length):(⟨key,t,((w:Int),b)::r,bk,ou,nb,nc,sd,some (xs,w),false,0⟩:Ck).step=(true,(⟨key,t,r,bk,ou,nb,nc,sd,some (xs,w),false,0⟩:Ck).takes xs w b):=by
 unfold Ck.step
 rw[if_neg (by simp)]
 simp only
 rw[if_neg hw,if_neg (by rintro (h|h); exact h1 h; exact h2 h),if_pos trivial]
 rfl
theorem step_end(h2:ou.length≠nc)(hw:w=sd.cks.length)(hd:sha xs=sd.dg):(⟨key,t,r,bk,ou,nb,nc,sd,some (xs,w),false,0⟩:Ck).step=(true,(⟨key,t,r,bk,ou++[.fin],nb,nc,sd,some (xs,w),true,0⟩:Ck)):=by
 unfold Ck.step
 rw[if_neg (by simp)]
 simp only
 rw[if_pos hw]
 unfold Ck.ends
 simp only
 rw[if_neg h2,if_pos hd]
theorem zPC{hs:Option (List Int × Nat)}:(⟨key,t,r,bk,ou,nb,nc,sd,hs,true,er⟩:Ck).step=(false,(⟨key,t,r,bk,ou,nb,nc,sd,hs,true,er⟩:Ck)):=by
 unfold Ck.step
 rw[if_pos (.inr rfl)]
theorem zPE{n:Int}(h1:zrb key b=(m,n,0))(h2:zLr m t=0):(⟨key,t,r,bk,ou,nb,nc,sd,none,false,0⟩:Ck).opens b=⟨key,t,r,bk++[.go n m],ou++[.go n m],nb,nc,m,some ([],0),false,0⟩:=by
 unfold Ck.opens
 simp only[h1,h2]
 rfl
theorem zQE(h:(b.length:Int)=(zig sd w).2∧sha b=sd.cks.getD w []):(⟨key,t,r,bk,ou,nb,nc,sd,some (xs,w),false,0⟩:Ck).takes xs w b=⟨key,t,r,bk,ou++[.body w b],nb,nc,sd,some (xs++b,w+1),false,0⟩:=by
 unfold Ck.takes
 simp only
 rw[if_pos h]
end step
theorem zwv{ver:Nat}{C i:Nat}(hi:i < (mkF pr ver C b).cks.length):(mkF pr ver C b).cks.getD i []=sha ((b.drop (i * C)).take C):=by
 have:i < (List.range (cnt b.length (C:Int)).toNat).length:=by
  have:=hi
  unfold mkF at this
  rw[zZk] at this
  simpa using this
 unfold mkF mkY
 simp only[List.getD_eq_getElem?_getD,List.getElem?_map,List.getElem?_eq_getElem this,Option.map_some,Option.getD_some,List.getElem_range]
 rfl
end J
set_option maxRecDepth 100000
namespace J
open Go Go.Ab
variable{H:Heap}{Γ Γ0 Γ1 Γ2 Δ G L S T X F:List (Nat × Blk)}{K:VH}{v w x cv dv kv:Value}{xs ys zs b key:List Int}{i j p q o n k c:Nat}{e er:Int}{cs cs':List Value}{l pr:List UInt8}{m sd:Mf}{t:Tm}{A B C:Ring}{s:Ck}
theorem zQC{ver:Nat}{ck:Int}(hn:zfm pr=0)(v1:1≤ver)(v2:ver≤281474976710656)(b1:1≤b.length)(b2:b.length≤65536)(c1:64≤ck)(c2:ck≤1024)(c3:ck % 64=0)(hc:cnt b.length ck≤64):zGa (mkF pr ver ck b):=by
 have h0:0≤cnt b.length ck:=zdn
 refine⟨hn,v1,v2,?_,?_,c1,c2,c3,?_,?_⟩
 ·show (1:Int)≤((b.length:Nat):Int); omega
 ·show ((b.length:Nat):Int)≤65536; omega
 ·unfold mkF; rw[zZk]; show _=cnt ((b.length:Nat):Int) ck; omega
 ·unfold mkF; rw[zZk]; omega
def zPq:List UInt8:=[99,111,114,101]
def zst:List Int:=[97,110,32,105,109,97,103,101]
def zal:List Int:=[107,101,121]
theorem zRC:zfm zPq=0:=by kernel_rfl
theorem zJF:By zst:=by intro x hx; simp[zst] at hx; omega
theorem zKF:By zal:=by intro x hx; simp[zal] at hx; omega
theorem zOK(H:Heap):(zla P 22 8).f [(0,.int .u8 97),(1,.int .u8 110),(2,.int .u8 32),(3,.int .u8 105),(4,.int .u8 109),(5,.int .u8 97),(6,.int .u8 103),(7,.int .u8 101)] H=some (Go.Ab.sl H.next 0 8 3,H.push (by8 zst)):=by kernel_rfl
theorem zLF(H:Heap):(zla P 22 3).f [(0,.int .u8 107),(1,.int .u8 101),(2,.int .u8 121)] H=some (Go.Ab.sl H.next 0 3 3,H.push (by8 zal)):=by kernel_rfl
def tmA:Tm:=⟨zPq,0,100⟩
theorem zWL:(zAa P 25).f [(0,.string ⟨#[99,111,114,101]⟩),(2,.int .i64 100)]=some (agg (tmC tmA)):=by kernel_rfl
theorem kpG{q o n c j:Nat}(hO:St H Γ)(hi:Γ[j]?=some (q,⟨cs,true⟩))(hn:0 < n)(hk:K (Go.Ab.sl q o n c) H):opW (zmi (Go.Ab.sl q o n c) H) K:=by
 have hj:=(List.getElem?_eq_some_iff.1 hi).1
 refine kp (Γ:=[]) (L:=Γ) (cs:=cs) (by simpa using hO) j hi hn hk
theorem zSC{m:Mf}(ok:m.Ok)(h:zGa m):(zkc key m).length≤2228∧84≤(zkc key m).length:=⟨(zlm ok h).2.1,(zlm ok h).2.2.1⟩
theorem zJz{m:Mf}(hr:zGa m)(h1:m.cks.length=1):(zig m ((0:Nat):Int)).2=min m.ck m.sz:=by
 unfold zig
 rw[if_neg (by intro h; rcases h with h|h|h; exact h hr; omega; rw[h1] at h; omega)]
 show min m.ck (m.sz - ((0:Nat):Int) * m.ck)=_
 simp
theorem zRE{m:Mf}(ok:m.Ok):By (zkc key m):=zsd (zay ok) zMw
structure R3 (A B C:Ring) (x1 x2 x3:Int):Prop where
 a:Rg 2 A.n A.f [] A.cs
 b:Rg 1 B.n B.f [] B.cs
 c:Rg 1 C.n C.f [] C.cs
 ea:A.es=[]
 eb:B.es=[]
 ec:C.es=[]
 na:A.n=zJa x1
 nb:B.n=zJa x2
 nc:C.n=zJa x3
theorem zPK{x1 x2 x3:Int}{K:Value→Value→VH}(hO:St H Γ)(hk:∀ H' A B C,R3 A B C x1 x2 x3→St H' (Γ++mR A B C)→K (ptr A.r 0) (ptr B.r 0) (ptr C.r 0) H') :
  wCall P zac [int x1] H fun t1 H1=>wCall P zlb [int x2] H1 fun t2 H2=>wCall P zlb [int x3] H2 fun t3 H3=>K t1 t2 t3 H3:=by
 refine zmv hO.z ?_
 clear hO
 intro H q1 r1 cs1 g1 hO
 refine znm hO ?_
 clear hO
 intro H q2 r2 cs2 g2 hO
 refine znm hO ?_
 clear hO
 intro H q3 r3 cs3 g3 hO
 exact hk H ⟨q1,r1,zJa x1,0,cs1,[]⟩ ⟨q2,r2,zJa x2,0,cs2,[]⟩ ⟨q3,r3,zJa x3,0,cs3,[]⟩ ⟨g1,g2,g3,rfl,rfl,rfl,rfl,rfl,rfl⟩ hO
def mA:Mf:=mkF zPq 3 64 zst
theorem zRj:zGa mA:=zQC zRC (by decide) (by decide) (by decide) (by decide) (by decide) (by decide) (by decide) (by decide)
theorem zKz:mA.Ok:=zIF (by decide) (by decide) (by decide) (by decide) (by decide)
theorem zTr:mA.cks.length=1:=by unfold mA mkF; rw[zZk]; decide
theorem zQK:mA.cks.getD 0 []=sha zst:=by
 have h:0 < (mkF zPq 3 ((64:Nat):Int) zst).cks.length:=by show 0 < mA.cks.length; rw[zTr]; omega
 exact (zwv h).trans rfl
theorem zAJ:zLr mA tmA=0:=by
 refine zxK.2 ⟨zRj,rfl,?_,?_⟩
 ·show ¬ (3:Nat) < 0; omega
 ·show ¬ ((zst.length:Nat):Int) > 100; decide
theorem zTC(h:CkSt S [] s A B C c kv H):St H S:=by
 obtain⟨sv,sp,T,h1,hO⟩:=h
 exact hO.left.left
set_option maxHeartbeats 8000000 in
theorem zxv(hO:St H Γ)(hk:∀ H',St H' Γ→K (.bool true) H'):wCall P zle [] H K:=by
 apply zTk; unfold zpi
 refine zDa hO (zOK _) ?_
 clear hO
 intro qi H hO
 refine kpG hO (zwa (k:=0) rfl) (by omega) ?_
 have hq:RdB (Γ++[(qi,⟨by8 zst,true⟩)]) (Go.Ab.sl qi 0 8 3) zst:=zpE 0 rfl (.inr rfl) rfl
 have hs:Stay (Γ++[(qi,⟨by8 zst,true⟩)]) (Go.Ab.sl qi 0 8 3):=zOE (Γ.length+0) (zwa rfl)
 have back:∀ {H},St H (Γ++[(qi,⟨by8 zst,true⟩)])→St H Γ:=fun h=>h.left
 generalize Γ++[(qi,(⟨by8 zst,true⟩:Blk))]=Γ1 at *
 refine zLC (pr:=zPq) (ver:=3) (ck:=64) hO hq zJF (by decide) (by decide) (by decide) (by decide) (fun h=>absurd zRj h) ?_
 clear hO
 intro _ H cv hO hcv
 replace hO:St H (Γ1++zKa cv (hsC mA.cks)):=hO
 replace hcv:RdH (zKa cv (hsC mA.cks)) cv mA.cks:=hcv
 show opP (zee 0 (.tuple [agg (mfC mA cv),int 0].toArray)) _
 refine zaa zrm ?_
 refine zaa zsm ?_
 rw[zcM]
 refine nw hO ?_
 clear hO
 intro p2 H hO
 rw[← List.append_assoc] at hO
 refine zya hO (_+0) (zwa rfl) (by rfl) (zra zKz.dl) (ztb hcv.one) ?_
 clear hO
 intro H hO
 replace hO:=hO.set_r
 replace hO:St H ((Γ1++zKa cv (hsC mA.cks))++[(p2,⟨mfC mA cv,true⟩)]):=hO
 refine zDa hO (zLF _) ?_
 clear hO
 intro qk H hO
 refine kpG hO (zwa (k:=0) rfl) (by omega) ?_
 refine zFa hO ((Γ1++zKa cv (hsC mA.cks)).length+0) (zCa (zwa rfl)) (zra zKz.dl) (by omega) ?_
 refine zZp (key:=zal) zKz hO (zpE 0 rfl (.inr rfl) rfl) hcv.app'.app.app zKF (by decide) (fun h=>absurd zRj h) ?_
 clear hO
 intro _ H hv hcs hO hh
 refine zaa zrm ?_
 refine zaa zsm ?_
 have hq1:RdB ((((Γ1++zKa cv (hsC mA.cks))++[(p2,⟨mfC mA cv,true⟩)])++[(qk,⟨by8 zal,true⟩)])++zKa hv hcs) (Go.Ab.sl qi 0 8 3) zst:=hq.app.app.app.app
 have hs1:Stay ((((Γ1++zKa cv (hsC mA.cks))++[(p2,⟨mfC mA cv,true⟩)])++[(qk,⟨by8 zal,true⟩)])++zKa hv hcs) (Go.Ab.sl qi 0 8 3):=hs.app.app.app.app
 have hh1:RdB ((((Γ1++zKa cv (hsC mA.cks))++[(p2,⟨mfC mA cv,true⟩)])++[(qk,⟨by8 zal,true⟩)])++zKa hv hcs) hv (zkc zal mA):=hh.rd.app'
 have hh2:Stay ((((Γ1++zKa cv (hsC mA.cks))++[(p2,⟨mfC mA cv,true⟩)])++[(qk,⟨by8 zal,true⟩)])++zKa hv hcs) hv:=(OwnB.stay hh).app'
 have back1:∀ {H},St H ((((Γ1++zKa cv (hsC mA.cks))++[(p2,⟨mfC mA cv,true⟩)])++[(qk,⟨by8 zal,true⟩)])++zKa hv hcs)→St H Γ:=fun h=>back h.left.left.left.left
 clear hq hs hh back hcv
 generalize (((Γ1++zKa cv (hsC mA.cks))++[(p2,(⟨mfC mA cv,true⟩:Blk))])++[(qk,(⟨by8 zal,true⟩:Blk))])++zKa hv hcs=Γ2 at *
 refine zPK hO ?_
 clear hO
 intro H A B C h3 hO
 refine zYa ?_
 refine zaa (nnP _) ?_
 refine zDb rfl ?_
 refine zaa (nnN _) ?_
 refine zaa zwb ?_
 refine zDb rfl ?_
 try simp only[zia,zja]
 refine zDa hO (zLF _) ?_
 clear hO
 intro qk H hO
 refine kpG hO (zwa (k:=0) rfl) (by omega) ?_
 refine zaa zWL ?_
 refine zSr (Γ:=Γ2++[(qk,⟨by8 zal,true⟩)]) (key:=zal) (t:=tmA) hO (by generalize mR A B C=M; exact (by classical exact List.perm_iff_count.2 fun _=>by simp only[List.count_append,List.count_nil,List.set_cons_zero]; omega)) (zpE 0 rfl (.inr rfl) rfl) zKF (by decide) (by decide) h3.a h3.b h3.c h3.ea h3.eb h3.ec ?_
 clear hO
 intro H X kv c hS
 obtain⟨ah,nh,ch,rfl⟩:=hh1.shape
 have hl:=(zSC (key:=zal) zKz zRj).1
 refine zaa (bPc _ _ _ _) ?_
 refine zax (p:=(-1,zkc zal mA)) hS ⟨_,rfl,hh1.app.app,zRE zKz,fun _=>hh2.app.app⟩ (by show (zkc zal mA).length≤1000000; omega) ?_
 clear hS
 intro b1 H A1 sA ht hf hS
 have e4:A.n=4:=h3.na
 have nb4:B.n=4:=h3.nb
 have nc4:C.n=4:=h3.nc
 obtain rfl:b1=true:=by
  cases b1 with
  | true=>rfl
  | false=>have:=hf rfl; rw[e4] at this; cases this
 refine zaa (bPc _ _ _ _) ?_
 rw[← sA.r]
 refine zax (p:=(0,zst)) hS ⟨_,rfl,hq1.app.app,zJF,fun _=>hs1.app.app⟩ (by decide) ?_
 clear hS
 intro b2 H A2 sA2 ht2 hf2 hS
 obtain rfl:b2=true:=by
  cases b2 with
  | true=>rfl
  | false=>have:=hf2 rfl; rw[sA.n,e4] at this; cases this
 rw[nb4,nc4] at hS
 replace hS:CkSt ((Γ2++[(qk,⟨by8 zal,true⟩)])++X) [] ⟨zal,tmA,[(-1,zkc zal mA),(((0:Nat):Int),zst)],[],[],4,4,m0,none,false,0⟩ A2 B C c kv H:=hS
 have hopen:zrb zal (zkc zal mA)=(mA,((zkc zal mA).length:Int),0):=by
  have:=ziz (key:=zal) zKz zRj []
  rwa [List.append_nil] at this
 refine zYa ?_
 refine zaa (nnC _) ?_
 refine zDb rfl ?_
 refine zCo hS ?_
 refine zaa zQa ?_
 refine zaa zwb ?_
 refine zqc (fun h=>h rfl) ?_
 refine zEh hS ?_
 clear hS
 rw[zNC (by decide) (by decide),zPE hopen zAJ]
 intro H X1 A3 B1 C1 q1 q2 q3 hS
 refine zaa zGc ?_
 refine zaa (zWa (fun h=>h rfl)) ?_
 refine zDb rfl ?_
 refine zCo hS ?_
 have hw1:(⟨zal,tmA,[(((0:Nat):Int),zst)],[]++[.go ((zkc zal mA).length:Int) mA],[]++[.go ((zkc zal mA).length:Int) mA],4,4,mA,some ([],0),false,0⟩:Ck).wants=0:=by
  unfold Ck.wants
  simp only
  rw[if_neg (by rw[zTr]; omega)]
  rfl
 rw[hw1]
 refine zaa zQa ?_
 refine zaa zwb ?_
 refine zqc (fun h=>h rfl) ?_
 refine zEh hS ?_
 clear hS hw1
 rw[zOC (by decide) (by decide) (by rw[zTr]; omega),zQE ⟨by rw[zJz zRj zTr]; rfl,by rw[zQK]⟩]
 intro H X2 A4 B2 C2 q4 q5 q6 hS
 refine zaa zGc ?_
 refine zaa (zWa (fun h=>h rfl)) ?_
 refine zDb rfl ?_
 refine zCo hS ?_
 have hw2:(⟨zal,tmA,[],[]++[.go ((zkc zal mA).length:Int) mA],([]++[.go ((zkc zal mA).length:Int) mA])++[.body ((0:Nat):Int) zst],4,4,mA,some ([]++zst,0+1),false,0⟩:Ck).wants=-2:=by
  unfold Ck.wants
  simp only
  rw[if_pos (by rw[zTr])]
 rw[hw2]
 refine zaa zQa ?_
 refine zaa zwb ?_
 refine zqc (fun h=>h rfl) ?_
 refine zEh hS ?_
 clear hS hw2
 rw[step_end (by decide) (by rw[zTr]) rfl]
 intro H X3 A5 B3 C3 q7 q8 q9 hS
 refine zaa zGc ?_
 refine zaa (zWa (fun h=>h rfl)) ?_
 refine zDb rfl ?_
 refine zEh hS ?_
 clear hS
 rw[zPC]
 intro H X4 A6 B4 C4 q10 q11 q12 hS
 refine zaa zwb ?_
 refine zDb rfl ?_
 refine zFC hS ?_
 refine zaa zGc ?_
 refine zaa zwb ?_
 refine zDb rfl ?_
 try simp only[zia,zja]
 have rB:B.r=B4.r:=by rw[q11.r,q8.r,q5.r,q2.r]
 have rC:C.r=C4.r:=by rw[q12.r,q9.r,q6.r,q3.r]
 rw[rB,rC]
 refine zvv hS (fun h=>by cases h) ?_
 clear hS
 intro a rest he H B5 el1 sB hel1 hS
 cases he
 obtain⟨cv1,x1,rfl,_⟩:=zFh hel1
 have row1:=hel1.row
 refine zaa zrm ?_
 refine zaa zsm ?_
 rw[zcT]
 refine zqm hS zUb.1 row1.1 row1.2 ?_
 clear hS
 intro p10 H hS
 refine zpm hS (fun h=>by cases h) ?_
 clear hS
 intro a rest he H C5 el2 sC hel2 hS
 cases he
 obtain⟨cv2,x2,rfl,_⟩:=zFh hel2
 have row2:=hel2.row
 refine zaa zrm ?_
 refine zaa zsm ?_
 refine zqm hS zUb.1 row2.1 row2.2 ?_
 clear hS
 intro p12 H hS
 rw[← sC.r]
 refine zpm hS (fun h=>by cases h) ?_
 clear hS
 intro a rest he H C6 el3 sC2 hel3 hS
 cases he
 obtain⟨cv3,x3,rfl,_,_,hx3,_⟩:=zFh hel3
 have row3:=hel3.row
 refine zaa zrm ?_
 refine zaa zsm ?_
 refine zqm hS zUb.1 row3.1 row3.2 ?_
 clear hS
 intro p14 H hS
 rw[← sC2.r]
 refine zpm hS (fun h=>by cases h) ?_
 clear hS
 intro a rest he H C7 el4 sC3 hel4 hS
 cases he
 obtain⟨cv4,x4,rfl,_⟩:=zFh hel4
 have row4:=hel4.row
 refine zaa zrm ?_
 refine zaa zsm ?_
 refine zqm hS zUb.1 row4.1 row4.2 ?_
 clear hS
 intro p16 H hS
 refine zaa zba ?_
 refine ckl hS _ (zCa (zCa (zCa (zwa (k:=0) rfl)))) (v:=int 2) rfl ?_
 refine zaa zUa ?_
 refine zNb rfl ?_
 refine zaa zba ?_
 refine ckl hS _ (zCa (zCa (zCa (zwa (k:=0) rfl)))) (v:=int ((zkc zal mA).length:Int)) rfl ?_
 refine zva hh1.lenSl ?_
 refine zaa zUa ?_
 refine zaa (zjb rfl) ?_
 refine zNb rfl ?_
 refine zaa zba ?_
 refine ckl hS _ (zCa (zCa (zwa (k:=0) rfl))) (v:=int 2) rfl ?_
 refine zaa zUa ?_
 refine zaa (zjb rfl) ?_
 refine zNb rfl ?_
 refine zaa zba ?_
 refine ckl hS _ (zCa (zwa (k:=0) rfl)) (v:=int 3) rfl ?_
 refine zaa zUa ?_
 refine zaa (zjb rfl) ?_
 refine zNb rfl ?_
 refine zaa zba ?_
 refine ckl hS _ (zCa (zwa (k:=0) rfl)) (v:=x3) rfl ?_
 refine zva (RdB.str (xs:=zst) (zTC hS) hx3.app.app) ?_
 refine zaa (v:=.bool true) (by kernel_rfl) ?_
 refine zaa (zjb rfl) ?_
 refine zvd rfl ?_
 refine zaa zba ?_
 refine ckl hS _ (zwa (k:=0) rfl) (v:=int 4) rfl ?_
 refine zaa zUa ?_
 refine zaa zUc ?_
 have:=zTC hS
 refine hk H (back1 ?_)
 simp only[List.append_assoc] at this
 exact this.left
end J
set_option maxRecDepth 100000
namespace J
open Go Go.Ab
variable{H:Heap}{Γ Γ0 Γ1 Γ2 Δ G L S T X F:List (Nat × Blk)}{K:VH}{v w x cv dv kv av:Value}{xs ys zs b key:List Int}{i j p q o n k c:Nat}{e er x0 x1 x2:Int}{cs cs':List Value}{l pr:List UInt8}{m sd:Mf}{t:Tm}{A B C:Ring}{s:Ck}
theorem zLz(h:zab kv=true):(wdC kv t [x0,x1,x2]).all zab=true:=by
 simp only[wdC,List.map_cons,List.map_nil,List.all_cons,List.all_nil,h]
 rfl
theorem zBJ(hkv:RdB S kv key)(hb:By key)(hkl:key.length≤1000000)(ht:t.pr.length≤1000000){nb nc:Nat}(h1:nb≤16)(h2:nc≤16):RkR S (Ck.new key t nb nc) kv zqa zqa zqa zqa zqa [] [] [] []:=
 ⟨hkv,fun _=>trivial,hb,hkl,ht,Row.nil,Row.nil,Row.nil,(fun p hp=>by cases hp),⟨Nat.zero_le _,Nat.zero_le _,h1,h2,Nat.zero_le _⟩,zJw,.inl ⟨rfl,rfl⟩,OwnB.nil,fun xs w hh=>by cases hh⟩
set_option maxHeartbeats 8000000 in
theorem cruns_main{acts:List ActP}(hO:St H G)(hv:RdB G kv key)(hb:By key)(ha:RdA G av acts) :
  wCall P zTe [agg (wdC kv t [x0,x1,x2]),av] H fun v _=>v=.bool true:=by
 apply zyl; unfold zaj
 rw[ztc]
 refine nw hO.z ?_
 clear hO
 intro p2 H hO
 replace hO:St H (G++[(p2,⟨wdC kv t [x0,x1,x2],true⟩)]):=hO
 refine zxv hO ?_
 clear hO
 intro H hO
 refine zaa zGc ?_
 refine zDb rfl ?_
 refine zFa hO (G.length+0) (zwa rfl) (n:=7) rfl (by omega) ?_
 refine zFz (rs:=[x0,x1,x2]) rfl hO hv.app ha.app ?_ ?_
 ·clear hO
  intro H hO
  refine zvd rfl ?_
  rfl
 clear hO
 intro b1 b2 b3 b4 H hO
 refine zDb rfl ?_
 have hw:=zLz (t:=t) (x0:=x0) (x1:=x1) (x2:=x2) hv.simp9
 refine zaa zba ?_
 refine zaa (zta (by omega) (by omega)) ?_
 refine ld hO 0 rfl (v:=int x0) rfl ?_
 have hO1:=hO
 refine zmv hO ?_
 clear hO
 intro H q1 r1 cs1 g1 hO
 refine zaa zba ?_
 refine zaa (zta (by omega) (by omega)) ?_
 refine ld hO 0 rfl (v:=int x1) rfl ?_
 refine⟨zcb hO1 (G.length+0) (zwa rfl) hO (G.length+0) (zwa rfl) hw,?_⟩
 have hO2:=hO
 refine znm hO ?_
 clear hO
 intro H q2 r2 cs2 g2 hO
 refine zaa zba ?_
 refine zaa (zta (by omega) (by omega)) ?_
 refine ld hO 0 rfl (v:=int x2) rfl ?_
 refine⟨zcb hO2 (G.length+0) (zwa rfl) hO (G.length+0) (zwa rfl) hw,?_⟩
 refine⟨zcb hO1 (G.length+0) (zwa rfl) hO2 (G.length+0) (zwa rfl) hw,?_⟩
 clear hO1 hO2
 refine znm hO ?_
 clear hO
 intro H q3 r3 cs3 g3 hO
 have hO:St H ((G++[(p2,⟨wdC kv t [x0,x1,x2],true⟩)])++mR ⟨q1,r1,zJa x0,0,cs1,[]⟩ ⟨q2,r2,zJa x1,0,cs2,[]⟩ ⟨q3,r3,zJa x2,0,cs3,[]⟩):=by
  rw[List.append_assoc]; exact hO
 refine zaa zba ?_
 refine zoa hO (G.length+0) (zCa (zwa rfl)) (v:=kv) rfl ?_
 refine zaa zba ?_
 refine zua hO (G.length+0) (zCa (zwa rfl)) (cs:=tmC t) rfl rfl (by omega) ?_
 refine zSr (A:=⟨q1,r1,zJa x0,0,cs1,[]⟩) (B:=⟨q2,r2,zJa x1,0,cs2,[]⟩) (C:=⟨q3,r3,zJa x2,0,cs3,[]⟩) hO (List.Perm.refl _) hv.app hb (by omega) (by omega) g1 g2 g3 rfl rfl rfl ?_
 clear hO
 intro H X kv1 c hS
 obtain⟨sv,sp,T,hck,hO⟩:=hS
 have nb16:zJa x1≤16:=(zmm x1).2.1
 have nc16:zJa x2≤16:=(zmm x2).2.1
 simp only at hO
 generalize hM:mB ⟨q1,r1,zJa x0,0,cs1,[]⟩ ⟨q2,r2,zJa x1,0,cs2,[]⟩ ⟨q3,r3,zJa x2,0,cs3,[]⟩ c (ckC kv1 (Ck.new key t (zJa x1) (zJa x2)).t r1 r2 r3 (Ck.new key t (zJa x1) (zJa x2)).sd sv sp (Ck.new key t (zJa x1) (zJa x2)).dn (Ck.new key t (zJa x1) (zJa x2)).er) T=M at hO
 have ip:∀ {R:List (Nat × Blk)},((((G++[(p2,(⟨wdC kv t [x0,x1,x2],true⟩:Blk))])++X)++[])++M++R)[G.length+0]?=some (p2,⟨wdC kv t [x0,x1,x2],true⟩):=zCa (zCa (zCa (zCa (zwa rfl))))
 have hO:St H (((((G++[(p2,(⟨wdC kv t [x0,x1,x2],true⟩:Blk))])++X)++[])++M)++[]):=hO.z
 refine zaa zba ?_
 refine zoa hO (G.length+0) ip (v:=kv) rfl ?_
 refine zaa zba ?_
 refine zua hO (G.length+0) ip (cs:=tmC t) rfl rfl (by omega) ?_
 refine zaa zba ?_
 refine zaa (zta (by omega) (by omega)) ?_
 refine zoa hO (G.length+0) ip (v:=int x1) rfl ?_
 have hO1:=hO
 refine zkq hO ?_
 clear hO
 intro H p8 hO
 rw[List.append_assoc] at hO
 refine⟨zcb hO1 (G.length+0) ip hO (G.length+0) ip hw,?_⟩
 refine⟨zcb hO1 (G.length+0) ip hO (G.length+0) ip hw,?_⟩
 refine zaa zca ?_
 refine zaa zba ?_
 refine ld hO 0 rfl (v:=int (zJa x1)) rfl ?_
 refine zaa zba ?_
 refine zaa (zta (by omega) (by omega)) ?_
 refine zoa hO (G.length+0) ip (v:=int x2) rfl ?_
 refine⟨zcb hO1 (G.length+0) ip hO (G.length+0) ip hw,?_⟩
 have hO2:=hO
 refine zkq hO ?_
 clear hO
 intro H p9 hO
 rw[List.append_assoc] at hO
 refine⟨zcb hO2 (_+0) (zwa rfl) hO (_+0) (zwa rfl) rfl,?_⟩
 refine⟨zcb hO2 (G.length+0) ip hO (G.length+0) ip hw,?_⟩
 refine⟨zcb hO2 (G.length+0) ip hO (G.length+0) ip hw,?_⟩
 clear hO1 hO2
 refine zaa zca ?_
 refine zaa zba ?_
 refine ld hO 1 rfl (v:=int (zJa x2)) rfl ?_
 refine zyC (key:=key) hO ((((hv.app).app).app).app).app ?_
 clear hO
 intro H st cr hO
 obtain⟨es,ha1,ha2⟩:=ha
 refine zva ha1.lenSl ?_
 have ha:RdA G av acts:=⟨es,ha1,ha2⟩
 have hBo:Bo ((G++[(p2,⟨wdC kv t [x0,x1,x2],true⟩)])++X) (Ck.new key t (zJa x1) (zJa x2)) (Ck.new key t (zJa x1) (zJa x2)) ⟨q1,r1,zJa x0,0,cs1,[]⟩ ⟨q2,r2,zJa x1,0,cs2,[]⟩ ⟨q3,r3,zJa x2,0,cs3,[]⟩ c kv1 cr kv H:=by
  refine⟨sv,sp,T,st,zqa,zqa,zqa,zqa,zqa,[],[],[],[],hck,zBJ hv.app.app hb (by omega) (by omega) nb16 nc16,?_⟩
  have h2:St H (((G++[(p2,⟨wdC kv t [x0,x1,x2],true⟩)])++X)++(M++[(cr,⟨rkC kv t zqa zqa zqa (zJa x1) (zJa x2) false false st 0,true⟩),(st,⟨rsC m0 zqa zqa 0,true⟩)])):=by
   refine hO.keepP (R:=[(p8,⟨[int (zJa x1),zqa,.bool false],true⟩),(p9,⟨[int (zJa x2),zqa,.bool false],true⟩)]) ?_
   rw[show [(cr,(⟨rkC kv t zqa zqa zqa (zJa x1) (zJa x2) false false st 0,true⟩:Blk)),(st,⟨rsC m0 zqa zqa 0,true⟩)]=[(cr,(⟨rkC kv t zqa zqa zqa (zJa x1) (zJa x2) false false st 0,true⟩:Blk))]++[(st,⟨rsC m0 zqa zqa 0,true⟩)] from rfl,
    show [(st,(⟨rsC m0 zqa zqa 0,true⟩:Blk)),(cr,⟨rkC kv t zqa zqa zqa (zJa x1) (zJa x2) false false st 0,true⟩)]=[(st,(⟨rsC m0 zqa zqa 0,true⟩:Blk))]++[(cr,⟨rkC kv t zqa zqa zqa (zJa x1) (zJa x2) false false st 0,true⟩)] from rfl,
    show [(p8,(⟨[int (zJa x1),zqa,.bool false],true⟩:Blk)),(p9,⟨[int (zJa x2),zqa,.bool false],true⟩)]=[(p8,(⟨[int (zJa x1),zqa,.bool false],true⟩:Blk))]++[(p9,⟨[int (zJa x2),zqa,.bool false],true⟩)] from rfl]
   exact (by classical exact List.perm_iff_count.2 fun _=>by simp only[List.count_append,List.count_nil,List.set_cons_zero]; omega)
  rw[← hM] at h2
  exact h2
 clear hO
 refine zzi (fun k l H=>∃ i:Nat,k=acts.length - i∧i≤acts.length∧zCH acts av c kv1 cr kv i l H) _ _ ?_ acts.length _ _ ⟨0,rfl,Nat.zero_le _,_,_,_,_,_,rfl,hBo,ha.app.app⟩
 rintro k l H ⟨i,rfl,hi,S,s,A,B,C,rfl,hB,hA⟩
 by_cases hlt:i < acts.length
 ·refine zJC b4 hlt hB hA b3 ?_
  intro l H hI
  exact⟨acts.length - (i+1),by omega,i+1,rfl,hlt,hI⟩
 ·unfold zhd
  try simp only[zia,zja]
  refine zaa zMa ?_
  refine zqc (by omega) ?_
  refine zZa rfl ?_
  trivial
end J
set_option maxRecDepth 100000
namespace J
open Go Go.Ab
variable{H:Heap}{Γ Γ0 Γ2 Δ G L:List (Nat × Blk)}{K:VH}{v w x cv dv iv:Value}{xs ys zs:List Int}{m a:Mf}{cks:List (List Int)}
theorem zUC{ts:List TypeId}{N:Nat}{c:List Value}{b:List (List Value)}(h:ShpL P (22::ts) N c b) :
  ∃ v c' b1 b2 xs,c=v::c'∧b=b1++b2∧RdB (zEx N b1) v xs∧(xs≠[]→Stay (zEx N b1) v)∧By xs∧ShpL P ts (N+b1.length) c' b2:=by
 rcases zdF zxL h with⟨c',e1,h3⟩|⟨len,cells,c',bs,b',e1,eb1,hm,hl,h3,h4⟩
 ·exact⟨_,c',[],b,[],e1,rfl,.inl ⟨rfl,rfl⟩,fun _=>.inl rfl,fun x hx=>(by cases hx),h3⟩
 ·obtain⟨hb,xs,rfl,rfl,hw⟩:=zeu (k:=.u8) Go.Proofs.Tryz.underlying5 _ _ _ _ h3
  subst hb
  subst eb1
  refine⟨_,c',[_],b',xs,e1,rfl,.inr ⟨N,0,_,rfl,.inl rfl,.inr ⟨0,_,rfl,by rw[List.drop_zero]; exact List.take_of_length_le (by simp)⟩⟩,fun hne=>?_,fun x hx=>wf_u8 (hw x hx),h4⟩
  exact .inr ⟨N,0,_,_,0,_,rfl,rfl,zae xs,.inr (by simpa [by8] using hne)⟩
theorem zEH{ts:List TypeId}{N:Nat}{c:List Value}{b:List (List Value)}(h:ShpL P (25::ts) N c b):∃ (t:Tm) (c':List Value),c=tmC t++c'∧ShpL P ts N c' b:=by
 have h0:=zli Go.Proofs.Tryz.underlying25 h
 have h0:ShpL P (9::23::3::ts) N c b:=h0
 obtain⟨pr,c1,rfl,h1⟩:=zBE Go.Proofs.Tryz.underlying9 h0
 obtain⟨fl,c2,rfl,w2,h2⟩:=zvl (k:=.u64) Go.Proofs.Tryz.underlying23 h1
 obtain⟨rm,c3,rfl,w3,h3⟩:=zvl (k:=.i64) Go.Proofs.Tryz.underlying3 h2
 have v2:=wf_u64 w2
 have ev:Value.int .u64 fl=zsb .u64 fl.toNat:=zOk v2.1
 refine⟨⟨pr,fl.toNat,rm⟩,c3,?_,h3⟩
 unfold tmC
 rw[← ev]; rfl
theorem arg_world{ts:List TypeId}{N:Nat}{av:List Value}{b:List (List Value)}(h:ArgS P (28::ts) N av b) :
  ∃ kv t x0 x1 x2 key vs b1 b2,av=agg (wdC kv t [x0,x1,x2])::vs∧b=b1++b2∧RdB (zEx N b1) kv key∧By key∧ArgS P ts (N+b1.length) vs b2:=by
 obtain⟨cs,vs,b1,b2,rfl,rfl,h1,h2⟩:=znG h (.inl ⟨_,Go.Proofs.Tryz.underlying28⟩)
 have h0:=zli Go.Proofs.Tryz.underlying28 h1
 have h0:ShpL P [22,25,26] N cs b1:=h0
 obtain⟨kv,c1,b3,b4,key,rfl,rfl,g1,g2,g3,h3⟩:=zUC h0
 obtain⟨t,c2,rfl,h4⟩:=zEH h3
 have h5:=zjz Go.Proofs.Tryz.underlying26 h4
 obtain⟨rs,c3,hl,rfl,hw,h6⟩:=zfv (k:=.i64) Go.Proofs.Tryz.underlying3 _ _ _ _ h5
 obtain⟨rfl,rfl⟩:=zdB h6
 match rs,hl with
 | [x0,x1,x2],_=>
  exact⟨kv,t,x0,x1,x2,key,vs,b3,b2,rfl,by simp,g1,g3,by simpa using h2⟩
theorem zFH:P.underlying 29=some (.slice 45):=by kernel_rfl
theorem zRK:P.cellsOf 45=3:=by kernel_rfl
theorem ActR.app'{S X:List (Nat × Blk)}{a:ActP}{el:List Value}(h:ActR S a el):ActR (X++S) a el:=by
 obtain⟨v,h1,w,h2,h3,h4,h5⟩:=h
 exact⟨v,h1,w,h2,h3.app',h4,fun h=>(h5 h).app'⟩
theorem RdA.app'{S X:List (Nat × Blk)}{v:Value}{acts:List ActP}(h:RdA S v acts):RdA (X++S) v acts:=by
 obtain⟨es,h1,h2⟩:=h
 exact⟨es,h1.mono (fun x hx=>List.mem_append_right _ hx),h2.imp fun _ _=>ActR.app'⟩
theorem ziy:∀ (n N:Nat) (c:List Value) (b:List (List Value)),ShpL P (List.replicate n 45) N c b→∃ (acts:List ActP) (es:List (List Value)),c=es.flatten∧acts.length=n∧Al (ActR (zEx N b)) acts es
 | 0,N,c,b,h=>by cases h; exact⟨[],[],rfl,rfl,.nil⟩
 | n+1,N,c,b,h=>by
  have h0:=zli Go.Proofs.Tryz.underlying45 (show ShpL P (45::List.replicate n 45) N c b from h)
  have h0:ShpL P (3::35::List.replicate n 45) N c b:=h0
  obtain⟨k,c1,rfl,w1,h1⟩:=zvl (k:=.i64) Go.Proofs.Tryz.underlying3 h0
  have h2:=zli Go.Proofs.Tryz.underlying35 h1
  have h2:ShpL P (3::22::List.replicate n 45) N c1 b:=h2
  obtain⟨a,c2,rfl,w2,h3⟩:=zvl (k:=.i64) Go.Proofs.Tryz.underlying3 h2
  obtain⟨v,c3,b1,b2,xs,rfl,rfl,g1,g2,g3,h4⟩:=zUC h3
  obtain⟨acts,es,rfl,hl,hal⟩:=ziy n _ _ _ h4
  rw[argG_append]
  refine⟨⟨k,(a,xs)⟩::acts,[int k,int a,v]::es,rfl,by simp[hl],.cons ⟨v,rfl,v,rfl,g1.app,g3,fun h=>(g2 h).app⟩ (hal.imp fun _ _=>ActR.app')⟩
theorem arg_acts{ts:List TypeId}{N:Nat}{av:List Value}{b:List (List Value)}(h:ArgS P (29::ts) N av b) :
  ∃ v vs b1 b2 acts,av=v::vs∧b=b1++b2∧RdA (zEx N b1) v acts∧ArgS P ts (N+b1.length) vs b2:=by
 obtain⟨v,vs,b1,b2,e,eb,h1,h2⟩:=zmG h (by rw[zFH]; simp) (by rw[zFH]; simp)
 rcases zdF zFH h1 with⟨c',e1,h3⟩|⟨len,cells,c',bs,b',e1,eb1,hm,hl,h3,h4⟩
 ·cases e1
  exact⟨_,vs,b1,b2,[],e,eb,⟨[],.inl ⟨rfl,rfl,rfl⟩,.nil⟩,h2⟩
 ·cases e1
  obtain⟨acts,es,rfl,rfl,hal⟩:=ziy _ _ _ _ h3
  obtain⟨-,rfl⟩:=zdB h4
  subst eb1
  rw[List.append_nil] at *
  refine⟨_,vs,_,b2,acts,e,eb,⟨es,.inr ⟨N,_,0,false,rfl,rfl,?_⟩,?_⟩,h2⟩
  ·rw[hl,zRK]
  ·exact hal.imp fun _ _=>ActR.app' (X:=[(N,⟨es.flatten,false⟩)])
end J
set_option maxRecDepth 100000
namespace J
open Go Go.Ab
variable{H:Heap}{Γ Γ0 Γ1 Γ2 Δ G L S T X F:List (Nat × Blk)}{K:VH}{v w x cv dv kv:Value}{xs ys zs b key:List Int}{i j p q o n k c:Nat}{e er:Int}{cs cs':List Value}{l pr:List UInt8}{m sd:Mf}{t:Tm}{A B C:Ring}{s:Ck}
end J
