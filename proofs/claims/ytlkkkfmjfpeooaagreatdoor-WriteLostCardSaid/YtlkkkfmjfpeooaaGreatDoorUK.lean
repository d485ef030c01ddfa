/- texts of the proof, one behind the other -/
import Derived.Test.YtlkkkfmjfpeooaaGreatDoorUJ
set_option linter.unusedVariables false
set_option linter.unusedSimpArgs false
set_option linter.unusedSectionVars false
set_option maxRecDepth 100000
namespace J
open Go Go.Ab
variable{H:Heap}{Γ Γ1 Λ Δ S F X N:List (Nat × Blk)}{K:VH}{v cv bv vo:Value}{cs cs' el:List Value}{p p3 q c j k n s0 N0:Nat}{e pos gh sl room wrr at':Int}{w w' w1:Wr}{B B0 B':Wl}{b:Nat}{nt:Sn}{m:Mp}{s:Ls}{lost:Bool}
theorem zRB{t0 t1 t2 t3 t5 t6 t7 t9 t10 t11:Value}{Qx:LX}{Qr:LN}(hch:Ch k w w')(hst:w'.step=(false,w'))(hs:s0+k≤200)(hB:B0.Same B)(hR:WrR S w B)(hz:0≤w.sd.sz)(hm:w.m.Sm N0)(hN:N0+k≤1000)
  (hO:WSt H S ([(b,⟨bnC B0,true⟩)]++F) w B)
  (hk:∀ H' B' X,B0.Same B'→WrR (S++X) w' B'→0≤w'.sd.sz→w'.m.Sm (N0+k+1)→WSt H' (S++X) ([(b,⟨bnC B0,true⟩)]++F) w' B'→Qx 6 [t0,t1,t2,t3,ptr b 0,t5,t6,t7,int ((s0+k:Nat):Int),t9,t10,t11] H') :
  zdb P true 270 zRd 19981467697883438334816003572292931909358524878 [t0,t1,t2,t3,ptr b 0,t5,t6,t7,int s0,t9,t10,t11] H Qx Qr:=by
 refine zei (fun f l' H'=>∃ (y:Nat) (X:List (Nat × Blk)) (w2:Wr) (B2:Wl),y≤k∧f=k - y∧l'=[t0,t1,t2,t3,ptr b 0,t5,t6,t7,int ((s0+y:Nat):Int),t9,t10,t11]∧B0.Same B2∧WrR (S++X) w2 B2∧0≤w2.sd.sz∧w2.m.Sm (N0+y)∧Ch (k - y) w2 w'∧WSt H' (S++X) ([(b,⟨bnC B0,true⟩)]++F) w2 B2) _ _ ?_ k _ _ ⟨0,[],w,B,by omega,rfl,rfl,hB,by rw[List.append_nil]; exact hR,hz,hm,hch,by rw[List.append_nil]; exact hO⟩
 clear hO hch hR hz hm hB
 rintro f l' H ⟨y,X,w2,B2,hy,rfl,rfl,hB2,hR,hz,hm,hch,hO⟩
 unfold zTf
 try simp only[zia,zja]
 refine zaa zda ?_
 refine zaa zca ?_
 refine zga hO (S++X).length (zwa (zwa (zua (k:=0) rfl))) (v:=ptr B2.c 0) (by rw[← zgc hB2]; rfl) ?_
 refine zWb hR hz hm (by omega) hO ?_
 clear hO
 intro H B3 X3 k1 k2 k3 k4 hO
 rw[List.append_assoc] at k2 hO
 by_cases hyk:y < k
 ·rw[show k - y=(k - (y+1))+1 by omega] at hch
  obtain⟨w3,hs3,hch⟩:=zIB hch
  rw[hs3] at k2 k3 k4 hO ⊢
  refine zsc rfl ?_
  refine zaa (v:=int ((s0+(y+1):Nat):Int)) (by rw[zYa (by omega) (by omega)]; congr 2) ?_
  refine zaa zLf ?_
  rw[decide_eq_false (by omega)]
  refine zXa rfl ?_
  exact⟨_,by omega,y+1,X++X3,w3,B3,by omega,rfl,rfl,hB2.trans k1,k2,k3,k4,hch,hO⟩
 ·have ey:y=k:=by omega
  subst ey
  rw[Nat.sub_self] at hch
  have:=zJB hch
  subst this
  rw[hst] at k2 k3 k4 hO ⊢
  refine zXa rfl ?_
  exact hk H B3 (X++X3) (hB2.trans k1) k2 k3 k4 hO
end J
set_option maxRecDepth 100000
namespace J
open Go Go.Ab
variable{H:Heap}{Γ:List (Nat × Blk)}{v:Value}{xs:List Int}{n:Nat}
theorem zSB{t0 t1 t2 t3 t4 t5:Value}{Qx:LX}{Qr:LN}(hv:RdB Γ v xs)(h255:∀ x ∈ xs,x=255)(hl:xs.length≤1000000)(hO:St H Γ)(hk:∀ H',St H' Γ→Qx 8 [t0,t1,t2,t3,t4,t5] H') :
  zdb P true 270 zSd 70022 [t0,t1,t2,t3,t4,t5,v,int xs.length,int 0] H Qx Qr:=by
 refine zdi (fun k l' H'=>∃ y:Nat,y≤xs.length∧k=xs.length - y∧l'=[t0,t1,t2,t3,t4,t5,v,int xs.length,int y]∧St H' Γ) _ _ ?_ xs.length _ _ ⟨0,by omega,rfl,rfl,hO⟩
 clear hO
 rintro k l' H ⟨y,hy,rfl,rfl,hO⟩
 unfold zSf
 try simp only[zia,zja]
 refine zaa zIa ?_
 refine zna (fun h=>?_) (fun h=>?_)
 ·have hyl:y < xs.length:=by omega
  rcases hv with⟨_,rfl⟩|⟨p,o,c,rfl,_,h0|⟨j,bk,hj,hcs⟩⟩
  ·simp at hyl
  ·rw[h0] at hyl; simp at hyl
  ·refine zaa (zfb (by omega) (by omega)) ?_
   have hget:bk.cells[o+((y:Nat):Int).toNat * 1]?=some (.int .u8 255):=by
    rw[Int.toNat_natCast,Nat.mul_one]
    have h1:((bk.cells.drop o).take xs.length)[y]?=(by8 xs)[y]?:=by rw[hcs]
    rw[List.getElem?_take,if_pos hyl,List.getElem?_drop,List.getElem?_map,List.getElem?_eq_getElem hyl] at h1
    rw[h1,h255 _ (List.getElem_mem hyl)]; rfl
   refine zga hO j hj hget ?_
   refine zaa (show _=some (Value.bool false) from zGb) ?_
   refine zXa rfl ?_
   refine zaa (v:=int ((y+1:Nat):Int)) (by rw[zYa (by omega) (by omega)]; rfl) ?_
   exact⟨_,by omega,y+1,by omega,rfl,rfl,hO⟩
 ·exact hk H hO
end J
set_option maxRecDepth 100000
namespace J
open Go Go.Ab
variable{d d':Dv}{m m':Mp}{x:List Int}{n y e:Nat}{w w':Wr}{sl:Int}{f g:Nat→List Int}
def Wr.side(w:Wr)(pt pos:Int)(x:List Int):Wr:={ w with m:=(w.m.program pt pos x).1 }
theorem Rd.side(h:Rd w n sl f g)(hy:y < n)(x:List Int) :
  (f y=blank→(w.m.program sl y x).2=0∧Rd (w.side sl y x) n sl (zQs f y x) g∧∀ j,wr (w.side sl y x).m.d j=wr w.m.d j) ∧
  (f y≠blank→(w.m.program sl y x).2≠0∧Rd (w.side sl y x) n sl f g∧∀ j,wr (w.side sl y x).m.d j=wr w.m.d j):=by
 have hs:siz n n sl=n:=zPg
 obtain⟨t1,t2,t3,_⟩:=zol (s:=x) h.two h.bit (y:=y) (by rw[hs]; exact hy)
 have hfit:=zhn h.two h.bit (y:=y) (by rw[hs]; exact hy)
 constructor
 ·intro hb
  rcases zni (d:=w.m.d) (i:=off n sl+y) (s:=x) hfit h.up (by rw[h.f _ hy]; exact hb) with⟨_,ho⟩|⟨c1,c2,c3⟩
  ·have:=ho.b; rw[h.bud] at this; omega
  ·refine⟨t2.trans c1,h.put1 hy ⟨rfl,rfl,rfl,?_⟩ ?_ ?_,?_⟩
   ·show (w.m.program sl y x).1.who=w.m.who
    unfold Mp.program Mp.note
    split
    ·rfl
    ·split <;> rfl
   ·exact zNn h.two t3 (by show (w.m.program sl y x).1.d.cells.length=_; rw[t1]; exact c2.len)
   ·show Put1 w.m.d _ x (w.m.program sl y x).1.d
    rw[t1]; exact c2
   ·intro j
    show wr (w.m.program sl y x).1.d j=_
    rw[t1]; exact c3 j
 ·intro hb
  have hd:w.m.d.program ((off n sl+y:Nat):Int) x=(w.m.d,63):=by
   unfold Dv.program
   rw[if_neg (fun h2=>h2 (zgn hfit)),if_neg (by rw[h.up]; decide),if_pos]
   show (w.m.d.cell _).seen≠blank
   have:=h.f y hy
   unfold sn at this
   unfold Dv.cell
   rw[Int.toNat_natCast,this]
   exact hb
  refine⟨by rw[t2,hd]; show (63:Int)≠0; decide,?_,?_⟩
  ·have e1:(w.m.program sl y x).1.d=w.m.d:=by rw[t1,hd]
   refine⟨h.hold,h.s1,h.s2,h.p0,h.p1,h.bit,zNn h.two t3 (by show (w.m.program sl y x).1.d.cells.length=_; rw[e1]),?_,?_,?_,?_,?_⟩
   ·show (w.m.program sl y x).1.d.down=false; rw[e1]; exact h.up
   ·show (w.m.program sl y x).1.d.budget=-1; rw[e1]; exact h.bud
   ·show (w.m.program sl y x).1.d.most=100; rw[e1]; exact h.most
   ·intro i hi; show sn (w.m.program sl y x).1.d _=_; rw[e1]; exact h.f i hi
   ·intro i hi; show sn (w.m.program sl y x).1.d _=_; rw[e1]; exact h.g i hi
  ·intro j
   show wr (w.m.program sl y x).1.d j=_
   rw[t1,hd]
end J
set_option maxRecDepth 100000
namespace J
open Go Go.Ab
variable{H:Heap}{S F X:List (Nat × Blk)}{K:VH}{v:Value}{x:List Int}{n y e:Nat}{w w':Wr}{B B':Wl}{pt pos sl:Int}{f g:Nat→List Int}
theorem zvr(hR:WrR S w B)(hl:x.length=64)(hb:By x)(hm:w.m.Sm 1000000)(hO:WSt H S F w B)
  (hk:∀ H' B',B.Same B'→WrR S (w.side pt pos x) B'→WSt H' S F (w.side pt pos x) B'→K (int (w.m.program pt pos x).2) H'):wCall P zDb [ptr B.L.pm 0,int pt,int pos,sec x] H K:=by
 refine zjm hR.m.ok hl hm hO hR.own ?_
 intro H' L' he hO' hv
 refine hk H' (B.at L') (Wl.same_at he) ⟨hR.q,hR.sd,hR.sv,hR.ss,hR.sb,hR.s,zaq hl hb _ hR.m,hv,hR.nx,hR.wr⟩ ?_
 show St H' (((S++F)++wB B.A B.l (lsC w.s L'.pm) B.c (B.wc w))++MW L' (w.m.program pt pos x).1)
 rw[he.m]
 exact hO'
end J
set_option maxRecDepth 100000
namespace J
open Go Go.Ab
variable{H:Heap}{S F X:List (Nat × Blk)}{K:VH}{v:Value}{x was:List Int}{n y e b:Nat}{w w':Wr}{B B0 B':Wl}{pt pos sl:Int}{f g:Nat→List Int}
def zJy:List Int:=1::List.replicate 63 0
theorem znK:(zxa P 45).f [(0,.int .u8 1)]=some (sec zJy):=by kernel_rfl
theorem zxG:zJy≠blank:=fun h=>by
 have:(zJy.getD 0 0)=blank.getD 0 0:=by rw[h]
 exact absurd this (by decide)
theorem zyG:By zJy:=by
 intro x hx
 rcases List.mem_cons.1 hx with rfl|hx
 ·omega
 ·have:x=0:=List.eq_of_mem_replicate hx
  omega
theorem zGI{a:Int}(h:0≤a∧a≤255):zhf .i64 (.int .u8 a) H=some (int a,H):=by
 show some (Value.int .i64 (zqc .i64 a),H)=_
 rw[zun (by omega) (by omega)]
theorem zTB{t0 t1 t3:Value}(hn20:n≤20){Qx:LX}{Qr:LN}(hv:RdB S v was)(hby:By was)(hl:was.length≤30)(hRd:Rd w n sl f g)(hf:∀ i,i < n→f i=blank)(hwr:∀ j,wr w.m.d j≤0)(hB:B0.Same B)(hR:WrR S w B)(hm:w.m.Sm 0)
  (hO:WSt H S ([(b,⟨bnC B0,true⟩)]++F) w B)
  (hk:∀ H' B' m' f',B0.Same B'→WrR S { w with m:=m' } B'→m'.Sm 30→Rd { w with m:=m' } n sl f' g→(∀ j,wr m'.d j≤0)→WSt H' S ([(b,⟨bnC B0,true⟩)]++F) { w with m:=m' } B'→Qx 0 [t0,t1,int n,t3,int sl,ptr b 0,int (zdc f' n)] H') :
  zdb P true 270 zOd 478 [t0,t1,int n,t3,int sl,ptr b 0,int 0,v,int was.length,int 0] H Qx Qr:=by
 refine zai (fun k l' H'=>∃ (y:Nat) (m':Mp) (B':Wl) (f':Nat→List Int),y≤was.length∧k=was.length - y∧l'=[t0,t1,int n,t3,int sl,ptr b 0,int (zdc f' n),v,int was.length,int y]∧B0.Same B'∧WrR S { w with m:=m' } B'∧m'.Sm y∧Rd { w with m:=m' } n sl f' g∧(∀ j,wr m'.d j≤0)∧WSt H' S ([(b,⟨bnC B0,true⟩)]++F) { w with m:=m' } B') _ _ ?_ was.length _ _ ⟨0,w.m,B,f,by omega,rfl,by rw[zpl hf]; rfl,hB,hR,hm,hRd,hwr,hO⟩
 clear hO hR hm hB hRd hwr
 rintro k l' H ⟨y,m',B',f',hy,rfl,rfl,hB,hR,hm,hRd,hwr,hO⟩
 unfold zPf
 try simp only[zia,zja]
 refine zaa zIa ?_
 refine zna (fun h=>?_) (fun h=>?_)
 ·have hyl:y < was.length:=by omega
  have hb1:=hby was[y] (List.getElem_mem hyl)
  rcases hv with⟨_,rfl⟩|⟨p,o,c,rfl,_,h0|⟨j,bk,hj,hcs⟩⟩
  ·simp at hyl
  ·rw[h0] at hyl; simp at hyl
  ·refine zaa (zfb (by omega) (by omega)) ?_
   have hget:bk.cells[o+((y:Nat):Int).toNat * 1]?=some (.int .u8 was[y]):=by
    rw[Int.toNat_natCast,Nat.mul_one]
    have h1:((bk.cells.drop o).take was.length)[y]?=(by8 was)[y]?:=by rw[hcs]
    rw[List.getElem?_take,if_pos hyl,List.getElem?_drop,List.getElem?_map,List.getElem?_eq_getElem hyl] at h1
    rw[h1]; rfl
   refine zga hO j (zwa (zwa (zwa hj))) hget ?_
   obtain⟨z,hz⟩:∃ z:Nat,was[y]=z:=⟨was[y].toNat,by omega⟩
   rw[hz] at hb1 ⊢
   refine zva (fun l' H'=>∃ (m2:Mp) (B2:Wl) (f2:Nat→List Int) (bb:Bool),l'=[t0,t1,int n,t3,int sl,ptr b 0,int (zdc f' n),Go.Ab.sl p o was.length c,int was.length,int y,.bool bb]∧zdc f2 n=zdc f' n+(if bb=true then 1 else 0)∧B0.Same B2∧WrR S { w with m:=m2 } B2∧m2.Sm (y+1)∧Rd { w with m:=m2 } n sl f2 g∧(∀ j,wr m2.d j≤0)∧WSt H' S ([(b,⟨bnC B0,true⟩)]++F) { w with m:=m2 } B2) ?_ ?_
   ·refine zCa (zGI hb1) ?_
    refine zaa zIa ?_
    refine zna (fun hlt=>?_) (fun hlt=>?_)
    ·repeat (first|refine oi ?_|refine ow ?_|refine wy ?_|refine wn ?_|refine wt ?_|refine wf' ?_|refine cy ?_|refine cn ?_)
     refine zga hO S.length (zwa (zwa (zua (k:=0) rfl))) (v:=ptr B'.L.pm 0) (by rw[← zgc hB]; rfl) ?_
     refine zCa (zGI hb1) ?_
     refine zaa znK ?_
     refine zvr (w:={ w with m:=m' }) hR (show zJy.length=64 by decide) zyG (hm.mono (by omega)) hO ?_
     clear hO
     intro H B2 hB2 hR2 hO
     obtain⟨q1,q2⟩:=hRd.side (y:=z) (by omega) zJy
     refine zaa zib ?_
     refine zaa (zNb hlt) ?_
     by_cases hbl:f' z=blank
     ·obtain⟨r1,r2,r3⟩:=q1 hbl
      have hd:=zin (f:=f') (x:=zJy) (y:=z) n (by omega)
      rw[if_neg (fun h=>h hbl),if_pos zxG] at hd
      refine⟨_,B2,zQs f' z zJy,true,?_,by simpa using hd,hB.trans hB2,hR2,Mp.program_sm hm,r2,fun j=>by rw[show wr (Mp.program m' sl z zJy).1.d j=_ from r3 j]; exact hwr j,hO⟩
      rw[decide_eq_true (show ((({ w with m:=m' }:Wr).m.program sl z zJy).2=0) from r1)]
     ·obtain⟨r1,r2,r3⟩:=q2 hbl
      refine⟨_,B2,f',false,?_,rfl,hB.trans hB2,hR2,Mp.program_sm hm,r2,fun j=>by rw[show wr (Mp.program m' sl z zJy).1.d j=_ from r3 j]; exact hwr j,hO⟩
      rw[decide_eq_false (show ¬ ((({ w with m:=m' }:Wr).m.program sl z zJy).2=0) from r1)]
    ·refine zaa (zuc hlt) ?_
     exact⟨m',B',f',false,rfl,rfl,hB,hR,hm.mono (by omega),hRd,hwr,hO⟩
   clear hO hR hm hB hRd hwr
   rintro l' H ⟨m2,B2,f2,bb,rfl,hd,hB2,hR2,hm2,hRd2,hwr2,hO⟩
   try simp only[zia,zja]
   have hle:=zfq (f:=f') (n:=n)
   cases bb with
   | true=>
    refine zsc rfl ?_
    refine zaa (v:=int ((zdc f2 n:Nat):Int)) ?_ ?_
    ·rw[if_pos rfl] at hd
     rw[zYa (by omega) (by omega),hd]; rfl
    refine zaa (v:=int ((y+1:Nat):Int)) (by rw[zYa (by omega) (by omega)]; rfl) ?_
    exact⟨_,by omega,y+1,m2,B2,f2,by omega,rfl,rfl,hB2,hR2,hm2,hRd2,hwr2,hO⟩
   | false=>
    refine zXa rfl ?_
    refine zaa (v:=int ((y+1:Nat):Int)) (by rw[zYa (by omega) (by omega)]; rfl) ?_
    have hd':zdc f2 n=zdc f' n:=by simpa using hd
    exact⟨_,by omega,y+1,m2,B2,f2,by omega,rfl,by rw[hd'],hB2,hR2,hm2,hRd2,hwr2,hO⟩
 ·exact hk H B' m' f' hB hR (hm.mono (by omega)) hRd hwr hO
end J
set_option maxRecDepth 100000
namespace J
open Go Go.Ab
variable{x b:List Int}{n k y e C j L:Nat}{w w' w1 w2:Wr}{sl:Int}{f g:Nat→List Int}{nt:Sn}{md:Mf}{gh:Int}{xs ys:List (Sn × Nat)}
inductive Pl:List (Sn × Nat)→Wr→Wr→Prop
 | nil {w:Wr}:Pl [] w w
 | cons {nt:Sn} {k:Nat} {xs:List (Sn × Nat)} {w w1 w2:Wr}:w.q=[]→Ch k { w with q:=w.q++[nt] } w1→w1.step=(false,w1)→Pl xs w1 w2→Pl ((nt,k)::xs) w w2
def tot(xs:List (Sn × Nat)):Nat:=(xs.map (·.2)).sum
theorem zEo:tot ((nt,k)::xs)=k+tot xs:=by simp[tot]
theorem zhw:tot (xs++ys)=tot xs+tot ys:=by simp[tot]
theorem Pl.app(h:Pl xs w w1)(h':Pl ys w1 w2):Pl (xs++ys) w w2:=by
 induction h with
 | nil=>exact h'
 | cons a b c _ ih=>exact .cons a b c (ih h')
def zCq(md:Mf)(b:List Int)(i:Nat):Sn:=.body i ((b.drop (zgd md i).1.toNat).take (zgd md i).2.toNat)
theorem Mid.qq(h:Mid w n sl g md b j)(q:List Sn):Mid { w with q:=q } n sl g md b j:=⟨h.r.qq q,h.er,h.sg,h.ss,h.nx,h.sd⟩
theorem Mid.waits(h:Mid w n sl g md b j)(hq:w.q=[]):w.step=(false,w):=zzB h.er (.inr h.sg) h.ss hq
theorem zaE{K:Nat}(hr:znb md)(hC:md.ck=64 * (K:Int))(hsz:md.sz=b.length)(hj:j < md.cks.length)(hm:Mid w n sl g md b j)(hq:w.q=[])(hw:w.wr=j * K)(hn:zBd b.length≤n) :
  ∃ w' k,Ch k { w with q:=w.q++[zCq md b j] } w'∧Mid w' n sl g md b (j+1)∧w'.q=[]∧k+w.wr=w'.wr+1∧w.wr≤w'.wr∧w'.wr=if j+1=md.cks.length then zBd b.length else (j+1) * K:=by
 obtain⟨s1,s2,s3,s4⟩:=zFj (i:=(j:Int)) hr (by omega) (by omega)
 have hK:1≤K:=by have:=hr.2.2.2.2.2.1; omega
 have hjC:(j:Int) * md.ck=((64 * (j * K):Nat):Int):=by rw[hC,Int.natCast_mul,Int.natCast_mul,Int.mul_left_comm]; rfl
 rw[hjC] at s1 s2 s3 s4
 have hjk:(j+1) * K=j * K+K:=Nat.succ_mul j K
 rw[hjk]
 generalize j * K=J at *
 have hsp:zgd md j=(((64 * J:Nat):Int),min md.ck (md.sz - ((64 * J:Nat):Int))):=by
  unfold zgd
  rw[if_neg (by intro h; rcases h with h|h|h; exact h hr; omega; omega),hjC]
 obtain⟨l,hl,hl0,hl1,hl2⟩:∃ l:Nat,min md.ck (md.sz - ((64 * J:Nat):Int))=l∧l≠0∧64 * J+l≤b.length∧(l=64 * K∧j+1≠md.cks.length∨64 * J+l=b.length∧l≤64 * K∧j+1=md.cks.length):=by
  rw[hsz,hC] at *
  by_cases h:(j:Int)=(md.cks.length:Int) - 1
  ·obtain⟨a1,a2⟩:=s3 h
   exact⟨b.length - 64 * J,by omega,by omega,by omega,.inr ⟨by omega,by omega,by omega⟩⟩
  ·have a1:=s4 h
   exact⟨64 * K,by omega,by omega,by omega,.inl ⟨rfl,by omega⟩⟩
 have hb:zCq md b j=.body j ((b.drop (64 * w.wr)).take l):=by
  unfold zCq
  rw[hsp,hl,hw]; rfl
 have hns:J+zBd l=if j+1=md.cks.length then zBd b.length else J+K:=by
  unfold zBd
  rcases hl2 with⟨h1,h2⟩|⟨h1,h2,h3⟩
  ·rw[if_neg h2,h1]; omega
  ·rw[if_pos h3]; omega
 have hle:J+zBd l≤zBd b.length:=by
  unfold zBd; omega
 rw[hb,hq,List.nil_append]
 obtain⟨w',c1,c2,c3,c4,_,_⟩:=zsx (l:=l) (q:=[]) (hm.qq [.body j ((b.drop (64 * w.wr)).take l)]) rfl (by rw[hsp]; exact hl) hl0 (by show w.wr+_≤n; omega) (by show 64 * w.wr+l≤_; omega) (by show l % 64=0∨64 * w.wr+l=_; omega)
 have c4:w'.wr=w.wr+zBd l:=c4
 exact⟨w',zBd l+1,c1,c2,c3,by omega,by omega,by rw[c4,hw]; exact hns⟩
theorem zwr{K:Nat}(hr:znb md)(hC:md.ck=64 * (K:Int))(hsz:md.sz=b.length)(hn:zBd b.length≤n):∀ (t j:Nat) {w:Wr},j+t=md.cks.length→Mid w n sl g md b j→w.q=[]→w.wr=(if j=md.cks.length then zBd b.length else j * K) →
  ∃ xs w',xs.map (·.1)=(List.range' j t).map (zCq md b)∧Pl xs w w'∧Mid w' n sl g md b md.cks.length∧w'.q=[]∧w'.wr=zBd b.length∧tot xs+w.wr=w'.wr+t
 | 0,j,w,hj,hm,hq,hw=>by
  have hj:j=md.cks.length:=by omega
  subst hj
  rw[if_pos rfl] at hw
  exact⟨[],w,rfl,.nil,hm,hq,hw,by simp[tot]⟩
 | t+1,j,w,hj,hm,hq,hw=>by
  rw[if_neg (by omega)] at hw
  obtain⟨w1,k,c1,c2,c3,c4,c5,c6⟩:=zaE hr hC hsz (by omega) hm hq hw hn
  obtain⟨xs,w',d1,d2,d3,d4,d5,d6⟩:=zwr hr hC hsz hn t (j+1) (by omega) c2 c3 c6
  refine⟨(zCq md b j,k)::xs,w',?_,.cons hq c1 (c2.waits c3) d2,d3,d4,d5,?_⟩
  ·rw[List.range'_succ,List.map_cons,List.map_cons,d1]
  ·rw[zEo]; omega
theorem zbE{K:Nat}(hp:Pre w n sl f g)(hq:w.q=[])(hn:n≤90)(hr:znb md)(hC:md.ck=64 * (K:Int))(hsz:md.sz=b.length)(hd:md.dg=sha b)(hb:b.length≤64 * n) :
  ∃ xs w',xs.map (·.1)=.go 0 md::((List.range md.cks.length).map (zCq md b)++[.fin])∧Pl xs w w'∧Rd w' n sl (zql b (zBd b.length)) g∧w'.er=0∧w'.sg=4∧w'.wr=zBd b.length∧w'.m.d.done=[] ∧
   tot xs=zdc f n+zBd b.length+md.cks.length+4:=by
 have hns:zBd b.length≤n:=by unfold zBd; omega
 obtain⟨w1,a1,a2,a3,a4,_,_⟩:=zBE (w:={ w with q:=w.q++[.go 0 md] }) (f:=f) (b:=b) (q:=[]) (gh:=0) ⟨hp.r.qq _,hp.er,hp.sg,hp.ss,hp.nx,hp.wr0,hp.wear⟩ (by show w.q++_=_; rw[hq]; rfl) hr (by omega) hn
 have h0:0≠md.cks.length:=by
  have:=hr.2.2.2.2.2.2.2.2.1
  unfold cnt at this
  have h1:=hr.2.2.2.1
  have h2:=hr.2.2.2.2.2.1
  rw[if_neg (by omega)] at this
  have:=Int.ediv_nonneg (show 0≤md.sz - 1 by omega) (show 0≤md.ck by omega)
  omega
 obtain⟨xs,w2,b1,b2,b3,b4,b5,b6⟩:=zwr hr hC hsz hns md.cks.length 0 (by omega) a2 a3 (by rw[a4,if_neg h0]; omega)
 obtain⟨w3,c1,c2,c3,c4,c5,c6⟩:=zDB (w:={ w2 with q:=w2.q++[.fin] }) (b3.qq _) (by show w2.q++_=_; rw[b4]; rfl) rfl b5 (by show w2.wr≤n; omega) hsz hd
 refine⟨(.go 0 md,zdc f n+2)::(xs++[(.fin,2)]),w3,?_,.cons hq a1 (a2.waits a3) (b2.app (.cons b4 c1 (zsm c4) .nil)),c2,c3,c4,c5,c6,?_⟩
 ·rw[List.map_cons,List.map_append,b1,← List.range_eq_range']; rfl
 ·rw[zEo,zhw,zEo]
  show _+(tot xs+(2+0))=_
  omega
end J
set_option maxRecDepth 100000
namespace J
open Go Go.Ab
variable{H:Heap}{Γ Γ1 Λ Δ S F X N:List (Nat × Blk)}{K:VH}{v cv bv vo iv nv:Value}{cs cs' el pl:List Value}{p p1 p3 p4 q c j j1 j4 k n s0 N0:Nat}{e pos gh sl room wrr at':Int}{w w' w1:Wr}{B B0 B':Wl}{b:Nat}{nt:Sn}{m:Mp}{s:Ls}{md:Mf}{img:List Int}{nts:List Sn}{wb:Bool}
def RdNs(S:List (Nat × Blk))(nts:List Sn)(cs:List Value):Prop:=Al (fun nt c=>NtR S nt [c]∧oneCell c=true) nts cs
theorem Al.nth{α β:Type}{R:α→β→Prop}{l:List α}{m:List β}(h:Al R l m):∀ {i:Nat} (h1:i < l.length) (h2:i < m.length),R l[i] m[i]:=by
 induction h with
 | nil=>intro i h1; simp at h1
 | cons a _ ih=>
  intro i h1 h2
  cases i with
  | zero=>exact a
  | succ i=>exact ih (by simpa using h1) (by simpa using h2)
theorem RdNs.snoc(h:RdNs S nts cs)(hn:NtR S nt [v])(h1:oneCell v=true):RdNs S (nts++[nt]) (cs++[v]):=by
 induction h with
 | nil=>exact .cons ⟨hn,h1⟩ .nil
 | cons a _ ih=>exact .cons a ih
theorem zUB(v:Value)(t:Nat)(H:Heap):(zoa P 50 1).f [(0,.iface t v)] H=some (Go.Ab.sl H.next 0 1 3,H.push [.iface t v]):=by kernel_rfl
set_option maxHeartbeats 2000000 in
theorem zVB{t1 t2 t4 t5 t6 t7:Value}{Qx:LX}{Qr:LN}(hr:znb md)(ok:md.Ok)(hcv:RdH S cv md.cks)(hv:RdB S iv img)(hby:By img)(hsz:md.sz=img.length)(hl:img.length≤100000)
  (h1:(S++F)[j1]?=some (p1,⟨pl,wb⟩)) (hp:pl[0]?=some iv) (h4:(S++F)[j4]?=some (p4,⟨mfC md cv,true⟩))
  (hO:St H ((S++F)++zhb nv cs)) (how:Own 1 nv 1 cs) (hns:RdNs S [.go 0 md] cs)
  (hk:∀ H' nv' cs',St H' ((S++F)++zhb nv' cs')→Own 1 nv' (1+md.cks.length) cs'→RdNs S (.go 0 md::(List.range md.cks.length).map (zCq md img)) cs'→Qx 2 [ptr p1 0,t1,t2,t4,t5,t6,t7,nv'] H') :
  zdb P true 270 zPd 6606 [ptr p1 0,t1,t2,ptr p4 0,t4,t5,t6,t7,nv,int md.cks.length,int 0] H Qx Qr:=by
 refine zbi (fun k l' H'=>∃ (y:Nat) (nv:Value) (cs:List Value),y≤md.cks.length∧k=md.cks.length - y∧l'=[ptr p1 0,t1,t2,ptr p4 0,t4,t5,t6,t7,nv,int md.cks.length,int y]∧St H' ((S++F)++zhb nv cs)∧Own 1 nv (1+y) cs∧RdNs S (.go 0 md::(List.range y).map (zCq md img)) cs) _ _ ?_ md.cks.length _ _ ⟨0,nv,cs,by omega,rfl,rfl,hO,how,hns⟩
 clear hO how hns
 rintro k l' H ⟨y,nv,cs,hy,rfl,rfl,hO,how,hns⟩
 unfold zQf
 try simp only[zia,zja]
 have h64:=hr.2.2.2.2.2.2.2.2.2
 refine zaa zIa ?_
 refine zna (fun h=>?_) (fun h=>?_)
 ·have hyl:y < md.cks.length:=by omega
  refine zta hO j4 (zwa h4) (zUa ok.dl) (by omega) ?_
  refine zZp ok hcv.app.app hO ?_
  clear hO
  intro H hO
  refine zaa zXt ?_
  refine zaa zYt ?_
  refine zaa zca ?_
  refine zga hO j1 (zwa h1) hp ?_
  obtain⟨s1,s2,s3,s4⟩:=zFj (i:=(y:Int)) hr (by omega) (by omega)
  have hsp:zgd md y=((y:Int) * md.ck,min md.ck (md.sz - (y:Int) * md.ck)):=by
   unfold zgd
   rw[if_neg (by intro h; rcases h with h|h|h; exact h hr; omega; omega)]
  have hck:=hr.2.2.2.2.2.1
  obtain⟨at',n,ha,hn,hln⟩:∃ at' n:Nat,(zgd md y).1=at'∧(zgd md y).2=n∧at'+n≤img.length:=by
   rw[hsp]
   refine⟨((y:Int) * md.ck).toNat,(min md.ck (md.sz - (y:Int) * md.ck)).toNat,?_,?_,?_⟩
   ·show (y:Int) * md.ck=_
    omega
   ·show min md.ck (md.sz - (y:Int) * md.ck)=_
    by_cases hc:(y:Int)=(md.cks.length:Int) - 1
    ·have:=s3 hc; omega
    ·have:=s4 hc; omega
   ·by_cases hc:(y:Int)=(md.cks.length:Int) - 1
    ·have:=s3 hc; omega
    ·have:=s4 hc; omega
  have hbn:zCq md img y=.body y ((img.drop at').take n):=by
   unfold zCq
   rw[ha,hn]; rfl
  rw[ha,hn]
  refine zaa (v:=int ((at'+n:Nat):Int)) (by rw[zYa (by omega) (by omega)]; congr 2) ?_
  obtain⟨w,hw,hin⟩:=zou hv (i:=at') (t:=at'+n) (by omega) hln
  refine zaa hw ?_
  have hin:=hin _ hv
  rw[List.drop_take,Nat.add_sub_cancel_left] at hin
  obtain⟨xa,xn,xc,rfl⟩:=hin.shape
  refine zaa (zgI _ _ _ _) ?_
  refine zbb hO (zUB _ _ _) ?_
  clear hO
  intro q H hO
  refine zLe hO how rfl (by omega) rfl (by omega) (by omega) ?_
  clear hO
  intro nv2 H hO how2
  refine zaa (zXp (b:=1) (by omega)) ?_
  refine⟨_,by omega,y+1,nv2,_,by omega,rfl,rfl,hO,by rw[show 1+(y+1)=1+y+1 by omega]; exact how2,?_⟩
  rw[List.range_succ,List.map_append,List.map_cons,List.map_nil,← List.cons_append,hbn]
  exact hns.snoc ⟨_,rfl,hin,(hby.drop).take⟩ rfl
 ·have ey:y=md.cks.length:=by omega
  subst ey
  exact hk H nv cs hO how hns
theorem zWB{t0 t1 t2 t3 t5 t6 t7:Value}{Qx:LX}{Qr:LN}{xs:List (Sn × Nat)}{pn jn cn:Nat}(hP:Pl xs w w')(hns:RdNs S (xs.map (·.1)) cs)(hF:F[jn]?=some (pn,⟨cs,true⟩))(hs:tot xs≤200)(hlx:xs.length≤200)(hB:B0.Same B)(hR:WrR S w B)(hA:0 < B0.A.n)(hz:0≤w.sd.sz)(hm:w.m.Sm 100)
  (hO:WSt H S ([(b,⟨bnC B0,true⟩)]++F) w B)
  (hk:∀ H' B' X,B0.Same B'→WrR (S++X) w' B'→0≤w'.sd.sz→w'.m.Sm 1000→WSt H' (S++X) ([(b,⟨bnC B0,true⟩)]++F) w' B'→Qx 4 [t0,t1,t2,t3,ptr b 0,t5,t6,t7,int (tot xs)] H') :
  zdb P true 270 zQd 72142 [t0,t1,t2,t3,ptr b 0,t5,t6,t7,int 0,Go.Ab.sl pn 0 xs.length cn,int xs.length,int 0] H Qx Qr:=by
 have hlen:cs.length=xs.length:=by rw[← Al.len hns,List.length_map]
 refine zci (fun k l' H'=>∃ (y:Nat) (X:List (Nat × Blk)) (w2:Wr) (B2:Wl),y≤xs.length∧k=xs.length - y∧l'=[t0,t1,t2,t3,ptr b 0,t5,t6,t7,int (tot (xs.take y)),Go.Ab.sl pn 0 xs.length cn,int xs.length,int y]∧B0.Same B2∧WrR (S++X) w2 B2∧0≤w2.sd.sz∧w2.m.Sm (100+tot (xs.take y)+y)∧Pl (xs.drop y) w2 w'∧WSt H' (S++X) ([(b,⟨bnC B0,true⟩)]++F) w2 B2) _ _ ?_ xs.length _ _ ⟨0,[],w,B,by omega,rfl,rfl,hB,by rw[List.append_nil]; exact hR,hz,hm,hP,by rw[List.append_nil]; exact hO⟩
 clear hO hR hz hm hB hP
 rintro f l' H ⟨y,X,w2,B2,hy,rfl,rfl,hB2,hR,hz,hm,hP,hO⟩
 unfold zRf
 try simp only[zia,zja]
 refine zaa zIa ?_
 refine zna (fun h=>?_) (fun h=>?_)
 ·have hyl:y < xs.length:=by omega
  rw[List.drop_eq_getElem_cons hyl] at hP
  obtain⟨nt,kk,hxy⟩:∃ nt kk,xs[y]=(nt,kk):=⟨_,_,rfl⟩
  rw[hxy] at hP
  have htk:tot (xs.take (y+1))=tot (xs.take y)+kk:=by
   rw[List.take_succ_eq_append_getElem hyl,zhw,hxy,zEo]; rfl
  have htl:tot (xs.take (y+1))≤tot xs:=by
   have:=List.take_append_drop (y+1) xs
   have h2:tot (xs.take (y+1)++xs.drop (y+1))=tot xs:=by rw[this]
   rw[zhw] at h2
   omega
  obtain⟨hnt,hone⟩:NtR S nt [cs[y]'(by omega)]∧oneCell (cs[y]'(by omega))=true:=by
   have:=Al.nth hns (i:=y) (by rw[List.length_map]; exact hyl) (by omega)
   simpa [hxy] using this
  have hcy:cs[0+((y:Nat):Int).toNat * 1]?=some (cs[y]'(by omega)):=by
   rw[Int.toNat_natCast,Nat.mul_one,Nat.zero_add,List.getElem?_eq_getElem]
  generalize cs[y]'(by omega)=cy at *
  cases hP with
  | cons hq hch hst hP=>
  refine zaa (zfb (by omega) (by omega)) ?_
  refine zga hO ((S++X).length+(1+jn)) (zwa (zwa (zua (zua hF)))) hcy ?_
  refine zaa zda ?_
  refine zaa zca ?_
  refine zga hO (S++X).length (zwa (zwa (zua (k:=0) rfl))) (v:=ptr B2.A.r 0) (by rw[← zgc hB2]; rfl) ?_
  refine zWd (nt:=nt) hR (NtR.app hnt) hone hO (fun h=>by rw[hq] at h; rw[hB2.n] at h; simp at h; omega) ?_
  clear hO
  intro _ H B3 hB3 hR3 hO
  refine zaa zmc ?_
  refine zXa rfl ?_
  refine zRB (k:=kk) (s0:=tot (xs.take y)) (N0:=100+tot (xs.take y)+y) hch hst (by omega) (hB2.trans hB3) hR3 hz hm (by omega) hO ?_
  clear hO
  intro H B4 X4 g1 g2 g3 g4 hO
  refine zKa rfl ?_
  try simp only[zia,zja]
  refine zaa (zXp (b:=1) (by omega)) ?_
  rw[List.append_assoc] at g2 hO
  refine⟨_,by omega,y+1,X++X4,_,B4,by omega,rfl,?_,g1,g2,g3,?_,hP,hO⟩
  ·rw[htk]
  ·rw[htk,show 100+(tot (xs.take y)+kk)+(y+1)=100+tot (xs.take y)+y+kk+1 by omega]; exact g4
 ·have ey:y=xs.length:=by omega
  subst ey
  rw[List.drop_length] at hP
  rw[List.take_length] at *
  cases hP
  exact hk H B2 X hB2 hR hz (hm.mono (by omega)) hO
end J
set_option maxRecDepth 100000
namespace J
open Go Go.Ab
variable{H:Heap}{Γ S F X:List (Nat × Blk)}{K:VH}{v:Value}{x:List Int}{n y e:Nat}{w w':Wr}{B B':Wl}{pt pos sl:Int}{f g:Nat→List Int}{d:Dv}{L:Mloc}{m:Mp}
theorem ziw(hR:WrR S w B)(hm:w.m.Sm 1000000)(hO:WSt H S F w B)
  (hk:∀ H' B',B.Same B'→WrR S { w with m:=w.m.sync.1 } B'→WSt H' S F { w with m:=w.m.sync.1 } B'→K (int w.m.sync.2) H'):wCall P zad [ptr B.L.pm 0] H K:=by
 refine zir hR.m.ok hm hO hR.own ?_
 intro H' L' he hO' hv
 refine hk H' (B.at L') (Wl.same_at he) ⟨hR.q,hR.sd,hR.sv,hR.ss,hR.sb,hR.s,znx _ hR.m,hv,hR.nx,hR.wr⟩ ?_
 show St H' (((S++F)++wB B.A B.l (lsC w.s L'.pm) B.c (B.wc w))++MW L' w.m.sync.1)
 rw[he.m]
 exact hO'
theorem zPs(hv:Mown L m)(hO:St H (Γ++MW L m))(hk:K (int m.d.done.length) H):wCall P zJc [ptr L.pd 0] H K:=by
 apply zhi; unfold zmf
 refine zaa zda ?_
 refine zaa zca ?_
 have h2:=MW.toD hO
 refine zga h2 (_+0) (zua rfl) (v:=L.vd) rfl ?_
 refine zCa hv.d.lenSl ?_
 exact hk
theorem zcE{cs:List Cell}{z:Nat × List Int}{j:Nat}:((zan cs z).getD j zPb).wear=(cs.getD j zPb).wear:=by
 unfold zan
 by_cases h:z.1 < cs.length
 ·rw[zTe h]
  split
  ·rename_i e; subst e; rfl
  ·rfl
 ·rw[List.set_eq_of_length_le (by omega)]
theorem zxr:∀ (l:List (Nat × List Int)) (cs:List Cell) (j:Nat),((zTa cs l).getD j zPb).wear=(cs.getD j zPb).wear
 | [],_,_=>rfl
 | z::l,cs,j=>(zxr l (zan cs z) j).trans zcE
theorem Rd.syncM(h:Rd w n sl f g):Rd { w with m:=w.m.sync.1 } n sl f g∧(∀ j,wr w.m.sync.1.d j=wr w.m.d j):=by
 obtain⟨c1,c2⟩:=zrx h.up h.bud
 refine⟨⟨h.hold,h.s1,h.s2,h.p0,h.p1,h.bit,zNn h.two rfl c2.len,c2.up,c2.bud,c2.most.trans h.most,fun i hi=>(c2.sn _).trans (h.f i hi),fun i hi=>(c2.sn _).trans (h.g i hi)⟩,fun j=>?_⟩
 show wr w.m.d.sync.1 j=_
 rw[zAB h.up h.bud]
 show (((zTa w.m.d.cells w.m.d.done).getD j zPb).wear:Int)=((w.m.d.cells.getD j zPb).wear:Int)
 rw[zxr]
theorem Rd.sideO(h:Rd w n sl f g)(hy:y < n)(x:List Int):∃ g',Rd (w.side (1 - sl) y x) n sl f g'∧∀ j,wr (w.side (1 - sl) y x).m.d j=wr w.m.d j:=by
 have hb:=zew h.bit
 have hs:siz n n (1 - sl)=n:=zPg
 obtain⟨t1,t2,t3,_⟩:=zol (s:=x) h.two hb (y:=y) (by rw[hs]; exact hy)
 have hfit:=zhn h.two hb (y:=y) (by rw[hs]; exact hy)
 have e1:(w.side (1 - sl) y x).m.d=(w.m.d.program ((off n (1 - sl)+y:Nat):Int) x).1:=t1
 by_cases hbl:sn w.m.d (off n (1 - sl)+y)=blank
 ·rcases zni (d:=w.m.d) (i:=off n (1 - sl)+y) (s:=x) hfit h.up hbl with⟨_,ho⟩|⟨c1,c2,c3⟩
  ·have:=ho.b; rw[h.bud] at this; omega
  ·refine⟨zQs g y x,⟨h.hold,h.s1,h.s2,h.p0,h.p1,h.bit,zNn h.two t3 (by rw[e1]; exact c2.len),by rw[e1]; exact c2.up,by rw[e1]; exact (c2.bud (by rw[h.bud]; decide)).trans h.bud,by rw[e1]; exact c2.m.trans h.most,?_,?_⟩,fun j=>by rw[e1]; exact c3 j⟩
   ·intro i hi
    rw[e1,c2.s,if_neg (Ne.symm (zAE h.bit hi hy))]
    exact h.f i hi
   ·intro i hi
    rw[e1,c2.s]
    unfold zQs
    by_cases e:i=y
    ·subst e; rw[if_pos rfl,if_pos rfl]
    ·rw[if_neg (by omega),if_neg e]; exact h.g i hi
 ·have hd:w.m.d.program ((off n (1 - sl)+y:Nat):Int) x=(w.m.d,63):=by
   unfold Dv.program
   rw[if_neg (fun h2=>h2 (zgn hfit)),if_neg (by rw[h.up]; decide),if_pos]
   show (w.m.d.cell _).seen≠blank
   unfold sn at hbl
   unfold Dv.cell
   rw[Int.toNat_natCast]
   exact hbl
  have e1:(w.side (1 - sl) y x).m.d=w.m.d:=by rw[e1,hd]
  refine⟨g,⟨h.hold,h.s1,h.s2,h.p0,h.p1,h.bit,zNn h.two t3 (by rw[e1]),by rw[e1]; exact h.up,by rw[e1]; exact h.bud,by rw[e1]; exact h.most,fun i hi=>by rw[e1]; exact h.f i hi,fun i hi=>by rw[e1]; exact h.g i hi⟩,fun j=>by rw[e1]⟩
def zGu:List Int:=9::List.replicate 63 0
theorem zxJ:(zxa P 45).f [(0,.int .u8 9)]=some (sec zGu):=by kernel_rfl
theorem zdE:By zGu:=by
 intro x hx
 rcases List.mem_cons.1 hx with rfl|hx
 ·omega
 ·have:x=0:=List.eq_of_mem_replicate hx
  omega
theorem zwx(t:TypeId)(c:Bool)(xs:List Int):(zma P .neq t c).f (zdH xs) (zdH xs)=some (.bool false):=by
 have:(zma P .neq t c).f (zdH xs) (zdH xs)=some (.bool (!((xs.map fun n=>UInt8.ofNat n.toNat) == xs.map fun n=>UInt8.ofNat n.toNat))):=rfl
 rw[this]; simp
end J
set_option maxRecDepth 100000
namespace J
open Go Go.Ab
variable{H:Heap}{Γ Γ1 Λ Δ S F X N:List (Nat × Blk)}{K:VH}{v cv bv vo iv wv:Value}{cs cs' el:List Value}{p p1 p3 p4 q c j k n s0 N0:Nat}{e pos gh sl room wrr at' ckb secb:Int}{w w' w1:Wr}{B B0 B':Wl}{b:Nat}{nt:Sn}{m:Mp}{s:Ls}{md:Mf}{img was:List Int}{sb:Bool}{f g:Nat→List Int}
abbrev plC(iv:Value)(ckb secb:Int)(sb:Bool)(wv:Value):List Value:=[iv,.int .u8 ckb,.int .u8 secb,.bool sb,wv]
set_option maxHeartbeats 16000000 in
theorem wwhole_main(hi:RdB Γ iv img)(hby:By img)(hw:RdB Γ wv was)(hwby:By was)(hc:0≤ckb∧ckb≤255)(hs:0≤secb∧secb≤255)(hO:St H Γ)(hK:∀ H,K (.bool true) H):wCall P zqb [agg (plC iv ckb secb sb wv)] H K:=by
 apply zTk; unfold zri
 rw[zfd]
 refine zHa hO ?_
 clear hO
 intro p1 H hO
 refine zKj hO ?_
 clear hO
 intro H hO
 obtain⟨sec,rfl⟩:∃ z:Nat,secb=z:=⟨secb.toNat,by omega⟩
 obtain⟨ckn,rfl⟩:∃ z:Nat,ckb=z:=⟨ckb.toNat,by omega⟩
 refine zaa zmc ?_
 refine zXa rfl ?_
 refine zaa zca ?_
 refine zga hO (Γ.length+0) (zua rfl) (v:=.int .u8 sec) rfl ?_
 refine zCa (zGI hs) ?_
 refine zaa (zdG (b:=12) (by decide)) ?_
 refine zaa (v:=int ((1+sec % 12:Nat):Int)) (by rw[show (Value.int .i64 1)=int ((1:Nat):Int) from rfl,zXp (by omega)]) ?_
 obtain⟨n,hn⟩:∃ n,n=1+sec % 12:=⟨_,rfl⟩
 rw[← hn]
 have hn1:1≤n:=by omega
 have hn12:n≤12:=by omega
 refine zva (fun l' H'=>l'=[ptr p1 0,.bool false,int n]∧H=H'∧img.length≤1000∧img.length≤64 * n∧was.length≤30) ?_ ?_
 ·refine zaa zca ?_
  refine zga hO (Γ.length+0) (zua rfl) (v:=iv) rfl ?_
  refine zCa hi.lenSl ?_
  refine zaa zLf ?_
  refine zna (fun h=>?_) (fun h=>?_)
  ·refine zaa (zNb h) ?_
   refine zaa zwb ?_
   exact zsc rfl (hK H)
  ·refine zaa zca ?_
   refine zga hO (Γ.length+0) (zua rfl) (v:=iv) rfl ?_
   refine zCa hi.lenSl ?_
   refine zaa (zQe (by omega) (by omega)) ?_
   refine zaa zLf ?_
   refine zaa (zuc h) ?_
   refine zna (fun h1=>?_) (fun h1=>?_)
   ·refine zaa (zNb h1) ?_
    exact zsc rfl (hK H)
   ·refine zaa zca ?_
    refine zga hO (Γ.length+0) (zua rfl) (v:=wv) rfl ?_
    refine zCa hw.lenSl ?_
    refine zaa zLf ?_
    refine zaa (zuc h1) ?_
    refine zna (fun h2=>?_) (fun h2=>?_)
    ·exact hK H
    ·exact⟨rfl,rfl,by omega,by omega,by omega⟩
 rintro l' H' ⟨rfl,rfl,hil,hin,hwl⟩
 try simp only[zia,zja]
 refine zaa zca ?_
 refine zga hO (Γ.length+0) (zua rfl) (v:=.int .u8 ckn) rfl ?_
 refine zCa (zGI hc) ?_
 refine zaa (zdG (b:=3) (by decide)) ?_
 refine zaa (v:=int ((1+ckn % 3:Nat):Int)) (by rw[show (Value.int .i64 1)=int ((1:Nat):Int) from rfl,zXp (by omega)]) ?_
 obtain⟨K0,hK0⟩:∃ K0,K0=1+ckn % 3:=⟨_,rfl⟩
 rw[← hK0]
 refine zaa (v:=int (64 * (K0:Int))) (by rw[zQe (by omega) (by omega)]) ?_
 refine zaa zca ?_
 refine zga hO (Γ.length+0) (zua rfl) (v:=iv) rfl ?_
 refine zbq (pr:=ziq) (ver:=1) (ck:=64 * (K0:Int)) hO hi.app hby (by omega) (by decide) (by omega) (by decide) ?_ ?_
 ·intro _ H hO
  refine zaa zXt ?_
  refine zaa zYt ?_
  rw[zcM]
  refine zHa hO ?_
  clear hO
  intro p4 H hO
  refine zra hO (_+0) (zua rfl) (by rfl) (by rfl) (by rfl) ?_
  clear hO
  intro H hO
  refine zaa zGb ?_
  exact zsc rfl (hK H)
 clear hO
 intro hr H cv hO hcv
 have hmd:(mkF ziq 1 (64 * (K0:Int)) img).ck=64 * (K0:Int)∧(mkF ziq 1 (64 * (K0:Int)) img).sz=img.length∧(mkF ziq 1 (64 * (K0:Int)) img).dg=sha img:=⟨rfl,rfl,rfl⟩
 have ok:(mkF ziq 1 (64 * (K0:Int)) img).Ok:=zpx (by decide) (by omega) (by omega) (by decide) (by
  have:=hr.2.2.2.2.2.2.2.2.2
  unfold mkF at this
  rw[znl] at this
  omega)
 generalize mkF ziq 1 (64 * (K0:Int)) img=md at *
 obtain⟨e1,e2,e3⟩:=hmd
 refine zaa zXt ?_
 refine zaa zYt ?_
 rw[zcM]
 refine zHa hO ?_
 clear hO
 intro p4 H hO
 refine zra hO (_+0) (zua rfl) (by rfl) (zUa ok.dl) (zml hcv.one) ?_
 clear hO
 intro H hO
 replace hO:=hO.set_r
 replace hO:St H (((Γ++[(p1,⟨plC iv ckn sec sb wv,true⟩)])++zhb cv (hsC md.cks))++[(p4,⟨mfC md cv,true⟩)]):=hO
 refine zaa zGb ?_
 refine zXa rfl ?_
 have hp1:(((Γ++[(p1,(⟨plC iv ckn sec sb wv,true⟩:Blk))])++zhb cv (hsC md.cks))++[(p4,⟨mfC md cv,true⟩)])[Γ.length+0]?=some (p1,⟨plC iv ckn sec sb wv,true⟩):=zwa (zwa (zua rfl))
 have hp4:(((Γ++[(p1,(⟨plC iv ckn sec sb wv,true⟩:Blk))])++zhb cv (hsC md.cks))++[(p4,⟨mfC md cv,true⟩)])[((Γ++[(p1,(⟨plC iv ckn sec sb wv,true⟩:Blk))])++zhb cv (hsC md.cks)).length+0]?=some (p4,⟨mfC md cv,true⟩):=zua rfl
 generalize ((Γ++[(p1,(⟨plC iv ckn sec sb wv,true⟩:Blk))])++zhb cv (hsC md.cks)).length+0=j4 at hp4
 generalize Γ.length+0=j1 at hp1
 replace hcv:RdH (((Γ++[(p1,(⟨plC iv ckn sec sb wv,true⟩:Blk))])++zhb cv (hsC md.cks))++[(p4,⟨mfC md cv,true⟩)]) cv md.cks:=hcv.app'.app
 replace hi:RdB (((Γ++[(p1,(⟨plC iv ckn sec sb wv,true⟩:Blk))])++zhb cv (hsC md.cks))++[(p4,⟨mfC md cv,true⟩)]) iv img:=hi.app.app.app
 replace hw:RdB (((Γ++[(p1,(⟨plC iv ckn sec sb wv,true⟩:Blk))])++zhb cv (hsC md.cks))++[(p4,⟨mfC md cv,true⟩)]) wv was:=hw.app.app.app
 generalize (((Γ++[(p1,(⟨plC iv ckn sec sb wv,true⟩:Blk))])++zhb cv (hsC md.cks))++[(p4,(⟨mfC md cv,true⟩:Blk))])=S at *
 refine zva (fun l' H'=>∃ sl:Int,l'=[ptr p1 0,.bool false,int n,ptr p4 0,int sl]∧H=H'∧Bit sl) ?_ ?_
 ·refine zaa zca ?_
  refine zga hO j1 hp1 (v:=.bool sb) rfl ?_
  refine zEc (fun h=>?_) (fun h=>?_)
  ·exact⟨1,rfl,rfl,.inr rfl⟩
  ·exact⟨0,rfl,rfl,.inl rfl⟩
 rintro l' H' ⟨sl,rfl,rfl,hbit⟩
 try simp only[zia,zja]
 have hO1:=hO
 rw[← List.append_nil S] at hO1
 refine zIj (n:=n) (i:=sl) (room:=1) hn1 (by omega) (by unfold Bit at hbit; omega) hO1 ?_
 clear hO hO1
 intro H b B hBn hR hO
 replace hO:WSt H S ([(b,⟨bnC B,true⟩)]++[]) (w0 n sl) B:=hO
 have hA:0 < B.A.n:=by rw[hBn]; decide
 have hpre:=zGB (n:=n) (sl:=sl) hn1 (by omega) hbit
 have c0:∀ {B':Wl},B.Same B'→(bnC B)[0+0]?=some (ptr B'.L.pm 0):=fun h=>by rw[← zgc h]; rfl
 have c3:∀ {B':Wl},B.Same B'→(bnC B)[0+3]?=some (ptr B'.c 0):=fun h=>by rw[← zgc h]; rfl
 have hbn:∀ {S' w' B' N},((((S'++([(b,(⟨bnC B,true⟩:Blk))]++N))++Wl.blk B' w')++MW B'.L w'.m))[S'.length+0]?=some (b,⟨bnC B,true⟩):=zwa (zwa (zua rfl))
 refine zaa (zqB _) ?_
 refine zXa rfl ?_
 refine zaa zca ?_
 refine zga hO j1 (zwa (zwa (zwa hp1))) (v:=wv) rfl ?_
 refine zCa hw.lenSl ?_
 refine zTB (n:=n) (sl:=sl) (B:=B) (w:=w0 n sl) (by omega) hw hwby hwl hpre.r (fun _ _=>rfl) hpre.wear .rfl' hR ⟨Nat.le_refl 0,Nat.le_refl 0⟩ hO ?_
 clear hO hR
 intro H B1 m1 f1 hB1 hR hm hrd hwear hO
 refine zKa rfl ?_
 try simp only[zia,zja]
 refine zaa zda ?_
 refine zaa zca ?_
 refine zga hO _ hbn (c0 hB1) ?_
 refine zaa (v:=int (1 - sl)) (by rw[zub (by unfold Bit at hbit; omega) (by unfold Bit at hbit; omega)]) ?_
 refine zaa zxJ ?_
 refine zvr (w:={ w0 n sl with m:=m1 }) hR (show zGu.length=64 by decide) zdE (hm.mono (by omega)) hO ?_
 clear hO hR
 intro H B2 hB2 hR hO
 obtain⟨g2,hrd2,hwr2⟩:=hrd.sideO (y:=0) hn1 zGu
 replace hB2:=hB1.trans hB2
 have hm2:(({ w0 n sl with m:=m1 }:Wr).side (1 - sl) 0 zGu).m.Sm 31:=Mp.program_sm hm
 have hwear2:∀ j,wr (({ w0 n sl with m:=m1 }:Wr).side (1 - sl) 0 zGu).m.d j≤0:=fun j=>by
  have:=hwr2 j
  rw[show ((0:Nat):Int)=0 from rfl] at this
  rw[this]; exact hwear j
 replace hrd2:Rd (({ w0 n sl with m:=m1 }:Wr).side (1 - sl) 0 zGu) n sl f1 g2:=hrd2
 obtain⟨w2,hw2⟩:∃ w2:Wr,w2=({ w0 n sl with m:=m1 }:Wr).side (1 - sl) 0 zGu:=⟨_,rfl⟩
 have hw2q:w2.q=[]∧w2.er=0∧w2.sg=0∧w2.ss=[]∧w2.nx=0∧w2.wr=0∧w2.sd.sz=0:=by rw[hw2]; exact⟨rfl,rfl,rfl,rfl,rfl,rfl,rfl⟩
 rw[← hw2] at hR hO hrd2 hm2 hwear2
 refine zaa zda ?_
 refine zaa zca ?_
 refine zga hO _ hbn (c0 hB2) ?_
 refine ziw hR (hm2.mono (by omega)) hO ?_
 clear hO hR
 intro H B3 hB3 hR hO
 obtain⟨hrd3,hwr3⟩:=hrd2.syncM
 replace hB3:=hB2.trans hB3
 have hpre3:Pre { w2 with m:=w2.m.sync.1 } n sl f1 g2:=⟨hrd3,hw2q.2.1,hw2q.2.2.1,hw2q.2.2.2.1,hw2q.2.2.2.2.1,hw2q.2.2.2.2.2.1,fun j=>by rw[show wr ({ w2 with m:=w2.m.sync.1 }:Wr).m.d j=_ from hwr3 j]; exact hwear2 j⟩
 have hm3:({ w2 with m:=w2.m.sync.1 }:Wr).m.Sm 100:=(Mp.sync_sm hm2).mono (by omega)
 have hz3:0≤({ w2 with m:=w2.m.sync.1 }:Wr).sd.sz:=by show 0≤w2.sd.sz; rw[hw2q.2.2.2.2.2.2]; exact Int.le_refl 0
 have hq3:({ w2 with m:=w2.m.sync.1 }:Wr).q=[]:=hw2q.1
 generalize ({ w2 with m:=w2.m.sync.1 }:Wr)=w3 at *
 refine zaa zda ?_
 refine zaa zca ?_
 refine zga hO _ hbn (c0 hB3) ?_
 refine zaa (v:=int (1 - sl)) (by rw[zub (by unfold Bit at hbit; omega) (by unfold Bit at hbit; omega)]) ?_
 refine zEj hR.m.ok hO ?_
 clear hO
 intro H vo co hO hvo
 have hoth:=hrd3.other
 rw[hoth] at hvo
 refine zCa (RdB.str hO hvo.rd.app') ?_
 replace hO:=hO.left
 refine zta hO j4 (zwa (zwa (zwa hp4))) (zUa ok.dl) (by omega) ?_
 obtain⟨xa,xn,xc,rfl⟩:=hcv.shape
 refine zaa (zKJ ok.dl _ _ _) ?_
 refine zbb hO (zUB _ _ _) ?_
 clear hO
 intro q H hO
 refine zaa zca ?_
 refine zga hO j4 (zwa (zwa (zwa (zwa hp4)))) (zMn ok.dl) ?_
 refine zCa hcv.lenSl ?_
 obtain⟨F1,hF1⟩:∃ F1,F1=([(b,(⟨bnC B,true⟩:Blk))]++[])++B3.blk w3++MW B3.L w3.m:=⟨_,rfl⟩
 have hSF:((S++([(b,(⟨bnC B,true⟩:Blk))]++[]))++B3.blk w3)++MW B3.L w3.m=S++F1:=by rw[hF1]; simp only[List.append_assoc]
 rw[hSF] at hO
 have h64:=hr.2.2.2.2.2.2.2.2.2
 refine zVB (F:=F1) (nv:=Go.Ab.sl q 0 1 3) hr ok hcv hi hby e2 (by omega) (zwa hp1) rfl (zwa hp4) hO (.inr ⟨q,.inr rfl,by rfl⟩) (.cons ⟨⟨_,rfl,hcv,ok⟩,rfl⟩ .nil) ?_
 clear hO
 intro H nv ncs hO how hns
 refine zKa rfl ?_
 try simp only[zia,zja]
 refine zaa zFI ?_
 refine zbb hO (zUB _ _ _) ?_
 clear hO
 intro q2 H hO
 refine zDj hO how rfl (by omega) rfl (by omega) (by omega) ?_
 clear hO
 intro pn H hO how2
 replace hns:=hns.snoc (nt:=.fin) (v:=.iface 56 (agg [])) rfl rfl
 rw[← hSF] at hO
 replace hO:WSt H S ([(b,⟨bnC B,true⟩)]++[(pn,⟨ncs++[.iface 56 (agg [])],true⟩)]) w3 B3:=toF hO
 refine zCa zzg ?_
 obtain⟨xs,wE,a1,a2,a3,a4,a5,a6,a7,a8⟩:=zbE (K:=K0) (b:=img) hpre3 hq3 (by omega) hr e1 e2 e3 hin
 have hxl:1+md.cks.length+1=xs.length:=by
  have:=congrArg List.length a1
  simp at this
  omega
 rw[hxl]
 have hdl:=zfq (f:=f1) (n:=n)
 have hnl:zBd img.length≤16:=by unfold zBd; omega
 refine zWB (xs:=xs) (jn:=0) a2 (by rw[a1]; exact hns) rfl (by omega) (by omega) hB3 hR hA hz3 hm3 hO ?_
 clear hO hR
 intro H B4 X hB4 hR hz4 hm4 hO
 refine zKa rfl ?_
 try simp only[zia,zja]
 refine zaa zda ?_
 refine zaa zca ?_
 refine zga hO _ hbn (c0 hB4) ?_
 refine zEj hR.m.ok hO ?_
 clear hO
 intro H va ca hO hva
 have hall:wE.m.all sl=img++List.replicate (64 * n - img.length) 255:=by
  rw[a3.all]
  exact zhq (b:=img) (n:=n) (by unfold zBd; omega)
 rw[hall] at hva
 have hlen:(img++List.replicate (64 * n - img.length) (255:Int)).length=64 * n:=by rw[List.length_append,List.length_replicate]; omega
 have hrva:=hva.rd
 refine zva (fun l' H'=>l'=[ptr p1 0,.bool false,ptr b 0,int (zdc f1 n),Go.Ab.sl pn 0 xs.length 2,int (tot xs),va]∧St H' (((((S++X)++([(b,(⟨bnC B,true⟩:Blk))]++[(pn,⟨ncs++[.iface 56 (agg [])],true⟩)]))++B4.blk wE)++MW B4.L wE.m)++zhb va ca)) ?_ ?_
 ·refine zaa zda ?_
  refine zaa zca ?_
  refine zga hO _ (zwa hbn) (c3 hB4) ?_
  refine zMe hR hO.left ?_
  rw[decide_eq_true a5]
  refine zaa zmc ?_
  refine zXa rfl ?_
  refine zaa zda ?_
  refine zaa zca ?_
  refine zga hO _ (zwa hbn) (c3 hB4) ?_
  refine zHj hR hO.left ?_
  rw[a4]
  refine zaa zGb ?_
  refine zaa zVa ?_
  refine zXa rfl ?_
  refine zCa hrva.lenSl ?_
  refine zaa (zQe (by omega) (by omega)) ?_
  refine zaa (v:=.bool false) (by rw[zGb,hlen]; congr 2; simp) ?_
  refine zaa (zuc (by decide)) ?_
  refine zXa rfl ?_
  refine zaa zca ?_
  refine zga hO j1 (zwa (zwa (zwa (zwa (zwa hp1))))) (v:=iv) rfl ?_
  refine zCa hi.lenSl ?_
  obtain⟨v1,f1',i1⟩:=zzo hrva (n:=img.length) (by omega)
  refine zaa f1' ?_
  have hr1:=i1 _ hrva
  rw[List.take_left' rfl] at hr1
  refine zCa (RdB.str hO hr1.app') ?_
  refine zaa zca ?_
  refine zga hO j1 (zwa (zwa (zwa (zwa (zwa hp1))))) (v:=iv) rfl ?_
  refine zCa (RdB.str hO hi.app.app.app.app.app) ?_
  refine zaa (zwx _ _ _) ?_
  refine zaa zVa ?_
  refine zXa rfl ?_
  refine zaa zda ?_
  refine zaa zca ?_
  refine zga hO _ (zwa hbn) (c0 hB4) ?_
  refine zcu hO.left ?_
  refine zPs hR.own hO.left ?_
  rw[a7]
  refine zaa zGb ?_
  refine zaa zVa ?_
  refine zXa rfl ?_
  refine zaa zda ?_
  refine zaa zca ?_
  refine zga hO _ (zwa hbn) (c0 hB4) ?_
  refine zaa (v:=int (1 - sl)) (by rw[zub (by unfold Bit at hbit; omega) (by unfold Bit at hbit; omega)]) ?_
  have hO2:=hO.rot
  refine zEj hR.m.ok hO2 ?_
  clear hO
  intro H vb cb hO hvb
  rw[a3.other] at hvb
  refine zCa (RdB.str hO hvb.rd.app') ?_
  refine zaa (zwx _ _ _) ?_
  refine zaa zVa ?_
  refine zXa rfl ?_
  exact⟨rfl,hO.left.rot⟩
 clear hO
 rintro l' H' ⟨rfl,hO⟩
 try simp only[zia,zja]
 refine zaa zca ?_
 refine zga hO j1 (zwa (zwa (zwa (zwa (zwa hp1))))) (v:=iv) rfl ?_
 refine zCa hi.lenSl ?_
 obtain⟨v1,f1',i1⟩:=zWw hrva (n:=img.length) (by omega)
 refine zaa f1' ?_
 have hr1:=i1 _ hrva
 rw[List.drop_left' rfl] at hr1
 refine zCa hr1.lenSl ?_
 refine zSB hr1.app' (fun x hx=>List.eq_of_mem_replicate hx) (by rw[List.length_replicate]; omega) hO ?_
 clear hO
 intro H hO
 refine zKa rfl ?_
 try simp only[zia,zja]
 refine zaa zca ?_
 refine zga hO j1 (zwa (zwa (zwa (zwa (zwa hp1))))) (v:=iv) rfl ?_
 refine zCa hi.lenSl ?_
 refine zaa (zXp (b:=63) (by omega)) ?_
 refine zaa (zzD (b:=64) (by decide) (by omega)) ?_
 refine zaa zda ?_
 refine zaa zca ?_
 refine zga hO _ (zwa hbn) (c3 hB4) ?_
 refine zqm hR hO.left ?_
 rw[a6]
 refine zaa (v:=.bool true) (by rw[zib]; congr 2; simp[zBd]) ?_
 refine zsc rfl ?_
 refine zCa zzg ?_
 refine zaa (zXp (by omega)) ?_
 refine zaa (zXp (by unfold zBd at hnl; omega)) ?_
 refine zaa (zXp (b:=2) (by unfold zBd at hnl; omega)) ?_
 refine zaa (v:=.bool true) (by
  rw[zib]
  congr 2
  rw[decide_eq_true_eq]
  congr 1
  unfold zBd at a8
  omega) ?_
 refine zaa zwb ?_
 exact hK H
end J
set_option maxRecDepth 100000
namespace J
open Go Go.Ab
theorem zXB{t:TypeId}(ht:P.underlying t=some .bool){ts:List TypeId}{N:Nat}{c:List Value}{b:List (List Value)}(h:ShpL P (t::ts) N c b):∃ (x:Bool) (c':List Value),c=.bool x::c'∧ShpL P ts N c' b:=by
 cases h with
 | bool v hu h=>exact⟨v,_,rfl,h⟩
 | int v hu _ _=>rw[ht] at hu; cases hu
 | str v hu _ _=>rw[ht] at hu; cases hu
 | slNil hu _=>rw[ht] at hu; cases hu
 | sl len hu _ _ _ _=>rw[ht] at hu; cases hu
 | struct hu _=>rw[ht] at hu; cases hu
 | array hu _=>rw[ht] at hu; cases hu
theorem arg_play{ts:List TypeId}{N:Nat}{av:List Value}{b:List (List Value)}(h:ArgS P (24::ts) N av b) :
  ∃ iv wv ckb secb sb img was vs b1 b2,av=agg (plC iv ckb secb sb wv)::vs∧b=b1++b2∧RdB (zvv N b1) iv img∧By img∧RdB (zvv N b1) wv was∧By was∧(0≤ckb∧ckb≤255)∧(0≤secb∧secb≤255)∧ArgS P ts (N+b1.length) vs b2:=by
 obtain⟨cs,vs,b1,b2,rfl,rfl,h1,h2⟩:=zaA h (.inl ⟨_,Go.Proofs.Tryz.underlying24⟩)
 have h0:=zfg Go.Proofs.Tryz.underlying24 h1
 have h0:ShpL P [22,5,5,4,22] N cs b1:=h0
 obtain⟨iv,c1,d1,d2,img,rfl,rfl,g1,g2,h3⟩:=zgw h0
 obtain⟨ckb,c2,rfl,w1,h4⟩:=zfc (k:=.u8) Go.Proofs.Tryz.underlying5 h3
 obtain⟨secb,c3,rfl,w2,h5⟩:=zfc (k:=.u8) Go.Proofs.Tryz.underlying5 h4
 obtain⟨sb,c4,rfl,h6⟩:=zXB Go.Proofs.Tryz.underlying4 h5
 obtain⟨wv,c5,d3,d4,was,rfl,rfl,g3,g4,h7⟩:=zgw h6
 obtain⟨rfl,rfl⟩:=zgs h7
 refine⟨iv,wv,ckb,secb,sb,img,was,vs,_,b2,rfl,rfl,?_,g2,?_,g4,wf_u8 w1,wf_u8 w2,h2⟩
 ·rw[argG_append]; exact g1.app
 ·rw[argG_append,argG_append]; exact (g3.app).app'
end J
