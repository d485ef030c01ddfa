/- texts of the proof, one behind the other -/
import Derived.Test.YtnemiikeflojaaaGreatUD
set_option linter.unusedSimpArgs false
set_option linter.unusedSectionVars false
set_option linter.unusedVariables false
set_option maxRecDepth 100000
namespace J
open Go Go.Ab
variable{H:Heap}{Γ:List (Nat × Blk)}{K:VH}
structure Sl where
 st:Int
 tr:Int
 ver:Int
 sz:Int
 dg:Nat→Int
structure Tb where
 a:Sl
 b:Sl
 act:Int
 boo:Int
 flo:Int
structure Ch where
 kind:Int
 slot:Int
 n:Int
 to:Sl
 ver:Int
def dgC(g:Nat→Int):List Value:=[.int .u8 (g 0),.int .u8 (g 1),.int .u8 (g 2),.int .u8 (g 3),.int .u8 (g 4),.int .u8 (g 5),.int .u8 (g 6),.int .u8 (g 7),.int .u8 (g 8),.int .u8 (g 9),.int .u8 (g 10),.int .u8 (g 11),.int .u8 (g 12),.int .u8 (g 13),.int .u8 (g 14),.int .u8 (g 15),.int .u8 (g 16),.int .u8 (g 17),.int .u8 (g 18),.int .u8 (g 19),.int .u8 (g 20),.int .u8 (g 21),.int .u8 (g 22),.int .u8 (g 23),.int .u8 (g 24),.int .u8 (g 25),.int .u8 (g 26),.int .u8 (g 27),.int .u8 (g 28),.int .u8 (g 29),.int .u8 (g 30),.int .u8 (g 31)]
def slC(s:Sl):List Value:=int s.st::int s.tr::.int .u64 s.ver::int s.sz::dgC s.dg
def tbC(t:Tb):List Value:=slC t.a++(slC t.b++[int t.act,int t.boo,.int .u64 t.flo])
def chC(c:Ch):List Value:=int c.kind::int c.slot::int c.n::(slC c.to++[.int .u64 c.ver])
def slz(st:Int):Sl:=⟨st,0,0,0,fun _=>0⟩
theorem zGE:zc P 27=slC (slz 0):=by kernel_rfl
theorem zRE:zc P 81=chC ⟨0,0,0,slz 0,0⟩:=by kernel_rfl
theorem b26:(zAa P 27).f []=some (agg (slC (slz 0))):=by kernel_rfl
theorem zfL(a:Int):(zAa P 27).f [(0,int a)]=some (agg (slC (slz a))):=by kernel_rfl
theorem b24:(zAa P 25).f []=some (agg (dgC fun _=>0)):=by kernel_rfl
def kD:List CK:=zLJ 32 [.i .u8]
def kS:List CK:=.i .i64::.i .i64::.i .u64::.i .i64::kD
def kC:List CK:=.i .i64::.i .i64::.i .i64::(kS++[.i .u64])
theorem f24:flatK P 100 25=some kD:=by kernel_rfl
theorem f26:flatK P 100 27=some kS:=by kernel_rfl
theorem f58:flatK P 100 81=some kC:=by kernel_rfl
theorem zzN(g:Nat→Int):Fit kD (dgC g):=by
 simp only[kD,zLJ,dgC,Fit,zwN,List.append_nil,List.cons_append,List.nil_append,and_self,and_true]
theorem zQL(s:Sl):Fit kS (slC s):=⟨rfl,rfl,rfl,rfl,zzN s.dg⟩
theorem zIO(g g':Nat→Int)(c:Bool):(zsa P .eql 25 c).f (agg (dgC g)) (agg (dgC g'))=some (.bool (zPa (dgC g) (dgC g'))):=zqn f24 (by kernel_rfl) (by kernel_rfl) (zzN g) (zzN g')
theorem zsO(s s':Sl)(c:Bool):(zsa P .eql 27 c).f (agg (slC s)) (agg (slC s'))=some (.bool (zPa (slC s) (slC s'))):=zqn f26 (by kernel_rfl) (by kernel_rfl) (zQL s) (zQL s')
def Dz(g:Nat→Int):Prop:=zPa (dgC g) (dgC fun _=>0)=true
instance (g:Nat→Int):Decidable (Dz g):=by unfold Dz; infer_instance
def zHk(s:Sl):Prop:=s.tr=0∧s.ver=0∧s.sz=0∧Dz s.dg
instance (s:Sl):Decidable (zHk s):=by unfold zHk; infer_instance
def zIk(s:Sl):Prop:=1≤s.ver∧s.ver≤281474976710656∧1≤s.sz∧s.sz≤65536
instance (s:Sl):Decidable (zIk s):=by unfold zIk; infer_instance
def SRight(s:Sl):Prop:=((s.st=0∨s.st=1∨s.st=4)∧zHk s)∨(s.st=2∧(0≤s.tr∧s.tr≤7)∧zIk s)∨(s.st=3∧s.tr=0∧zIk s)
instance (s:Sl):Decidable (SRight s):=by unfold SRight; infer_instance
def zQh(s:Sl):Prop:=s.st=2∨s.st=3
instance (s:Sl):Decidable (zQh s):=by unfold zQh; infer_instance
def zbh(s:Sl):Prop:=SRight s∧(s.st=3∨(s.st=2∧0 < s.tr))
instance (s:Sl):Decidable (zbh s):=by unfold zbh; infer_instance
theorem eq_bare(s:Sl):zPa (slC s) (slC (slz s.st))=decide (zHk s):=by
 show (zkd (int s.st) (int s.st) && (zkd (int s.tr) (int 0) && (zkd (.int .u64 s.ver) (.int .u64 0) && (zkd (int s.sz) (int 0) && zPa (dgC s.dg) (dgC fun _=>0)))))=_
 rw[Bool.eq_iff_iff,decide_eq_true_iff]
 unfold zHk Dz
 simp[zkd]
section
variable{s:Sl}
theorem zMb(hO:St H Γ)(hk:∀ H',St H' Γ→K (.bool (decide (SRight s))) H'):wCall P zXb [agg (slC s)] H K:=by
 apply zix; unfold zNv
 refine zxa hO ?_
 intro p H hO
 refine zwa (fun l' H'=>l'=[ptr p 0]∧H'=H∧(SRight s↔zIk s)) ?_ ?_
 ·repeat (first|refine oi ?_|refine ld hO 0 rfl rfl ?_)
  refine zwa (fun l' H'=>l'=[ptr p 0,int s.st,.bool (decide (s.st=0∨s.st=1∨s.st=4))]∧H'=H) ?_ ?_
  ·repeat refine oi ?_
   by_cases h:s.st=0
   ·repeat refine wy ?_
    rw[decide_eq_true h,decide_eq_true (show s.st=0∨s.st=1∨s.st=4 by omega)]; exact⟨rfl,rfl⟩
   ·repeat (first|refine oi ?_|refine wn ?_)
    by_cases h1:s.st=1
    ·repeat refine wy ?_
     rw[decide_eq_true h1,decide_eq_true (show s.st=0∨s.st=1∨s.st=4 by omega)]; exact⟨rfl,rfl⟩
    ·repeat (first|refine oi ?_|refine wn ?_)
     rw[show decide (s.st=0∨s.st=1∨s.st=4)=decide (s.st=4) from decide_eq_decide.2 (by omega)]; exact⟨rfl,rfl⟩
  rintro l' H' ⟨rfl,rfl⟩
  try simp only[zla,zma]
  refine zja (fun h=>?_) (fun h=>?_)
  ·refine zBa hO (Γ.length+0) (zqa rfl) (show _=slC s from rfl) rfl (by omega) ?_
   repeat (first|refine oi ?_|refine ld hO 0 rfl rfl ?_)
   refine zaa (zfL _) ?_
   refine zaa (zsO _ _ _) ?_
   rw[eq_bare]
   rw[show decide (SRight s)=decide (zHk s) from decide_eq_decide.2 (by unfold SRight; constructor; (rintro (⟨_,h⟩|⟨h,_⟩|⟨h,_⟩); exact h; omega; omega); exact fun h2=>.inl ⟨h,h2⟩)] at hk
   exact hk _ hO.left
  ·repeat refine oi ?_
   have hn:SRight s↔(s.st=2∧(0≤s.tr∧s.tr≤7)∧zIk s)∨(s.st=3∧s.tr=0∧zIk s):=by
    unfold SRight; constructor
    ·rintro (⟨h2,_⟩|h2)
     ·exact absurd h2 h
     ·exact h2
    ·exact .inr
   by_cases h2:s.st=2
   ·repeat (first|refine oi ?_|refine wy ?_|refine ld hO 0 rfl rfl ?_)
    have hn2:SRight s↔((0≤s.tr∧s.tr≤7)∧zIk s):=by
     rw[hn]; constructor
     ·rintro (⟨_,h⟩|⟨h,_⟩)
      ·exact h
      ·omega
     ·exact fun h=>.inl ⟨h2,h⟩
    by_cases h3:s.tr < 0
    ·repeat (first|refine oi ?_|refine wy ?_|refine wt ?_)
     rw[decide_eq_false (show ¬ SRight s by rw[hn2]; omega)] at hk
     exact hk _ hO.left
    ·repeat (first|refine oi ?_|refine wn ?_|refine ld hO 0 rfl rfl ?_)
     by_cases h4:7 < s.tr
     ·repeat refine wy ?_
      rw[decide_eq_false (show ¬ SRight s by rw[hn2]; omega)] at hk
      exact hk _ hO.left
     ·repeat refine wn ?_
      exact⟨(by first|rfl|trivial),(by first|rfl|trivial),by rw[hn2]; exact⟨fun h=>h.2,fun h=>⟨by omega,h⟩⟩⟩
   ·repeat (first|refine oi ?_|refine wn ?_)
    by_cases h3:s.st=3
    ·repeat (first|refine oi ?_|refine wy ?_|refine ld hO 0 rfl rfl ?_)
     have hn2:SRight s↔(s.tr=0∧zIk s):=by
      rw[hn]; constructor
      ·rintro (⟨h,_⟩|⟨_,h⟩)
       ·omega
       ·exact h
      ·exact fun h=>.inr ⟨h3,h⟩
     by_cases h4:s.tr=0
     ·repeat refine wn ?_
      exact⟨(by first|rfl|trivial),(by first|rfl|trivial),by rw[hn2]; exact⟨fun h=>h.2,fun h=>⟨by omega,h⟩⟩⟩
     ·repeat refine wy ?_
      rw[decide_eq_false (show ¬ SRight s by rw[hn2]; exact fun h=>h4 h.1)] at hk
      exact hk _ hO.left
    ·repeat refine wn ?_
     rw[decide_eq_false (show ¬ SRight s by rw[hn]; rintro (⟨h,_⟩|⟨h,_⟩); exact h2 h; exact h3 h)] at hk
     exact hk _ hO.left
 rintro l' H' ⟨rfl,rfl,hR⟩
 rw[show decide (SRight s)=decide (zIk s) from decide_eq_decide.2 hR] at hk
 try simp only[zla,zma]
 repeat (first|refine oi ?_|refine ld hO 0 rfl rfl ?_)
 by_cases h1:1≤s.ver
 ·repeat (first|refine oi ?_|refine wy ?_|refine ld hO 0 rfl rfl ?_)
  by_cases h2:s.ver≤281474976710656
  ·repeat (first|refine oi ?_|refine wy ?_|refine ld hO 0 rfl rfl ?_)
   by_cases h3:1≤s.sz
   ·repeat (first|refine oi ?_|refine wy ?_|refine ld hO 0 rfl rfl ?_)
    rw[show decide (zIk s)=decide (s.sz≤65536) from decide_eq_decide.2 (by unfold zIk; omega)] at hk
    exact hk _ hO.left
   ·repeat (first|refine oi ?_|refine wn ?_)
    rw[decide_eq_false (show ¬ zIk s by unfold zIk; omega)] at hk
    exact hk _ hO.left
  ·repeat (first|refine oi ?_|refine wn ?_)
   rw[decide_eq_false (show ¬ zIk s by unfold zIk; omega)] at hk
   exact hk _ hO.left
 ·repeat (first|refine oi ?_|refine wn ?_)
  rw[decide_eq_false (show ¬ zIk s by unfold zIk; omega)] at hk
  exact hk _ hO.left
end
variable{H:Heap}{Γ:List (Nat × Blk)}{K:VH}
section
variable{s:Sl}
end
variable{H:Heap}{Γ:List (Nat × Blk)}{K:VH}
section
variable{t:Tb}
def Tb.sl(t:Tb)(i:Int):Sl:=if i=0 then t.a else t.b
def Ix(x:Int):Prop:=x=0∨x=1
instance (x:Int):Decidable (Ix x):=by unfold Ix; infer_instance
def TRight(t:Tb):Prop:=SRight t.a∧SRight t.b∧Ix t.act∧(t.boo=-1∨Ix t.boo)∧t.flo≤281474976710656
instance (t:Tb):Decidable (TRight t):=by unfold TRight; infer_instance
theorem zYc{p o:Nat}{w:Bool}{x:Int}{K:VH}(hO:St H Γ)(i:Nat)(hi:Γ[i]?=some (p,⟨tbC t,w⟩))(hx:Ix x)(ho:o=x.toNat * 36)(hk:K (agg (slC (t.sl x))) H):opW (zna 36 (ptr p o) H) K:=by
 rcases hx with rfl|rfl
 ·have ho:o=0:=ho
  subst ho
  exact zBa hO i hi (show _=slC t.a from rfl) rfl (by omega) hk
 ·have ho:o=36:=ho
  subst ho
  exact zBa hO i hi (show _=slC t.b from rfl) rfl (by omega) hk
theorem zdC{p o:Nat}{w:Bool}{x:Int}{K:VH}(hO:St H Γ)(i:Nat)(hi:Γ[i]?=some (p,⟨tbC t,w⟩))(hx:Ix x)(ho:o=x.toNat * 36)(hk:K (int (t.sl x).st) H):opW (zba (ptr p o) H) K:=by
 rcases hx with rfl|rfl
 ·have ho:o=0:=ho
  subst ho
  exact zha hO i hi rfl hk
 ·have ho:o=36:=ho
  subst ho
  exact zha hO i hi rfl hk
theorem zZc{x:Int}(hk:K (.bool (decide (Ix x))) H):wCall P zNc [int x] H K:=by
 apply zDu; unfold zYs
 repeat refine oi ?_
 by_cases h:x=0
 ·repeat (first|refine oi ?_|refine wy ?_)
  rw[decide_eq_true (show Ix x from .inl h)] at hk
  exact hk
 ·repeat (first|refine oi ?_|refine wn ?_)
  rw[show decide (Ix x)=decide (x=1) from decide_eq_decide.2 (by unfold Ix; omega)] at hk
  exact hk
theorem zad(hO:St H Γ)(hk:∀ H',St H' Γ→K (.bool (decide (TRight t))) H'):wCall P zMc [agg (tbC t)] H K:=by
 apply zzu; unfold zRs
 refine zxa hO ?_
 intro p H hO
 repeat refine oi ?_
 refine zYc (t:=t) (x:=0) hO (Γ.length+0) (zqa rfl) (.inl rfl) rfl ?_
 refine zMb hO ?_
 intro H hO
 by_cases h1:SRight t.a
 ·rw[show decide (SRight (t.sl 0))=true from decide_eq_true h1]
  repeat (first|refine oi ?_|refine wt ?_)
  refine zYc (t:=t) (x:=1) hO (Γ.length+0) (zqa rfl) (.inr rfl) rfl ?_
  refine zMb hO ?_
  intro H hO
  by_cases h2:SRight t.b
  ·rw[show decide (SRight (t.sl 1))=true from decide_eq_true h2]
   repeat (first|refine oi ?_|refine wt ?_|refine ld hO 0 rfl rfl ?_)
   refine zZc ?_
   by_cases h3:Ix t.act
   ·rw[decide_eq_true h3]
    repeat (first|refine oi ?_|refine wt ?_|refine ld hO 0 rfl rfl ?_)
    by_cases h4:t.boo=-1
    ·repeat (first|refine oi ?_|refine wy ?_|refine ld hO 0 rfl rfl ?_)
     rw[show decide (TRight t)=decide (t.flo≤281474976710656) from decide_eq_decide.2 ⟨fun h=>h.2.2.2.2,fun h=>⟨h1,h2,h3,.inl h4,h⟩⟩] at hk
     exact hk _ hO.left
    ·repeat (first|refine oi ?_|refine wn ?_|refine ld hO 0 rfl rfl ?_)
     refine zZc ?_
     by_cases h5:Ix t.boo
     ·rw[decide_eq_true h5]
      repeat (first|refine oi ?_|refine wt ?_|refine ld hO 0 rfl rfl ?_)
      rw[show decide (TRight t)=decide (t.flo≤281474976710656) from decide_eq_decide.2 ⟨fun h=>h.2.2.2.2,fun h=>⟨h1,h2,h3,.inr h5,h⟩⟩] at hk
      exact hk _ hO.left
     ·rw[decide_eq_false h5]
      repeat (first|refine oi ?_|refine wf' ?_)
      rw[decide_eq_false (show ¬ TRight t from fun h=>by rcases h.2.2.2.1 with h|h; exact h4 h; exact h5 h)] at hk
      exact hk _ hO.left
   ·rw[decide_eq_false h3]
    repeat (first|refine oi ?_|refine wf' ?_)
    rw[decide_eq_false (show ¬ TRight t from fun h=>h3 h.2.2.1)] at hk
    exact hk _ hO.left
  ·rw[show decide (SRight (t.sl 1))=false from decide_eq_false h2]
   repeat (first|refine oi ?_|refine wf' ?_)
   rw[decide_eq_false (show ¬ TRight t from fun h=>h2 h.2.1)] at hk
   exact hk _ hO.left
 ·rw[show decide (SRight (t.sl 0))=false from decide_eq_false h1]
  repeat (first|refine oi ?_|refine wf' ?_)
  rw[decide_eq_false (show ¬ TRight t from fun h=>h1 h.1)] at hk
  exact hk _ hO.left
theorem zeA(t:Tb):(tbC t).all zMd=true:=rfl
def zSm(t:Tb):Int:=if zbh (t.sl t.act) then t.act else if zbh (t.sl (1 - t.act)) then 1 - t.act else -1
def zmj(t:Tb):Int:=if TRight t then zSm t else -1
theorem Ix.flip{x:Int}(h:Ix x):Ix (1 - x):=by unfold Ix at *; omega
end
variable{H:Heap}{Γ:List (Nat × Blk)}{K:VH}
section
variable{t:Tb}
def zgL(i:Int)(s:Sl):Ch:=⟨1,i,0,s,0⟩
def zAN(i:Int):Ch:=⟨2,0,i,slz 0,0⟩
def zVN(i:Int):Ch:=⟨3,0,i,slz 0,0⟩
theorem zWN(i:Int)(s:Sl):(zAa P 81).f [(0,int 1),(1,int i),(3,agg (slC s))]=some (agg (chC (zgL i s))):=by kernel_rfl
theorem ztO(i:Int):(zAa P 81).f [(0,int 2),(2,int i)]=some (agg (chC (zAN i))):=by kernel_rfl
theorem zuO(i:Int):(zAa P 81).f [(0,int 3),(2,int i)]=some (agg (chC (zVN i))):=by kernel_rfl
theorem bs1(c:Ch)(H:Heap):(zpa P 71 1).f [(0,agg (chC c))] H=some (sl H.next 0 1 81,H.push (chC c)):=by kernel_rfl
def chs(l:List Ch):List Value:=l.flatMap chC
abbrev Made(Γ:List (Nat × Blk))(K:VH)(r:List Ch × Int):Prop:=∀ (H':Heap) (v:Value),St H' (Γ++zGa v (chs r.1))→Own 40 v r.1.length (chs r.1)→K (.tuple [v,int r.2].toArray) H'
theorem Made.none{e:Int}(h:Made Γ K ([],e))(hO:St H Γ):K (.tuple [zya,int e].toArray) H:=h H zya (by show St H (Γ++[]); rw[List.append_nil]; exact hO) Own.nil
theorem zTt(c:Ch):(chC c).length=40:=rfl
theorem zbH:∀ l:List Ch,(chs l).length=l.length * 40
 | []=>rfl
 | c::l=>by
  show (chC c++chs l).length=_
  rw[List.length_append,zTt,zbH l,List.length_cons]; omega
theorem zhL(c:Ch):chs [c]=chC c:=List.append_nil _
theorem ziL(c c':Ch):chs [c,c']=chC c++chC c':=by show chC c++(chC c'++[])=_; rw[List.append_nil]
theorem Made.slice{L:List (Nat × Blk)}{p n:Nat}{l:List Ch}{cs:List Value}{e:Int}(h:Made Γ K (l,e))(hc:chs l=cs)(hn:l.length=n)(hO:St H ((Γ++L)++[(p,⟨cs,true⟩)]))(cap:Nat)(hcap:cap=80∨cap=81):K (.tuple [sl p 0 n cap,int e].toArray) H:=by
 subst hc; subst hn
 refine h H (sl p 0 l.length cap) (St.mid hO) (.inr ⟨p,?_,zbH l⟩)
 rcases hcap with rfl|rfl
 ·exact .inl rfl
 ·exact .inr rfl
theorem Made.one{L:List (Nat × Blk)}{p:Nat}{c:Ch}{e:Int}(h:Made Γ K ([c],e))(hO:St H ((Γ++L)++[(p,⟨chC c,true⟩)])):K (.tuple [sl p 0 1 81,int e].toArray) H:=h.slice (zhL c) rfl hO 81 (.inr rfl)
theorem Made.two{L:List (Nat × Blk)}{p:Nat}{c c':Ch}{e:Int}(h:Made Γ K ([c,c'],e))(hO:St H ((Γ++L)++[(p,⟨chC c++chC c',true⟩)])):K (.tuple [sl p 0 2 81,int e].toArray) H:=h.slice (ziL c c') rfl hO 81 (.inr rfl)
end
variable{H:Heap}{Γ:List (Nat × Blk)}{K:VH}
section
variable{t:Tb}
theorem zjL(c:Ch):(chC c).all oneCell=true:=rfl
theorem zYd{v:Value}{l:List Ch}{c:Ch}{q:Nat}(hO:St H ((Γ++zGa v (chs l))++[(q,⟨chC c,true⟩)]))(hv:Own 40 v l.length (chs l))(hl:l.length≤100)
  (hk:∀ H' v',St H' (Γ++zGa v' (chs (l++[c])))→Own 40 v' (l++[c]).length (chs (l++[c]))→K v' H'):opW (zva 40 96 v (sl q 0 1 81) H) K:=by
 have e:chs (l++[c])=chs l++chC c:=by unfold chs; rw[List.flatMap_append]; exact congrArg _ (List.append_nil _)
 refine zDv hO.left hv (by omega) (m:=1) (new:=chC c) rfl ?_ (by omega) (by omega) (by omega) (zjL c) rfl ?_
 ·have:=zVw (H:=H) (size:=40) (n:=1) (p:=q) (o:=0) (c:=81) (b:=⟨chC c,true⟩) (hO.at ((Γ++zGa v (chs l)).length+0) (zqa rfl) (.inl rfl)) (by rw[zTt]; omega)
  rw[List.drop_zero,List.take_of_length_le (by rw[zTt]; omega)] at this
  exact this
 ·intro p H' hO' hown
  refine hk H' _ ?_ ?_
  ·rw[e]; exact hO'
  ·rw[e,List.length_append]; exact hown
end
variable{H:Heap}{Γ:List (Nat × Blk)}{K:VH}
section
variable{t:Tb}
theorem Made.app{L:List (Nat × Blk)}{v:Value}{l:List Ch}{e:Int}(h:Made Γ K (l,e))(hO:St H ((Γ++L)++zGa v (chs l)))(hv:Own 40 v l.length (chs l)):K (.tuple [v,int e].toArray) H:=h H v (St.mid hO) hv
theorem Ix.bd{x:Int}(h:Ix x):0≤x∧x≤1:=by unfold Ix at h; omega
end
variable{H:Heap}{Γ:List (Nat × Blk)}{K:VH}
section
variable{t:Tb}
theorem bs0(H:Heap):(zpa P 71 0).f [] H=some (sl H.next 0 0 81,H.push []):=by kernel_rfl
theorem zcH(h:zmj t≠-1):TRight t∧Ix (zmj t):=by
 unfold zmj at *
 by_cases hr:TRight t
 ·rw[if_pos hr] at *
  refine⟨hr,?_⟩
  have:=hr.2.2.1
  unfold zSm at *
  split
  ·exact this
  ·split
   ·exact this.flip
   ·rename_i h1 h2; rw[if_neg h1,if_neg h2] at h; exact absurd rfl h
 ·rw[if_neg hr] at h; exact absurd rfl h
abbrev zDM(Γ:List (Nat × Blk))(K:VH)(p:Int)(l:List Ch):Prop:=∀ (H':Heap) (v:Value),St H' (Γ++zGa v (chs l))→Own 40 v l.length (chs l)→K (.tuple [int p,v].toArray) H'
theorem zVx{c:Ch}{q:Nat}(hO:St H (Γ++[(q,⟨chC c,true⟩)]))
  (hk:∀ H' v',St H' (Γ++zGa v' (chs [c]))→Own 40 v' [c].length (chs [c])→K v' H'):opW (zva 40 96 zya (sl q 0 1 81) H) K:=
 zYd (l:=[]) (by rw[show zGa zya (chs [])=[] from rfl,List.append_nil]; exact hO) Own.nil (by simp) hk
theorem TRight.sl{i:Int}(h:TRight t):SRight (t.sl i):=by unfold Tb.sl; split; exact h.1; exact h.2.1
end
variable{H:Heap}{Γ:List (Nat × Blk)}{K:VH}
section
variable{t:Tb}
theorem Fit.join:∀ {a b:List CK} {xs ys:List Value},Fit a xs→Fit b ys→Fit (a++b) (xs++ys)
 | [],_,[],_,_,h=>h
 | _::_,_,_::_,_,h,h2=>⟨h.1,Fit.join h.2 h2⟩
theorem zvO(c:Ch):Fit kC (chC c):=⟨rfl,rfl,rfl,Fit.join (zQL c.to) ⟨rfl,trivial⟩⟩
theorem zUt:∀ (l:List Ch) (i:Nat) (h:i < l.length),((chs l).drop (i * 40)).take 40=chC l[i]
 | [],_,h=>by simp at h
 | c::l,0,_=>by
  show ((chC c++chs l).drop 0).take 40=chC c
  rw[List.drop_zero,List.take_append_of_le_length (by rw[zTt]; omega),List.take_of_length_le (by rw[zTt]; omega)]
 | c::l,i+1,h=>by
  show ((chC c++chs l).drop ((i+1) * 40)).take 40=chC (l[i]'(by simpa using h))
  rw[show (i+1) * 40=40+i * 40 by omega,← List.drop_drop,show (chC c++chs l).drop 40=chs l from rfl]
  exact zUt l i (by simpa using h)
def RdC(Γ:List (Nat × Blk))(v:Value)(l:List Ch):Prop:=
 lenSl v=(fun H=>some (int l.length,H))∧(l=[]∨∃ (p c j:Nat),v=sl p 0 l.length c∧∃ w:Bool,Γ[j]?=some (p,(⟨chs l,w⟩:Blk)))
theorem RdC.app{Γ Δ:List (Nat × Blk)}{v:Value}{l:List Ch}(h:RdC Γ v l):RdC (Γ++Δ) v l:=by
 refine⟨h.1,?_⟩
 rcases h.2 with h|⟨p,c,j,h1,w,h2⟩
 ·exact .inl h
 ·exact .inr ⟨p,c,j,h1,w,zza h2⟩
theorem RdC.app'{Γ Δ:List (Nat × Blk)}{v:Value}{l:List Ch}(h:RdC Δ v l):RdC (Γ++Δ) v l:=by
 refine⟨h.1,?_⟩
 rcases h.2 with h|⟨p,c,j,h1,w,h2⟩
 ·exact .inl h
 ·exact .inr ⟨p,c,_,h1,w,zqa h2⟩
theorem RdC.own{v:Value}{l:List Ch}(h:Own 40 v l.length (chs l)):RdC (zGa v (chs l)) v l:=by
 refine⟨funext fun H=>h.lenSl,?_⟩
 rcases h with⟨rfl,h,_⟩|⟨p,rfl|rfl,_⟩
 ·exact .inl (List.length_eq_zero_iff.1 h)
 ·exact .inr ⟨p,_,0,rfl,true,rfl⟩
 ·exact .inr ⟨p,_,0,rfl,true,rfl⟩
end
variable{H:Heap}{Γ:List (Nat × Blk)}{K:VH}
section
variable{t:Tb}{c:Ch}
theorem zGq:∀ {a a' b b':List Value},a.length=a'.length→zPa (a++b) (a'++b')=(zPa a a' && zPa b b')
 | [],[],_,_,_=>by simp[zPa]
 | x::a,y::a',b,b',h=>by
  show (zkd x y && zPa (a++b) (a'++b'))=((zkd x y && zPa a a') && zPa b b')
  rw[zGq (by simpa using h),Bool.and_assoc]
 | [],_::_,_,_,h=>by simp at h
 | _::_,[],_,_,h=>by simp at h
def SEq(s s':Sl):Prop:=zPa (slC s) (slC s')=true
instance (s s':Sl):Decidable (SEq s s'):=by unfold SEq; infer_instance
theorem SEq.rfl'(s:Sl):SEq s s:=zPf (zQL s)
theorem zXN(c c':Ch):zPa (chC c) (chC c')=decide (c.kind=c'.kind∧c.slot=c'.slot∧c.n=c'.n∧SEq c.to c'.to∧c.ver=c'.ver):=by
 have e:zPa (chC c) (chC c')=(zkd (int c.kind) (int c'.kind) && (zkd (int c.slot) (int c'.slot) && (zkd (int c.n) (int c'.n) && zPa (slC c.to++[.int .u64 c.ver]) (slC c'.to++[.int .u64 c'.ver])))):=rfl
 rw[e,zGq (a:=slC c.to) (a':=slC c'.to) rfl,Bool.eq_iff_iff,decide_eq_true_iff]
 unfold SEq
 simp[zkd,zPa]
def SZ(s:Sl):Prop:=SEq (slz 0) s
instance (s:Sl):Decidable (SZ s):=by unfold SZ; infer_instance
def zTa(c:Ch):Prop:=
 (c.kind=1∧(Ix c.slot∧SRight c.to)∧c.n=0∧c.ver=0) ∨
 (c.kind=2∧Ix c.n∧c.slot=0∧SZ c.to∧c.ver=0) ∨
 (c.kind=3∧(c.n=-1∨Ix c.n)∧c.slot=0∧SZ c.to∧c.ver=0) ∨
 (c.kind=4∧c.ver≤281474976710656∧c.slot=0∧c.n=0∧SZ c.to)
instance (c:Ch):Decidable (zTa c):=by unfold zTa; infer_instance
end
variable{H:Heap}{Γ:List (Nat × Blk)}{K:VH}
section
variable{t:Tb}{c:Ch}
theorem zJO(k:Int):(zAa P 81).f [(0,int k)]=some (agg (chC ⟨k,0,0,slz 0,0⟩)):=by kernel_rfl
theorem zKO(c c':Ch)(b:Bool):(zsa P .eql 81 b).f (agg (chC c)) (agg (chC c'))=some (.bool (zPa (chC c) (chC c'))):=zqn f58 (by kernel_rfl) (by kernel_rfl) (zvO c) (zvO c')
theorem zCj(hO:St H Γ)(hk:∀ H',St H' Γ→K (.bool (decide (zTa c))) H'):wCall P zOe [agg (chC c)] H K:=by
 apply zOu; unfold zot
 refine zxa hO ?_
 intro p H hO
 repeat (first|refine oi ?_|refine ld hO 0 rfl rfl ?_)
 refine zaa (zJO _) ?_
 rw[zRE]
 refine zxa hO ?_
 intro q H hO
 rw[List.append_assoc] at hO
 refine zoa hO (Γ.length+1) (zqa rfl) rfl rfl rfl ?_
 intro H hO
 have hO:St H (Γ++[(p,⟨chC c,true⟩),(q,⟨chC ⟨c.kind,0,0,slz 0,0⟩,true⟩)]):=hO.set_r
 refine zwa (fun l' H'=>∃ (d:Ch) (ok:Bool),l'=[ptr p 0,ptr q 0,.bool ok]∧St H' (Γ++[(p,⟨chC c,true⟩),(q,⟨chC d,true⟩)])∧(ok && decide (d.kind=c.kind∧d.slot=c.slot∧d.n=c.n∧SEq d.to c.to∧d.ver=c.ver))=decide (zTa c)) ?_ ?_
 ·repeat (first|refine oi ?_|refine ld hO 0 rfl rfl ?_)
  by_cases h1:c.kind=1
  ·repeat (first|refine oi ?_|refine wy ?_|refine ld hO 0 rfl rfl ?_)
   refine zBa hO (Γ.length+0) (zqa rfl) (show _=slC c.to from rfl) rfl (by omega) ?_
   repeat refine oi ?_
   have hne:=St.ne hO (i:=Γ.length+0) (j:=Γ.length+1) (zqa rfl) (zqa rfl) (by omega)
   refine zua hO (Γ.length+1) (zqa rfl) rfl (show 1 < 40 by omega) (show _=chC ⟨c.kind,c.slot,0,slz 0,0⟩ from rfl) ?_
   intro H hO
   have hO:=hO.set_r
   refine⟨zNJ hne,?_⟩
   repeat refine oi ?_
   refine zgc hO (Γ.length+1) (zqa rfl) rfl (show 3+36≤40 by omega) rfl ?_
   intro H hO
   have hO:St H (Γ++[(p,⟨chC c,true⟩),(q,⟨chC ⟨c.kind,c.slot,0,c.to,0⟩,true⟩)]):=hO.set_r
   repeat (first|refine oi ?_|refine ld hO 0 rfl rfl ?_)
   refine zZc ?_
   have hd:zTa c↔(Ix c.slot∧SRight c.to)∧0=c.n∧0=c.ver:=by
    unfold zTa; constructor
    ·rintro (⟨_,h,h2,h3⟩|⟨h,_⟩|⟨h,_⟩|⟨h,_⟩)
     ·exact⟨h,h2.symm,h3.symm⟩
     ·omega
     ·omega
     ·omega
    ·exact fun h=>.inl ⟨h1,h.1,h.2.1.symm,h.2.2.symm⟩
   have he:decide (c.kind=c.kind∧c.slot=c.slot∧0=c.n∧SEq c.to c.to∧0=c.ver)=decide (0=c.n∧0=c.ver):=decide_eq_decide.2 ⟨fun h=>⟨h.2.2.1,h.2.2.2.2⟩,fun h=>⟨rfl,rfl,h.1,SEq.rfl' _,h.2⟩⟩
   by_cases h2:Ix c.slot
   ·rw[decide_eq_true h2]
    repeat (first|refine oi ?_|refine wt ?_)
    refine zBa hO (Γ.length+0) (zqa rfl) (show _=slC c.to from rfl) rfl (by omega) ?_
    refine zMb hO ?_
    intro H hO
    repeat refine oi ?_
    refine⟨⟨c.kind,c.slot,0,c.to,0⟩,decide (SRight c.to),rfl,hO,?_⟩
    rw[Bool.eq_iff_iff,decide_eq_true_iff,Bool.and_eq_true,decide_eq_true_iff,decide_eq_true_iff,hd]
    exact⟨fun h=>⟨⟨h2,h.1⟩,h.2.2.2.1,h.2.2.2.2.2⟩,fun h=>⟨h.1.2,rfl,rfl,h.2.1,SEq.rfl' _,h.2.2⟩⟩
   ·rw[decide_eq_false h2]
    repeat (first|refine oi ?_|refine wf' ?_)
    refine⟨⟨c.kind,c.slot,0,c.to,0⟩,false,rfl,hO,?_⟩
    rw[decide_eq_false (show ¬ zTa c by rw[hd]; exact fun h=>h2 h.1.1)]; rfl
  ·repeat (first|refine oi ?_|refine wn ?_)
   by_cases h2:c.kind=2
   ·repeat (first|refine oi ?_|refine wy ?_|refine ld hO 0 rfl rfl ?_)
    refine zua hO (Γ.length+1) (zqa rfl) rfl (show 2 < 40 by omega) (show _=chC ⟨c.kind,0,c.n,slz 0,0⟩ from rfl) ?_
    intro H hO
    have hO:=hO.set_r
    repeat (first|refine oi ?_|refine ld hO 0 rfl rfl ?_)
    refine zZc ?_
    refine⟨⟨c.kind,0,c.n,slz 0,0⟩,decide (Ix c.n),rfl,hO,?_⟩
    rw[Bool.eq_iff_iff,decide_eq_true_iff,Bool.and_eq_true,decide_eq_true_iff,decide_eq_true_iff]
    unfold zTa SZ
    constructor
    ·rintro⟨hi,_,h3,_,h4,h5⟩
     exact .inr (.inl ⟨h2,hi,h3.symm,h4,h5.symm⟩)
    ·rintro (⟨h,_⟩|⟨_,hi,h3,h4,h5⟩|⟨h,_⟩|⟨h,_⟩)
     ·omega
     ·exact⟨hi,rfl,h3.symm,rfl,h4,h5.symm⟩
     ·omega
     ·omega
   ·repeat (first|refine oi ?_|refine wn ?_)
    by_cases h3:c.kind=3
    ·repeat (first|refine oi ?_|refine wy ?_|refine ld hO 0 rfl rfl ?_)
     refine zua hO (Γ.length+1) (zqa rfl) rfl (show 2 < 40 by omega) (show _=chC ⟨c.kind,0,c.n,slz 0,0⟩ from rfl) ?_
     intro H hO
     have hO:=hO.set_r
     repeat (first|refine oi ?_|refine ld hO 0 rfl rfl ?_)
     have fin:∀ ok:Bool,ok=decide (c.n=-1∨Ix c.n)→(ok && decide (c.kind=c.kind∧0=c.slot∧c.n=c.n∧SEq (slz 0) c.to∧0=c.ver))=decide (zTa c):=by
      rintro ok rfl
      rw[Bool.eq_iff_iff,decide_eq_true_iff,Bool.and_eq_true,decide_eq_true_iff,decide_eq_true_iff]
      unfold zTa SZ
      constructor
      ·rintro⟨hi,_,h3',_,h4,h5⟩
       exact .inr (.inr (.inl ⟨h3,hi,h3'.symm,h4,h5.symm⟩))
      ·rintro (⟨h,_⟩|⟨h,_⟩|⟨_,hi,h3',h4,h5⟩|⟨h,_⟩)
       ·omega
       ·omega
       ·exact⟨hi,rfl,h3'.symm,rfl,h4,h5.symm⟩
       ·omega
     by_cases h4:c.n=-1
     ·repeat (first|refine oi ?_|refine wy ?_)
      refine⟨⟨c.kind,0,c.n,slz 0,0⟩,true,rfl,hO,fin _ (decide_eq_true (.inl h4)).symm⟩
     ·repeat (first|refine oi ?_|refine wn ?_|refine ld hO 0 rfl rfl ?_)
      refine zZc ?_
      repeat refine oi ?_
      refine⟨⟨c.kind,0,c.n,slz 0,0⟩,decide (Ix c.n),rfl,hO,fin _ (decide_eq_decide.2 ⟨.inr,fun h=>h.resolve_left h4⟩)⟩
    ·repeat (first|refine oi ?_|refine wn ?_)
     by_cases h4:c.kind=4
     ·repeat (first|refine oi ?_|refine wy ?_|refine ld hO 0 rfl rfl ?_)
      refine zua hO (Γ.length+1) (zqa rfl) rfl (show 39 < 40 by omega) (show _=chC ⟨c.kind,0,0,slz 0,c.ver⟩ from rfl) ?_
      intro H hO
      have hO:=hO.set_r
      repeat (first|refine oi ?_|refine ld hO 0 rfl rfl ?_)
      refine⟨⟨c.kind,0,0,slz 0,c.ver⟩,decide (c.ver≤281474976710656),rfl,hO,?_⟩
      rw[Bool.eq_iff_iff,decide_eq_true_iff,Bool.and_eq_true,decide_eq_true_iff,decide_eq_true_iff]
      unfold zTa SZ
      constructor
      ·rintro⟨hi,_,h5,h6,h7,_⟩
       exact .inr (.inr (.inr ⟨h4,hi,h5.symm,h6.symm,h7⟩))
      ·rintro (⟨h,_⟩|⟨h,_⟩|⟨h,_⟩|⟨_,hi,h5,h6,h7⟩)
       ·omega
       ·omega
       ·omega
       ·exact⟨hi,rfl,h5.symm,h6.symm,h7,rfl⟩
     ·repeat refine wn ?_
      refine⟨⟨c.kind,0,0,slz 0,0⟩,false,rfl,hO,?_⟩
      rw[decide_eq_false (show ¬ zTa c by unfold zTa; omega)]; rfl
 clear hO
 rintro l' H ⟨d,ok,rfl,hO,hd⟩
 try simp only[zla,zma]
 cases ok with
 | true=>
  rw[Bool.true_and] at hd
  refine zdg rfl ?_
  refine zia hO (Γ.length+1) (zqa rfl) rfl (by omega) ?_
  refine zia hO (Γ.length+0) (zqa rfl) rfl (by omega) ?_
  refine zaa (zKO _ _ _) ?_
  rw[zXN,hd]
  repeat refine oi ?_
  exact hk _ hO.left
 | false=>
  refine zFe rfl ?_
  rw[← hd] at hk
  repeat refine oi ?_
  exact hk _ hO.left
end
variable{H:Heap}{Γ:List (Nat × Blk)}{K:VH}
section
variable{t:Tb}{l:List Ch}
def TOk(l:List Ch):Prop:=l.length≤8∧∀ c ∈ l,zTa c
instance (l:List Ch):Decidable (TOk l):=by unfold TOk; infer_instance
theorem zHD{y:Nat}(h:y < l.length){p:Ch→Prop}(ha:∀ c ∈ l.take y,p c)(hb:p l[y]):∀ c ∈ l.take (y+1),p c:=by
 intro c hc
 rw[List.take_succ_eq_append_getElem h] at hc
 rcases List.mem_append.1 hc with hc|hc
 ·exact ha c hc
 ·have:c=l[y]:=by simpa using hc
  subst this; exact hb
theorem zmf{v:Value}(hO:St H Γ)(hv:RdC Γ v l)(hl:l.length≤1000000)(hk:∀ H',St H' Γ→K (.bool (decide (TOk l))) H'):wCall P zbc [v] H K:=by
 apply zql; unfold zji
 refine zDa (by rw[hv.1]) ?_
 repeat refine oi ?_
 refine zja (fun h=>?_) (fun h=>?_)
 ·rw[decide_eq_false (show ¬ TOk l from fun h'=>by have:=h'.1; omega)] at hk
  exact hk _ hO
 refine zDa (by rw[hv.1]) ?_
 refine zii (fun k l' H'=>∃ y:Nat,y≤l.length∧k=l.length - y∧l'=[.bool false,v,int l.length,int y]∧St H' Γ∧∀ c ∈ l.take y,zTa c) _ _ ?_ l.length _ _ ⟨0,by omega,by omega,rfl,hO,by simp⟩
 rintro k l' H' ⟨y,hy,rfl,rfl,hO,hc⟩
 unfold zmg
 try simp only[zla,zma]
 repeat refine oi ?_
 refine zja (fun h2=>?_) (fun h2=>?_)
 ·rcases hv.2 with rfl|⟨p,cp,j,rfl,w,hj⟩
  ·simp at h2; omega
  have hyl:y < l.length:=by omega
  have e:0+((y:Nat):Int).toNat * 40=y * 40:=by rw[Int.toNat_natCast]; omega
  repeat refine oi ?_
  refine zBa hO j hj (show _=chC l[y] from ?_) rfl (by omega) ?_
  ·rw[e]; exact zUt l y hyl
  rw[zRE]
  refine zxa hO ?_
  intro q H hO
  refine zoa hO (Γ.length+0) (zqa rfl) rfl rfl rfl ?_
  intro H hO
  have hO:=hO.set_r
  refine zia hO (Γ.length+0) (zqa rfl) rfl (by omega) ?_
  refine zCj hO ?_
  intro H hO
  by_cases hr:zTa l[y]
  ·rw[decide_eq_true hr]
   repeat (first|refine oi ?_|refine wf' ?_)
   exact⟨_,by omega,y+1,by omega,rfl,rfl,hO.left,zHD hyl hc hr⟩
  ·rw[decide_eq_false hr]
   repeat (first|refine oi ?_|refine wt ?_)
   try simp only[zla,zma]
   rw[decide_eq_false (show ¬ TOk l from fun h=>hr (h.2 _ (List.getElem_mem hyl)))] at hk
   exact hk _ hO.left
 ·have e:y=l.length:=by omega
  subst e
  rw[List.take_of_length_le (Nat.le_refl _)] at hc
  repeat refine cy ?_
  rw[decide_eq_true (show TOk l from⟨by omega,hc⟩)] at hk
  exact hk _ hO
def Tb.put(t:Tb)(i:Int)(s:Sl):Tb:=if i=0 then { t with a:=s } else { t with b:=s }
def ap1(t:Tb)(c:Ch):Option Tb:=
 if c.kind=1 then some (t.put c.slot c.to) else if c.kind=2 then some { t with act:=c.n } else if c.kind=3 then some { t with boo:=c.n }
 else if c.ver < t.flo then none else some { t with flo:=c.ver }
def apL:Tb→List Ch→Option Tb
 | t,[]=>some t
 | t,c::l=>match ap1 t c with
  | some t'=>apL t' l
  | none=>none
def tbz:Tb:=⟨slz 0,slz 0,0,0,0⟩
def zZa(t:Tb)(l:List Ch):Tb × Int:=if TRight t∧TOk l then (match apL t l with|some t'=>(t',0)|none=>(tbz,111)) else (tbz,111)
theorem zdH:zc P 30=tbC tbz:=by kernel_rfl
theorem b29:(zAa P 30).f []=some (agg (tbC tbz)):=by kernel_rfl
theorem zxp{p o:Nat}{x:Int}{s:Sl}{K:VH}(hO:St H Γ)(i:Nat)(hi:Γ[i]?=some (p,⟨tbC t,true⟩))(hx:Ix x)(ho:o=x.toNat * 36)(hk:∀ H',St H' (Γ.set i (p,⟨tbC (t.put x s),true⟩))→K undef H'):opW (zka 36 (ptr p o) (agg (slC s)) H) K:=by
 rcases hx with rfl|rfl
 ·have ho:o=0:=ho
  subst ho
  exact zgc hO i hi rfl (show 0+36≤75 by omega) rfl fun H' hO=>hk H' hO
 ·have ho:o=36:=ho
  subst ho
  exact zgc hO i hi rfl (show 36+36≤75 by omega) rfl fun H' hO=>hk H' hO
theorem zDj{v:Value}(hO:St H Γ)(hv:RdC Γ v l)(hl:l.length≤1000000)(hk:∀ H',St H' Γ→K (.tuple [agg (tbC (zZa t l).1),int (zZa t l).2].toArray) H'):wCall P zJe [agg (tbC t),v] H K:=by
 apply zFu; unfold zat
 refine zxa hO ?_
 intro p H hO
 rw[zdH]
 refine zxa hO ?_
 intro q H hO
 rw[List.append_assoc] at hO
 have hO:St H (Γ++[(p,⟨tbC t,true⟩),(q,⟨tbC tbz,true⟩)]):=hO
 refine zwa (fun l' H'=>l'=[v,ptr p 0,ptr q 0,int 0,.bool (decide ¬(TRight t∧TOk l))]∧St H' (Γ++[(p,⟨tbC t,true⟩),(q,⟨tbC tbz,true⟩)])) ?_ ?_
 ·refine zia hO (Γ.length+0) (zqa rfl) rfl (by omega) ?_
  refine zad hO ?_
  intro H hO
  by_cases h:TRight t
  ·rw[decide_eq_true h]
   repeat (first|refine oi ?_|refine wf' ?_)
   refine zmf hO hv.app hl ?_
   intro H hO
   repeat refine oi ?_
   refine⟨?_,hO⟩
   rw[show (decide ¬(TRight t∧TOk l))=!decide (TOk l) by by_cases hf:TOk l <;> simp[h,hf]]
  ·rw[decide_eq_false h]
   repeat (first|refine oi ?_|refine wt ?_)
   refine⟨?_,hO⟩
   rw[show (decide ¬(TRight t∧TOk l))=true by simp[h]]
 clear hO
 rintro l' H ⟨rfl,hO⟩
 try simp only[zla,zma]
 refine zja (fun h=>?_) (fun h=>?_)
 ·rw[show zZa t l=(tbz,111) from if_neg h] at hk
  refine zaa b29 ?_
  refine zoa hO (Γ.length+1) (zqa rfl) rfl rfl rfl ?_
  intro H hO
  have hO:=hO.set_r
  refine zia hO (Γ.length+1) (zqa rfl) rfl (by omega) ?_
  exact hk _ hO.left
 have h:=Decidable.not_not.1 h
 rw[show zZa t l=(match apL t l with|some t'=>(t',0)|none=>(tbz,111)) from if_pos h] at hk
 refine zDa (by rw[hv.1]) ?_
 refine zEn (fun k l' H'=>∃ (y:Nat) (t':Tb),y≤l.length∧k=l.length - y∧l'=[ptr p 0,ptr q 0,int 0,v,int l.length,int y]∧St H' (Γ++[(p,⟨tbC t',true⟩),(q,⟨tbC tbz,true⟩)])∧apL t l=apL t' (l.drop y)) _ _ ?_ l.length _ _ ⟨0,t,by omega,by omega,rfl,hO,rfl⟩
 clear hO
 rintro k l' H' ⟨y,t',hy,rfl,rfl,hO,ha⟩
 unfold zUl
 try simp only[zla,zma]
 repeat refine oi ?_
 refine zja (fun h2=>?_) (fun h2=>?_)
 ·rcases hv.2 with rfl|⟨pv,cp,j,rfl,w,hj⟩
  ·simp at h2; omega
  have hyl:y < l.length:=by omega
  have e:0+((y:Nat):Int).toNat * 40=y * 40:=by rw[Int.toNat_natCast]; omega
  have hcr:=h.2.2 _ (List.getElem_mem hyl)
  have had:apL t l=(match ap1 t' l[y] with|some t''=>apL t'' (l.drop (y+1))|none=>none):=by rw[ha,List.drop_eq_getElem_cons hyl]; rfl
  repeat refine oi ?_
  refine zBa hO j (zza hj) (show _=chC l[y] from ?_) rfl (by omega) ?_
  ·rw[e]; exact zUt l y hyl
  rw[zRE]
  refine zxa hO ?_
  intro b H hO
  rw[List.append_assoc] at hO
  generalize l[y]=c at *
  refine zoa hO (Γ.length+2) (zqa rfl) rfl rfl rfl ?_
  intro H hO
  have hO:St H (Γ++[(p,⟨tbC t',true⟩),(q,⟨tbC tbz,true⟩),(b,⟨chC c,true⟩)]):=hO.set_r
  unfold ap1 at had
  unfold zTa at hcr
  repeat (first|refine oi ?_|refine ld hO 2 rfl rfl ?_)
  by_cases h1:c.kind=1
  ·rw[if_pos h1] at had
   have hi:Ix c.slot:=by rcases hcr with h|h|h|h; exact h.2.1.1; all_goals omega
   have hi':=hi.bd
   repeat (first|refine oi ?_|refine wy ?_|refine ld hO 2 rfl rfl ?_)
   refine zBa hO (Γ.length+2) (zqa rfl) (show _=slC c.to from rfl) rfl (by omega) ?_
   repeat refine oi ?_
   refine zxp (t:=t') (x:=c.slot) hO (Γ.length+0) (zqa rfl) hi (by omega) ?_
   intro H hO
   have hO:=hO.set_r
   repeat refine oi ?_
   exact⟨_,by omega,y+1,_,by omega,rfl,rfl,hO.keep 2,had⟩
  ·rw[if_neg h1] at had
   repeat (first|refine oi ?_|refine wn ?_)
   by_cases h2:c.kind=2
   ·rw[if_pos h2] at had
    repeat (first|refine oi ?_|refine wy ?_|refine ld hO 2 rfl rfl ?_)
    refine zua hO (Γ.length+0) (zqa rfl) rfl (show 72 < 75 by omega) (show _=tbC { t' with act:=c.n } from rfl) ?_
    intro H hO
    have hO:=hO.set_r
    repeat refine oi ?_
    exact⟨_,by omega,y+1,_,by omega,rfl,rfl,hO.keep 2,had⟩
   ·rw[if_neg h2] at had
    repeat (first|refine oi ?_|refine wn ?_)
    by_cases h3:c.kind=3
    ·rw[if_pos h3] at had
     repeat (first|refine oi ?_|refine wy ?_|refine ld hO 2 rfl rfl ?_)
     refine zua hO (Γ.length+0) (zqa rfl) rfl (show 73 < 75 by omega) (show _=tbC { t' with boo:=c.n } from rfl) ?_
     intro H hO
     have hO:=hO.set_r
     repeat refine oi ?_
     exact⟨_,by omega,y+1,_,by omega,rfl,rfl,hO.keep 2,had⟩
    ·rw[if_neg h3] at had
     have h4:c.kind=4:=by omega
     repeat (first|refine oi ?_|refine wy ?_|refine wn ?_|refine ld hO 0 rfl rfl ?_|refine ld hO 2 rfl rfl ?_)
     refine zja (fun h5=>?_) (fun h5=>?_)
     ·rw[if_pos h5] at had
      rw[had] at hk
      refine zaa b29 ?_
      refine zoa hO (Γ.length+1) (zqa rfl) rfl rfl rfl ?_
      intro H hO
      have hO:=hO.set_r
      try simp only[zla,zma]
      refine zia hO (Γ.length+1) (zqa rfl) rfl (by omega) ?_
      exact hk _ hO.left
     ·rw[if_neg h5] at had
      repeat (first|refine oi ?_|refine ld hO 2 rfl rfl ?_)
      refine zua hO (Γ.length+0) (zqa rfl) rfl (show 74 < 75 by omega) (show _=tbC { t' with flo:=c.ver } from rfl) ?_
      intro H hO
      have hO:=hO.set_r
      repeat refine oi ?_
      exact⟨_,by omega,y+1,_,by omega,rfl,rfl,hO.keep 2,had⟩
 ·have e:y=l.length:=by omega
  subst e
  rw[List.drop_of_length_le (Nat.le_refl _)] at ha
  rw[show apL t l=some t' from ha] at hk
  repeat refine cy ?_
  try simp only[zla,zma]
  refine zia hO (Γ.length+0) (zqa rfl) rfl (by omega) ?_
  refine zoa hO (Γ.length+1) (zqa rfl) rfl rfl rfl ?_
  intro H hO
  have hO:=hO.set_r
  refine zia hO (Γ.length+1) (zqa rfl) rfl (by omega) ?_
  exact hk _ hO.left
end
variable{H:Heap}{Γ:List (Nat × Blk)}{K:VH}
structure Sd where
 kind:Int
 i:Int
 s:Sl
section
variable{t:Tb}{a:Sd}
theorem Tb.put_flo{i:Int}{s:Sl}:(t.put i s).flo=t.flo:=by unfold Tb.put; split <;> rfl
theorem TRight.put{i:Int}{s:Sl}(h:TRight t)(hs:SRight s):TRight (t.put i s):=by
 unfold TRight Tb.put at *
 split
 ·exact⟨hs,h.2⟩
 ·exact⟨h.1,hs,h.2.2⟩
def Goes(t:Tb)(c:Ch):Prop:=zTa c∧(c.kind=4→t.flo≤c.ver)
theorem zEM{c:Ch}(h:TRight t)(hc:Goes t c):∃ t',ap1 t c=some t'∧TRight t'∧t.flo≤t'.flo:=by
 obtain⟨hc,hf⟩:=hc
 unfold ap1
 by_cases h1:c.kind=1
 ·rw[if_pos h1]
  refine⟨_,rfl,h.put ?_,by rw[Tb.put_flo]; omega⟩
  rcases hc with h|h|h|h
  ·exact h.2.1.2
  all_goals omega
 rw[if_neg h1]
 by_cases h2:c.kind=2
 ·rw[if_pos h2]
  refine⟨_,rfl,⟨h.1,h.2.1,?_,h.2.2.2⟩,by show t.flo≤t.flo; omega⟩
  rcases hc with h|h|h|h
  ·omega
  ·exact h.2.1
  all_goals omega
 rw[if_neg h2]
 by_cases h3:c.kind=3
 ·rw[if_pos h3]
  refine⟨_,rfl,⟨h.1,h.2.1,h.2.2.1,?_,h.2.2.2.2⟩,by show t.flo≤t.flo; omega⟩
  rcases hc with h|h|h|h
  ·omega
  ·omega
  ·exact h.2.1
  ·omega
 rw[if_neg h3]
 have h4:c.kind=4:=by rcases hc with h|h|h|h <;> omega
 have:=hf h4
 rw[if_neg (by omega)]
 refine⟨_,rfl,⟨h.1,h.2.1,h.2.2.1,h.2.2.2.1,?_⟩,by show t.flo≤c.ver; omega⟩
 rcases hc with h|h|h|h
 ·omega
 ·omega
 ·omega
 ·exact h.2.1
theorem zeH{st:Int}(h:st=0∨st=1∨st=4):SRight (slz st):=.inl ⟨h,rfl,rfl,rfl,zPf (zzN _)⟩
def Goal(t:Tb)(l:List Ch)(Q:Tb→Prop):Prop:=TOk l∧∃ t',apL t l=some t'∧TRight t'∧t.flo≤t'.flo∧Q t'
theorem Goal.nil{Q:Tb→Prop}(h:TRight t)(hq:Q t):Goal t [] Q:=⟨⟨by simp,by simp⟩,t,rfl,h,by omega,hq⟩
theorem Goal.cons{Q:Tb→Prop}{c:Ch}{l:List Ch}(h:TRight t)(hc:Goes t c)(hl:l.length≤7)(hn:∀ t',ap1 t c=some t'→TRight t'→t.flo≤t'.flo→Goal t' l Q):Goal t (c::l) Q:=by
 obtain⟨t1,e1,r1,f1⟩:=zEM h hc
 obtain⟨ho,t2,e2,r2,f2,hq⟩:=hn t1 e1 r1 f1
 refine⟨⟨by simp; omega,?_⟩,t2,?_,r2,by omega,hq⟩
 ·intro c' h'
  rcases List.mem_cons.1 h' with rfl|h'
  ·exact hc.1
  ·exact ho.2 _ h'
 ·show (match ap1 t c with|some t'=>apL t' l|none=>none)=some t2
  rw[e1]; exact e2
def G3(t:Tb):Prop:=t.a.st=3∨t.b.st=3
theorem G3.put{i:Int}{s:Sl}(h:G3 t)(hi:Ix i)(hn:s.st=3∨(t.sl i).st≠3∨(t.sl (1 - i)).st=3):G3 (t.put i s):=by
 unfold G3 Tb.put Tb.sl at *
 rcases hi with rfl|rfl
 ·simp at *; omega
 ·simp at *; omega
end
end J
set_option maxRecDepth 100000
namespace J
open Go Go.Ab
theorem zTm{P:Program}{t:TypeId}{fs:Array Field}(ht:P.underlying t=some (.struct fs)){ts:List TypeId}{N:Nat}{c:List Value}{b:List (List Value)}(h:ShpL P (t::ts) N c b):ShpL P (fs.toList.map (·.type)++ts) N c b:=by
 cases h with
 | struct hu h=>rw[ht] at hu; cases hu; exact h
 | array hu _=>rw[ht] at hu; cases hu
 | int v hu _ _=>rw[ht] at hu; cases hu
 | bool v hu _=>rw[ht] at hu; cases hu
 | str v hu _ _=>rw[ht] at hu; cases hu
 | slNil hu _=>rw[ht] at hu; cases hu
 | sl len hu _ _ _ _=>rw[ht] at hu; cases hu
theorem zyp{P:Program}{t e:TypeId}{n:Nat}(ht:P.underlying t=some (.array n e)){ts:List TypeId}{N:Nat}{c:List Value}{b:List (List Value)}(h:ShpL P (t::ts) N c b):ShpL P (List.replicate n e++ts) N c b:=by
 cases h with
 | array hu h=>rw[ht] at hu; cases hu; exact h
 | struct hu _=>rw[ht] at hu; cases hu
 | int v hu _ _=>rw[ht] at hu; cases hu
 | bool v hu _=>rw[ht] at hu; cases hu
 | str v hu _ _=>rw[ht] at hu; cases hu
 | slNil hu _=>rw[ht] at hu; cases hu
 | sl len hu _ _ _ _=>rw[ht] at hu; cases hu
theorem zQJ(xs:List Int)(h:xs.length=32):xs.map (Value.int .u8)=dgC (fun i=>xs.getD i 0):=by
 apply List.ext_getElem?
 intro j
 have e:dgC (fun i=>xs.getD i 0)=(List.range 32).map fun i=>Value.int .u8 (xs.getD i 0):=rfl
 rw[e]
 by_cases hj:j < 32
 ·simp[hj,h,List.getElem?_eq_getElem (show j < xs.length by omega)]
 ·rw[List.getElem?_eq_none (by simp; omega),List.getElem?_eq_none (by simp; omega)]
end J
set_option maxRecDepth 100000
namespace J
open Go Go.Ab
variable{H:Heap}{Γ:List (Nat × Blk)}{K:VH}{v w x:Value}{xs ys:List Int}
section
variable{s:Sl}{t:Tb}
def dgL(g:Nat→Int):List Int:=(List.range 32).map g
def sBy(s:Sl):List Int:=leN 1 s.st.toNat++leN 1 s.tr.toNat++leN 8 s.ver.toNat++leN 4 s.sz.toNat++dgL s.dg
def zIA(s:Sl):List Int:=if SRight s then sBy s else []
theorem SRight.nn{s:Sl}(h:SRight s):(0≤s.st∧s.st≤4)∧(0≤s.tr∧s.tr≤7)∧(0≤s.ver∧s.ver≤281474976710656)∧(0≤s.sz∧s.sz≤65536):=by
 rcases h with⟨h,h2⟩|⟨h,h2,h3⟩|⟨h,h2,h3⟩
 ·obtain⟨a,b,c,_⟩:=h2; omega
 ·obtain⟨a,b,c,d⟩:=h3; omega
 ·obtain⟨a,b,c,d⟩:=h3; omega
theorem zch:(sBy s).length=46:=by simp[sBy,zhb,dgL]
theorem zWx:(zIA s).length≤46:=by unfold zIA; split; rw[zch]; omega; simp
theorem zFM{p:Nat}{B:List (Nat × Blk)}:RdB (Γ++((p,⟨slC s,true⟩)::B)) (sl p 4 32 3) (dgL s.dg):=
 .inr ⟨p,4,3,rfl,.inr rfl,.inr ⟨Γ.length+0,⟨slC s,true⟩,zqa rfl,rfl⟩⟩
set_option maxHeartbeats 2000000 in
theorem zdh(hO:St H Γ)(hk:MadeB Γ K (zIA s)):wCall P zQf [agg (slC s)] H K:=by
 apply zux; unfold zZv
 refine zxa hO ?_
 intro p H hO
 refine zia hO (Γ.length+0) (zqa rfl) rfl (by omega) ?_
 refine zMb hO ?_
 intro H hO
 by_cases hr:SRight s
 ·rw[decide_eq_true hr]
  unfold zIA at hk
  rw[if_pos hr] at hk
  obtain⟨n1,n2,n3,n4⟩:=hr.nn
  repeat (first|refine oi ?_|refine wf' ?_|refine ld hO 0 rfl rfl ?_)
  refine zDa (znE (by omega) (by omega)) ?_
  refine zBb (size:=1) (xs:=[]) hO .nil (by simp) (by omega) (by omega) ?_
  intro H2 v1 c1 hO2 h1
  replace hO2:=hO2.tail1
  repeat refine oi ?_
  refine zha hO2 (Γ.length+0) (zqa rfl) rfl ?_
  refine⟨zmb hO (Γ.length+0) (zqa rfl) hO2 (Γ.length+0) (zqa rfl) rfl,?_⟩
  clear hO
  refine zDa (znE (by omega) (by omega)) ?_
  refine zBb (size:=1) hO2 h1.rd.tl (by simp[zhb]) (by omega) (by omega) ?_
  clear hO2
  intro H v2 c2 hO h2
  replace hO:=hO.tail1
  repeat (first|refine oi ?_|refine ld hO 0 rfl rfl ?_)
  rw[zuf n3.1]
  refine zBb (size:=8) hO h2.rd.tl (by simp[zhb]) (by omega) (by omega) ?_
  intro H2 v3 c3 hO2 h3
  replace hO2:=hO2.tail1
  repeat refine oi ?_
  refine zha hO2 (Γ.length+0) (zqa rfl) rfl ?_
  refine⟨zmb hO (Γ.length+0) (zqa rfl) hO2 (Γ.length+0) (zqa rfl) rfl,?_⟩
  clear hO
  refine zDa (znE (by omega) (by omega)) ?_
  refine zBb (size:=4) hO2 h3.rd.tl (by simp[zhb]) (by omega) (by omega) ?_
  clear hO2
  intro H v4 c4 hO h4
  replace hO:=hO.tail1
  repeat refine oi ?_
  refine zaa (zbi hO (Γ.length+0) (zqa rfl) (by omega) (show 4+32≤(slC s).length from Nat.le_refl _)) ?_
  refine zEa hO (zNz _ _ _ _) ?_
  intro q H hO
  refine zyx hO h4.rd.tl.app ⟨q,3,(Γ++((p,⟨slC s,true⟩)::zGa v4 c4)).length,true,rfl,by simp⟩ zFM.app (by simp[zhb,dgL]) ?_
  intro H v5 c5 hO h5
  refine hk _ v5 c5 ?_ h5
  exact hO.sub (List.Sublist.append ((List.sublist_append_left _ _).trans (List.sublist_append_left _ _)) (List.Sublist.refl _))
 ·rw[decide_eq_false hr]
  unfold zIA at hk
  rw[if_neg hr] at hk
  repeat (first|refine oi ?_|refine wt ?_)
  exact hk.none hO.left
def tBy(t:Tb):List Int:=if TRight t then sBy t.a++sBy t.b++leN 1 t.act.toNat++leN 1 (t.boo+1).toNat++leN 8 t.flo.toNat else []
end
end J
set_option maxRecDepth 100000
namespace J
open Go Go.Ab
variable{H:Heap}{Γ:List (Nat × Blk)}{K:VH}{v w x:Value}{xs ys:List Int}
section
variable{s:Sl}{t:Tb}
theorem zve(h:SRight s):zIA s=sBy s:=if_pos h
theorem zUm{n:Nat}(h:n < 256):leN 1 n=[((n:Nat):Int)]:=by simp[leN]; omega
theorem zfH{y:Nat × Blk}{A B:List (Nat × Blk)}{cs:List Value}(hO:St H ((Γ++(y::A))++zGa x cs))(hv:RdB A v xs)(hx:OwnB x ys cs)(hl:xs.length+ys.length≤10000000)
  (hk:∀ H' v' cs',St H' (Γ++(y::zGa v' cs'))→OwnB v' (xs++ys) cs'→K v' H'):opW ((zpa P 104 1).f [(0,x)] H) fun t H'=>wCall P zzf [v,t] H' K:=by
 obtain⟨a,n,c,e⟩:=hx.rd.shape
 refine zEa hO (show (zpa P 104 1).f [(0,x)] H=some (sl H.next 0 1 3,H.push [x]) by rw[e]; exact zNz _ _ _ _) ?_
 intro q H hO
 refine zyx hO hv.tl.app.app ⟨q,3,((Γ++(y::A))++zGa x cs).length,true,rfl,by simp⟩ hx.rd.app'.app hl ?_
 intro H v5 c5 hO h5
 refine hk _ v5 c5 ?_ h5
 exact St.tail1 (A:=A) (hO.sub (List.Sublist.append ((List.sublist_append_left _ _).trans (List.sublist_append_left _ _)) (List.Sublist.refl _)))
set_option maxHeartbeats 2000000 in
theorem zsr(hO:St H Γ)(hf:0≤t.flo)(hk:MadeB Γ K (tBy t)):wCall P zYi [agg (tbC t)] H K:=by
 apply zKu; unfold zjt
 refine zxa hO ?_
 intro p H hO
 refine zia hO (Γ.length+0) (zqa rfl) rfl (by omega) ?_
 refine zad hO ?_
 intro H hO
 by_cases hr:TRight t
 ·rw[decide_eq_true hr]
  unfold tBy at hk
  rw[if_pos hr] at hk
  have n1:=hr.1.nn
  have n2:=hr.2.1.nn
  have n3:=hr.2.2.1.bd
  have n4:-1≤t.boo∧t.boo≤1:=by rcases hr.2.2.2.1 with h|h; omega; have:=h.bd; omega
  have n5:=hr.2.2.2.2
  repeat (first|refine oi ?_|refine wf' ?_)
  refine zBa hO (Γ.length+0) (zqa rfl) (show _=slC t.a from rfl) rfl (by omega) ?_
  refine zdh hO ?_
  rw[zve hr.1]
  intro H2 v1 c1 hO2 h1
  replace hO2:=hO2.tail1
  repeat refine oi ?_
  refine zBa hO2 (Γ.length+0) (zqa rfl) (show _=slC t.b from rfl) rfl (by omega) ?_
  refine⟨zmb hO (Γ.length+0) (zqa rfl) hO2 (Γ.length+0) (zqa rfl) rfl,?_⟩
  refine zdh hO2 ?_
  rw[zve hr.2.1]
  clear hO hO2
  intro H v2 c2 hO h2
  refine zfH (B:=[]) hO h1.rd h2 (by simp[zch]) ?_
  clear hO
  intro H v3 c3 hO h3
  repeat refine oi ?_
  refine zha hO (Γ.length+0) (zqa rfl) rfl ?_
  refine zDa (znE (by omega) (by omega)) ?_
  refine zBb (size:=1) hO h3.rd.tl (by simp[zch]) (by omega) (by omega) ?_
  intro H2 v4 c4 hO2 h4
  replace hO2:=hO2.tail1
  repeat refine oi ?_
  refine zha hO2 (Γ.length+0) (zqa rfl) rfl ?_
  refine⟨zmb hO (Γ.length+0) (zqa rfl) hO2 (Γ.length+0) (zqa rfl) rfl,?_⟩
  clear hO
  repeat refine oi ?_
  rw[show t.boo - -1=t.boo+1 by omega]
  refine zDa (znE (by omega) (by omega)) ?_
  refine zBb (size:=1) hO2 h4.rd.tl (by simp[zch,zhb]) (by omega) (by omega) ?_
  clear hO2
  intro H v5 c5 hO h5
  replace hO:=hO.tail1
  repeat refine oi ?_
  refine zha hO (Γ.length+0) (zqa rfl) rfl ?_
  rw[zuf hf]
  refine zBb (size:=8) hO h5.rd.tl (by simp[zch,zhb]) (by omega) (by omega) ?_
  intro H v6 c6 hO h6
  refine hk _ v6 c6 ?_ h6
  exact hO.sub (List.Sublist.append (List.sublist_append_left _ _) (List.Sublist.refl _))
 ·rw[decide_eq_false hr]
  unfold tBy at hk
  rw[if_neg hr] at hk
  repeat (first|refine oi ?_|refine wt ?_)
  exact hk.none hO.left
end
end J
set_option maxRecDepth 100000
namespace J
open Go Go.Ab
variable{H:Heap}{Γ:List (Nat × Blk)}{K:VH}{v w x:Value}{xs ys:List Int}
section
variable{s:Sl}{t:Tb}{c:Ch}{l:List Ch}
def cBy(c:Ch):List Int:=leN 1 c.kind.toNat++(if c.kind=1 then leN 1 c.slot.toNat++zIA c.to else if c.kind=2 then leN 1 c.n.toNat else if c.kind=3 then leN 1 (c.n+1).toNat else leN 8 c.ver.toNat)
def lBy(l:List Ch):List Int:=if TOk l then leN 1 l.length++l.flatMap cBy else []
theorem zkL(c:Ch):(cBy c).length≤48:=by
 unfold cBy
 have:=zWx (s:=c.to)
 simp only[List.length_append,zhb]
 split
 ·simp[zhb]; omega
 ·split
  ·simp[zhb]
  ·split <;> simp[zhb]
theorem zXx:∀ l:List Ch,(l.flatMap cBy).length≤l.length * 48
 | []=>by simp
 | c::l=>by
  have h1:=zkL c
  have h2:=zXx l
  simp only[List.flatMap_cons,List.length_append,List.length_cons]
  omega
theorem zgH{y:Nat}(h:y < l.length):(l.take (y+1)).flatMap cBy=(l.take y).flatMap cBy++cBy l[y]:=by
 rw[List.take_succ_eq_append_getElem h,List.flatMap_append]; simp
theorem St.flip{A:List (Nat × Blk)}{y:Nat × Blk}(h:St H ((Γ++A)++[y])):St H (Γ++(y::A)):=h.perm (by
 rw[List.append_assoc]
 exact List.Perm.append_left Γ List.perm_append_comm)
theorem St.swap{A:List (Nat × Blk)}{y:Nat × Blk}(h:St H ((Γ++A)++[y])):St H ((Γ++[y])++A):=by
 have:=St.flip h
 rw[List.append_assoc]; exact this
set_option maxHeartbeats 4000000 in
theorem zYu(hO:St H Γ)(hv:RdC Γ v l)(hl:l.length≤1000)(hver:∀ c ∈ l,0≤c.ver)(hk:MadeB Γ K (lBy l)):wCall P zXi [v] H K:=by
 apply zGz; unfold zFz
 refine zmf hO hv (by omega) ?_
 intro H hO
 by_cases hok:TOk l
 ·rw[decide_eq_true hok]
  unfold lBy at hk
  rw[if_pos hok] at hk
  repeat (first|refine oi ?_|refine wf' ?_)
  refine zDa (by rw[hv.1]) ?_
  refine zDa (znE (by omega) (by omega)) ?_
  rw[Int.toNat_natCast]
  refine zBb (size:=1) (xs:=[]) hO .nil (by simp) (by omega) (by omega) ?_
  intro H v1 c1 hO h1
  refine zDa (by rw[hv.1]) ?_
  refine zbr (fun k l' H'=>∃ (y:Nat) (v':Value) (cs':List Value),y≤l.length∧k=l.length - y∧l'=[zya,v',v,int l.length,int y]∧St H' (Γ++zGa v' cs')∧OwnB v' (leN 1 l.length++(l.take y).flatMap cBy) cs') _ _ ?_ l.length _ _ ⟨0,v1,c1,by omega,by omega,rfl,hO,by simpa using h1⟩
  clear hO h1
  rintro k l' H' ⟨y,v',cs',hy,rfl,rfl,hO,hv'⟩
  unfold zmq
  try simp only[zla,zma]
  repeat refine oi ?_
  refine zja (fun h2=>?_) (fun h2=>?_)
  ·rcases hv.2 with rfl|⟨pv,cp,j,rfl,w,hj⟩
   ·simp at h2; omega
   have hyl:y < l.length:=by omega
   have e:0+((y:Nat):Int).toNat * 40=y * 40:=by rw[Int.toNat_natCast]; omega
   have hcr:=hok.2 _ (List.getElem_mem hyl)
   have hvr:=hver _ (List.getElem_mem hyl)
   have hlen:=zXx (l.take y)
   rw[List.length_take,Nat.min_eq_left (by omega)] at hlen
   have hend:leN 1 l.length++(l.take (y+1)).flatMap cBy=leN 1 l.length++(l.take y).flatMap cBy++cBy l[y]:=by rw[zgH hyl,List.append_assoc]
   have hlen':(leN 1 l.length++(l.take y).flatMap cBy).length≤60000:=by rw[List.length_append,zhb]; omega
   generalize leN 1 l.length++(l.take y).flatMap cBy=xs at *
   repeat refine oi ?_
   refine zBa hO j (zza hj) (show _=chC l[y] from ?_) rfl (by omega) ?_
   ·rw[e]; exact zUt l y hyl
   rw[zRE]
   refine zxa hO ?_
   intro b H hO
   generalize l[y]=c at *
   replace hO:=St.flip hO
   refine zoa hO (Γ.length+0) (zqa rfl) rfl rfl rfl ?_
   intro H hO
   replace hO:St H (Γ++((b,⟨chC c,true⟩)::zGa v' cs')):=hO.set_r
   have hkd:1≤c.kind∧c.kind≤4:=by rcases hcr with h|h|h|h <;> omega
   have fin:∀ (H':Heap) (v'':Value) (cs'':List Value) (A:List (Nat × Blk)),St H' ((Γ++A)++zGa v'' cs'')→OwnB v'' (xs++cBy c) cs''→∃ k',k' < l.length - y∧∃ (z:Nat) (v':Value) (cs':List Value),z≤l.length∧k'=l.length - z∧[zya,v'',sl pv 0 l.length cp,int l.length,int ((y:Int)+1)]=[zya,v',sl pv 0 l.length cp,int l.length,int z]∧St H' (Γ++zGa v' cs')∧OwnB v' (leN 1 l.length++(l.take z).flatMap cBy) cs':=fun H' v'' cs'' A hO' h''=>⟨_,by omega,y+1,v'',cs'',by omega,rfl,rfl,St.mid hO',by rw[hend]; exact h''⟩
   rw[show cBy c=leN 1 c.kind.toNat++(if c.kind=1 then leN 1 c.slot.toNat++zIA c.to else if c.kind=2 then leN 1 c.n.toNat else if c.kind=3 then leN 1 (c.n+1).toNat else leN 8 c.ver.toNat) from rfl] at fin
   repeat (first|refine oi ?_|refine ld hO 0 rfl rfl ?_)
   refine zDa (znE (by omega) (by omega)) ?_
   refine zBb (size:=1) hO hv'.rd.tl (by omega) (by omega) (by omega) ?_
   intro H v2 c2 hO h2
   replace hO:=hO.tail1
   repeat (first|refine oi ?_|refine ld hO 0 rfl rfl ?_)
   unfold zTa at hcr
   by_cases k1:c.kind=1
   ·rw[if_pos k1] at fin
    have hi:Ix c.slot∧SRight c.to:=by rcases hcr with h|h|h|h; exact h.2.1; all_goals omega
    have hib:=hi.1.bd
    repeat (first|refine oi ?_|refine wy ?_|refine ld hO 0 rfl rfl ?_)
    refine zDa (znE (by omega) (by omega)) ?_
    refine zBb (size:=1) hO h2.rd.tl (by simp[zhb]; omega) (by omega) (by omega) ?_
    intro H2 v3 c3 hO2 h3
    replace hO2:=hO2.tail1
    repeat refine oi ?_
    refine zBa hO2 (Γ.length+0) (zqa rfl) (show _=slC c.to from rfl) rfl (by omega) ?_
    refine⟨zmb hO (Γ.length+0) (zqa rfl) hO2 (Γ.length+0) (zqa rfl) rfl,?_⟩
    clear hO
    refine zdh hO2 ?_
    have hl5:=zWx (s:=c.to)
    intro H v4 c4 hO h4
    refine zfH (B:=[]) hO h3.rd h4 (by simp[zhb]; omega) ?_
    intro H v5 c5 hO h5
    repeat refine oi ?_
    refine fin _ v5 c5 [(b,⟨chC c,true⟩)] (by rw[List.append_assoc]; exact hO) ?_
    simpa using h5
   rw[if_neg k1] at fin
   repeat (first|refine oi ?_|refine wn ?_)
   by_cases k2:c.kind=2
   ·rw[if_pos k2] at fin
    have hi:Ix c.n:=by rcases hcr with h|h|h|h; omega; exact h.2.1; all_goals omega
    have hib:=hi.bd
    repeat (first|refine oi ?_|refine wy ?_|refine ld hO 0 rfl rfl ?_)
    refine zDa (znE (by omega) (by omega)) ?_
    refine zBb (size:=1) hO h2.rd.tl (by simp[zhb]; omega) (by omega) (by omega) ?_
    intro H v3 c3 hO h3
    repeat refine oi ?_
    refine fin _ v3 c3 _ hO ?_
    simpa using h3
   rw[if_neg k2] at fin
   repeat (first|refine oi ?_|refine wn ?_)
   by_cases k3:c.kind=3
   ·rw[if_pos k3] at fin
    have hi:-1≤c.n∧c.n≤1:=by rcases hcr with h|h|h|h; omega; omega; (rcases h.2.1 with h|h; omega; have:=h.bd; omega); omega
    repeat (first|refine oi ?_|refine wy ?_|refine ld hO 0 rfl rfl ?_)
    rw[show c.n - -1=c.n+1 by omega]
    refine zDa (znE (by omega) (by omega)) ?_
    refine zBb (size:=1) hO h2.rd.tl (by simp[zhb]; omega) (by omega) (by omega) ?_
    intro H v3 c3 hO h3
    repeat refine oi ?_
    refine fin _ v3 c3 _ hO ?_
    simpa using h3
   rw[if_neg k3] at fin
   have k4:c.kind=4:=by omega
   have hi:c.ver≤281474976710656:=by rcases hcr with h|h|h|h; omega; omega; omega; exact h.2.1
   repeat (first|refine oi ?_|refine wy ?_|refine wn ?_|refine ld hO 0 rfl rfl ?_)
   rw[zuf hvr]
   refine zBb (size:=8) hO h2.rd.tl (by simp[zhb]; omega) (by omega) (by omega) ?_
   intro H v3 c3 hO h3
   repeat refine oi ?_
   refine fin _ v3 c3 _ hO ?_
   simpa using h3
  ·have e:y=l.length:=by omega
   subst e
   rw[List.take_of_length_le (Nat.le_refl _)] at hv'
   repeat refine cy ?_
   exact hk _ _ _ hO hv'
 ·rw[decide_eq_false hok]
  unfold lBy at hk
  rw[if_neg hok] at hk
  repeat (first|refine oi ?_|refine wt ?_)
  exact hk.none hO
end
end J
set_option maxRecDepth 100000
namespace J
open Go Go.Ab
variable{H:Heap}{Γ:List (Nat × Blk)}{K:VH}{v w x:Value}{xs ys:List Int}
section
variable{s:Sl}{t:Tb}{c:Ch}{l:List Ch}
end
end J
set_option maxRecDepth 100000
namespace J
open Go Go.Ab
variable{H:Heap}{Γ:List (Nat × Blk)}{K:VH}{v w x:Value}{xs ys:List Int}{j p:Nat}{e:Int}
theorem zfA(hO:St H Γ)(hj:Γ[j]?=some (p,rdr v e))(hk:K (int e) H):wCall P zCc [ptr p 0] H K:=by
 apply zZn; unfold zsk
 refine zaa zfa ?_
 refine zaa zga ?_
 refine zha hO j hj rfl ?_
 exact hk
def zZu(xs:List Int)(e:Int):Int:=if e=0∧0 < xs.length then 52 else e
theorem zgA(hO:St H Γ)(hj:Γ[j]?=some (p,rdr v e))(hv:RdB Γ v xs)(hk:K (int (zZu xs e)) H):wCall P zEd [ptr p 0] H K:=by
 apply zMn; unfold zqk
 refine zaa zfa ?_
 refine zaa zga ?_
 refine zha hO j hj rfl ?_
 refine zaa zfb ?_
 unfold zZu at hk
 refine zja (fun h=>?_) (fun h=>?_)
 ·refine zaa zfa ?_
  refine zaa zga ?_
  refine zha hO j hj rfl ?_
  refine zDa hv.lenSl ?_
  repeat (first|refine oi ?_|refine ow ?_|refine wy ?_|refine wn ?_|refine wt ?_|refine wf' ?_|refine cy ?_|refine cn ?_)
  refine zja (fun h2=>?_) (fun h2=>?_)
  ·rw[if_pos ⟨h,by omega⟩] at hk
   exact hk
  ·rw[if_neg (by omega)] at hk
   refine zaa zfa ?_
   refine zaa zga ?_
   refine zha hO j hj rfl ?_
   exact hk
 ·repeat (first|refine oi ?_|refine ow ?_|refine wy ?_|refine wn ?_|refine wt ?_|refine wf' ?_|refine cy ?_|refine cn ?_)
  rw[if_neg (fun h'=>h h'.1)] at hk
  refine zha hO j hj rfl ?_
  exact hk
end J
set_option maxRecDepth 100000
namespace J
open Go Go.Ab
variable{H:Heap}{Γ:List (Nat × Blk)}{K:VH}{v w x:Value}{xs ys:List Int}{j p:Nat}{e:Int}
theorem zID:∀ (xs:List Int) (y:Nat) (h:y < xs.length),leV (xs.take (y+1))=leV (xs.take y)+256 ^ y * xs[y].toNat
 | x::r,0,_=>by simp[leV]
 | x::r,y+1,h=>by
  have hr:y < r.length:=by simpa using h
  have:=zID r y hr
  simp only[List.take_succ_cons,leV,this,List.getElem_cons_succ,Nat.pow_succ,Nat.mul_add]
  have:256 * (256 ^ y * r[y].toNat)=256 ^ y * 256 * r[y].toNat:=by rw[← Nat.mul_assoc,Nat.mul_comm 256 (256 ^ y)]
  omega
theorem zlL{y:Nat}(h:y≤8):256 ^ y≤2 ^ 64:=by
 have:(256:Nat) ^ y≤256 ^ 8:=Nat.pow_le_pow_right (by omega) h
 exact this
theorem zmL{y:Nat}(h:y < 8):256 ^ y < 2 ^ 64:=by
 have:(256:Nat) ^ y≤256 ^ 7:=Nat.pow_le_pow_right (by omega) (by omega)
 exact Nat.lt_of_le_of_lt this (by decide)
theorem zhA{bs:List Int}(hb:∀ x ∈ bs,0≤x∧x≤255){y:Nat}(h:y≤8):leV (bs.take y) < 2 ^ 64:=by
 have h1:=zFt (bs.take y) fun z hz=>hb z (List.mem_of_mem_take hz)
 have h2:=zlL (y:=(bs.take y).length) (by rw[List.length_take]; omega)
 omega
theorem zYx{bs:List Int}(hb:∀ x ∈ bs,0≤x∧x≤255){y:Nat}(h8:y < 8)(h:y < bs.length):(leV (bs.take y)+bs[y].toNat * (256 ^ y % 2 ^ 64) % 2 ^ 64) % 2 ^ 64=leV (bs.take (y+1))∧256 ^ y % 2 ^ 64 * 256 % 2 ^ 64=256 ^ (y+1) % 2 ^ 64:=by
 have h1:=zID bs y h
 have h2:=zhA hb (show y+1≤8 by omega)
 rw[Nat.mod_eq_of_lt (zmL h8)]
 constructor
 ·rw[Nat.mul_comm,Nat.mod_eq_of_lt (a:=256 ^ y * bs[y].toNat) (by omega),← h1,Nat.mod_eq_of_lt h2]
 ·rw[show (256:Nat) ^ (y+1)=256 ^ y * 256 from rfl]
def zKj(b:List Int):Sl:=⟨leV (b.take 1),leV ((b.drop 1).take 1),leV ((b.drop 2).take 8),leV ((b.drop 10).take 4),fun i=>((b.drop 14).take 32).getD i 0⟩
def zJk(xs:List Int)(e:Int):Sl × Int:=if tkE xs e 46≠0 then (slz 0,tkE xs e 46) else if SRight (zKj (tkB xs e 46)) then (zKj (tkB xs e 46),0) else (slz 0,101)
theorem b34(a b c d:Int):(zAa P 27).f [(0,int a),(1,int b),(2,.int .u64 c),(3,int d)]=some (agg (slC ⟨a,b,c,d,fun _=>0⟩)):=by kernel_rfl
theorem zfJ{o n c i q:Nat}{cs:List Value}{K:VH}(hO:St H Γ)(hi:Γ[i]?=some (q,⟨cs,true⟩))(hv:RdB Γ v ys)(hn:n=ys.length)(hp:0 < n)(hl:o+n≤cs.length)
  (hk:∀ H',St H' (Γ.set i (q,⟨cs.take o++(by8 ys++cs.drop (o+n)),true⟩))→K (int n) H'):opW (znj 1 (sl q o n c) v H) K:=by
 obtain⟨H',hw,hs⟩:=zSw hO (o:=o) (vs:=by8 ys) hi (by simp; omega) (by simp[oneCell])
 unfold znj
 simp only[hv.lenA]
 have hb:Nat.beq (Nat.min ys.length n) 0=false:=by
  cases hb:Nat.beq (Nat.min ys.length n) 0 with
  | false=>rfl
  | true=>have:=Nat.eq_of_beq_eq_true hb; rw[hn,show Nat.min ys.length ys.length=ys.length from Nat.min_self _] at this; omega
 rw[hb]
 simp only[Bool.false_eq_true,if_false]
 have hm:Nat.min ys.length n=ys.length:=by rw[hn]; exact Nat.min_self _
 rw[hm,hv.elems hO]
 simp only
 rw[hw]
 refine zDa (show some (Value.int .i64 ((ys.length:Nat):Int),H')=_ from rfl) ?_
 rw[List.length_map,← hn] at hs
 rw[← hn]
 exact hk _ hs
set_option maxHeartbeats 4000000 in
theorem zlm(hO:St H Γ)(hj:Γ[j]?=some (p,rdr v e))(hv:RdB Γ v xs)(hx:xs.length≤1000000)(hb:∀ x ∈ xs,0≤x∧x≤255)
  (hk:∀ H' v2,St H' (rdN Γ j p xs e 46 v2)→Inh v xs v2 (tkR xs e 46)→K (.tuple [agg (slC (zJk xs e).1),int (zJk xs e).2].toArray) H'):wCall P zTi [ptr p 0] H K:=by
 apply zwz; unfold zvz
 have hjl:=(List.getElem?_eq_some_iff.1 hj).1
 rw[zGE]
 refine zxa hO ?_
 intro q H hO
 refine zGt (n:=46) hO (zza hj) hv.app (by omega) hx ?_
 intro H v2 v' cs' hO r2' hv'
 unfold rdN at hO
 rw[List.set_append_left _ _ hjl] at hO
 have hk:=hk (v2:=v2)
 have hj2:=zdw (y:=(p,rdr v2 (tkE xs e 46))) hj
 have hbb:=RdB.bytes hb 46 e
 unfold rdN zJk at hk
 generalize hΓ2:Γ.set j (p,rdr v2 (tkE xs e 46))=Γ2 at *
 have hO:St H ((Γ2++[(q,⟨slC (slz 0),true⟩)])++zGa v' cs'):=hO
 refine zfA hO (zza (zza hj2)) ?_
 refine zaa zKa ?_
 refine zja (fun h=>?_) (fun h=>?_)
 ·rw[if_pos h] at hk
  refine zaa b26 ?_
  refine zoa hO (Γ2.length+0) (zza (zqa rfl)) rfl rfl rfl ?_
  intro H hO
  replace hO:St H (Γ2.set j (p,rdr v2 (tkE xs e 46))++[(q,⟨slC (slz 0),true⟩)]):=by
   rw[List.set_append_left _ _ (by simp),show Γ2.length+0=Γ2.length+0 from rfl,Go.Ab.set_r] at hO
   rw[zKr hj2]
   exact hO.left
  rw[zKr hj2] at hO
  refine zia hO (Γ2.length+0) (zqa rfl) rfl (by omega) ?_
  exact hk _ hO.left r2'
 ·rw[if_neg h] at hk
  have hg:e=0∧46≤xs.length:=by
   by_cases hg:e=0∧46≤xs.length
   ·exact hg
   ·exfalso; apply h; unfold tkE; rw[if_neg hg]; split <;> omega
  have hlen:(tkB xs e 46).length=46:=by unfold tkB; rw[if_pos hg,List.length_take]; omega
  have he0:tkE xs e 46=0:=by unfold tkE; rw[if_pos hg]
  generalize tkB xs e 46=bs at *
  obtain⟨X,hX⟩:∃ X,X=(Γ2++[(q,⟨slC (slz 0),true⟩)])++zGa v' cs':=⟨_,rfl⟩
  rw[← hX] at hO
  have hv0:RdB X v' bs:=by rw[hX]; exact hv'.rd.app'
  refine zLr hO hv0 ?_
  clear hO
  intro H pr hO
  have step:∀ {H:Heap} {vv:Value} {zs:List Int} {k:Nat} {K':VH},k≤8→k≤zs.length→(∀ x ∈ zs,0≤x∧x≤255)→St H (X++[(pr,rdr vv 0)])→RdB X vv zs→(∀ H' v3,St H' (X++[(pr,rdr v3 0)])→RdB X v3 (zs.drop k)→K' (zib .u64 (leV (zs.take k))) H')→wCall P zCa [ptr pr 0,int k] H K':=by
   intro H vv zs k K' h8 hkz hz hO hr hkk
   obtain⟨t1,t2,t3⟩:=zDf hkz
   refine zuc h8 hO (zqa (k:=0) rfl) hr.app hz ?_
   rw[t1,t2,t3]
   intro H' v3 hO' hr'
   rw[Go.Ab.set_r] at hO'
   exact hkk _ v3 hO' (hr' _ hr)
  have hv1:∀ k,∀ x ∈ bs.drop k,0≤x∧x≤255:=fun k x hx=>hbb x (List.mem_of_mem_drop hx)
  have hlt:∀ k,leV ((bs.drop k).take 1) < 256:=fun k=>by
   have:=zFt ((bs.drop k).take 1) fun x hx=>hv1 k x (List.mem_of_mem_take hx)
   have h2:(256:Nat) ^ ((bs.drop k).take 1).length≤256 ^ 1:=Nat.pow_le_pow_right (by omega) (by rw[List.length_take]; omega)
   omega
  have hlt4:leV ((bs.drop 10).take 4) < 4294967296:=by
   have:=zFt ((bs.drop 10).take 4) fun x hx=>hv1 10 x (List.mem_of_mem_take hx)
   have h2:(256:Nat) ^ ((bs.drop 10).take 4).length≤256 ^ 4:=Nat.pow_le_pow_right (by omega) (by rw[List.length_take]; omega)
   omega
  refine step (k:=1) (by omega) (by omega) hbb hO hv0 ?_
  clear hO
  intro H w1 hO a1
  have l0:=hlt 0
  have l1:=hlt 1
  rw[List.drop_zero] at l0
  refine zDa (zTy (by omega)) ?_
  refine step (k:=1) (by omega) (by rw[List.length_drop]; omega) (hv1 1) hO a1 ?_
  clear hO
  intro H w2 hO a2
  rw[List.drop_drop] at a2
  refine zDa (zTy (by omega)) ?_
  refine step (k:=8) (by omega) (by rw[List.length_drop]; omega) (hv1 2) hO a2 ?_
  clear hO
  intro H w3 hO a3
  rw[List.drop_drop] at a3
  refine step (k:=4) (by omega) (by rw[List.length_drop]; omega) (hv1 10) hO a3 ?_
  clear hO
  intro H w4 hO a4
  rw[List.drop_drop] at a4
  refine zDa (zTy (by omega)) ?_
  refine zaa (b34 _ _ _ _) ?_
  refine zxa hO ?_
  intro p7 H hO
  rw[List.append_assoc] at hO
  refine zoa hO (X.length+1) (zqa rfl) rfl rfl rfl ?_
  intro H hO
  obtain⟨s0,hs0⟩:∃ s0:Sl,s0=⟨leV (bs.take 1),leV ((bs.drop 1).take 1),leV ((bs.drop 2).take 8),leV ((bs.drop 10).take 4),fun _=>0⟩:=⟨_,rfl⟩
  rw[← hs0] at hO
  replace hO:St H (X++[(pr,rdr w4 0),(p7,⟨slC s0,true⟩)]):=hO.set_r
  refine zaa zga ?_
  refine zaa (zbi hO (X.length+1) (zqa rfl) (by omega) (show 0+4+32≤(slC s0).length from Nat.le_refl _)) ?_
  obtain⟨t1,t2,t3⟩:=zDf (xs:=bs.drop 14) (n:=32) (by rw[List.length_drop]; omega)
  refine zGt (n:=32) hO (zqa (k:=0) rfl) a4.app (by omega) (by rw[List.length_drop]; omega) ?_
  rw[t1]
  intro H2 w5 v5 c5 hO2 a5 h5
  unfold rdN at hO2
  rw[t3,Go.Ab.set_r] at hO2
  replace hO2:St H2 ((X++[(pr,rdr w5 0),(p7,⟨slC s0,true⟩)])++zGa v5 c5):=hO2
  refine⟨zmb hO (X.length+1) (zqa rfl) hO2 (X.length+1) (zza (zqa rfl)) rfl,?_⟩
  clear hO
  have h32:((bs.drop 14).take 32).length=32:=by rw[List.length_take,List.length_drop]; omega
  refine zfJ hO2 (zza (zqa (k:=1) rfl)) (h5.rd.app') h32.symm (by omega) (show 0+4+32≤(slC s0).length from Nat.le_refl _) ?_
  intro H hO
  rw[List.set_append_left _ _ (by simp),Go.Ab.set_r] at hO
  have hcell:(slC s0).take (0+4)++(by8 ((bs.drop 14).take 32)++(slC s0).drop (0+4+32))=slC (zKj bs):=by
   rw[by8,zQJ _ h32,hs0]; rfl
  rw[hcell] at hO
  replace hO:St H (X++[(pr,rdr w5 0),(p7,⟨slC (zKj bs),true⟩)]):=hO.left
  refine zia hO (X.length+1) (zqa rfl) rfl (by omega) ?_
  refine zMb hO ?_
  intro H hO
  rw[hX,List.append_assoc,List.append_assoc] at hO
  by_cases hr:SRight (zKj bs)
  ·rw[if_pos hr] at hk
   rw[decide_eq_true hr]
   repeat (first|refine oi ?_|refine ow ?_|refine wy ?_|refine wn ?_|refine wt ?_|refine wf' ?_|refine cy ?_|refine cn ?_)
   have hO':St H (X++[(pr,rdr w5 0),(p7,⟨slC (zKj bs),true⟩)]):=by rw[hX,List.append_assoc,List.append_assoc]; exact hO
   refine zia hO' (X.length+1) (zqa rfl) rfl (by omega) ?_
   refine zoa hO (Γ2.length+0) (zqa rfl) rfl rfl rfl ?_
   intro H hO
   replace hO:=hO.set_r
   refine zia hO (Γ2.length+0) (zqa rfl) rfl (by omega) ?_
   exact hk _ hO.left r2'
  ·rw[if_neg hr] at hk
   rw[decide_eq_false hr]
   repeat (first|refine oi ?_|refine ow ?_|refine wy ?_|refine wn ?_|refine wt ?_|refine wf' ?_|refine cy ?_|refine cn ?_)
   refine zaa b26 ?_
   refine zoa hO (Γ2.length+0) (zqa rfl) rfl rfl rfl ?_
   intro H hO
   replace hO:=hO.set_r
   refine zia hO (Γ2.length+0) (zqa rfl) rfl (by omega) ?_
   exact hk _ hO.left r2'
end J
set_option maxRecDepth 100000
namespace J
open Go Go.Ab
variable{H:Heap}{Γ:List (Nat × Blk)}{K:VH}{v w x:Value}{xs ys:List Int}{j p:Nat}{e:Int}
theorem zYN(a b:Int):(zAa P 27).f [(0,int a),(1,int b)]=some (agg (slC ⟨a,b,0,0,fun _=>0⟩)):=by kernel_rfl
theorem ziA(g:Nat→Int):dgC g=(List.range 32).map fun k=>Value.int .u8 (g k):=rfl
theorem zGM{s:Sl}{i:Nat}{y:Int}(h:i < 32):(slC s).set (i+4) (.int .u8 y)=slC { s with dg:=fun k=>if k=i then y else s.dg k }:=by
 show int s.st::int s.tr::.int .u64 s.ver::int s.sz::(dgC s.dg).set i (.int .u8 y)=int s.st::int s.tr::.int .u64 s.ver::int s.sz::dgC (fun k=>if k=i then y else s.dg k)
 congr 4
 rw[ziA,ziA]
 apply List.ext_getElem?
 intro k
 rw[List.getElem?_set]
 by_cases hk:k < 32
 ·by_cases hi:i=k
  ·subst hi; simp[h]
  ·rw[if_neg hi]; simp[hk,Ne.symm hi]
 ·rw[if_neg (by omega),List.getElem?_eq_none (by simp; omega),List.getElem?_eq_none (by simp; omega)]
theorem zHM{p q o o':Nat}{l:List Value}(h:p≠q):zOf (zNa [ptr p o]) (zNa [ptr q o',agg l]):=by
 show zAd [p] [q]=true
 have e:Nat.beq p q=false:=by
  cases hb:Nat.beq p q with
  | false=>rfl
  | true=>exact absurd (Nat.eq_of_beq_eq_true hb) h
 simp[zAd,zFb,zRD,e]
theorem zLO(l:List Int)(h:4≤l.length)(hb:∀ x ∈ l,0≤x∧x≤255):((leV (l.take 4):Nat):Int)=l[0]+(256:Int) * l[1]+(65536:Int) * l[2]+(16777216:Int) * l[3]:=by
 match l,h,hb with
 | a::b::c::d::r,_,hb=>
  have h1:=hb a (by simp)
  have h2:=hb b (by simp)
  have h3:=hb c (by simp)
  have h4:=hb d (by simp)
  simp only[List.take_succ_cons,List.take_zero,leV,List.getElem_cons_zero,List.getElem_cons_succ]
  omega
theorem zBN(l:List Int)(h:1≤l.length)(hb:∀ x ∈ l,0≤x∧x≤255):((leV (l.take 1):Nat):Int)=l[0]:=by
 match l,h,hb with
 | a::r,_,hb=>
  have h1:=hb a (by simp)
  simp only[List.take_succ_cons,List.take_zero,leV,List.getElem_cons_zero]
  omega
end J
set_option maxRecDepth 100000
namespace J
open Go Go.Ab
variable{H:Heap}{Γ:List (Nat × Blk)}{K:VH}{v w x:Value}{xs ys bs:List Int}{j p:Nat}{e:Int}
def zLj(bs:List Int):Tb:=⟨zKj (bs.take 46),zKj ((bs.drop 46).take 46),leV ((bs.drop 92).take 1),((leV ((bs.drop 93).take 1):Nat):Int) - 1,leV ((bs.drop 94).take 8)⟩
def zzd(bs:List Int):Tb × Int:=if bs.length=102∧TRight (zLj bs) then (zLj bs,0) else (tbz,111)
theorem zjA{n:Nat}(h:e≠0):tkB xs e n=[]∧tkR xs e n=[]∧tkE xs e n=e:=by
 unfold tkB tkR tkE
 rw[if_neg (fun h'=>h h'.1),if_neg (fun h'=>h h'.1),if_neg (fun h'=>h h'.1),if_neg h]
 exact⟨rfl,rfl,rfl⟩
theorem zdf{n:Nat}(h:xs.length < n):tkB xs 0 n=[]∧tkR xs 0 n=[]∧tkE xs 0 n=51:=by
 unfold tkB tkR tkE
 rw[if_neg (by omega),if_neg (by omega),if_neg (by omega),if_pos rfl]
 exact⟨rfl,rfl,rfl⟩
theorem zsb(hb:∀ x ∈ xs,0≤x∧x≤255)(n:Nat)(e:Int):∀ x ∈ tkR xs e n,0≤x∧x≤255:=by
 unfold tkR
 split
 ·exact fun x hx=>hb x (List.mem_of_mem_drop hx)
 ·simp
theorem zid(xs:List Int)(e:Int)(n:Nat):(tkR xs e n).length≤xs.length:=by
 unfold tkR
 split
 ·rw[List.length_drop]; omega
 ·simp
theorem zEj(hb:∀ x ∈ xs,0≤x∧x≤255)(e:Int)(n:Nat):leV (tkB xs e n) < 256 ^ n:=by
 have h1:=zFt (tkB xs e n) (RdB.bytes hb n e)
 have h2:(256:Nat) ^ (tkB xs e n).length≤256 ^ n:=Nat.pow_le_pow_right (by omega) (zAx xs e n)
 omega
theorem zMO(zs:List Int):zZu (tkR (tkR (tkR zs 0 1) (tkE zs 0 1) 1) (tkE (tkR zs 0 1) (tkE zs 0 1) 1) 8) (tkE (tkR (tkR zs 0 1) (tkE zs 0 1) 1) (tkE (tkR zs 0 1) (tkE zs 0 1) 1) 8)=0↔zs.length=10:=by
 by_cases h1:1≤zs.length
 ·obtain⟨_,a2,a3⟩:=zDf h1
  rw[a2,a3]
  have l1:(zs.drop 1).length=zs.length - 1:=List.length_drop
  by_cases h2:1≤(zs.drop 1).length
  ·obtain⟨_,b2,b3⟩:=zDf h2
   rw[b2,b3,List.drop_drop]
   have l2:(zs.drop (1+1)).length=zs.length - 2:=by rw[List.length_drop]
   by_cases h3:8≤(zs.drop (1+1)).length
   ·obtain⟨_,c2,c3⟩:=zDf h3
    rw[c2,c3]
    unfold zZu
    rw[List.length_drop]
    by_cases h4:0 < (zs.drop (1+1)).length - 8
    ·rw[if_pos ⟨rfl,h4⟩]; omega
    ·rw[if_neg (by omega)]; omega
   ·obtain⟨_,c2,c3⟩:=zdf (by omega:(zs.drop (1+1)).length < 8)
    rw[c2,c3]
    unfold zZu
    rw[if_neg (by omega)]; omega
  ·obtain⟨_,b2,b3⟩:=zdf (by omega:(zs.drop 1).length < 1)
   rw[b2,b3]
   obtain⟨_,c2,c3⟩:=zjA (xs:=[]) (n:=8) (show (51:Int)≠0 by decide)
   rw[c2,c3]
   unfold zZu
   rw[if_neg (by omega)]; omega
 ·obtain⟨_,a2,a3⟩:=zdf (by omega:zs.length < 1)
  rw[a2,a3]
  obtain⟨_,b2,b3⟩:=zjA (xs:=[]) (n:=1) (show (51:Int)≠0 by decide)
  rw[b2,b3]
  obtain⟨_,c2,c3⟩:=zjA (xs:=[]) (n:=8) (show (51:Int)≠0 by decide)
  rw[c2,c3]
  unfold zZu
  rw[if_neg (by omega)]; omega
theorem zOr(h:46≤xs.length):zJk xs 0=if SRight (zKj (xs.take 46)) then (zKj (xs.take 46),0) else (slz 0,101):=by
 obtain⟨k1,k2,k3⟩:=zDf h
 unfold zJk
 rw[k1,k3,if_neg (fun h=>h rfl)]
theorem zeC(h:xs.length < 46):zJk xs 0=(slz 0,51):=by
 obtain⟨k1,k2,k3⟩:=zdf h
 unfold zJk
 rw[k3,if_pos (by decide)]
set_option maxHeartbeats 8000000 in
theorem ztr(hO:St H Γ)(hv:RdB Γ v bs)(hx:bs.length≤1000000)(hb:∀ x ∈ bs,0≤x∧x≤255)
  (hk:∀ H',St H' Γ→K (.tuple [agg (tbC (zzd bs).1),int (zzd bs).2].toArray) H'):wCall P zxg [v] H K:=by
 apply zEu; unfold zZs
 rw[zdH]
 refine zxa hO ?_
 intro q H hO
 refine zLr hO hv.app ?_
 clear hO
 intro H pr hO
 rw[List.append_assoc] at hO
 refine zxa hO ?_
 clear hO
 intro p5 H hO
 rw[List.append_assoc] at hO
 have hO:St H (Γ++[(q,⟨tbC tbz,true⟩),(pr,rdr v 0),(p5,⟨tbC tbz,true⟩)]):=hO
 have bad:(¬ (bs.length=102∧TRight (zLj bs)))→∀ H',St H' Γ→K (.tuple [agg (tbC tbz),int 111].toArray) H':=fun h H' hO'=>by
  have:=hk _ hO'
  unfold zzd at this
  rw[if_neg h] at this
  exact this
 refine zDn (fun k l' H'=>∃ (y:Nat) (vv:Value) (t:Tb),y≤2∧k=2 - y∧l'=[ptr q 0,int 0,ptr pr 0,ptr p5 0,int y]∧St H' (Γ++[(q,⟨tbC tbz,true⟩),(pr,rdr vv 0),(p5,⟨tbC t,true⟩)])∧RdB Γ vv (bs.drop (46 * y))∧46 * y≤bs.length∧(1≤y→t.a=zKj (bs.take 46))∧(2≤y→t.b=zKj ((bs.drop 46).take 46))) _ _ ?_ 2 _ _ ⟨0,v,tbz,by omega,by omega,rfl,hO,hv,by omega,(by omega),(by omega)⟩
 clear hO
 rintro k l' H' ⟨y,vv,t,hy,rfl,rfl,hO,hvv,hyl,ha1,ha2⟩
 unfold zSl
 try simp only[zla,zma]
 repeat refine oi ?_
 have hzb:∀ x ∈ bs.drop (46 * y),0≤x∧x≤255:=fun x hx=>hb x (List.mem_of_mem_drop hx)
 refine zja (fun h=>?_) (fun h=>?_)
 ·refine zlm hO (zqa (k:=1) rfl) hvv.app (by rw[List.length_drop]; omega) hzb ?_
  intro H v2 hO2 hi2
  unfold rdN at hO2
  rw[Go.Ab.set_r] at hO2
  refine zaa zRh ?_
  refine zaa zSh ?_
  rw[zGE]
  refine zxa hO2 ?_
  intro p7 H hO3
  rw[List.append_assoc] at hO3
  refine zoa hO3 (Γ.length+3) (zqa rfl) rfl rfl rfl ?_
  intro H hO4
  replace hO4:St H (Γ++[(q,⟨tbC tbz,true⟩),(pr,rdr v2 (tkE (bs.drop (46 * y)) 0 46)),(p5,⟨tbC t,true⟩),(p7,⟨slC (zJk (bs.drop (46 * y)) 0).1,true⟩)]):=hO4.set_r
  have hix:Ix (y:Int):=by unfold Ix; omega
  have hxb:=hix.bd
  by_cases hlen:46≤(bs.drop (46 * y)).length
  ·obtain⟨k1,k2,k3⟩:=zDf hlen
   rw[k3] at hO4
   rw[zOr hlen] at hO4 ⊢
   by_cases hr:SRight (zKj ((bs.drop (46 * y)).take 46))
   ·rw[if_pos hr] at hO4 ⊢
    repeat (first|refine oi ?_|refine wn ?_)
    refine zia hO4 (Γ.length+3) (zqa rfl) rfl (by omega) ?_
    repeat refine oi ?_
    refine zxp (t:=t) (x:=(y:Int)) hO4 (Γ.length+2) (zqa rfl) hix (by omega) ?_
    intro H hO5
    repeat refine oi ?_
    rw[List.length_drop] at hlen
    refine⟨_,by omega,y+1,v2,t.put y (zKj ((bs.drop (46 * y)).take 46)),by omega,rfl,rfl,hO5.set_r.keep 3,?_,by omega,fun _=>?_,fun h2=>?_⟩
    ·have:=hi2 _ hvv
     rw[k2,List.drop_drop] at this
     rw[show 46 * (y+1)=46 * y+46 by omega]
     exact this
    ·match y,h with
     | 0,_=>rfl
     | 1,_=>exact ha1 (by omega)
    ·have:y=1:=by omega
     subst this
     rfl
   ·rw[if_neg hr] at hO4 ⊢
    repeat (first|refine oi ?_|refine wy ?_)
    refine zaa b29 ?_
    refine zoa hO4 (Γ.length+0) (zqa rfl) rfl rfl rfl ?_
    intro H hO5
    replace hO5:=hO5.set_r
    try simp only[zla,zma]
    refine zia hO5 (Γ.length+0) (zqa rfl) rfl (by omega) ?_
    refine bad (fun hh=>hr ?_) _ hO5.left
    match y,h with
    | 0,_=>exact hh.2.1
    | 1,_=>exact hh.2.2.1
  ·obtain⟨k1,k2,k3⟩:=zdf (by omega:(bs.drop (46 * y)).length < 46)
   rw[k3] at hO4
   rw[zeC (by omega)] at hO4 ⊢
   repeat (first|refine oi ?_|refine wy ?_)
   refine zaa b29 ?_
   refine zoa hO4 (Γ.length+0) (zqa rfl) rfl rfl rfl ?_
   intro H hO5
   replace hO5:=hO5.set_r
   try simp only[zla,zma]
   refine zia hO5 (Γ.length+0) (zqa rfl) rfl (by omega) ?_
   rw[List.length_drop] at hlen
   exact bad (fun hh=>by omega) _ hO5.left
 ·have hy2:y=2:=by omega
  subst hy2
  have ha:=ha1 (by omega)
  have hb2:=ha2 (by omega)
  repeat refine cy ?_
  try simp only[zla,zma]
  have hzl:(bs.drop (46 * 2)).length=bs.length - 92:=by rw[List.length_drop]
  have he3:=zMO (bs.drop (46 * 2))
  have v1:10=(bs.drop (46 * 2)).length→tkB (bs.drop (46 * 2)) 0 1=(bs.drop 92).take 1∧tkB (tkR (bs.drop (46 * 2)) 0 1) (tkE (bs.drop (46 * 2)) 0 1) 1=(bs.drop 93).take 1∧tkB (tkR (tkR (bs.drop (46 * 2)) 0 1) (tkE (bs.drop (46 * 2)) 0 1) 1) (tkE (tkR (bs.drop (46 * 2)) 0 1) (tkE (bs.drop (46 * 2)) 0 1) 1) 8=(bs.drop 94).take 8:=by
   intro hl
   obtain⟨a1,a2,a3⟩:=zDf (xs:=bs.drop (46 * 2)) (n:=1) (by omega)
   rw[a1,a2,a3,List.drop_drop]
   obtain⟨b1,b2,b3⟩:=zDf (xs:=bs.drop (46 * 2+1)) (n:=1) (by rw[List.length_drop]; omega)
   rw[b1,b2,b3,List.drop_drop]
   obtain⟨c1,_,_⟩:=zDf (xs:=bs.drop (46 * 2+1+1)) (n:=8) (by rw[List.length_drop]; omega)
   rw[c1]
   exact⟨rfl,rfl,rfl⟩
  generalize hzs:bs.drop (46 * 2)=zs at *
  refine zuc (k:=1) (by omega) hO (zqa (k:=1) rfl) hvv.app hzb ?_
  intro H w1 hO1 i1
  rw[Go.Ab.set_r] at hO1
  have hb1:=zsb hzb 1 0
  have hl1:=zEj hzb 0 1
  refine zDa (zTy (by omega)) ?_
  refine zuc (k:=1) (by omega) hO1 (zqa (k:=1) rfl) (i1 _ hvv).app hb1 ?_
  intro H w2 hO2 i2
  rw[Go.Ab.set_r] at hO2
  have hbb2:=zsb hb1 1 (tkE zs 0 1)
  have hl2:=zEj hb1 (tkE zs 0 1) 1
  refine zDa (zTy (by omega)) ?_
  repeat refine oi ?_
  refine zua hO2 (Γ.length+2) (zqa rfl) rfl (show 0+72 < 75 by omega) (show _=tbC { t with act:=leV (tkB zs 0 1) } from rfl) ?_
  intro H hO3
  replace hO3:=hO3.set_r
  repeat refine oi ?_
  refine zua hO3 (Γ.length+2) (zqa rfl) rfl (show 0+73 < 75 by omega) (show _=tbC { t with act:=leV (tkB zs 0 1),boo:=((leV (tkB (tkR zs 0 1) (tkE zs 0 1) 1):Nat):Int)+-1 } from rfl) ?_
  intro H hO4
  replace hO4:=hO4.set_r
  refine zuc (k:=8) (by omega) hO4 (zqa (k:=1) rfl) (i2 _ (i1 _ hvv)).app hbb2 ?_
  intro H w3 hO5 i3
  rw[Go.Ab.set_r] at hO5
  repeat refine oi ?_
  obtain⟨t',ht'⟩:∃ t':Tb,t'={ t with act:=leV (tkB zs 0 1),boo:=((leV (tkB (tkR zs 0 1) (tkE zs 0 1) 1):Nat):Int)+-1,flo:=leV (tkB (tkR (tkR zs 0 1) (tkE zs 0 1) 1) (tkE (tkR zs 0 1) (tkE zs 0 1) 1) 8) }:=⟨_,rfl⟩
  refine zua hO5 (Γ.length+2) (zqa rfl) rfl (show 0+74 < 75 by omega) (show _=tbC t' by rw[ht']; rfl) ?_
  intro H hO6
  replace hO6:=hO6.set_r
  have hzz:=i3 _ (i2 _ (i1 _ hvv))
  have htab:10=zs.length→t'=zLj bs:=by
   intro hl
   obtain⟨c1,c2,c3⟩:=v1 hl
   rw[ht',c1,c2,c3]
   unfold zLj
   obtain⟨ta,tb',tact,tboo,tflo⟩:=t
   have ha:ta=zKj (bs.take 46):=ha
   have hb2:tb'=zKj ((bs.drop 46).take 46):=hb2
   rw[ha,hb2,show bs.drop 92=zs from hzs]
   show (⟨_,_,_,_,_⟩:Tb)=_
   rw[show ∀ a:Int,a+-1=a - 1 from fun a=>rfl]
  clear ht'
  generalize tkE (tkR (tkR zs 0 1) (tkE zs 0 1) 1) (tkE (tkR zs 0 1) (tkE zs 0 1) 1) 8=e3 at *
  generalize tkR (tkR (tkR zs 0 1) (tkE zs 0 1) 1) (tkE (tkR zs 0 1) (tkE zs 0 1) 1) 8=z3 at *
  replace hO6:St H (Γ++[(q,⟨tbC tbz,true⟩),(pr,rdr w3 e3),(p5,⟨tbC t',true⟩)]):=hO6
  refine zwa (fun l' H'=>l'=[ptr q 0,ptr p5 0,.bool (decide (¬ (bs.length=102∧TRight (zLj bs))))]∧St H' (Γ++[(q,⟨tbC tbz,true⟩),(pr,rdr w3 e3),(p5,⟨tbC t',true⟩)])) ?_ ?_
  ·refine zgA hO6 (zqa (k:=1) rfl) hzz.app ?_
   refine zaa zKa ?_
   by_cases h10:zs.length=10
   ·have hbl:bs.length=102:=by omega
    rw[decide_eq_false (show ¬ (zZu z3 e3≠0) from fun h=>h (he3.2 h10))]
    repeat refine wn ?_
    refine zia hO6 (Γ.length+2) (zqa rfl) rfl (by omega) ?_
    refine zad hO6 ?_
    intro H hO7
    repeat refine oi ?_
    refine⟨?_,hO7⟩
    rw[htab h10.symm]
    by_cases hr:TRight (zLj bs) <;> simp[hr,hbl]
   ·rw[decide_eq_true (show zZu z3 e3≠0 from fun h=>h10 (he3.1 h))]
    repeat (first|refine oi ?_|refine wt ?_)
    refine⟨?_,hO6⟩
    rw[decide_eq_true (show ¬ (bs.length=102∧TRight (zLj bs)) by omega)]
  clear hO6
  rintro l' H ⟨rfl,hO6⟩
  try simp only[zla,zma]
  refine zja (fun h=>?_) (fun h=>?_)
  ·refine zaa b29 ?_
   refine zoa hO6 (Γ.length+0) (zqa rfl) rfl rfl rfl ?_
   intro H hO7
   replace hO7:=hO7.set_r
   refine zia hO7 (Γ.length+0) (zqa rfl) rfl (by omega) ?_
   exact bad h _ hO7.left
  ·have h:=Decidable.not_not.1 h
   refine zia hO6 (Γ.length+2) (zqa rfl) rfl (by omega) ?_
   refine zoa hO6 (Γ.length+0) (zqa rfl) rfl rfl rfl ?_
   intro H hO7
   replace hO7:=hO7.set_r
   refine zia hO7 (Γ.length+0) (zqa rfl) rfl (by omega) ?_
   have:=hk _ hO7.left
   unfold zzd at this
   rw[if_pos h,← htab (by omega)] at this
   exact this
end J
set_option maxRecDepth 100000
namespace J
open Go Go.Ab
variable{xs ys zs bs:List Int}{e:Int}{c:Ch}{l:List Ch}{k n:Nat}
abbrev zUc(xs:List Int)(e:Int)(n:Nat):Nat:=leV (tkB xs e n)
def dec(xs:List Int)(e:Int):Ch × List Int × Int × Int:=
 if zUc xs e 1=1 then (⟨1,zUc (tkR xs e 1) (tkE xs e 1) 1,0,(zJk (tkR (tkR xs e 1) (tkE xs e 1) 1) (tkE (tkR xs e 1) (tkE xs e 1) 1)).1,0⟩,tkR (tkR (tkR xs e 1) (tkE xs e 1) 1) (tkE (tkR xs e 1) (tkE xs e 1) 1) 46,tkE (tkR (tkR xs e 1) (tkE xs e 1) 1) (tkE (tkR xs e 1) (tkE xs e 1) 1) 46,(zJk (tkR (tkR xs e 1) (tkE xs e 1) 1) (tkE (tkR xs e 1) (tkE xs e 1) 1)).2)
 else if zUc xs e 1=2 then (⟨2,0,zUc (tkR xs e 1) (tkE xs e 1) 1,slz 0,0⟩,tkR (tkR xs e 1) (tkE xs e 1) 1,tkE (tkR xs e 1) (tkE xs e 1) 1,0)
 else if zUc xs e 1=3 then (⟨3,0,(zUc (tkR xs e 1) (tkE xs e 1) 1:Int) - 1,slz 0,0⟩,tkR (tkR xs e 1) (tkE xs e 1) 1,tkE (tkR xs e 1) (tkE xs e 1) 1,0)
 else if zUc xs e 1=4 then (⟨4,0,0,slz 0,zUc (tkR xs e 1) (tkE xs e 1) 8⟩,tkR (tkR xs e 1) (tkE xs e 1) 8,tkE (tkR xs e 1) (tkE xs e 1) 8,0)
 else (⟨zUc xs e 1,0,0,slz 0,0⟩,tkR xs e 1,tkE xs e 1,0)
def DOk(d:Ch × List Int × Int × Int):Prop:=d.2.2.2=0∧d.2.2.1=0∧zTa d.1
instance (d:Ch × List Int × Int × Int):Decidable (DOk d):=by unfold DOk; infer_instance
def pGo:Nat→List Int→Int→Option (List Ch × List Int × Int)
 | 0,xs,e=>some ([],xs,e)
 | k+1,xs,e=>if DOk (dec xs e) then (pGo k (dec xs e).2.1 (dec xs e).2.2.1).map fun r=>((dec xs e).1::r.1,r.2) else none
def rGo:Nat→List Int→Int→List Ch × List Int × Int
 | 0,xs,e=>([],xs,e)
 | k+1,xs,e=>((dec xs e).1::(rGo k (dec xs e).2.1 (dec xs e).2.2.1).1,(rGo k (dec xs e).2.1 (dec xs e).2.2.1).2)
def zZx(bs:List Int):List Ch × Int:=if zUc bs 0 1≤8 then (match pGo (zUc bs 0 1) (tkR bs 0 1) (tkE bs 0 1) with
 | some r=>if zZu r.2.1 r.2.2=0 then (r.1,0) else ([],111)
 | none=>([],111)) else ([],111)
def zhH(bs:List Int):List Ch × Int:=if zZu (rGo (min (zUc bs 0 1) 9) (tkR bs 0 1) (tkE bs 0 1)).2.1 (rGo (min (zUc bs 0 1) 9) (tkR bs 0 1) (tkE bs 0 1)).2.2=0∧lBy (rGo (min (zUc bs 0 1) 9) (tkR bs 0 1) (tkE bs 0 1)).1=bs then ((rGo (min (zUc bs 0 1) 9) (tkR bs 0 1) (tkE bs 0 1)).1,0) else ([],111)
theorem zgJ(n a y:Nat)(h:a < 256):leN (y+1) (a+256 * n)=(a:Int)::leN y n:=by
 unfold leN
 rw[List.range_succ_eq_map,List.map_cons,List.map_map]
 congr 1
 ·simp; omega
 ·apply List.map_congr_left
  intro i _
  show (((a+256 * n) / 256 ^ (i+1) % 256:Nat):Int)=_
  rw[Nat.pow_succ,Nat.mul_comm (256 ^ i) 256,← Nat.div_div_eq_div_mul,show (a+256 * n) / 256=n by omega]
theorem ziH:∀ (bs:List Int),By bs→leN bs.length (leV bs)=bs
 | [],_=>rfl
 | x::r,h=>by
  have h1:=ziH r fun y hy=>h y (List.mem_cons_of_mem _ hy)
  have h2:=h x List.mem_cons_self
  show leN (r.length+1) (x.toNat+256 * leV r)=_
  rw[zgJ _ _ _ (by omega),h1,Int.toNat_of_nonneg h2.1]
theorem zLf(hb:By xs)(h:n≤xs.length):leN n (leV (xs.take n))=xs.take n:=by
 have:=ziH (xs.take n) fun x hx=>hb x (List.mem_of_mem_take hx)
 rwa [List.length_take,Nat.min_eq_left h] at this
theorem zPr(m n:Nat):xs.take m++(xs.drop m).take n=xs.take (m+n):=by rw[List.take_add]
theorem zIM(hb:By xs)(h:xs.length=46):sBy (zKj xs)=xs:=by
 have hd:∀ m,By (xs.drop m):=fun m x hx=>hb x (List.mem_of_mem_drop hx)
 have hdg:dgL (zKj xs).dg=(xs.drop 14).take 32:=by
  apply List.ext_getElem?
  intro i
  show ((List.range 32).map fun i=>((xs.drop 14).take 32).getD i 0)[i]?=_
  by_cases hi:i < 32
  ·have hl:i < ((xs.drop 14).take 32).length:=by rw[List.length_take,List.length_drop]; omega
   rw[List.getElem?_map,List.getElem?_range hi,List.getElem?_eq_getElem hl]
   show some (((xs.drop 14).take 32).getD i 0)=_
   rw[List.getD_eq_getElem?_getD,List.getElem?_eq_getElem hl]; rfl
  ·rw[List.getElem?_eq_none (by simp; omega),List.getElem?_eq_none (by rw[List.length_take]; omega)]
 unfold sBy
 rw[hdg]
 show leN 1 (Int.toNat (leV (xs.take 1)))++leN 1 (Int.toNat (leV ((xs.drop 1).take 1)))++leN 8 (Int.toNat (leV ((xs.drop 2).take 8)))++leN 4 (Int.toNat (leV ((xs.drop 10).take 4)))++_=_
 simp only[Int.toNat_natCast]
 rw[zLf hb (by omega),zLf (hd 1) (by rw[List.length_drop]; omega),zLf (hd 2) (by rw[List.length_drop]; omega),zLf (hd 10) (by rw[List.length_drop]; omega),zPr,zPr,zPr,zPr]
 exact List.take_of_length_le (by omega)
theorem znL(h:e≠0):(dec xs e).2.2.1≠0:=by
 obtain⟨a1,a2,a3⟩:=zjA (xs:=xs) (n:=1) h
 have a4:zUc xs e 1=0:=by unfold zUc; rw[a1]; rfl
 unfold dec
 rw[a4]
 simp only[show ¬ (0:Nat)=1 by decide,show ¬ (0:Nat)=2 by decide,show ¬ (0:Nat)=3 by decide,show ¬ (0:Nat)=4 by decide,if_false]
 rw[a3]; exact h
theorem zfC:∀ (k:Nat) (xs:List Int) (e:Int),e≠0→(rGo k xs e).2.2≠0
 | 0,_,_,h=>h
 | k+1,xs,e,h=>zfC k _ _ (znL h)
theorem zay(h:tkE xs 0 n=0):n≤xs.length:=by
 unfold tkE at h
 split at h
 ·omega
 ·rw[if_pos rfl] at h; cases h
theorem zRJ(hb:By xs)(he:(dec xs 0).2.2.1=0)(hc:zTa (dec xs 0).1)(hs:(dec xs 0).2.2.2=0∨∃ zs,xs=cBy (dec xs 0).1++zs):(dec xs 0).2.2.2=0∧xs=cBy (dec xs 0).1++(dec xs 0).2.1:=by
 have h1:1≤xs.length:=by
  by_cases h:1≤xs.length
  ·exact h
  ·exfalso
   obtain⟨a1,a2,a3⟩:=zdf (by omega:xs.length < 1)
   unfold dec at he
   have a4:zUc xs 0 1=0:=by unfold zUc; rw[a1]; rfl
   rw[a4] at he
   simp only[show ¬ (0:Nat)=1 by decide,show ¬ (0:Nat)=2 by decide,show ¬ (0:Nat)=3 by decide,show ¬ (0:Nat)=4 by decide,if_false] at he
   rw[a3] at he; cases he
 obtain⟨a1,a2,a3⟩:=zDf h1
 have hd:∀ m,By (xs.drop m):=fun m x hx=>hb x (List.mem_of_mem_drop hx)
 have hl1:(xs.drop 1).length=xs.length - 1:=List.length_drop
 have hk1:leN 1 (zUc xs 0 1)=xs.take 1:=by unfold zUc; rw[a1]; exact zLf hb h1
 have h2:xs.take 1++xs.drop 1=xs:=List.take_append_drop 1 xs
 unfold dec at he hc hs ⊢
 rw[a2,a3] at he hc hs ⊢
 by_cases k1:zUc xs 0 1=1
 ·rw[if_pos k1] at he hc hs ⊢
  have he:tkE (tkR (xs.drop 1) 0 1) (tkE (xs.drop 1) 0 1) 46=0:=he
  have hh2:1≤(xs.drop 1).length:=by
   by_cases h:1≤(xs.drop 1).length
   ·exact h
   ·exfalso
    obtain⟨b1,b2,b3⟩:=zdf (by omega:(xs.drop 1).length < 1)
    rw[b2,b3,(zjA (xs:=[]) (n:=46) (show (51:Int)≠0 by decide)).2.2] at he
    cases he
  obtain⟨b1,b2,b3⟩:=zDf hh2
  rw[b2,b3,List.drop_drop] at he hc hs ⊢
  have h46:=zay he
  obtain⟨c1,c2,c3⟩:=zDf h46
  rw[zOr h46] at hc hs ⊢
  have hl2:((xs.drop (1+1)).take 46).length=46:=by rw[List.length_take]; omega
  have hby:By ((xs.drop (1+1)).take 46):=fun x hx=>hd 2 x (List.mem_of_mem_take hx)
  have hk2:leN 1 (zUc (xs.drop 1) 0 1)=(xs.drop 1).take 1:=by unfold zUc; rw[b1]; exact zLf (hd 1) hh2
  have hsp:xs=xs.take 1++((xs.drop 1).take 1++((xs.drop (1+1)).take 46++(xs.drop (1+1)).drop 46)):=by
   rw[List.take_append_drop,show xs.drop (1+1)=(xs.drop 1).drop 1 by rw[List.drop_drop],List.take_append_drop,List.take_append_drop]
  by_cases hr:SRight (zKj ((xs.drop (1+1)).take 46))
  ·rw[if_pos hr]
   refine⟨rfl,?_⟩
   show xs=(leN 1 1++(leN 1 (Int.toNat (zUc (xs.drop 1) 0 1))++zIA (zKj ((xs.drop (1+1)).take 46))))++_
   rw[zve hr,zIM hby hl2,Int.toNat_natCast,hk2,c2]
   conv=>rhs; rw[show leN 1 1=xs.take 1 by rw[← hk1,k1]]
   simp only[List.append_assoc]
   exact hsp
  ·exfalso
   rw[if_neg hr] at hs
   rcases hs with hs|⟨zs,hs⟩
   ·cases hs
   ·have hz:SRight (slz 0):=zeH (.inl rfl)
    have hs:xs=(leN 1 1++(leN 1 (Int.toNat (zUc (xs.drop 1) 0 1))++zIA (slz 0)))++zs:=hs
    rw[zve hz] at hs
    have h46:(xs.drop (1+1)).take 46=sBy (slz 0):=by
     rw[hs]
     simp only[List.append_assoc]
     rw[show (1+1)=(leN 1 1++leN 1 (Int.toNat (zUc (xs.drop 1) 0 1))).length by simp[zhb],← List.append_assoc (leN 1 1),List.drop_left,List.take_left' zch]
    apply hr
    rw[h46]
    decide +kernel
 rw[if_neg k1] at he hc hs ⊢
 by_cases k2:zUc xs 0 1=2
 ·rw[if_pos k2] at he hc hs ⊢
  have hh2:=zay he
  obtain⟨b1,b2,b3⟩:=zDf hh2
  refine⟨rfl,?_⟩
  show xs=(leN 1 2++leN 1 (Int.toNat (zUc (xs.drop 1) 0 1)))++tkR (xs.drop 1) 0 1
  rw[Int.toNat_natCast,b2]
  unfold zUc
  rw[b1,zLf (hd 1) hh2,show leN 1 2=xs.take 1 by rw[← hk1,k2],List.append_assoc,List.take_append_drop,List.take_append_drop]
 rw[if_neg k2] at he hc hs ⊢
 by_cases k3:zUc xs 0 1=3
 ·rw[if_pos k3] at he hc hs ⊢
  have hh2:=zay he
  obtain⟨b1,b2,b3⟩:=zDf hh2
  refine⟨rfl,?_⟩
  show xs=(leN 1 3++leN 1 (Int.toNat ((zUc (xs.drop 1) 0 1:Int) - 1+1)))++tkR (xs.drop 1) 0 1
  rw[show ((zUc (xs.drop 1) 0 1:Nat):Int) - 1+1=((zUc (xs.drop 1) 0 1:Nat):Int) by omega,Int.toNat_natCast,b2]
  unfold zUc
  rw[b1,zLf (hd 1) hh2,show leN 1 3=xs.take 1 by rw[← hk1,k3],List.append_assoc,List.take_append_drop,List.take_append_drop]
 rw[if_neg k3] at he hc hs ⊢
 by_cases k4:zUc xs 0 1=4
 ·rw[if_pos k4] at he hc hs ⊢
  have hh2:=zay he
  obtain⟨b1,b2,b3⟩:=zDf hh2
  refine⟨rfl,?_⟩
  show xs=(leN 1 4++leN 8 (Int.toNat (zUc (xs.drop 1) 0 8)))++tkR (xs.drop 1) 0 8
  rw[Int.toNat_natCast,b2]
  unfold zUc
  rw[b1,zLf (hd 1) hh2,show leN 1 4=xs.take 1 by rw[← hk1,k4],List.append_assoc,List.take_append_drop,List.take_append_drop]
 rw[if_neg k4] at he hc hs ⊢
 exfalso
 unfold zTa at hc
 have hc:((zUc xs 0 1:Nat):Int)=1∧_∨((zUc xs 0 1:Nat):Int)=2∧_∨((zUc xs 0 1:Nat):Int)=3∧_∨((zUc xs 0 1:Nat):Int)=4∧_:=hc
 omega
end J
