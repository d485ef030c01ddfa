/- texts of the proof, one behind the other -/
import Derived.Test.YtlkkkfmjfpeooaaGreatDoorUE
set_option linter.unusedVariables false
set_option linter.unusedSimpArgs false
set_option linter.unusedSectionVars false
set_option maxRecDepth 100000
namespace J
open Go Go.Ab
variable{H:Heap}{Γ Γ0 Γ2 Δ G L:List (Nat × Blk)}{K:VH}{v w x cv dv:Value}{xs ys zs bs b key ms:List Int}{j p q o n k mx:Nat}{e:Int}{cs cs':List Value}{l:List UInt8}{m a:Mf}{cks:List (List Int)}
abbrev Rs:=List Int × Int
def tk(n:Nat)(s:Rs):Rs:=(tkR s.1 s.2 n,tkE s.1 s.2 n)
def hs(s:Rs):List Int:=hsh s.1 s.2
def m0:Mf:=⟨[],0,0,0,z32,[]⟩
theorem zOH:m0.Ok:=⟨rfl,zex,(by intro x h; cases h),(by intro x h; cases h),by decide,by decide,by decide,by decide,by decide⟩
theorem zcM:zc P 31=mfC m0 zBa:=by kernel_rfl
theorem zgJ(a0 a1 a2 a3 a4 a5 a6 a7 a8 a9 a10 a11 a12 a13 a14 a15 a16 a17 a18 a19 a20 a21 a22 a23 a24 a25 a26 a27 a28 a29 a30 a31:Int)(H:Heap):(zoa P 29 1).f [(0,.agg #[(.int .u8 a0),(.int .u8 a1),(.int .u8 a2),(.int .u8 a3),(.int .u8 a4),(.int .u8 a5),(.int .u8 a6),(.int .u8 a7),(.int .u8 a8),(.int .u8 a9),(.int .u8 a10),(.int .u8 a11),(.int .u8 a12),(.int .u8 a13),(.int .u8 a14),(.int .u8 a15),(.int .u8 a16),(.int .u8 a17),(.int .u8 a18),(.int .u8 a19),(.int .u8 a20),(.int .u8 a21),(.int .u8 a22),(.int .u8 a23),(.int .u8 a24),(.int .u8 a25),(.int .u8 a26),(.int .u8 a27),(.int .u8 a28),(.int .u8 a29),(.int .u8 a30),(.int .u8 a31)])] H=some (sl H.next 0 1 65,H.push [(.int .u8 a0),(.int .u8 a1),(.int .u8 a2),(.int .u8 a3),(.int .u8 a4),(.int .u8 a5),(.int .u8 a6),(.int .u8 a7),(.int .u8 a8),(.int .u8 a9),(.int .u8 a10),(.int .u8 a11),(.int .u8 a12),(.int .u8 a13),(.int .u8 a14),(.int .u8 a15),(.int .u8 a16),(.int .u8 a17),(.int .u8 a18),(.int .u8 a19),(.int .u8 a20),(.int .u8 a21),(.int .u8 a22),(.int .u8 a23),(.int .u8 a24),(.int .u8 a25),(.int .u8 a26),(.int .u8 a27),(.int .u8 a28),(.int .u8 a29),(.int .u8 a30),(.int .u8 a31)]):=by kernel_rfl
theorem zfK(h:List Int)(hl:h.length=32)(H:Heap):(zoa P 29 1).f [(0,agg (by8 h))] H=some (sl H.next 0 1 65,H.push (by8 h)):=by
 match h,hl with
 | [a0,a1,a2,a3,a4,a5,a6,a7,a8,a9,a10,a11,a12,a13,a14,a15,a16,a17,a18,a19,a20,a21,a22,a23,a24,a25,a26,a27,a28,a29,a30,a31],_=>exact zgJ a0 a1 a2 a3 a4 a5 a6 a7 a8 a9 a10 a11 a12 a13 a14 a15 a16 a17 a18 a19 a20 a21 a22 a23 a24 a25 a26 a27 a28 a29 a30 a31 H
theorem zcG{l:List (List Int)}(h:Own 32 v l.length (hsC l)):RdH (zhb v (hsC l)) v l:=by
 rcases h with⟨rfl,h0,_⟩|⟨p,rfl|rfl,_⟩
 ·exact .inl ⟨rfl,List.length_eq_zero_iff.1 h0⟩
 ·exact .inr ⟨p,_,0,true,rfl,rfl⟩
 ·exact .inr ⟨p,_,0,true,rfl,rfl⟩
theorem zED{l:List (List Int)}{x:List Int}:hsC (l++[x])=hsC l++by8 x:=by simp[hsC]
end J
set_option maxRecDepth 100000
namespace J
open Go Go.Ab
variable{H:Heap}{Γ Γ0 Γ2 Δ G L:List (Nat × Blk)}{K:VH}{v w x cv dv:Value}{xs ys zs bs b key ms:List Int}{j p q o n k mx:Nat}{e:Int}{cs cs':List Value}{l:List UInt8}{m a:Mf}{cks:List (List Int)}
def Stay(Γ:List (Nat × Blk))(v:Value):Prop:=v=zBa∨∃ (p o n c j:Nat) (b:Blk),v=sl p o n c∧Γ[j]?=some (p,b)∧b.cells.all zSa=true∧(b.wr=true∨b.cells≠[])
theorem Stay.app(h:Stay Γ v):Stay (Γ++Δ) v:=by
 rcases h with h|⟨p,o,n,c,j,b,h1,h2,h3⟩
 ·exact .inl h
 ·exact .inr ⟨p,o,n,c,j,b,h1,zwa h2,h3⟩
theorem Stay.same{H':Heap}(h:Stay Γ v)(hO:St H Γ)(hO':St H' (Γ++Δ)):zeb (zcb H H') (zJa [v]):=by
 rcases h with rfl|⟨p,o,n,c,j,b,rfl,h2,h3,h4⟩
 ·rfl
 ·exact same_at (o:=o) hO j h2 hO' j (zwa h2) h3 h4
end J
set_option maxRecDepth 100000
namespace J
open Go Go.Ab
variable{xs ys zs bs b t:List Int}{n:Nat}{e:Int}{l:List UInt8}{m:Mf}{s:Rs}
end J
set_option maxRecDepth 100000
namespace J
open Go Go.Ab
variable{H:Heap}{Γ Γ0 Γ2 Δ G L:List (Nat × Blk)}{K:VH}{v w x cv dv:Value}{xs ys zs bs b key ms:List Int}{j p q o n k mx:Nat}{e:Int}{cs cs':List Value}{l:List UInt8}{m a:Mf}{cks:List (List Int)}
theorem zou(h:RdB Γ v xs){i t:Nat}(hn:i≤t)(ht:t≤xs.length):∃ v',zWa 1 v (some (int i)) (some (int t)) none=some v'∧Inh v xs v' ((xs.take t).drop i):=by
 rcases h with⟨rfl,rfl⟩|⟨p,o,c,rfl,hc,_⟩
 ·have ht:t=0:=by simpa using ht
  subst ht
  have hi:i=0:=by omega
  subst hi
  exact⟨zBa,rfl,.none⟩
 ·have he:∃ c',(c'=2∨c'=3)∧zWa 1 (sl p o xs.length c) (some (int i)) (some (int t)) none=some (sl p (o+i) (t - i) c'):=by
   rcases hc with rfl|rfl
   ·refine⟨2,.inl rfl,?_⟩
    unfold zWa
    simp only[bHi ht,zBo hn]
    simp[ztl,zCd]
   ·refine⟨cond (Nat.beq t xs.length) 3 2,by cases Nat.beq t xs.length <;> simp,?_⟩
    unfold zWa
    simp only[bHi ht,zBo hn]
    simp[ztl,zCd]
  obtain⟨c',hc',he⟩:=he
  refine⟨_,he,fun Γ' h=>?_⟩
  rcases h with⟨h,_⟩|⟨p',o',c'',heq,_,h⟩
  ·cases h
  cases heq
  have hlen:((xs.take t).drop i).length=t - i:=by rw[List.length_drop,List.length_take,Nat.min_eq_left ht]
  refine .inr ⟨p,o+i,c',by rw[hlen],hc',?_⟩
  rcases h with rfl|⟨j,b,h1,h2⟩
  ·exact .inl (by simp)
  ·refine .inr ⟨j,b,h1,?_⟩
   have:=congrArg (List.drop i) (congrArg (List.take t) h2)
   rw[List.take_take,Nat.min_eq_left ht,List.drop_take,List.drop_drop] at this
   rw[hlen,this,by8,by8,List.map_drop,List.map_take]
theorem Stay.app'(h:Stay Δ v):Stay (Γ++Δ) v:=by
 rcases h with h|⟨p,o,n,c,j,b,h1,h2,h3⟩
 ·exact .inl h
 ·exact .inr ⟨p,o,n,c,Γ.length+j,b,h1,zua h2,h3⟩
theorem Stay.slice(h:Stay Γ v){lo hi:Option Value}(hs:zWa 1 v lo hi none=some w):Stay Γ w:=by
 rcases h with rfl|⟨p,o,n,c,j,b,rfl,h2,h3⟩
 ·unfold zWa at hs
  simp only at hs
  repeat' (split at hs)
  all_goals first|(cases hs; done)|(cases hs; exact .inl rfl)
 ·unfold zWa at hs
  simp only at hs
  repeat' (split at hs)
  all_goals first|(cases hs; done)|(cases hs; exact .inr ⟨p,_,_,_,j,b,rfl,h2,h3⟩)
end J
set_option maxRecDepth 100000
namespace J
open Go Go.Ab
variable{H:Heap}{Γ Γ0 Γ2 Δ G L:List (Nat × Blk)}{K:VH}{v w x cv dv:Value}{xs ys zs bs b key ms:List Int}{j p q o n k mx:Nat}{e:Int}{cs cs':List Value}{l:List UInt8}{m a:Mf}{cks:List (List Int)}
end J
set_option maxRecDepth 100000
namespace J
open Go Go.Ab
variable{H:Heap}{Γ Γ0 Γ2 Δ G L:List (Nat × Blk)}{K:VH}{v w x cv dv:Value}{xs ys zs bs b key ms:List Int}{j p q o n k mx:Nat}{e:Int}{cs cs':List Value}{l:List UInt8}{m a:Mf}{cks:List (List Int)}
theorem RdH.nil:RdH Γ zBa []:=.inl ⟨rfl,rfl⟩
theorem By.take{n:Nat}(h:By b):By (b.take n):=fun x hx=>h x (List.mem_of_mem_take hx)
theorem By.drop{n:Nat}(h:By b):By (b.drop n):=fun x hx=>h x (List.mem_of_mem_drop hx)
end J
