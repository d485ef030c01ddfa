/- texts of the proof, one behind the other -/
import Derived.Test.YtheklmekepeblaaGreatDoorUC
set_option linter.unusedSectionVars false
set_option linter.unusedVariables false
set_option linter.unusedSimpArgs false
set_option maxRecDepth 100000
namespace J
open Go Go.Ab
variable{H:Heap}{Γ Γ0 Γ2 Δ G:List (Nat × Blk)}{K:VH}{v w x:Value}{xs ys zs bs b data:List Int}{j p pd pz:Nat}{e:Int}{cs:List Value}
abbrev u64(n:Nat):Value:=zwb .u64 n
theorem zJn{t:TypeId}{c:Bool}{a b:Nat}(h:a+b < 18446744073709551616):(zna P .add t c).f (u64 a) (u64 b)=some (u64 (a+b)):=by
 rw[zvd (k:=.u64) rfl,Nat.mod_eq_of_lt (show a+b < szU .u64 from h)]
theorem zes{t:TypeId}{c:Bool}{a b:Nat}(hb:0 < b)(ha:a < 9223372036854775807):(zna P .quo t c).f (int a) (int b)=some (int ((a / b:Nat):Int)):=by
 rw[zxc _ _ rfl]
 show (match eqB (b:Int) 0 with|true=>none|false=>some (Value.int .i64 (zwc .i64 ((a:Int).tdiv b))))=_
 rw[zwg,decide_eq_false (by omega)]
 show some (Value.int .i64 (zwc .i64 ((a / b:Nat):Int)))=_
 have h1:((a / b:Nat):Int)≤(a:Int):=Int.ofNat_le.2 (Nat.div_le_self a b)
 have h2:(0:Int)≤((a / b:Nat):Int):=Int.natCast_nonneg _
 generalize ((a / b:Nat):Int)=q at *
 rw[zXm (by omega) (by omega)]
theorem zXc{a n:Nat}(ha:a < 4294967296)(hn:0 < n)(hn2:n < 32)(hk:K (u64 (rr a n)) H):wCall P zvb [u64 a,u64 n] H K:=by
 apply zYp; unfold zbp
 have e64:szU .u64=18446744073709551616:=rfl
 have hp:2 ^ (32 - n)≤2 ^ 31:=Nat.pow_le_pow_right (by omega) (by omega)
 have hm:a * 2 ^ (32 - n) < 18446744073709551616:=Nat.lt_of_le_of_lt (Nat.mul_le_mul (Nat.le_of_lt ha) hp) (by decide)
 have hd:a / 2 ^ n < 4294967296:=Nat.lt_of_le_of_lt (Nat.div_le_self _ _) ha
 refine zaa (zEf (k:=.u64) rfl (show n≤64 by omega)) ?_
 refine zaa (v:=u64 (32 - n)) (by rw[show (Value.int .u64 32)=zwb .u64 32 from rfl,zLr rfl (by omega) (by decide)]) ?_
 refine zaa (zFj (k:=.u64) rfl (show 32 - n≤64 by omega)) ?_
 rw[Nat.mod_eq_of_lt (show a * 2 ^ (32 - n) < szU .u64 from hm)]
 refine zaa (zIk (k:=.u64) rfl (show _ < 18446744073709551616 by omega) hm) ?_
 refine zaa (zDf (k:=.u64) (b:=4294967296) (by decide)) ?_
 have e:(a / 2 ^ n ||| a * 2 ^ (32 - n)) % 4294967296=rr a n:=by
  unfold rr
  rw[show (4294967296:Nat)=2 ^ 32 from rfl,Nat.or_mod_two_pow,Nat.mod_eq_of_lt (show a / 2 ^ n < 2 ^ 32 from hd)]
 rw[e]; exact hk
def wM(w:List Nat)(n:Nat):List Value:=(w.map fun (n:Nat)=>u64 n)++u64 n::List.replicate (63 - w.length) (u64 0)
def wL(w:List Nat):List Value:=(w.map fun (n:Nat)=>u64 n)++List.replicate (64 - w.length) (u64 0)
theorem zfE{w:List Nat}{n:Nat}(h:w.length≤63):(wM w n).length=64:=by simp[wM]; omega
theorem zJA{w:List Nat}(h:w.length≤63):wM w 0=wL w:=by
 unfold wM wL
 obtain⟨m,hm⟩:∃ m,64 - w.length=m+1:=⟨63 - w.length,by omega⟩
 rw[hm,List.replicate_succ,show 63 - w.length=m by omega]
theorem zKA{w:List Nat}{n:Nat}(h:w.length≤63):wM w n=wL (w++[n]):=by
 unfold wM wL
 rw[List.length_append,show 64 - (w.length+[n].length)=63 - w.length by show 64 - (w.length+1)=_; omega]
 simp
theorem zOI{w:List Nat}{n:Nat}:(wM w n)[w.length]?=some (u64 n):=by
 unfold wM
 rw[List.getElem?_append_right (by simp)]
 simp
theorem zgE{w:List Nat}{n n':Nat}:(wM w n).set w.length (u64 n')=wM w n':=by
 unfold wM
 rw[List.set_append_right _ _ (by simp)]
 simp
theorem zzH{w:List Nat}{i:Nat}(h:i < w.length):(wL w)[i]?=some (u64 (w.getD i 0)):=by
 unfold wL
 rw[List.getElem?_append_left (by simpa using h)]
 simp[h]
theorem zLt{w:List Nat}:(wL w).all zrb=true:=by simp[wL,zrb,zle]
def zMt(b:List Int)(t:Nat):Nat→Nat
 | 0=>0
 | y+1=>256 * zMt b t y+(b.getD (4 * t+y) 0).toNat
theorem zHF{b:List Int}{t:Nat}:zMt b t 4=zEt b t:=by
 show 256 * (256 * (256 * (256 * 0+(b.getD (4 * t+0) 0).toNat)+(b.getD (4 * t+1) 0).toNat)+(b.getD (4 * t+2) 0).toNat)+(b.getD (4 * t+3) 0).toNat=_
 unfold zEt
 rw[Nat.add_zero]
 omega
theorem zQw{b:List Int}(h:∀ x ∈ b,0≤x∧x≤255)(t:Nat):∀ y,zMt b t y < 256 ^ y
 | 0=>Nat.zero_lt_one
 | y+1=>by
  show 256 * zMt b t y+_ < 256 ^ (y+1)
  have h1:=zQw h t y
  have h2:=zYe h (4 * t+y)
  rw[Nat.pow_succ]
  omega
theorem zjD{m i:Nat}(h:i < 64):((data.drop (64 * m)).take 64).getD i 0=data.getD (64 * m+i) 0:=by
 rw[List.getD_eq_getElem?_getD,List.getD_eq_getElem?_getD,List.getElem?_take_of_lt h,List.getElem?_drop]
theorem zCJ{p2 p7 p8 p10 m t:Nat}{ws:List Nat}{Qx:LX}{Qr:LN}(hv:RdB Γ v data)(hb:∀ x ∈ data,0≤x∧x≤255)(hm:64 * m+64≤data.length)(hl:data.length≤1000000000)(ht:t < 16)(hw:ws.length=t)
  (hO:St H (Γ++[(p10,⟨wL ws,true⟩)]))
  (hk:∀ H',St H' (Γ++[(p10,⟨wL (ws++[zEt ((data.drop (64 * m)).take 64) t]),true⟩)])→Qx 8 [ptr p2 0,v,ptr p7 0,ptr p8 0,int ((64 * m:Nat):Int),ptr p10 0,int t] H') :
  ztb P true 252 zbj 3980 [ptr p2 0,v,ptr p7 0,ptr p8 0,int ((64 * m:Nat):Int),ptr p10 0,int t,int 0] H Qx Qr:=by
 have hbb:∀ x ∈ (data.drop (64 * m)).take 64,0≤x∧x≤255:=fun x hx=>hb x (List.mem_of_mem_drop (List.mem_of_mem_take hx))
 rw[← zJA (by omega)] at hO
 refine zBn (fun k l' H'=>∃ (y:Nat),y≤4∧k=4 - y∧l'=[ptr p2 0,v,ptr p7 0,ptr p8 0,int ((64 * m:Nat):Int),ptr p10 0,int t,int y]∧St H' (Γ++[(p10,⟨wM ws (zMt ((data.drop (64 * m)).take 64) t y),true⟩)])) _ _ ?_ 4 _ _ ⟨0,by omega,rfl,rfl,hO⟩
 clear hO
 rintro k l' H ⟨y,hy,rfl,rfl,hO⟩
 unfold zfn
 try simp only[zja,zka]
 refine zaa zMa ?_
 refine zoa (fun h=>?_) (fun h=>?_)
 ·have hy4:y < 4:=by omega
  have hp:=zQw hbb t y
  have hp3:256 ^ y≤256 ^ 3:=Nat.pow_le_pow_right (by omega) (by omega)
  have hp4:(256:Nat) ^ 3=16777216:=rfl
  have g:=zYe hb (64 * m+(4 * t+y))
  refine zaa (zra (by omega) (by omega)) ?_
  rw[Int.toNat_natCast]
  refine zpa hO (Γ.length+0) (zza rfl) (v:=u64 (zMt ((data.drop (64 * m)).take 64) t y)) (by rw[show 0+t * 1=ws.length by omega]; exact zOI) ?_
  refine zaa (v:=u64 (256 * zMt ((data.drop (64 * m)).take 64) t y)) (by
   rw[show (Value.int .u64 256)=zwb .u64 256 from rfl,zKr (k:=.u64) rfl,Nat.mod_eq_of_lt (show _ < szU .u64 from (show _ < 18446744073709551616 by omega))]) ?_
  refine zaa (v:=int ((4 * t:Nat):Int)) (by rw[zPh (by omega) (by omega)]; congr 2 <;> omega) ?_
  refine zaa (v:=int ((64 * m+4 * t:Nat):Int)) (by rw[zoc (by omega) (by omega)]; congr 2 <;> omega) ?_
  refine zaa (v:=int ((64 * m+(4 * t+y):Nat):Int)) (by rw[zoc (by omega) (by omega)]; congr 2 <;> omega) ?_
  refine zZx hO hv.app hb rfl (by omega) ?_
  refine zxa (cvU (k':=.u64) rfl) ?_
  rw[Nat.mod_eq_of_lt (show (data.getD (64 * m+(4 * t+y)) 0).toNat < szU .u64 from (show _ < 18446744073709551616 by omega))]
  refine zaa (zJn (by omega)) ?_
  refine zaa (zra (by omega) (by omega)) ?_
  rw[Int.toNat_natCast]
  refine zZa hO (Γ.length+0) (zza rfl) rfl (by rw[zfE (by omega)]; omega) (show _=wM ws (zMt ((data.drop (64 * m)).take 64) t (y+1)) from ?_) ?_
  ·rw[show 0+t * 1=ws.length by omega,zgE]
   show _=wM ws (256 * _+_)
   rw[zjD (by omega)]
  clear hO
  intro H hO
  replace hO:=hO.set_r
  repeat (first|refine oi ?_|refine ow ?_|refine wy ?_|refine wn ?_|refine wt ?_|refine wf' ?_|refine cy ?_|refine cn ?_)
  exact⟨4 - (y+1),by omega,y+1,by omega,rfl,rfl,hO⟩
 ·have hy:y=4:=by omega
  subst hy
  rw[zHF,zKA (by omega)] at hO
  exact hk H hO
theorem zAH{x a b:Nat}:zrg x [a,b]=rr x a ^^^ rr x b:=by
 show (0 ^^^ rr x a) ^^^ rr x b=_
 rw[Nat.zero_xor]
theorem zBH{x a b c:Nat}:zrg x [a,b,c]=(rr x a ^^^ rr x b) ^^^ rr x c:=by
 show ((0 ^^^ rr x a) ^^^ rr x b) ^^^ rr x c=_
 rw[Nat.zero_xor]
theorem zzk{a:Nat}(h:a < 4294967296):a < szU .u64:=Nat.lt_trans h (by decide)
set_option maxHeartbeats 2000000 in
theorem zDJ{p2 p7 p8 p10 m:Nat}{Qx:LX}{Qr:LN}(hv:RdB Γ v data)(hb:∀ x ∈ data,0≤x∧x≤255)(hm:64 * m+64≤data.length)(hl:data.length≤1000000000)
  (hO:St H (Γ++[(p10,⟨wL [],true⟩)]))
  (hk:∀ H',St H' (Γ++[(p10,⟨wL (wUp ((data.drop (64 * m)).take 64) 64),true⟩)])→Qx 6 [ptr p2 0,v,ptr p7 0,ptr p8 0,int ((64 * m:Nat):Int),ptr p10 0] H') :
  ztb P true 252 zaj 1932 [ptr p2 0,v,ptr p7 0,ptr p8 0,int ((64 * m:Nat):Int),ptr p10 0,int 0] H Qx Qr:=by
 have hbb:∀ x ∈ (data.drop (64 * m)).take 64,0≤x∧x≤255:=fun x hx=>hb x (List.mem_of_mem_drop (List.mem_of_mem_take hx))
 refine zyn (fun k l' H'=>∃ (y:Nat),y≤64∧k=64 - y∧l'=[ptr p2 0,v,ptr p7 0,ptr p8 0,int ((64 * m:Nat):Int),ptr p10 0,int y]∧St H' (Γ++[(p10,⟨wL (wUp ((data.drop (64 * m)).take 64) y),true⟩)])) _ _ ?_ 64 _ _ ⟨0,by omega,rfl,rfl,hO⟩
 clear hO
 rintro k l' H ⟨y,hy,rfl,rfl,hO⟩
 unfold zcn
 try simp only[zja,zka]
 have hwl:=zlp (b:=(data.drop (64 * m)).take 64) y
 have es:wUp ((data.drop (64 * m)).take 64) (y+1)=wUp ((data.drop (64 * m)).take 64) y++[zMl ((data.drop (64 * m)).take 64) (wUp ((data.drop (64 * m)).take 64) y) y]:=rfl
 have hlt:∀ i,(wUp ((data.drop (64 * m)).take 64) y).getD i 0 < 4294967296:=getD_lt (zGt hbb y)
 refine zaa zMa ?_
 refine zoa (fun h=>?_) (fun h=>?_)
 ·refine zaa zMa ?_
  refine zoa (fun h16=>?_) (fun h16=>?_)
  ·refine zCJ hv hb hm hl (by omega) hwl hO ?_
   clear hO
   intro H hO
   refine zSa rfl ?_
   try simp only[zja,zka]
   repeat (first|refine oi ?_|refine ow ?_|refine wy ?_|refine wn ?_|refine wt ?_|refine wf' ?_|refine cy ?_|refine cn ?_)
   refine⟨64 - (y+1),by omega,y+1,by omega,rfl,rfl,?_⟩
   rw[es,show zMl ((data.drop (64 * m)).take 64) (wUp ((data.drop (64 * m)).take 64) y) y=zEt ((data.drop (64 * m)).take 64) y by unfold zMl; rw[if_pos (by omega)]]
   exact hO
  ·generalize hws:wUp ((data.drop (64 * m)).take 64) y=ws at *
   have ld:∀ {i:Nat} {K:VH},i < y→K (u64 (ws.getD i 0)) H→opW (zca (ptr p10 (0+i * 1)) H) K:=fun {i K} hi hk=>zpa hO (Γ.length+0) (zza rfl) (v:=u64 (ws.getD i 0)) (by rw[show 0+i * 1=i by omega]; exact zzH (by omega)) hk
   have sm:∀ {o:Nat},zmb (zkb H H) (zJa [ptr p10 o]):=zFb hO (Γ.length+0) (zza rfl) hO (Γ.length+0) (zza rfl) zLt
   refine zaa (zBb (by omega) (by omega)) ?_
   refine zaa (zra (by omega) (by omega)) ?_
   rw[show ((y:Int) - 15).toNat=y - 15 by omega]
   refine ld (by omega) ?_
   refine zaa (zBb (by omega) (by omega)) ?_
   refine zaa (zra (by omega) (by omega)) ?_
   rw[show ((y:Int) - 2).toNat=y - 2 by omega]
   refine ld (by omega) ?_
   refine zaa (zBb (by omega) (by omega)) ?_
   refine zaa (zra (by omega) (by omega)) ?_
   rw[show ((y:Int) - 16).toNat=y - 16 by omega]
   refine ld (by omega) ?_
   refine zXc (n:=7) (hlt _) (by omega) (by omega) ?_
   refine⟨sm,?_⟩
   refine zXc (n:=18) (hlt _) (by omega) (by omega) ?_
   refine⟨sm,?_⟩
   have b1:=zIn (n:=7) (hlt (y - 15))
   have b2:=zIn (n:=18) (hlt (y - 15))
   have b3:=zIn (n:=17) (hlt (y - 2))
   have b4:=zIn (n:=19) (hlt (y - 2))
   have b5:ws.getD (y - 15) 0 / 2 ^ 3 < 4294967296:=Nat.lt_of_le_of_lt (Nat.div_le_self _ _) (hlt _)
   have b6:ws.getD (y - 2) 0 / 2 ^ 10 < 4294967296:=Nat.lt_of_le_of_lt (Nat.div_le_self _ _) (hlt _)
   refine zaa (zOb (k:=.u64) rfl (zzk b1) (zzk b2)) ?_
   refine zaa (zEf (k:=.u64) (n:=3) rfl (by decide)) ?_
   have b7:=Nat.xor_lt_two_pow (n:=32) b1 b2
   refine zaa (zOb (k:=.u64) rfl (zzk b7) (zzk b5)) ?_
   have b8:=Nat.xor_lt_two_pow (n:=32) b7 b5
   have c1:=hlt (y - 16)
   have c2:=hlt (y - 7)
   refine zaa (zJn (by omega)) ?_
   refine zaa (zBb (by omega) (by omega)) ?_
   refine zaa (zra (by omega) (by omega)) ?_
   rw[show ((y:Int) - 7).toNat=y - 7 by omega]
   refine ld (by omega) ?_
   refine⟨sm,sm,?_⟩
   refine zaa (zJn (by omega)) ?_
   refine zXc (n:=17) (hlt _) (by omega) (by omega) ?_
   refine⟨sm,sm,?_⟩
   refine zXc (n:=19) (hlt _) (by omega) (by omega) ?_
   refine⟨sm,sm,?_⟩
   refine zaa (zOb (k:=.u64) rfl (zzk b3) (zzk b4)) ?_
   refine zaa (zEf (k:=.u64) (n:=10) rfl (by decide)) ?_
   have b9:=Nat.xor_lt_two_pow (n:=32) b3 b4
   refine zaa (zOb (k:=.u64) rfl (zzk b9) (zzk b6)) ?_
   have b10:=Nat.xor_lt_two_pow (n:=32) b9 b6
   refine zaa (zJn (by omega)) ?_
   refine zaa (zDf (k:=.u64) (b:=4294967296) (by decide)) ?_
   refine zaa (zra (by omega) (by omega)) ?_
   rw[Int.toNat_natCast]
   rw[← zJA (by omega)] at hO
   refine zZa hO (Γ.length+0) (zza rfl) rfl (by rw[zfE (by omega)]; omega) (show _=wL (ws++[zMl ((data.drop (64 * m)).take 64) ws y]) from ?_) ?_
   ·rw[show 0+y * 1=ws.length by omega,zgE,zKA (by omega)]
    unfold zMl
    rw[if_neg (by omega),zAH,zAH]
   clear hO
   intro H hO
   replace hO:=hO.set_r
   rw[← es] at hO
   repeat (first|refine oi ?_|refine ow ?_|refine wy ?_|refine wn ?_|refine wt ?_|refine wf' ?_|refine cy ?_|refine cn ?_)
   exact⟨64 - (y+1),by omega,y+1,by omega,rfl,rfl,hO⟩
 ·have hy:y=64:=by omega
  subst hy
  exact hk H hO
end J
set_option maxRecDepth 100000
namespace J
open Go Go.Ab
variable{H:Heap}{Γ Γ0 Γ2 Δ G:List (Nat × Blk)}{K:VH}{v w x:Value}{xs ys zs bs b data:List Int}{j p pd pz:Nat}{e:Int}{cs:List Value}
def l8(x:W8):List Value:=x.l.map fun (n:Nat)=>u64 n
theorem zLA(x:W8):(l8 x).all zrb=true:=rfl
theorem b8(a b c d e f g h:Int):(zDa P 114).f [(0,.int .u64 a),(1,.int .u64 b),(2,.int .u64 c),(3,.int .u64 d),(4,.int .u64 e),(5,.int .u64 f),(6,.int .u64 g),(7,.int .u64 h)]=some (agg [.int .u64 a,.int .u64 b,.int .u64 c,.int .u64 d,.int .u64 e,.int .u64 f,.int .u64 g,.int .u64 h]):=by kernel_rfl
theorem zPI{i:Nat}(h:i < 64):(zdk.map fun (n:Nat)=>u64 n)[i]?=some (u64 (zdk.getD i 0)):=by
 have hl:zdk.length=64:=rfl
 simp[hl,h]
theorem zMA:(zdk.map fun (n:Nat)=>u64 n).all zrb=true:=by simp[zrb,zle]
theorem zIF{t:TypeId}{c:Bool}{a:Nat}:(zna P .rem t c).f (u64 a) (.int .u64 4294967296)=some (u64 (a % 4294967296)):=zDf (k:=.u64) (b:=4294967296) (by decide)
set_option maxHeartbeats 4000000 in
theorem zEJ{p2 p7 p8 p10 p15 at':Nat}{s:W8}{ws:List Nat}{Qx:LX}{Qr:LN}(hs:s.Ok)(hw:∀ x ∈ ws,x < 4294967296)(hwl:ws.length=64){j8 j10:Nat}(h8:Γ[j8]?=some (p8,⟨zdk.map fun (n:Nat)=>u64 n,true⟩))(h10:Γ[j10]?=some (p10,⟨wL ws,true⟩))
  (hO:St H (Γ++[(p15,⟨l8 s,true⟩)]))
  (hk:∀ H',St H' (Γ++[(p15,⟨l8 (zqv ws s 64),true⟩)])→Qx 10 [ptr p2 0,v,ptr p7 0,ptr p8 0,int at',ptr p15 0] H') :
  ztb P true 252 zcj 33676 [ptr p2 0,v,ptr p7 0,ptr p8 0,int at',ptr p10 0,ptr p15 0,int 0] H Qx Qr:=by
 refine zzn (fun k l' H'=>∃ (y:Nat),y≤64∧k=64 - y∧l'=[ptr p2 0,v,ptr p7 0,ptr p8 0,int at',ptr p10 0,ptr p15 0,int y]∧St H' (Γ++[(p15,⟨l8 (zqv ws s y),true⟩)])) _ _ ?_ 64 _ _ ⟨0,by omega,rfl,rfl,hO⟩
 clear hO
 rintro k l' H ⟨y,hy,rfl,rfl,hO⟩
 unfold zdn
 try simp only[zja,zka]
 refine zaa zMa ?_
 refine zoa (fun h=>?_) (fun h=>?_)
 rotate_left
 ·have ey:y=64:=by omega
  subst ey
  exact hk _ hO
 have hxo:=zkp (w:=ws) hs y
 have ew:ws.getD y 0 < 4294967296:=getD_lt hw y
 have ek:=zMI y
 have er:zqv ws s (y+1)=zlH (zqv ws s y) (zdk.getD y 0) (ws.getD y 0):=rfl
 generalize zqv ws s y=x at *
 have i15:(Γ++[(p15,(⟨l8 x,true⟩:Blk))])[Γ.length+0]?=some (p15,⟨l8 x,true⟩):=zza rfl
 have sm:∀ {o:Nat},zmb (zkb H H) (zJa [ptr p15 o]):=zFb hO _ i15 hO _ i15 (zLA x)
 have sm8:∀ {o:Nat},zmb (zkb H H) (zJa [ptr p8 o]):=zFb hO _ (zAa h8) hO _ (zAa h8) zMA
 have sm10:∀ {o:Nat},zmb (zkb H H) (zJa [ptr p10 o]):=zFb hO _ (zAa h10) hO _ (zAa h10) zLt
 have ix:∀ {i:Int} {h:0≤i} {h':i < 8},True:=trivial
 refine zaa (zra (by omega) (by omega)) ?_
 refine zpa hO _ i15 (v:=u64 x.e) rfl ?_
 refine zaa (zra (by omega) (by omega)) ?_
 refine zpa hO _ i15 (v:=u64 x.f) rfl ?_
 refine zaa (zne (k:=.u64) rfl (zzk hxo.e) (zzk hxo.f)) ?_
 refine zaa (v:=u64 (4294967295 - x.e)) (by
  have:=hxo.e
  rw[show (Value.int .u64 4294967295)=zwb .u64 4294967295 from rfl,zLr rfl (by omega) (by decide)]) ?_
 refine zaa (zra (by omega) (by omega)) ?_
 refine zpa hO _ i15 (v:=u64 x.g) rfl ?_
 refine zaa (zne (k:=.u64) rfl (zzk (by omega)) (zzk hxo.g)) ?_
 refine zaa (zOb (k:=.u64) rfl (zzk (Nat.and_lt_two_pow (n:=32) _ hxo.f)) (zzk (Nat.and_lt_two_pow (n:=32) _ hxo.g))) ?_
 have hch:chF x.e x.f x.g < 4294967296:=zmH hxo.e hxo.f hxo.g
 rw[show (x.e &&& x.f) ^^^ ((4294967295 - x.e) &&& x.g)=chF x.e x.f x.g from rfl]
 refine zaa (zra (by omega) (by omega)) ?_
 refine zpa hO _ i15 (v:=u64 x.h) rfl ?_
 have b6:=zIn (n:=6) hxo.e
 have b11:=zIn (n:=11) hxo.e
 have b25:=zIn (n:=25) hxo.e
 have b2:=zIn (n:=2) hxo.a
 have b13:=zIn (n:=13) hxo.a
 have b22:=zIn (n:=22) hxo.a
 refine zXc (n:=6) hxo.e (by omega) (by omega) ?_
 refine⟨sm,?_⟩
 refine zXc (n:=11) hxo.e (by omega) (by omega) ?_
 refine⟨sm,?_⟩
 refine zaa (zOb (k:=.u64) rfl (zzk b6) (zzk b11)) ?_
 refine zXc (n:=25) hxo.e (by omega) (by omega) ?_
 refine⟨sm,?_⟩
 refine zaa (zOb (k:=.u64) rfl (zzk (Nat.xor_lt_two_pow (n:=32) b6 b11)) (zzk b25)) ?_
 rw[← zBH]
 have hS1:zrg x.e [6,11,25] < 4294967296:=zNl hxo.e
 have hh:=hxo.h
 refine zaa (zJn (by omega)) ?_
 refine zaa (zJn (by omega)) ?_
 refine zaa (zra (by omega) (by omega)) ?_
 rw[Int.toNat_natCast]
 refine zpa hO _ (zAa h8) (v:=u64 (zdk.getD y 0)) (by rw[show 0+y * 1=y by omega]; exact zPI (by omega)) ?_
 refine⟨sm8,sm8,sm8,?_⟩
 refine zaa (zJn (by omega)) ?_
 refine zaa (zra (by omega) (by omega)) ?_
 rw[Int.toNat_natCast]
 refine zpa hO _ (zAa h10) (v:=u64 (ws.getD y 0)) (by rw[show 0+y * 1=y by omega]; exact zzH (by omega)) ?_
 refine⟨sm10,sm10,sm10,?_⟩
 refine zaa (zJn (by omega)) ?_
 refine zaa (zra (by omega) (by omega)) ?_
 refine zpa hO _ i15 (v:=u64 x.a) rfl ?_
 refine zaa (zra (by omega) (by omega)) ?_
 refine zpa hO _ i15 (v:=u64 x.b) rfl ?_
 refine zaa (zne (k:=.u64) rfl (zzk hxo.a) (zzk hxo.b)) ?_
 refine zaa (zra (by omega) (by omega)) ?_
 refine zpa hO _ i15 (v:=u64 x.a) rfl ?_
 refine zaa (zra (by omega) (by omega)) ?_
 refine zpa hO _ i15 (v:=u64 x.c) rfl ?_
 refine zaa (zne (k:=.u64) rfl (zzk hxo.a) (zzk hxo.c)) ?_
 have ab:=Nat.and_lt_two_pow (n:=32) x.a hxo.b
 have ac:=Nat.and_lt_two_pow (n:=32) x.a hxo.c
 have bc:=Nat.and_lt_two_pow (n:=32) x.b hxo.c
 refine zaa (zOb (k:=.u64) rfl (zzk ab) (zzk ac)) ?_
 refine zaa (zra (by omega) (by omega)) ?_
 refine zpa hO _ i15 (v:=u64 x.b) rfl ?_
 refine zaa (zra (by omega) (by omega)) ?_
 refine zpa hO _ i15 (v:=u64 x.c) rfl ?_
 refine zaa (zne (k:=.u64) rfl (zzk hxo.b) (zzk hxo.c)) ?_
 refine zaa (zOb (k:=.u64) rfl (zzk (Nat.xor_lt_two_pow (n:=32) ab ac)) (zzk bc)) ?_
 rw[show ((x.a &&& x.b) ^^^ (x.a &&& x.c)) ^^^ (x.b &&& x.c)=zqF x.a x.b x.c from rfl]
 have hmj:zqF x.a x.b x.c < 4294967296:=ztF hxo.b hxo.c
 refine zaa (zra (by omega) (by omega)) ?_
 refine zpa hO _ i15 (v:=u64 x.a) rfl ?_
 refine zXc (n:=2) hxo.a (by omega) (by omega) ?_
 refine zaa (zra (by omega) (by omega)) ?_
 refine zpa hO _ i15 (v:=u64 x.a) rfl ?_
 refine⟨sm,?_⟩
 refine zXc (n:=13) hxo.a (by omega) (by omega) ?_
 refine zaa (zOb (k:=.u64) rfl (zzk b2) (zzk b13)) ?_
 refine zaa (zra (by omega) (by omega)) ?_
 refine zpa hO _ i15 (v:=u64 x.a) rfl ?_
 refine⟨sm,sm,?_⟩
 refine zXc (n:=22) hxo.a (by omega) (by omega) ?_
 refine zaa (zOb (k:=.u64) rfl (zzk (Nat.xor_lt_two_pow (n:=32) b2 b13)) (zzk b22)) ?_
 rw[← zBH]
 have hS0:zrg x.a [2,13,22] < 4294967296:=zNl hxo.a
 have hd:=hxo.d
 refine zaa (zJn (by omega)) ?_
 refine zaa (zJn (by omega)) ?_
 refine zaa zIF ?_
 refine zaa (zra (by omega) (by omega)) ?_
 refine zpa hO _ i15 (v:=u64 x.a) rfl ?_
 refine zaa (zra (by omega) (by omega)) ?_
 refine zpa hO _ i15 (v:=u64 x.b) rfl ?_
 refine zaa (zra (by omega) (by omega)) ?_
 refine zpa hO _ i15 (v:=u64 x.c) rfl ?_
 refine zaa (zra (by omega) (by omega)) ?_
 refine zpa hO _ i15 (v:=u64 x.d) rfl ?_
 refine zaa (zJn (by omega)) ?_
 refine zaa zIF ?_
 refine zaa (zra (by omega) (by omega)) ?_
 refine zpa hO _ i15 (v:=u64 x.e) rfl ?_
 refine zaa (zra (by omega) (by omega)) ?_
 refine zpa hO _ i15 (v:=u64 x.f) rfl ?_
 refine zaa (zra (by omega) (by omega)) ?_
 refine zpa hO _ i15 (v:=u64 x.g) rfl ?_
 refine zaa (b8 _ _ _ _ _ _ _ _) ?_
 refine zva hO _ i15 rfl rfl rfl ?_
 clear hO sm sm8 sm10
 intro H hO
 replace hO:=hO.set_r
 have e1:(x.h+zrg x.e [6,11,25]+chF x.e x.f x.g+zdk.getD y 0+ws.getD y 0+(zrg x.a [2,13,22]+zqF x.a x.b x.c)) % 4294967296=(t1F x (zdk.getD y 0) (ws.getD y 0)+t2F x) % 4294967296:=by
  unfold t1F t2F
  rw[← Nat.add_mod]
 have e2:(x.d+(x.h+zrg x.e [6,11,25]+chF x.e x.f x.g+zdk.getD y 0+ws.getD y 0)) % 4294967296=(x.d+t1F x (zdk.getD y 0) (ws.getD y 0)) % 4294967296:=by
  unfold t1F
  rw[Nat.add_mod_mod]
 rw[e1,e2] at hO
 repeat (first|refine oi ?_|refine ow ?_|refine wy ?_|refine wn ?_|refine wt ?_|refine wf' ?_|refine cy ?_|refine cn ?_)
 refine⟨64 - (y+1),by omega,y+1,by omega,rfl,rfl,?_⟩
 rw[er]
 exact hO
end J
set_option maxRecDepth 100000
namespace J
open Go Go.Ab
variable{H:Heap}{Γ Γ0 Γ2 Δ G:List (Nat × Blk)}{K:VH}{v w x:Value}{xs ys zs bs b data:List Int}{j p pd pz:Nat}{e:Int}{cs:List Value}
theorem zFJ:(zDa P 116).f []=some (agg (wL [])):=by kernel_rfl
theorem zJF:zc P 116=wL []:=by kernel_rfl
theorem zQI:zc P 114=List.replicate 8 (u64 0):=by kernel_rfl
theorem zfy(hO:St H Γ)(hk:∀ H',St H' Γ→K (agg (l8 zsF)) H'):wCall P zQh [] H K:=by
 apply zXp; unfold zZo
 rw[zQI]
 refine zhb hO ?_
 clear hO
 intro p H hO
 refine zaa (v:=agg (l8 zsF)) (by kernel_rfl) ?_
 refine zva hO (Γ.length+0) (zza rfl) rfl rfl rfl ?_
 clear hO
 intro H hO
 replace hO:=hO.set_r
 refine zHa hO (Γ.length+0) (zza rfl) rfl (by omega) ?_
 exact hk _ hO.left
theorem zvv(hO:St H Γ)(hk:∀ H',St H' Γ→K (agg (zdk.map fun (n:Nat)=>u64 n)) H'):wCall P zVg [] H K:=by
 apply zap; unfold zhn
 rw[zJF]
 refine zhb hO ?_
 clear hO
 intro p H hO
 refine zaa (v:=agg (zdk.map fun (n:Nat)=>u64 n)) (by kernel_rfl) ?_
 refine zva hO (Γ.length+0) (zza rfl) rfl rfl rfl ?_
 clear hO
 intro H hO
 replace hO:=hO.set_r
 refine zHa hO (Γ.length+0) (zza rfl) rfl (by omega) ?_
 exact hk _ hO.left
theorem zCH{s:W8}(h:s.Ok):∀ x ∈ s.l,x < 4294967296:=by
 intro x hx
 simp only[W8.l,List.mem_cons,List.not_mem_nil,or_false] at hx
 rcases hx with rfl|rfl|rfl|rfl|rfl|rfl|rfl|rfl
 ·exact h.a
 ·exact h.b
 ·exact h.c
 ·exact h.d
 ·exact h.e
 ·exact h.f
 ·exact h.g
 ·exact h.h
theorem zGJ{s R:W8}{p2 p7 p8 p15 at':Nat}{B:Blk}{T:List (Nat × Blk)}{Qx:LX}{Qr:LN}(hs:s.Ok)(hR:R.Ok)(i15:T[1]?=some (p15,⟨l8 R,true⟩))
  (hO:St H (Γ++([(p7,⟨l8 s,true⟩),(p8,B)]++T)))
  (hk:∀ H',St H' (Γ++([(p7,⟨l8 (zEG s R),true⟩),(p8,B)]++T))→Qx 12 [ptr p2 0,v,ptr p7 0,ptr p8 0,int at'] H') :
  ztb P true 252 zdj 908 [ptr p2 0,v,ptr p7 0,ptr p8 0,int at',ptr p15 0,int 0] H Qx Qr:=by
 refine zAn (fun k l' H'=>∃ (y:Nat),y≤8∧k=8 - y∧l'=[ptr p2 0,v,ptr p7 0,ptr p8 0,int at',ptr p15 0,int y]∧St H' (Γ++([(p7,⟨(zuv s.l R.l y).map fun (n:Nat)=>u64 n,true⟩),(p8,B)]++T))) _ _ ?_ 8 _ _ ⟨0,by omega,rfl,rfl,hO⟩
 clear hO
 rintro k l' H ⟨y,hy,rfl,rfl,hO⟩
 unfold zen
 try simp only[zja,zka]
 have hls:s.l.length=8:=rfl
 have hlR:R.l.length=8:=rfl
 refine zaa zMa ?_
 refine zoa (fun h=>?_) (fun h=>?_)
 ·have hy8:y < 8:=by omega
  have b1:s.l.getD y 0 < 4294967296:=getD_lt (zCH hs) y
  have b2:R.l.getD y 0 < 4294967296:=getD_lt (zCH hR) y
  have a1:((zuv s.l R.l y).map fun (n:Nat)=>u64 n)[0+y * 1]?=some (u64 (s.l.getD y 0)):=by
   rw[show 0+y * 1=y by omega,List.getElem?_map,zds (by omega),if_neg (by omega)]; rfl
  have a2:(l8 R)[0+y * 1]?=some (u64 (R.l.getD y 0)):=by
   unfold l8
   rw[show 0+y * 1=y by omega,List.getElem?_map,List.getElem?_eq_getElem (by omega),List.getD_eq_getElem?_getD,List.getElem?_eq_getElem (by omega)]; rfl
  have a3:((zuv s.l R.l y).map fun (n:Nat)=>u64 n).set (0+y * 1) (u64 ((s.l.getD y 0+R.l.getD y 0) % 4294967296))=(zuv s.l R.l (y+1)).map fun (n:Nat)=>u64 n:=by
   rw[← zNw (by omega),List.map_set,show 0+y * 1=y by omega]
  refine zaa (zra (by omega) (by omega)) ?_
  rw[Int.toNat_natCast]
  refine zpa hO (Γ.length+0) (zza rfl) a1 ?_
  refine zaa (zra (by omega) (by omega)) ?_
  rw[Int.toNat_natCast]
  refine zpa hO (Γ.length+(2+1)) (zza (zza (Γ:=[_,_]) i15)) a2 ?_
  refine zaa (zJn (by omega)) ?_
  refine zaa zIF ?_
  refine zaa (zra (by omega) (by omega)) ?_
  rw[Int.toNat_natCast]
  refine zZa hO (Γ.length+0) (zza rfl) rfl (zHA a1) a3 ?_
  clear hO
  intro H hO
  replace hO:=hO.set_r
  repeat (first|refine oi ?_|refine ow ?_|refine wy ?_|refine wn ?_|refine wt ?_|refine wf' ?_|refine cy ?_|refine cn ?_)
  exact⟨_,by omega,y+1,by omega,rfl,rfl,hO⟩
 ·have ey:y=8:=by omega
  subst ey
  rw[zcE] at hO
  exact hk _ hO
theorem zHJ{s:W8}{p2 p7 p23:Nat}{T:List (Nat × Blk)}{Qx:LX}{Qr:LN}(hs:s.Ok){j7:Nat}(h7:Γ[j7]?=some (p7,⟨l8 s,true⟩))(hO:St H (Γ++[(p23,⟨zMp [],true⟩)]))
  (hk:∀ H',St H' (Γ++[(p23,⟨by8 (zsg s),true⟩)])→Qx 14 [ptr p2 0,ptr p23 0] H') :
  ztb P true 252 zej 8388612 [ptr p2 0,ptr p7 0,ptr p23 0,int 0] H Qx Qr:=by
 refine zxn (fun k l' H'=>∃ (y:Nat),y≤32∧k=32 - y∧l'=[ptr p2 0,ptr p7 0,ptr p23 0,int y]∧St H' (Γ++[(p23,⟨zMp ((zsg s).take y),true⟩)])) _ _ ?_ 32 _ _ ⟨0,by omega,rfl,rfl,hO⟩
 clear hO
 rintro k l' H ⟨y,hy,rfl,rfl,hO⟩
 unfold zbn
 try simp only[zja,zka]
 refine zaa zMa ?_
 refine zoa (fun h=>?_) (fun h=>?_)
 ·have hlen:((zsg s).take y).length=y:=by rw[List.length_take,zBh]; omega
  have hm:y / 4 < 8:=by omega
  have hi:y % 4 < 4:=by omega
  have a2:(l8 s)[0+y / 4 * 1]?=some (u64 (s.l.getD (y / 4) 0)):=by
   have hlR:s.l.length=8:=rfl
   unfold l8
   rw[show 0+y / 4 * 1=y / 4 by omega,List.getElem?_map,List.getElem?_eq_getElem (by omega),List.getD_eq_getElem?_getD,List.getElem?_eq_getElem (by omega)]; rfl
  refine zaa (zes (b:=4) (by omega) (by omega)) ?_
  refine zaa (zra (by omega) (by omega)) ?_
  rw[Int.toNat_natCast]
  refine zpa hO j7 (zAa h7) a2 ?_
  refine zaa (v:=int ((y % 4:Nat):Int)) (zDf (k:=.i64) (b:=4) (by decide)) ?_
  refine zaa (v:=int ((8 * (y % 4):Nat):Int)) (by rw[zPh (by omega) (by omega)]; congr 2 <;> omega) ?_
  refine zaa (v:=int ((24 - 8 * (y % 4):Nat):Int)) (by rw[zBb (by omega) (by omega)]; congr 2 <;> omega) ?_
  refine zaa (zEf (k:=.u64) rfl (show 24 - 8 * (y % 4)≤64 by omega)) ?_
  refine zaa (zDf (k:=.u64) (b:=256) (by decide)) ?_
  refine zxa (cvU (k':=.u8) rfl) ?_
  refine zaa (zra (by omega) (by omega)) ?_
  rw[Int.toNat_natCast]
  refine zZa hO (Γ.length+0) (zza rfl) rfl (show 0+y * 1 < (zMp ((zsg s).take y)).length by rw[zOw (by omega)]; omega) (show _=zMp ((zsg s).take (y+1)) from ?_) ?_
  ·have h1:=hash_step (s:=s) hm hi
   rw[show 4 * (y / 4)+y % 4=y by omega] at h1
   rw[← h1,← zPw (by omega),hlen,show 0+y * 1=y by omega]
   rw[show szU .u8=256 from rfl,Nat.mod_mod]
  clear hO
  intro H hO
  replace hO:=hO.set_r
  repeat (first|refine oi ?_|refine ow ?_|refine wy ?_|refine wn ?_|refine wt ?_|refine wf' ?_|refine cy ?_|refine cn ?_)
  exact⟨32 - (y+1),by omega,y+1,by omega,rfl,rfl,hO⟩
 ·have hy:y=32:=by omega
  subst hy
  have e:zMp ((zsg s).take 32)=by8 (zsg s):=by
   rw[List.take_of_length_le (by rw[zBh]; omega)]
   unfold zMp
   rw[zBh,Nat.sub_self,List.replicate_zero,List.append_nil]
  rw[e] at hO
  exact hk H hO
theorem zIJ{t0:Value}{p2:Nat}{Qx:LX}{Qr:LN}(hO:St H (Γ++zRa v cs))(hv:OwnB v (xs++[128]) cs)(hl:xs.length≤90000000)
  (hk:∀ H' v' cs',St H' (Γ++zRa v' cs')→OwnB v' (xs++[128]++List.replicate (zEm xs.length) 0) cs'→Qx 0 [t0,ptr p2 0,v'] H') :
  ztb P true 252 zXi 13 [t0,ptr p2 0,v] H Qx Qr:=by
 refine zun (fun k l' H'=>∃ (y:Nat) (v:Value) (cs:List Value),y≤zEm xs.length∧k=zEm xs.length - y∧l'=[t0,ptr p2 0,v]∧St H' (Γ++zRa v cs)∧OwnB v (xs++[128]++List.replicate y 0) cs) _ _ ?_ (zEm xs.length) _ _ ⟨0,v,cs,by omega,rfl,rfl,hO,by rw[List.replicate_zero,List.append_nil]; exact hv⟩
 clear hO hv
 rintro k l' H ⟨y,v,cs,hy,rfl,rfl,hO,hv⟩
 unfold zYm
 try simp only[zja,zka]
 have hlen:(xs++[128]++List.replicate y (0:Int)).length=xs.length+1+y:=by simp; omega
 have hpz:zEm xs.length < 64:=Nat.mod_lt _ (by decide)
 refine zxa hv.lenSl ?_
 refine zaa (v:=int (((xs++[128]++List.replicate y (0:Int)).length % 64:Nat):Int)) (zDf (k:=.i64) (b:=64) (by decide)) ?_
 rw[hlen]
 refine zaa zeb ?_
 refine zoa (fun h=>?_) (fun h=>?_)
 ·have hlt:y < zEm xs.length:=by
   unfold zEm at hy ⊢
   omega
  refine zCa hO (zFG 0 _) ?_
  clear hO
  intro q H hO
  refine zwd (ys:=[0]) hO hv (by rw[hlen]; simp; omega) rfl (.inr rfl) ?_
  clear hO hv
  intro H v cs hO hv
  rw[List.append_assoc _ (List.replicate y 0),← List.replicate_succ'] at hv
  exact⟨zEm xs.length - (y+1),by omega,y+1,v,cs,by omega,rfl,rfl,hO,hv⟩
 ·have hy:y=zEm xs.length:=by
   unfold zEm at hy ⊢
   omega
  subst hy
  exact hk H v cs hO hv
theorem zDH:∀ y,y < 8→72057594037927936 / 256 ^ y=2 ^ (56 - 8 * y):=by decide
theorem zJJ{p2 n:Nat}{Qx:LX}{Qr:LN}(hO:St H (Γ++zRa v cs))(hv:OwnB v zs cs)(hl:zs.length≤95000000)(hn:n < 18446744073709551616)
  (hk:∀ H' v' cs',St H' (Γ++zRa v' cs')→OwnB v' (zs++be8 n) cs'→Qx 2 [ptr p2 0,v'] H') :
  ztb P true 252 zYi 12 [ptr p2 0,v,zwb .u64 n,.int .u64 72057594037927936,int 0] H Qx Qr:=by
 refine zvn (fun k l' H'=>∃ (y:Nat) (v:Value) (cs:List Value),y≤8∧k=8 - y∧l'=[ptr p2 0,v,zwb .u64 n,zwb .u64 (72057594037927936 / 256 ^ y),int y]∧St H' (Γ++zRa v cs)∧OwnB v (zs++(be8 n).take y) cs) _ _ ?_ 8 _ _ ⟨0,v,cs,by omega,rfl,rfl,hO,by rw[List.take_zero,List.append_nil]; exact hv⟩
 clear hO hv
 rintro k l' H ⟨y,v,cs,hy,rfl,rfl,hO,hv⟩
 unfold zZm
 try simp only[zja,zka]
 refine zaa zMa ?_
 refine zoa (fun h=>?_) (fun h=>?_)
 ·have hy8:y < 8:=by omega
  have hf:=zDH y hy8
  have hp:0 < 2 ^ (56 - 8 * y):=Nat.two_pow_pos _
  refine zaa (zMr (k:=.u64) rfl (by rw[hf]; exact hp) hn) ?_
  rw[hf]
  refine zaa (zDf (k:=.u64) (b:=256) (by decide)) ?_
  refine zxa (cvU (k':=.u8) rfl) ?_
  rw[show szU .u8=256 from rfl,Nat.mod_mod]
  refine zCa hO (zFG _ _) ?_
  clear hO
  intro q H hO
  refine zwd (ys:=[((n / 2 ^ (56 - 8 * y) % 256:Nat):Int)]) hO hv (by rw[List.length_append,List.length_take]; simp; omega) rfl (.inr rfl) ?_
  clear hO hv
  intro H v cs hO hv
  have e:(be8 n).take y++[((n / 2 ^ (56 - 8 * y) % 256:Nat):Int)]=(be8 n).take (y+1):=by
   rw[List.take_add_one,zdE hy8]; rfl
  rw[List.append_assoc,e] at hv
  have hb:2 ^ (56 - 8 * y) < szU .u64:=Nat.lt_of_le_of_lt (Nat.pow_le_pow_right (by omega) (show 56 - 8 * y≤56 by omega)) (by decide)
  refine zaa (zMr (k:=.u64) (b:=256) rfl (by decide) hb) ?_
  repeat (first|refine oi ?_|refine ow ?_|refine wy ?_|refine wn ?_|refine wt ?_|refine wf' ?_|refine cy ?_|refine cn ?_)
  refine⟨8 - (y+1),by omega,y+1,v,cs,by omega,rfl,?_,hO,hv⟩
  rw[← hf,Nat.div_div_eq_div_mul,← Nat.pow_succ]
  rfl
 ·have hy:y=8:=by omega
  subst hy
  rw[List.take_of_length_le (by rw[zas]; omega)] at hv
  exact hk H v cs hO hv
theorem zKJ{p2 p7 p8:Nat}{Qx:LX}{Qr:LN}(hv:RdB Γ v data)(hb:∀ x ∈ data,0≤x∧x≤255)(hm:data.length % 64=0)(hl:data.length≤1000000000)
  (hO:St H (Γ++[(p7,⟨l8 zsF,true⟩),(p8,⟨zdk.map fun (n:Nat)=>u64 n,true⟩)]))
  (hk:∀ H',St H' (Γ++[(p7,⟨l8 (dSt data),true⟩),(p8,⟨zdk.map fun (n:Nat)=>u64 n,true⟩)])→Qx 4 [ptr p2 0,ptr p7 0] H') :
  ztb P true 252 zZi 132 [ptr p2 0,v,ptr p7 0,ptr p8 0,int 0] H Qx Qr:=by
 refine zwn (fun k l' H'=>∃ (y:Nat),64 * y≤data.length∧k=data.length / 64 - y∧l'=[ptr p2 0,v,ptr p7 0,ptr p8 0,int ((64 * y:Nat):Int)]∧St H' (Γ++[(p7,⟨l8 (stN data y),true⟩),(p8,⟨zdk.map fun (n:Nat)=>u64 n,true⟩)])) _ _ ?_ (data.length / 64) _ _ ⟨0,by omega,rfl,rfl,hO⟩
 clear hO
 rintro k l' H ⟨y,hy,rfl,rfl,hO⟩
 unfold zan
 try simp only[zja,zka]
 refine zxa hv.lenSl ?_
 refine zaa zMa ?_
 refine zoa (fun h=>?_) (fun h=>?_)
 ·have hy64:64 * y+64≤data.length:=by omega
  have hbb:∀ x ∈ (data.drop (64 * y)).take 64,0≤x∧x≤255:=fun x hx=>hb x (List.mem_of_mem_drop (List.mem_of_mem_take hx))
  refine zaa zFJ ?_
  rw[zJF]
  refine zhb hO ?_
  clear hO
  intro p10 H hO
  refine zva hO (_+0) (zza rfl) rfl rfl rfl ?_
  clear hO
  intro H hO
  replace hO:=hO.set_r
  refine zDJ hv.app hb hy64 hl hO ?_
  clear hO
  intro H hO
  refine zSa rfl ?_
  try simp only[zja,zka]
  refine zHa hO (Γ.length+0) (zAa (zza rfl)) rfl (by omega) ?_
  rw[zQI]
  refine zhb hO ?_
  clear hO
  intro p15 H hO
  refine zva hO (_+0) (zza rfl) rfl rfl rfl ?_
  clear hO
  intro H hO
  replace hO:=hO.set_r
  refine zEJ (s:=stN data y) (ws:=wUp ((data.drop (64 * y)).take 64) 64) (zFt y) (zGt hbb 64) (zlp 64) (j8:=Γ.length+1) (j10:=_+0) (zAa (zza rfl)) (zza rfl) hO ?_
  clear hO
  intro H hO
  refine zSa rfl ?_
  try simp only[zja,zka]
  rw[List.append_assoc,List.append_assoc] at hO
  refine zGJ (s:=stN data y) (R:=zqv (wUp ((data.drop (64 * y)).take 64) 64) (stN data y) 64) (T:=[(p10,_),(p15,_)]) (zFt y) (zkp (zFt y) 64) rfl hO ?_
  clear hO
  intro H hO
  refine zSa rfl ?_
  try simp only[zja,zka]
  refine zaa (v:=int ((64 * (y+1):Nat):Int)) (by rw[zoc (by omega) (by omega)]; congr 2 <;> omega) ?_
  refine⟨data.length / 64 - (y+1),by omega,y+1,by omega,rfl,rfl,?_⟩
  rw[← List.append_assoc] at hO
  exact hO.left
 ·have ey:y=data.length / 64:=by omega
  subst ey
  exact hk _ hO
set_option maxHeartbeats 1000000 in
theorem zig(hO:St H Γ)(hx:RdB Γ x xs)(hb:∀ x ∈ xs,0≤x∧x≤255)(hl:xs.length≤80000000)(hk:∀ H',St H' Γ→K (agg (by8 (sha xs))) H'):wCall P zib [x] H K:=by
 apply zpt; unfold zot
 rw[zJt]
 refine zhb hO ?_
 clear hO
 intro p2 H hO
 refine zCa hO (zpn _) ?_
 clear hO
 intro q H hO
 refine zSc (v:=sl q 0 0 3) (cs:=[]) (xs:=[]) hO (.inr ⟨q,.inr ⟨rfl,rfl⟩,rfl,Nat.le_refl _,rfl⟩) hx.app (by simp; omega) ?_
 clear hO
 intro H v cs hO hv
 refine zCa hO (zFG 128 _) ?_
 clear hO
 intro q2 H hO
 refine zwd (ys:=[128]) hO hv (by simp; omega) rfl (.inr rfl) ?_
 clear hO hv
 intro H v cs hO hv
 refine zIJ (xs:=xs) hO hv (by omega) ?_
 clear hO hv
 intro H v cs hO hv
 refine zSa rfl ?_
 try simp only[zja,zka]
 have hpz:zEm xs.length < 64:=Nat.mod_lt _ (by decide)
 have hpl:=zhD (xs:=xs)
 have hpb:∀ x ∈ zDA xs,0≤x∧x≤255:=zyd (zyd (zyd hb (zey (by decide))) zIt) zeE
 have hpm:(zDA xs).length≤1000000000:=by
  unfold zDA
  rw[List.length_append,List.length_append,List.length_append,List.length_replicate,zas]
  show xs.length+1+zEm xs.length+8≤_
  omega
 refine zxa hx.lenSl ?_
 refine zxa (zDG (by omega) (by omega)) ?_
 rw[Int.toNat_natCast]
 refine zaa (v:=zwb .u64 (8 * xs.length)) (by
  rw[show (Value.int .u64 8)=zwb .u64 8 from rfl,zKr (k:=.u64) rfl,Nat.mod_eq_of_lt (show xs.length * 8 < szU .u64 from (show _ < 18446744073709551616 by omega)),Nat.mul_comm]) ?_
 refine zJJ hO hv (by simp; omega) (by omega) ?_
 clear hO hv
 intro H v cs hO hv
 replace hv:OwnB v (zDA xs) cs:=hv
 refine zSa rfl ?_
 try simp only[zja,zka]
 refine zfy hO ?_
 clear hO
 intro H hO
 refine zvv hO ?_
 clear hO
 intro H hO
 rw[zQI,zJF]
 refine zhb hO ?_
 clear hO
 intro p7 H hO
 refine zhb hO ?_
 clear hO
 intro p8 H hO
 rw[List.append_assoc _ [_] [_]] at hO
 refine zva hO (_+0) (zza (L:=[_]++[_]) rfl) rfl rfl rfl ?_
 clear hO
 intro H hO
 replace hO:=hO.set_r
 refine zva hO (_+1) (zza (L:=[_,_]) rfl) rfl rfl rfl ?_
 clear hO
 intro H hO
 replace hO:=hO.set_r
 refine zKJ (data:=zDA xs) hv.rd.app' hpb hpl hpm hO ?_
 clear hO
 intro H hO
 refine zSa rfl ?_
 try simp only[zja,zka]
 refine zaa (v:=agg (zMp [])) (by kernel_rfl) ?_
 rw[show List.replicate 32 (zwb .u8 0)=zMp [] from rfl] at hO ⊢
 refine zhb hO ?_
 clear hO
 intro p23 H hO
 refine zva hO (_+0) (zza rfl) rfl rfl rfl ?_
 clear hO
 intro H hO
 replace hO:=hO.set_r
 refine zHJ (s:=dSt (zDA xs)) (T:=[]) (zFt _) (j7:=_+0) (zza (L:=[_,_]) rfl) hO ?_
 clear hO
 intro H hO
 refine zSa rfl ?_
 try simp only[zja,zka]
 refine zHa hO (_+0) (zza rfl) rfl (by omega) ?_
 refine zva hO (Γ.length+0) (zAa (zAa (zAa (zza rfl)))) rfl rfl (zze _) ?_
 clear hO
 intro H hO
 rw[List.set_append_left _ _ (by simp),List.set_append_left _ _ (by simp),List.set_append_left _ _ (by simp),Go.Ab.set_r] at hO
 refine zHa hO (Γ.length+0) (zAa (zAa (zAa (zza rfl)))) rfl (by omega) ?_
 exact hk H hO.left.left.left.left
end J
set_option maxRecDepth 100000
namespace J
open Go Go.Ab
variable{H:Heap}{Γ:List (Nat × Blk)}{K:VH}{v w x:Value}{xs ys:List Int}
theorem zpp{n:Nat}(hn:n≤8)(hk:K (int n) H):wCall P zQi [int n] H K:=by
 apply zVr; unfold zLq
 repeat (first|refine oi ?_|refine ow ?_|refine wy ?_|refine wn ?_|refine wt ?_|refine wf' ?_|refine cy ?_|refine cn ?_)
 exact hk
theorem zTc{n size:Nat}(hO:St H Γ)(hn:n < 2 ^ 64)(hs:size≤8)(hk:MadeB Γ K (leN size n)):wCall P zqc [zwb .u64 n,int size] H K:=by
 apply zWp; unfold zYo
 refine zCa hO (zpn _) ?_
 intro q H hO
 refine zul (fun k l' H'=>∃ (y:Nat) (v':Value) (cs':List Value),y≤size∧k=size - y∧l'=[zwb .u64 (n / 256 ^ y),int size,zwa,v',int y]∧St H' (Γ++zRa v' cs')∧OwnB v' (leN y n) cs') _ _ ?_ size _ _ ⟨0,sl q 0 0 3,[],by omega,by omega,by simp,hO,.inr ⟨q,.inr ⟨rfl,rfl⟩,rfl,Nat.zero_le _,rfl⟩⟩
 clear hO
 rintro k l' H' ⟨y,v',cs',hy,rfl,rfl,hO,hv'⟩
 unfold zrk
 try simp only[zja,zka]
 refine zpp hs ?_
 repeat (first|refine oi ?_|refine ow ?_|refine wy ?_|refine wn ?_|refine wt ?_|refine wf' ?_|refine cy ?_|refine cn ?_)
 refine zoa (fun h=>?_) (fun h=>?_)
 ·have hyl:y < size:=by omega
  have hb:n / 256 ^ y < 2 ^ 64:=Nat.lt_of_le_of_lt (Nat.div_le_self _ _) hn
  refine zaa (zDf (b:=256) (by decide)) ?_
  refine zxa (cvU rfl) ?_
  refine zCa hO (zHw _ _ _) ?_
  intro q H hO
  rw[show n / 256 ^ y % 256 % szU .u8=n / 256 ^ y % 256 from Nat.mod_mod _ _] at *
  refine zwd (ys:=[((n / 256 ^ y % 256:Nat):Int)]) hO hv' (by have:=zsd y n; simp[this]; omega) rfl (.inr rfl) ?_
  intro H v'' cs'' hO hv''
  refine zaa (zMr (b:=256) rfl (by decide) hb) ?_
  repeat (first|refine oi ?_|refine ow ?_|refine wy ?_|refine wn ?_|refine wt ?_|refine wf' ?_|refine cy ?_|refine cn ?_)
  refine⟨_,by omega,y+1,v'',cs'',by omega,rfl,?_,hO,?_⟩
  ·rw[Nat.div_div_eq_div_mul,← Nat.pow_succ]; rfl
  ·rw[zbD]; exact hv''
 ·have e:y=size:=by omega
  subst e
  repeat (first|refine oi ?_|refine ow ?_|refine wy ?_|refine wn ?_|refine wt ?_|refine wf' ?_|refine cy ?_|refine cn ?_)
  exact hk _ _ _ hO hv'
end J
set_option maxRecDepth 100000
namespace J
open Go Go.Ab
variable{H:Heap}{Γ:List (Nat × Blk)}{K:VH}{v w x:Value}{xs ys:List Int}{j p:Nat}{e:Int}
end J
set_option maxRecDepth 100000
namespace J
open Go Go.Ab
variable{H:Heap}{Γ:List (Nat × Blk)}{K:VH}{v w x:Value}{xs ys:List Int}{j p:Nat}{e:Int}
end J
set_option linter.unusedSectionVars false
set_option maxRecDepth 100000
namespace J
open Go Go.Ab
variable{H:Heap}{Γ Γ0 Γ2 Δ G L:List (Nat × Blk)}{K:VH}{v w x:Value}{xs ys zs bs b key ms:List Int}{j p q o n k:Nat}{e:Int}{cs cs':List Value}
section rules
variable[LpC]
theorem _root_.Go.Ab.St.z(h:St H Γ):St H (Γ++[]):=by rw[List.append_nil]; exact h
theorem _root_.Go.Ab.St.as{A B:List (Nat × Blk)}(h:St H ((Γ++A)++B)):St H (Γ++(A++B)):=by rw[List.append_assoc] at h; exact h
theorem nw(h:St H (Γ++L))(hk:∀ p H',St H' (Γ++(L++[(p,⟨cs,true⟩)]))→K (ptr p 0) H'):zNb cs H K:=
 zhb h fun p H' hO=>hk p H' hO.as
theorem s1{K:VH}(h:St H (Γ++L))(k:Nat)(hi:L[k]?=some (p,⟨cs,true⟩))(h1:oneCell v=true)(hn:o < cs.length)(hk:∀ H',St H' (Γ++L.set k (p,⟨cs.set o v,true⟩))→K undef H'):opW (zla 1 (ptr p o) v H) K:=
 zZa h (Γ.length+k) (zza hi) h1 hn rfl fun H' hO=>hk H' hO.set_r
theorem sw{K:VH}{new:List Value}(h:St H (Γ++L))(k:Nat)(hi:L[k]?=some (p,⟨cs,true⟩))(hn:cs.length=n)(hl:new.length=n)(h1:new.all oneCell=true)(hk:∀ H',St H' (Γ++L.set k (p,⟨new,true⟩))→K undef H'):opW (zla n (ptr p 0) (agg new) H) K:=
 zva h (Γ.length+k) (zza hi) hn hl h1 fun H' hO=>hk H' hO.set_r
theorem lw{K:VH}{b:Bool}(h:St H (Γ++L))(k:Nat)(hi:L[k]?=some (p,⟨cs,b⟩))(hn:cs.length=n)(hp:0 < n)(hk:K (agg cs) H):opW (zma n (ptr p 0) H) K:=
 zHa h (Γ.length+k) (zza hi) hn hp hk
theorem sar(h:St H (Γ++L))(k:Nat)(hi:L[k]?=some (p,⟨cs,true⟩))(hn:cs.length=n)(hp:0 < n):zGb n 1 (ptr p 0) none none none H=some (sl p 0 n 3):=
 zVf h (Γ.length+k) (zza hi) hp (by show 0+n≤cs.length; omega)
theorem zMy{b:Bool}(k:Nat)(hi:L[k]?=some (p,⟨by8 xs,b⟩)){c:Nat}(hc:c=2∨c=3)(hn:xs.length=n):RdB (Γ++L) (sl p 0 n c) xs:=
 .inr ⟨p,0,c,by rw[hn],hc,.inr ⟨Γ.length+k,_,zza hi,by rw[List.drop_zero]; exact List.take_of_length_le (by simp)⟩⟩
theorem kp{q o n c:Nat}{K:VH}(hO:St H (Γ++L))(k:Nat)(hi:L[k]?=some (q,⟨cs,true⟩))(hn:0 < n)(hk:K (sl q o n c) H):opW (zSf (sl q o n c) H) K:=by
 have hg:H.get q=some ⟨cs,true⟩:=hO.at _ (zza hi) (.inl rfl)
 refine zxa ?_ hk
 have hb:Nat.beq n 0=false:=by
  cases hb:Nat.beq n 0 with
  | false=>rfl
  | true=>have:=Nat.eq_of_beq_eq_true hb; omega
 unfold zSf
 simp only[hb,hg]
 have:Heap.mayWrite H q ⟨cs,true⟩=true:=by unfold Heap.mayWrite; rw[hO.fl]; rfl
 rw[this]
theorem zfi{A B:List (Nat × Blk)}(h:St H (Γ++(A++B))):St H (Γ++A):=by rw[← List.append_assoc] at h; exact h.left
theorem zwv{A B:List (Nat × Blk)}(h:St H (Γ++(A++B))):St H (Γ++B):=by rw[← List.append_assoc] at h; exact St.mid h
theorem zxv{i:Nat}{K:VH}{c:Nat}(hO:St H Γ)(hi:Γ[i]?=some (q,⟨cs,true⟩))(hv:RdB Γ v ys)(hn:ys.length≤n)(hl:o+n≤cs.length)
  (hk:∀ H',St H' (Γ.set i (q,⟨cs.take o++(by8 ys++cs.drop (o+ys.length)),true⟩))→K (int ys.length) H'):opW (zji 1 (sl q o n c) v H) K:=by
 obtain⟨H',hw,hs⟩:=zDr hO (o:=o) (vs:=by8 ys) hi (by simp; omega) (by simp[oneCell])
 unfold zji
 simp only[hv.lenA]
 have hm:Nat.min ys.length n=ys.length:=Nat.min_eq_left hn
 rw[hm]
 cases hb:Nat.beq ys.length 0 with
 | true=>
  have h0:=Nat.eq_of_beq_eq_true hb
  have:ys=[]:=List.length_eq_zero_iff.1 h0
  subst this
  have e:cs.take o++(by8 []++cs.drop (o+([]:List Int).length))=cs:=by
   show cs.take o++([]++cs.drop (o+0))=cs
   simp
  refine zxa (show _=some (int (0:Nat),H) from rfl) (hk H ?_)
  rw[e,zLC hi]; exact hO
 | false=>
  simp only[Bool.false_eq_true,if_false]
  rw[hv.elems hO]
  simp only
  rw[hw]
  refine zxa (show some (Value.int .i64 ((ys.length:Nat):Int),H')=_ from rfl) ?_
  rw[List.length_map] at hs
  exact hk _ hs
end rules
end J
set_option maxRecDepth 100000
namespace J
open Go Go.Ab
variable{H:Heap}{Γ Γ0 Γ2 Δ G L:List (Nat × Blk)}{K:VH}{v w x:Value}{xs ys zs bs b key ms:List Int}{j p q o n k:Nat}{e:Int}{cs cs':List Value}
def zAk(k:List Int):List Int:=if 64 < k.length then sha k else k
def zNy(x:Int)(w:Nat):Int:=((x.toNat ^^^ w:Nat):Int)
def zNp(k:List Int)(w:Nat):List Int:=(List.range 64).map fun i=>zNy ((zAk k).getD i 0) w
def zTq(k m:List Int):List Int:=sha (zNp k 92++sha (zNp k 54++m))
theorem zDb{m:List Int}:(sha m).length=32:=rfl
theorem zUq{m:List Int}:∀ x ∈ sha m,0≤x∧x≤255:=by
 intro x hx
 obtain⟨a,_,hx⟩:=List.mem_flatMap.1 hx
 have hm:∀ n:Nat,0≤((n % 256:Nat):Int)∧((n % 256:Nat):Int)≤255:=fun n=>by omega
 unfold be4 at hx
 simp only[List.mem_cons,List.not_mem_nil,or_false] at hx
 rcases hx with rfl|rfl|rfl|rfl <;> exact hm _
theorem zfs(k:List Int):(zAk k).length≤64:=by
 unfold zAk
 split
 ·rw[zDb]; omega
 ·omega
theorem zqp(hb:∀ x ∈ key,0≤x∧x≤255):∀ x ∈ zAk key,0≤x∧x≤255:=by
 unfold zAk
 split
 ·exact zUq
 ·exact hb
theorem zWb{k:List Int}{w:Nat}:(zNp k w).length=64:=by simp[zNp]
theorem zyv{x:Int}{w:Nat}(hx:x.toNat < 256)(hw:w < 256):0≤zNy x w∧zNy x w≤255:=by
 have:=Nat.xor_lt_two_pow (n:=8) hx hw
 unfold zNy
 omega
theorem zGm{w:Nat}(hw:w < 256)(hb:∀ x ∈ key,0≤x∧x≤255):∀ x ∈ zNp key w,0≤x∧x≤255:=by
 intro x hx
 obtain⟨i,_,rfl⟩:=List.mem_map.1 hx
 exact zyv (zYe (zqp hb) i) hw
def zKF(k:List Int):List Int:=zAk k++List.replicate (64 - (zAk k).length) 0
theorem zQl{k:List Int}:(zKF k).length=64:=by have:=zfs k; simp[zKF]; omega
theorem zNA{k:List Int}{i:Nat}:(zKF k).getD i 0=(zAk k).getD i 0:=by
 unfold zKF
 rw[List.getD_eq_getElem?_getD,List.getD_eq_getElem?_getD]
 by_cases h:i < (zAk k).length
 ·rw[List.getElem?_append_left h]
 ·rw[List.getElem?_append_right (by omega),List.getElem?_eq_none (l:=zAk k) (by omega),List.getElem?_replicate]
  split <;> rfl
def zzv(k:List Int)(w y:Nat):List Int:=(zNp k w).take y++(zKF k).drop y
theorem zRw{k:List Int}{w y:Nat}(h:y≤64):(zzv k w y).length=64:=by
 simp[zzv,zWb,zQl]; omega
theorem zLF{k:List Int}{w y:Nat}(h:y < 64):(by8 (zzv k w y))[y]?=some (.int .u8 ((zAk k).getD y 0)):=by
 unfold zzv by8
 rw[List.map_append,List.getElem?_append_right (by simp[zWb]; omega)]
 have:(zKF k)[y]?=some ((zAk k).getD y 0):=by
  rw[List.getElem?_eq_getElem (by rw[zQl]; exact h),← zNA,List.getD_eq_getElem?_getD,List.getElem?_eq_getElem (by rw[zQl]; exact h)]; rfl
 simp[zWb,this,show min y 64=y by omega]
theorem zkD{k:List Int}{w y:Nat}(h:y < 64):(by8 (zzv k w y)).set y (.int .u8 (zNy ((zAk k).getD y 0) w))=by8 (zzv k w (y+1)):=by
 apply List.ext_getElem?
 intro i
 have hl:=zWb (k:=k) (w:=w)
 have hz:=zQl (k:=k)
 have hp:(zNp k w)[y]?=some (zNy ((zAk k).getD y 0) w):=by
  unfold zNp; rw[List.getElem?_map,List.getElem?_range h]; rfl
 rw[List.getElem?_set]
 by_cases hi:y=i
 ·subst hi
  rw[if_pos rfl,if_pos (by simp[zRw (show y≤64 by omega)]; exact h)]
  unfold zzv by8
  rw[List.map_append,List.getElem?_append_left (by simp[hl]; omega)]
  simp[hp]
 ·rw[if_neg hi]
  unfold zzv by8
  rw[List.map_append,List.map_append]
  by_cases h2:i < y
  ·rw[List.getElem?_append_left (by simp[hl]; omega),List.getElem?_append_left (by simp[hl]; omega)]
   simp[List.getElem?_take,h2,show i < y+1 by omega]
  ·rw[List.getElem?_append_right (by simp[hl]; omega),List.getElem?_append_right (by simp[hl]; omega)]
   simp[hl,show min y 64=y by omega,show min (y+1) 64=y+1 by omega]
   congr 2; omega
theorem zRI:zc P 195=List.replicate 64 (zwb .u8 0):=by kernel_rfl
set_option maxHeartbeats 1000000 in
theorem zrp{m:Nat}(hm:m < 256)(hO:St H Γ)(hv:RdB Γ v key)(hb:∀ x ∈ key,0≤x∧x≤255)(hl:key.length≤80000000)
  (hk:∀ H' q,St H' (Γ++[(q,⟨by8 (zNp key m),true⟩)])→K (sl q 0 64 3) H'):wCall P zhf [v,.int .u8 m] H K:=by
 apply zYr; unfold zQq
 refine zEa (fun l' H'=>∃ (v':Value) (B:List (Nat × Blk)),l'=[v',.int .u8 m,zwa]∧St H' (Γ++B)∧RdB (Γ++B) v' (zAk key)) ?_ ?_
 ·refine zxa hv.lenSl ?_
  refine zaa zKc ?_
  refine zoa (fun h=>?_) (fun h=>?_)
  ·obtain⟨a,n,c,hs⟩:=hv.shape
   refine zCa hO (by rw[hs]; exact zbE _ _ _ _) ?_
   rw[← hs]
   clear hO
   intro q H hO
   refine zKt (j:=Γ.length+0) hO (zza rfl) hv.app hb hl ?_
   clear hO
   intro H hO
   rw[zJt]
   refine nw hO ?_
   clear hO
   intro p5 H hO
   refine sw hO 1 rfl (by simp) (by simp[zDb]) (zze _) ?_
   clear hO
   intro H hO
   refine zaa (sar hO 1 rfl (by simp[zDb]) (by omega)) ?_
   refine⟨_,_,rfl,hO,?_⟩
   rw[show zAk key=sha key from if_pos (by omega)]
   exact zMy 1 rfl (.inr rfl) zDb
  ·refine⟨v,[],rfl,hO.z,?_⟩
   rw[show zAk key=key from if_neg (by omega)]
   exact hv.app
 clear hO
 rintro l' H ⟨v',B,rfl,hO,hr⟩
 try simp only[zja,zka]
 rw[zRI]
 refine zhb hO ?_
 clear hO
 intro p6 H hO
 have hkl:=zfs key
 refine zaa (zVf hO ((Γ++B).length+0) (zza rfl) (by omega) (by simp)) ?_
 refine zxv hO (zza (k:=0) rfl) hr.app hkl (by simp) ?_
 clear hO
 intro H hO
 replace hO:=hO.set_r
 have e0:((List.replicate 64 (zwb .u8 0)).take 0++(by8 (zAk key)++(List.replicate 64 (zwb .u8 0)).drop (0+(zAk key).length)))=by8 (zzv key m 0):=by
  rw[Nat.zero_add,List.drop_replicate]
  simp only[zzv,zKF,List.take_zero,List.nil_append,List.drop_zero,by8,List.map_append,List.map_replicate]
  rfl
 rw[e0] at hO
 replace hO:St H (Γ++[(p6,⟨by8 (zzv key m 0),true⟩)]):=St.mid hO
 refine zCm (fun k l' H'=>∃ (y:Nat),y≤64∧k=64 - y∧l'=[.int .u8 m,zwa,ptr p6 0,int y]∧St H' (Γ++[(p6,⟨by8 (zzv key m y),true⟩)])) _ _ ?_ 64 _ _ ⟨0,by omega,by omega,rfl,hO⟩
 clear hO
 rintro k l' H ⟨y,hy,rfl,rfl,hO⟩
 unfold zEl
 try simp only[zja,zka]
 refine zaa zMa ?_
 refine zoa (fun h=>?_) (fun h=>?_)
 ·have hy:y < 64:=by omega
  have hg:=zYe (zqp hb) y
  repeat (first|refine oi ?_|refine ow ?_|refine wy ?_|refine wn ?_|refine wt ?_|refine wf' ?_|refine cy ?_|refine cn ?_)
  refine ld hO 0 rfl (by rw[show 0+(y:Int).toNat * 1=y by omega]; exact zLF hy) ?_
  have hx:Value.int .u8 ((zAk key).getD y 0)=zwb .u8 ((zAk key).getD y 0).toNat:=by
   refine zvm ?_
   rw[List.getD_eq_getElem?_getD]
   by_cases hi:y < (zAk key).length
   ·rw[List.getElem?_eq_getElem hi]; exact (zqp hb _ (List.getElem_mem hi)).1
   ·rw[List.getElem?_eq_none (by omega)]; decide
  rw[hx]
  refine zaa (zOb (k:=.u8) rfl hg hm) ?_
  repeat (first|refine oi ?_|refine ow ?_|refine wy ?_|refine wn ?_|refine wt ?_|refine wf' ?_|refine cy ?_|refine cn ?_)
  refine s1 hO 0 rfl rfl (by simp[zRw (show y≤64 by omega)]; omega) ?_
  clear hO
  intro H hO
  repeat (first|refine oi ?_|refine ow ?_|refine wy ?_|refine wn ?_|refine wt ?_|refine wf' ?_|refine cy ?_|refine cn ?_)
  refine⟨_,?_,y+1,by omega,rfl,rfl,?_⟩
  ·omega
  ·have e1:=zkD (k:=key) (w:=m) hy
   rw[show 0+(y:Int).toNat * 1=y by omega] at hO
   have hO:St H (Γ++[(p6,⟨(by8 (zzv key m y)).set y (.int .u8 (zNy ((zAk key).getD y 0) m)),true⟩)]):=hO
   rw[e1] at hO; exact hO
 ·have e:y=64:=by omega
  subst e
  have e2:zzv key m 64=zNp key m:=by
   unfold zzv
   rw[List.take_of_length_le (by rw[zWb]; omega),List.drop_of_length_le (by rw[zQl]; omega),List.append_nil]
  rw[e2] at hO
  repeat (first|refine oi ?_|refine ow ?_|refine wy ?_|refine wn ?_|refine wt ?_|refine wf' ?_|refine cy ?_|refine cn ?_)
  refine zaa (sar hO 0 rfl (by simp[zWb]) (by omega)) ?_
  exact hk _ _ hO
end J
set_option maxRecDepth 100000
namespace J
open Go Go.Ab
variable{H:Heap}{Γ Γ0 Γ2 Δ G L:List (Nat × Blk)}{K:VH}{v w x:Value}{xs ys zs bs b key ms:List Int}{j p q o n k:Nat}{e:Int}{cs cs':List Value}
theorem zOA{q:Nat}{v2:Value}(hO:St H Γ)(hq:Γ[j]?=some (q,(⟨[v,v2],true⟩:Blk)))(hv:RdB Γ v xs)(hv2:RdB Γ v2 ys)(hx:∀ x ∈ xs,0≤x∧x≤255)(hyb:∀ x ∈ ys,0≤x∧x≤255)(hl:xs.length≤8000000)(hl2:ys.length≤8000000)
  (hk:∀ H',St H' Γ→K (agg (by8 (sha (xs++ys)))) H'):wCall P zpd [sl q 0 2 3] H K:=by
 apply zBl; unfold zBm
 rw[zJt]
 refine zhb hO ?_
 clear hO
 intro p2 H hO
 refine zdo hO ?_
 clear hO
 intro H pd hO
 have hd:Dg pd [] (DG pd (dSt []) zwa ([]:List Int).length []):=⟨zwa,[],rfl,.inl ⟨rfl,rfl,rfl⟩⟩
 refine zxa zke ?_
 generalize (DG pd (dSt []) zwa ([]:List Int).length [])=L at *
 refine zzh (fun k l' H'=>∃ (y:Nat) (L:List (Nat × Blk)),y≤2∧k=2 - y∧l'=[ptr p2 0,ptr pd 0,sl q 0 2 3,int 2,int y]∧St H' ((Γ++[(p2,⟨List.replicate 32 (zwb .u8 0),true⟩)])++L)∧Dg pd ([xs,ys].take y).flatten L) _ _ ?_ 2 _ _ ⟨0,L,by omega,rfl,rfl,hO,hd⟩
 clear hO hd
 rintro k l' H ⟨y,L,hy,rfl,rfl,hO,hd⟩
 unfold zai
 try simp only[zja,zka]
 refine zaa zMa ?_
 refine zoa (fun h=>?_) (fun h=>?_)
 ·have hy0:y=0∨y=1:=by omega
  rcases hy0 with rfl|rfl
  ·refine zaa (zpb (by omega) (by omega)) ?_
   refine zpa hO j (zAa (zAa hq)) (v:=v) rfl ?_
   refine zLf hO hd hv.app (by intro x hx; cases hx) hx (by simp) (by omega) ?_
   clear hO hd
   intro H L hO hd
   repeat (first|refine oi ?_|refine ow ?_|refine wy ?_|refine wn ?_|refine wt ?_|refine wf' ?_|refine cy ?_|refine cn ?_)
   exact⟨1,by omega,1,L,by omega,rfl,rfl,hO,by simpa using hd⟩
  ·refine zaa (zpb (by omega) (by omega)) ?_
   refine zpa hO j (zAa (zAa hq)) (v:=v2) rfl ?_
   refine zLf hO hd hv2.app (by simpa using hx) hyb (by simp; omega) (by omega) ?_
   clear hO hd
   intro H L hO hd
   repeat (first|refine oi ?_|refine ow ?_|refine wy ?_|refine wn ?_|refine wt ?_|refine wf' ?_|refine cy ?_|refine cn ?_)
   exact⟨0,by omega,2,L,by omega,rfl,rfl,hO,by simpa using hd⟩
 ·have hy0:y=2:=by omega
  subst hy0
  replace hd:Dg pd (xs++ys) L:=by simpa using hd
  refine zSa rfl ?_
  try simp only[zja,zka]
  refine zPl hO hd (zyd hx hyb) (by simp; omega) ?_
  clear hO
  intro H hO
  refine zLd hO (Γ.length+0) (zAa (zza rfl)) rfl (show 0+32≤32 by omega) (show (by8 (sha (xs++ys))).all oneCell=true by simp[oneCell]) ?_
  clear hO
  intro H hO
  rw[List.set_append_left _ _ (by simp),Go.Ab.set_r] at hO
  refine zFa hO (Γ.length+0) (zAa (zza rfl)) (show _=by8 (sha (xs++ys)) from rfl) rfl (by omega) ?_
  exact hk H hO.left.left
set_option maxHeartbeats 1000000 in
theorem zAv{q c:Nat}(hO:St H Γ)(hv:RdB Γ v key)(hq:Γ[j]?=some (q,(⟨[x],true⟩:Blk)))(hx:RdB Γ x ms)(hb:∀ x ∈ key,0≤x∧x≤255)(hm:∀ x ∈ ms,0≤x∧x≤255)(hl:key.length≤80000000)(hl2:ms.length≤8000000)
  (hk:∀ H',St H' Γ→K (agg (by8 (zTq key ms))) H'):wCall P zol [v,sl q 0 1 c] H K:=by
 apply zUx; unfold zyA
 rw[zJt]
 refine zhb hO ?_
 clear hO
 intro p4 H hO
 refine zdo hO ?_
 clear hO
 intro H pd hO
 have hd:Dg pd [] (DG pd (dSt []) zwa ([]:List Int).length []):=⟨zwa,[],rfl,.inl ⟨rfl,rfl,rfl⟩⟩
 generalize (DG pd (dSt []) zwa ([]:List Int).length [])=L at *
 refine zrp (m:=54) (by omega) hO hv.app.app hb hl ?_
 clear hO
 intro H q1 hO
 have hO2:=swp hO
 refine zLf hO2 hd (w:=sl q1 0 64 3) (ys:=zNp key 54) (zMy 0 rfl (.inr rfl) zWb) (by intro x hx; cases hx) (zGm (by omega) hb) (by simp) (by rw[zWb]; omega) ?_
 clear hO hO2 hd
 intro H L hO hd
 replace hd:Dg pd (zNp key 54) L:=hd
 replace hO:=drp hO
 refine zxa zke ?_
 refine zcq (fun k l' H'=>∃ (y:Nat) (L:List (Nat × Blk)),y≤1∧k=1 - y∧l'=[v,ptr p4 0,ptr pd 0,sl q 0 1 c,int 1,int y]∧St H' ((Γ++[(p4,⟨List.replicate 32 (zwb .u8 0),true⟩)])++L)∧Dg pd (zNp key 54++([ms].take y).flatten) L) _ _ ?_ 1 _ _ ⟨0,L,by omega,rfl,rfl,hO,by simpa using hd⟩
 clear hO hd
 rintro k l' H ⟨y,L,hy,rfl,rfl,hO,hd⟩
 unfold zNq
 try simp only[zja,zka]
 refine zaa zMa ?_
 refine zoa (fun h=>?_) (fun h=>?_)
 ·have hy0:y=0:=by omega
  subst hy0
  refine zaa (zpb (by omega) (by omega)) ?_
  refine zpa hO j (zAa (zAa hq)) (v:=x) rfl ?_
  refine zLf hO hd hx.app (by simpa using zGm (by omega) hb) hm (by simp[zWb]) (by omega) ?_
  clear hO hd
  intro H L hO hd
  repeat (first|refine oi ?_|refine ow ?_|refine wy ?_|refine wn ?_|refine wt ?_|refine wf' ?_|refine cy ?_|refine cn ?_)
  exact⟨0,by omega,1,L,by omega,rfl,rfl,hO,by simpa using hd⟩
 ·have hy0:y=1:=by omega
  subst hy0
  replace hd:Dg pd (zNp key 54++ms) L:=by simpa using hd
  refine zSa rfl ?_
  try simp only[zja,zka]
  refine zPl hO hd (zyd (zGm (by omega) hb) hm) (by simp[zWb]; omega) ?_
  clear hO
  intro H hO
  replace hO:=hO.left
  refine nw hO ?_
  clear hO
  intro p8 H hO
  refine sw hO 1 rfl (by simp) (by simp[zDb]) (zze _) ?_
  clear hO
  intro H1 hO1
  refine zrp (m:=92) (by omega) hO1 hv.app hb hl ?_
  intro H q2 hO
  refine zaa (zVf hO (Γ.length+1) (zAa (zza rfl)) (by omega) (by simp[zDb])) ?_
  refine⟨zFb hO1 (Γ.length+1) (zza rfl) hO (Γ.length+1) (zAa (zza rfl)) (zxd _),?_⟩
  refine zCa hO (ziH _ _ _ _ _ _ _) ?_
  clear hO
  intro q3 H hO
  replace hO:=hO.as.as
  refine zOA (j:=Γ.length+3) (xs:=zNp key 92) (ys:=sha (zNp key 54++ms)) hO (zza rfl) (zMy 2 rfl (.inr rfl) zWb) (zMy 1 rfl (.inr rfl) zDb) (zGm (by omega) hb) zUq (by rw[zWb]; omega) (by rw[zDb]; omega) ?_
  clear hO
  intro H hO
  refine sw hO 0 rfl (by simp) (by simp[zDb]) (zze _) ?_
  clear hO
  intro H hO
  refine lw hO 0 rfl (by simp[zDb]) (by omega) ?_
  exact hk H hO.left
theorem zMF{a b:Nat}:a ||| b=0↔a=0∧b=0:=by
 constructor
 ·intro h
  constructor
  ·apply Nat.eq_of_testBit_eq; intro i
   have:=congrArg (·.testBit i) h
   simp at this
   simp[this.1]
  ·apply Nat.eq_of_testBit_eq; intro i
   have:=congrArg (·.testBit i) h
   simp at this
   simp[this.2]
 ·rintro⟨rfl,rfl⟩; rfl
theorem zlD{a b:Nat}:a ^^^ b=0↔a=b:=by
 constructor
 ·intro h
  apply Nat.eq_of_testBit_eq; intro i
  have:=congrArg (·.testBit i) h
  simp at this
  exact this
 ·rintro rfl; exact Nat.xor_self _
theorem zNt{a b:List Int}{y:Nat}(ha:y < a.length)(hb:y < b.length):a.take (y+1)=b.take (y+1)↔a.take y=b.take y∧a[y]=b[y]:=by
 rw[List.take_succ_eq_append_getElem ha,List.take_succ_eq_append_getElem hb]
 constructor
 ·intro h
  have:=List.append_inj h (by simp; omega)
  exact⟨this.1,by simpa using this.2⟩
 ·rintro⟨h1,h2⟩; rw[h1,h2]
theorem zgs{a b:List Int}(ha:a.length=32)(hb:b.length=32)(ba:∀ x ∈ a,0≤x∧x≤255)(bb:∀ x ∈ b,0≤x∧x≤255)(hO:St H Γ)
  (hk:∀ H',St H' Γ→K (.bool (decide (a=b))) H'):wCall P zTh [agg (by8 a),agg (by8 b)] H K:=by
 apply zzt; unfold zyt
 refine nw hO.z ?_
 clear hO
 intro p2 H hO
 refine nw hO ?_
 clear hO
 intro p3 H hO
 replace hO:St H (Γ++[(p2,⟨by8 a,true⟩),(p3,⟨by8 b,true⟩)]):=hO
 refine zDn (fun k l' H'=>∃ (y d:Nat),y≤32∧k=32 - y∧l'=[ptr p2 0,ptr p3 0,.bool false,zwb .u8 d,int y]∧H'=H∧d < 256∧(d=0↔a.take y=b.take y)) _ _ ?_ 32 _ _ ⟨0,0,by omega,by omega,rfl,rfl,by omega,by simp⟩
 rintro k l' H' ⟨y,d,hy,rfl,rfl,rfl,hd,hi⟩
 unfold zln
 try simp only[zja,zka]
 refine zaa zMa ?_
 refine zoa (fun h=>?_) (fun h=>?_)
 ·have hy:y < 32:=by omega
  have ga:=ba _ (List.getElem_mem (show y < a.length by omega))
  have gb:=bb _ (List.getElem_mem (show y < b.length by omega))
  repeat (first|refine oi ?_|refine ow ?_|refine wy ?_|refine wn ?_|refine wt ?_|refine wf' ?_|refine cy ?_|refine cn ?_)
  refine ld hO 0 rfl (v:=.int .u8 a[y]) (by rw[show 0+(y:Int).toNat * 1=y by omega]; simp[by8]) ?_
  repeat (first|refine oi ?_|refine ow ?_|refine wy ?_|refine wn ?_|refine wt ?_|refine wf' ?_|refine cy ?_|refine cn ?_)
  refine ld hO 1 rfl (v:=.int .u8 b[y]) (by rw[show 0+(y:Int).toNat * 1=y by omega]; simp[by8]) ?_
  rw[zvm ga.1,zvm gb.1]
  have x1:a[y].toNat ^^^ b[y].toNat < 256:=Nat.xor_lt_two_pow (n:=8) (by omega) (by omega)
  refine zaa (zOb (k:=.u8) rfl (show _ < 256 by omega) (show _ < 256 by omega)) ?_
  refine zaa (zIk (k:=.u8) rfl (show _ < 256 by omega) (show _ < 256 from x1)) ?_
  repeat (first|refine oi ?_|refine ow ?_|refine wy ?_|refine wn ?_|refine wt ?_|refine wf' ?_|refine cy ?_|refine cn ?_)
  refine⟨_,?_,y+1,_,by omega,rfl,rfl,rfl,Nat.or_lt_two_pow (n:=8) hd x1,?_⟩
  ·omega
  ·rw[zMF,zlD,zNt (by omega) (by omega),hi]
   constructor
   ·rintro⟨h1,h2⟩; exact⟨h1,by omega⟩
   ·rintro⟨h1,h2⟩; exact⟨h1,by rw[h2]⟩
 ·have e:y=32:=by omega
  subst e
  rw[List.take_of_length_le (by omega),List.take_of_length_le (by omega)] at hi
  refine zSa rfl ?_
  try simp only[zja,zka]
  refine zaa (zMC (k:=.u8) (b:=0)) ?_
  have:=hk _ hO.left
  rw[decide_eq_decide.2 hi]; exact this
end J
set_option maxRecDepth 100000
namespace J
open Go Go.Ab
variable{H:Heap}{Γ Γ0 Γ2 Δ G L:List (Nat × Blk)}{K:VH}{v w x:Value}{xs ys zs bs b key ms:List Int}{j p q o n k:Nat}{e:Int}{cs cs':List Value}
theorem zOt{k:List Int}{w y:Nat}(h:y < 64):(zNp k w).take (y+1)=(zNp k w).take y++[zNy ((zAk k).getD y 0) w]:=by
 rw[List.take_succ_eq_append_getElem (by rw[zWb]; exact h)]
 congr 2
 simp[zNp]
set_option maxHeartbeats 2000000 in
theorem zgy(hO:St H Γ)(hv:RdB Γ v key)(hx:RdB Γ x ms)(hb:∀ x ∈ key,0≤x∧x≤255)(hm:∀ x ∈ ms,0≤x∧x≤255)(hl:key.length≤80000000)(hl2:ms.length≤8000000)
  (hk:∀ H',St H' Γ→K (agg (by8 (zTq key ms))) H'):wCall P zRh [v,x] H K:=by
 apply zvt; unfold zut
 rw[zJt]
 refine zhb hO ?_
 clear hO
 intro p4 H hO
 refine zEa (fun l' H'=>∃ (v':Value) (B:List (Nat × Blk)),l'=[v',x,ptr p4 0]∧St H' ((Γ++B)++[(p4,⟨List.replicate 32 (zwb .u8 0),true⟩)])∧RdB (Γ++B) v' (zAk key)) ?_ ?_
 ·refine zxa hv.lenSl ?_
  refine zaa zKc ?_
  refine zoa (fun h=>?_) (fun h=>?_)
  ·refine zig hO hv.app hb hl ?_
   clear hO
   intro H hO
   refine nw hO ?_
   clear hO
   intro p5 H hO
   refine sw hO 1 rfl (by simp) (by simp[zDb]) (zze _) ?_
   clear hO
   intro H hO
   refine zaa (sar hO 1 rfl (by simp[zDb]) (by omega)) ?_
   replace hO:St H (Γ++([(p4,⟨List.replicate 32 (zwb .u8 0),true⟩)]++[(p5,⟨by8 (sha key),true⟩)])):=hO
   rw[← List.append_assoc] at hO
   refine⟨_,_,rfl,hO.rot,?_⟩
   rw[show zAk key=sha key from if_pos (by omega)]
   exact zMy 0 rfl (.inr rfl) zDb
  ·refine⟨v,[],rfl,by rw[List.append_nil]; exact hO,?_⟩
   rw[show zAk key=key from if_neg (by omega)]
   exact hv.app
 clear hO
 rintro l' H ⟨v',B,rfl,hO,hr⟩
 try simp only[zja,zka]
 replace hx:=hx.app (Δ:=B)
 replace hk:∀ H',St H' (Γ++B)→K (agg (by8 (zTq key ms))) H':=fun H' h=>hk H' h.left
 generalize Γ++B=Γ at *
 have hkl:=zfs key
 refine zCa hO (zpn _) ?_
 clear hO
 intro q1 H hO
 refine zCa hO (zpn _) ?_
 clear hO
 intro q2 H hO
 refine zCn (fun k l' H'=>∃ (y:Nat) (v1 v2:Value) (c1 c2:List Value),y≤64∧k=64 - y∧l'=[v',x,ptr p4 0,v1,v2,int y]∧St H' (((Γ++[(p4,⟨List.replicate 32 (zwb .u8 0),true⟩)])++zRa v1 c1)++zRa v2 c2)∧OwnB v1 ((zNp key 54).take y) c1∧OwnB v2 ((zNp key 92).take y) c2) _ _ ?_ 64 _ _
  ⟨0,sl q1 0 0 3,sl q2 0 0 3,[],[],by omega,by omega,rfl,hO,.inr ⟨q1,.inr ⟨rfl,rfl⟩,rfl,Nat.zero_le _,rfl⟩,.inr ⟨q2,.inr ⟨rfl,rfl⟩,rfl,Nat.zero_le _,rfl⟩⟩
 clear hO
 rintro k l' H ⟨y,v1,v2,c1,c2,hy,rfl,rfl,hO,o1,o2⟩
 unfold zjn
 try simp only[zja,zka]
 refine zaa zMa ?_
 refine zoa (fun h=>?_) (fun h=>?_)
 ·have hy:y < 64:=by omega
  have hg:=zYe (zqp hb) y
  refine zEa (fun l' H'=>l'=[v',x,ptr p4 0,v1,v2,int y,zwb .u8 ((zAk key).getD y 0).toNat]∧H'=H) ?_ ?_
  ·refine zxa hr.lenSl ?_
   refine zaa zMa ?_
   refine zoa (fun h=>?_) (fun h=>?_)
   ·refine zZx hO hr.app.app.app (zqp hb) (n:=y) rfl (by omega) ?_
    exact⟨rfl,rfl⟩
   ·refine⟨?_,rfl⟩
    rw[List.getD_eq_getElem?_getD,List.getElem?_eq_none (by omega)]; rfl
  rintro l' H' ⟨rfl,rfl⟩
  try simp only[zja,zka]
  have x1:=zyv hg (w:=54) (by omega)
  have x2:=zyv hg (w:=92) (by omega)
  refine zaa (zOb (k:=.u8) (b:=54) rfl hg (show _ < 256 by omega)) ?_
  refine zCa hO (zHw _ _ _) ?_
  clear hO
  intro q3 H hO
  replace hO:St H (((Γ++[(p4,⟨List.replicate 32 (zwb .u8 0),true⟩)])++zRa v1 c1++zRa v2 c2)++[(q3,⟨by8 [zNy ((zAk key).getD y 0) 54],true⟩)]):=hO
  replace hO:St H (((Γ++[(p4,⟨List.replicate 32 (zwb .u8 0),true⟩)])++zRa v2 c2++zRa v1 c1)++[(q3,⟨by8 [zNy ((zAk key).getD y 0) 54],true⟩)]):=hO.perm (by classical exact List.perm_iff_count.2 fun _=>by simp only[List.count_append,List.count_nil,List.set_cons_zero]; omega)
  refine zwd hO o1 (by simp[zWb]; omega) rfl (.inr rfl) ?_
  clear hO
  intro H v3 c3 hO o3
  rw[← zOt hy] at o3
  refine zaa (zOb (k:=.u8) (b:=92) rfl hg (show _ < 256 by omega)) ?_
  refine zCa hO (zHw _ _ _) ?_
  clear hO
  intro q4 H hO
  replace hO:St H (((Γ++[(p4,⟨List.replicate 32 (zwb .u8 0),true⟩)])++zRa v2 c2++zRa v3 c3)++[(q4,⟨by8 [zNy ((zAk key).getD y 0) 92],true⟩)]):=hO
  replace hO:St H (((Γ++[(p4,⟨List.replicate 32 (zwb .u8 0),true⟩)])++zRa v3 c3++zRa v2 c2)++[(q4,⟨by8 [zNy ((zAk key).getD y 0) 92],true⟩)]):=hO.perm (by classical exact List.perm_iff_count.2 fun _=>by simp only[List.count_append,List.count_nil,List.set_cons_zero]; omega)
  refine zwd hO o2 (by simp[zWb]; omega) rfl (.inr rfl) ?_
  clear hO
  intro H v4 c4 hO o4
  rw[← zOt hy] at o4
  repeat (first|refine oi ?_|refine ow ?_|refine wy ?_|refine wn ?_|refine wt ?_|refine wf' ?_|refine cy ?_|refine cn ?_)
  exact⟨64 - (y+1),by omega,y+1,v3,v4,c3,c4,by omega,rfl,rfl,hO,o3,o4⟩
 ·have e:y=64:=by omega
  subst e
  rw[List.take_of_length_le (by rw[zWb]; omega)] at o1 o2
  refine zSa rfl ?_
  try simp only[zja,zka]
  replace hO:=hO.rot
  refine zSc hO o1 hx.app.app (by rw[zWb]; omega) ?_
  clear hO
  intro H v3 c3 hO o3
  refine zig hO o3.rd.app' (zyd (zGm (by omega) hb) hm) (by simp[zWb]; omega) ?_
  clear hO
  intro H hO
  replace hO:=hO.left
  refine zhb hO ?_
  clear hO
  intro p5 H hO
  refine zva hO (_+0) (zza rfl) (by simp) (by simp[zDb]) (zze _) ?_
  clear hO
  intro H hO
  replace hO:=hO.set_r
  refine zaa (zVf hO (_+0) (zza rfl) (by omega) (by simp[zDb])) ?_
  refine zwd (ys:=sha (zNp key 54++ms)) hO o2 (by simp[zWb,zDb]) (by rw[zDb]) (.inr rfl) ?_
  clear hO
  intro H v4 c4 hO o4
  refine zig hO o4.rd.app' (zyd (zGm (by omega) hb) zUq) (by simp[zWb,zDb]) ?_
  clear hO
  intro H hO
  replace hO:=hO.left
  refine sw hO 0 rfl (by simp) (by simp[zDb]) (zze _) ?_
  clear hO
  intro H hO
  refine lw hO 0 rfl (by simp[zDb]) (by omega) ?_
  exact hk H hO.left
end J
