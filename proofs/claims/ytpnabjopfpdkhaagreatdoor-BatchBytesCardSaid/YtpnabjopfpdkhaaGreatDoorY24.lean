/- Lemmas. -/
import Derived.Test.YtpnabjopfpdkhaaGreatDoorY02
import Derived.Laws.EntriesVeiled
set_option linter.all false
set_option maxHeartbeats 2000000
set_option maxRecDepth 100000
namespace Go.Proofs.YtpnabjopfpdkhaaGreatDoor
open Tryz RowKit
attribute [go_sem] more_more Array.size_append
def qci {b lb lo cap:Nat} {nv:Value} {L:Toks} {m:Nat} {N:List Nd} {w:World} (h:St b lb lo cap nv L m N w) :
  Calls prog 132 #[.pointer (some ⟨b,0,none⟩)] w fun e w'=>e=.returned (tokV (tk L m).1 (tk L m).2)/\Ext w w':=by
 obtain⟨c0,c1,c2,c3,f1,f2,f3,hb⟩:=h.facts;obtain⟨t0,t1,t2,t3,hlb⟩:=h.tokFacts;have hp:(m:Int)<(L.length:Int):=by have:=h.pos;omega
 have hp0:0<=(m:Int):=Y;obtain⟨⟨⟨k,s,i⟩,a⟩,htt⟩:∃ tt,tk L m=tt:=⟨_,rfl⟩
 rw[htt] at t0 t1 t2 t3 ⊢;unfold tokV;clear htt h c2 c3 f1 f2 f3;go_enter func132,ntmps132;go_wp2_with fail;refine qaa 10 13 (List.replicate 10 false) zv zv rfl ?_;refine zh ?_
 repeat(refine Lex.step rfl ?_;intro K hK;unfold StepG;go_simp;(first
   | refine hK _ ?_);clear hK K)
 refine zd ?_;intro dd oo;go_wp2_with fail;rw[ends_normal];go_wp2_with fail;exact bodyPost_ret (v:=.agg #[.int .i64 k,.int .i64 a,.string s,.int .i64 i]) (by simp[results,results132,go_sem]) rfl ⟨rfl,zf⟩
def isP_eq {L:Toks} {m:Nat} {t:Tok} {a:Int} (ht:tk L m=(t,a)) (s:ByteArray) (b:Bool) (hw:wordB s=b):isP L s m=(t.k==(if b=true then 5 else 4)&&t.s.toList==s.toList):=by
 unfold isP;rw[ht,hw]
def is_any {b lb lo cap:Nat} {nv:Value} {L:Toks} {m:Nat} {N:List Nd} {w:World} (h:St b lb lo cap nv L m N w) (s:ByteArray) :
  Calls prog 211 #[.pointer (some ⟨b,0,none⟩),.string s] w fun e w'=>e=.returned (.bool (isP L s m))/\Ext w w':=by
 refine yag ?_;intro TK;obtain⟨⟨⟨k,ts,i⟩,a⟩,htt⟩:∃ tt,tk L m=tt:=⟨_,rfl⟩
 have W:=J (word_any s);cases hw:wordB s
 all_goals
  rw[hw] at W;rw[isP_eq htt s _ hw];rw[htt] at TK;unfold tokV at TK;clear htt hw h;dsimp only at TK ⊢
 . by_cases hk:(k==4)=true
   . rw[if_neg zy,hk];go_enter func211,ntmps211
     go_wp2_with (first
      | (go_at_call 156;refine (W.out _).mono ?_;rintro e _ ⟨rfl,d,os,rfl⟩)
      | (go_at_call 132;refine (TK.out _ zf).mono ?_;rintro e _ ⟨rfl,d2,os2,rfl⟩))
     go_ret;refine ⟨ret_bool ?_,zf⟩
     simp
   . have hk2:(k==4)=false:=(by simpa using hk)
     clear hk;rw[if_neg zy,hk2];go_enter func211,ntmps211
     go_wp2_with (first
      | (go_at_call 156;refine (W.out _).mono ?_;rintro e _ ⟨rfl,d,os,rfl⟩)
      | (go_at_call 132;refine (TK.out _ zf).mono ?_;rintro e _ ⟨rfl,d2,os2,rfl⟩))
     go_ret;refine ⟨ret_bool ?_,zf⟩
     simp
 . by_cases hk:(k==5)=true
   . rw[if_pos rfl,hk];go_enter func211,ntmps211
     go_wp2_with (first
      | (go_at_call 156;refine (W.out _).mono ?_;rintro e _ ⟨rfl,d,os,rfl⟩)
      | (go_at_call 132;refine (TK.out _ zf).mono ?_;rintro e _ ⟨rfl,d2,os2,rfl⟩))
     go_ret;refine ⟨ret_bool ?_,zf⟩
     simp
   . have hk2:(k==5)=false:=(by simpa using hk)
     clear hk;rw[if_pos rfl,hk2];go_enter func211,ntmps211
     go_wp2_with (first
      | (go_at_call 156;refine (W.out _).mono ?_;rintro e _ ⟨rfl,d,os,rfl⟩)
      | (go_at_call 132;refine (TK.out _ zf).mono ?_;rintro e _ ⟨rfl,d2,os2,rfl⟩))
     go_ret;refine ⟨ret_bool ?_,zf⟩
     simp
def qdC {b lb lo cap:Nat} {nv:Value} {L:Toks} {m:Nat} {N:List Nd} {w:World} (h:St b lb lo cap nv L m N w) (s:ByteArray) (hn:isP L s m=false) :
  Calls prog 194 #[.pointer (some ⟨b,0,none⟩),.string s] w fun e w'=>e=.returned (.bool false)/\Ext w w':=by
 have I:=J (is_any h s);rw[hn] at I;clear hn h;go_enter func194,ntmps194
 go_wp2_with (go_at_call 211;refine I.out.mono ?_;rintro e _ ⟨rfl,d,os,rfl⟩)
 go_ret;exact⟨rfl,zf⟩
def qfw {b lb lo cap:Nat} {nv:Value} {L:Toks} {m:Nat} {N:List Nd} {w:World} (h:St b lb lo cap nv L m N w) (s:ByteArray) (hn:isP L s m=true) :
  Calls prog 194 #[.pointer (some ⟨b,0,none⟩),.string s] w fun e w'=>e=.returned (.bool true)/\∃ w1,Ext w w1/\w'=w1.setCell ⟨b,1,none⟩ (.int .i64 ((m:Int)+1)):=by
 have I:=J (is_any h s);rw[hn] at I;have hm:(m:Int)<=5000:=by have:=h.ends.few;have:=h.pos;omega
 have hm0:0<=(m:Int):=Y;obtain⟨c0,c1,c2,c3,f1,f2,f3,hb⟩:=h.facts;clear hn h c0 c2 c3 f2 f3;go_enter func194,ntmps194
 go_wp2_with (go_at_call 211;refine I.out.mono ?_;rintro e _ ⟨rfl,d,os,rfl⟩)
 go_ret;exact⟨rfl,more w d os,zf,by rw[more_setCell _ _ _ _ _ _ hb]⟩
theorem fld_at (k a:Int) (s:ByteArray) (i:Int) (w:World):(Instr.field 186 (.agg #[.int .i64 k,.int .i64 a,.string s,.int .i64 i]) 1).run prog w=.ok (.int .i64 a) w:=by kernel_rfl
theorem fld_s (k a:Int) (s:ByteArray) (i:Int) (w:World):(Instr.field 186 (.agg #[.int .i64 k,.int .i64 a,.string s,.int .i64 i]) 2).run prog w=.ok (.string s) w:=by kernel_rfl
theorem fld_i (k a:Int) (s:ByteArray) (i:Int) (w:World):(Instr.field 186 (.agg #[.int .i64 k,.int .i64 a,.string s,.int .i64 i]) 3).run prog w=.ok (.int .i64 i) w:=by kernel_rfl
attribute [go_sem] fld_at fld_s fld_i
def qcf {b lb lo cap:Nat} {nv:Value} {L:Toks} {m:Nat} {N:List Nd} {w:World} (h:St b lb lo cap nv L m N w) (c:Int) :
  Calls prog 133 #[.pointer (some ⟨b,0,none⟩),.int .i64 c] w fun e w'=>e=noV c (tk L m).2/\Ext w w':=by
 refine yag ?_;intro TK;obtain⟨⟨⟨k,ts,i⟩,a⟩,htt⟩:∃ tt,tk L m=tt:=⟨_,rfl⟩
 rw[htt] at TK ⊢;unfold tokV at TK;dsimp only at TK ⊢;clear htt h;go_enter func133,ntmps133
 go_wp2_with (go_at_call 132;refine (TK.out _ zf).mono ?_;rintro e _ ⟨rfl,d2,os2,rfl⟩)
 exact⟨rfl,rfl,zf⟩
def PPost.err {α:Type} {V:α->Value} {b lb lo cap:Nat} {nv nv':Value} {L:Toks} {m:Nat} {N:List Nd} {w w':World} {c a:Int} {e:Ending} (he:e=noV c a) (hk:Kp b nv nv' w w'):PPost V b lb lo cap nv L m N w (.error (c,a)) e w':=⟨he,nv',hk⟩
def PPost.res {α:Type} {V:α->Value} {b lb lo cap:Nat} {nv nv':Value} {L:Toks} {m m':Nat} {N ns:List Nd} {w w':World} {v:α} {e:Ending} (he:e=.returned (V v)) (hs:St b lb lo cap nv' L m' (N++ns) w') (hk:Kp b nv nv' w w') (hm:m<=m') :
  PPost V b lb lo cap nv L m N w (.ok (v,m',ns)) e w':=⟨he,nv',hs,hk,hm⟩
def qdq {b lb lo cap:Nat} {nv:Value} {L:Toks} {m:Nat} {N:List Nd} {w:World} (h:St b lb lo cap nv L m N w) (d:Nat) (hd:d<=17) (r:PR Unit) (hr:deepP L d m N.length=r) :
  Calls prog 130 #[.pointer (some ⟨b,0,none⟩),.int .i64 (d:Int)] w (PPost unitV b lb lo cap nv L m N w r):=by
 subst hr;refine yaf ?_;intro FL;by_cases h16:16<d
 . unfold deepP;rw[if_pos h16];have h17:(16:Int)<(d:Int):=Y;refine Calls.mono (R:=fun e w'=>e=noV 14 (tk L m).2/\Ext w w') ?_ fun e w' ⟨he,hx⟩=>PPost.err he ((Kp.refl b nv w).ext hx)
   clear h h16;go_enter func130,ntmps130
   go_wp2_with (go_at_call 133;refine (FL.out _ _ zf).mono ?_;rintro e _ ⟨he,d3,os3,rfl⟩;unfold noV at he;subst he)
   exact⟨rfl,rfl,zf⟩
 . unfold deepP;rw[if_neg h16];have h17:(d:Int)<=16:=Y;refine Calls.mono (R:=fun e w'=>e=.returned (.tuple #[])/\Ext w w') ?_ fun e w' ⟨he,hx⟩=>PPost.res he (by simpa using h.ext hx) ((Kp.refl b nv w).ext hx) (Nat.le_refl _)
   clear h h16;go_enter func130,ntmps130
   go_wp2_with (go_at_call 133;refine (FL.out _ _ zf).mono ?_;rintro e _ ⟨he,d3,os3,rfl⟩;unfold noV at he;subst he)
   go_end0;exact⟨rfl,zf⟩
def of_any {b lb lo cap:Nat} {nv:Value} {L:Toks} {m:Nat} {N:List Nd} {w:World} (h:St b lb lo cap nv L m N w) (k0:Int) (h0:k0≠0) (r:PR Tok) (hr:ofP L k0 m N.length=r) :
  Calls prog 112 #[.pointer (some ⟨b,0,none⟩),.int .i64 k0] w (PPost (fun t=>tokV t (tk L m).2) b lb lo cap nv L m N w r):=by
 subst hr;refine yag ?_;intro TK;refine yaf ?_;intro FL;have hm:(m:Int)<=5000:=by have:=h.ends.few;have:=h.pos;omega
 have hm0:0<=(m:Int):=Y;have hnx:(tk L m).1.k=k0->m+1<L.length:=fun e=>h.next (by rw[e];exact h0)
 have H:=J h;obtain⟨c0,c1,c2,c3,f1,f2,f3,hb⟩:=h.facts;clear h c0 c2 c3 f2 f3;obtain⟨⟨⟨k,ts,i⟩,a⟩,htt⟩:∃ tt,tk L m=tt:=⟨_,rfl⟩
 unfold ofP;rw[htt] at TK FL hnx ⊢;unfold tokV at TK;unfold tokV;dsimp only at TK FL hnx ⊢;clear htt;by_cases hk:k=k0
 . rw[if_pos hk];have hlt:=hnx hk;subst hk
   refine Calls.mono (R:=fun e w'=>e=.returned (.agg #[.int .i64 k,.int .i64 a,.string ts,.int .i64 i])/\∃ w1 w2,Ext w w1/\w2=w1.setCell ⟨b,1,none⟩ (.int .i64 ((m:Int)+1))/\Ext w2 w') ?_
    fun e w' ⟨he,w1,w2,hx,hw,hx2⟩=>PPost.res he (by rw[List.append_nil];exact(hw ▸ (H.out.ext hx).setAt (m+1) _ Y hlt).ext hx2) ((hw ▸ ((Kp.refl b nv w).ext hx).setB 1 _).ext hx2) (Nat.le_succ _)
   clear hnx;have hlt:=J hlt;have hkk:(k !=k)=false:=zy;go_enter func112,ntmps112
   go_wp2_with (first | (go_at_call 132;refine (TK.out _ zf).mono ?_;rintro e _ ⟨rfl,d2,os2,rfl⟩) | (go_at_call 133;refine (FL.out _ _ zf).mono ?_;rintro e _ ⟨he,d3,os3,rfl⟩;unfold noV at he;subst he))
   exact bodyPost_ret (v:=.agg #[.int .i64 k,.int .i64 a,.string ts,.int .i64 i]) (by simp[results,results112,go_sem]) rfl ⟨rfl,_,_,Ext.refl _,rfl,zf⟩
 . rw[if_neg hk];have hkk:(k !=k0)=true:=by simpa using hk
   refine Calls.mono (R:=fun e w'=>e=noV 3 a/\Ext w w') ?_ fun e w' ⟨he,hx⟩=>PPost.err he ((Kp.refl b nv w).ext hx)
   clear hnx hk;go_enter func112,ntmps112
   go_wp2_with (first | (go_at_call 132;refine (TK.out _ zf).mono ?_;rintro e _ ⟨rfl,d2,os2,rfl⟩) | (go_at_call 133;refine (FL.out _ _ zf).mono ?_;rintro e _ ⟨he,d3,os3,rfl⟩;unfold noV at he;subst he))
   exact⟨rfl,rfl,zf⟩
def nv_form {b lb lo cap:Nat} {nv:Value} {L:Toks} {m:Nat} {N:List Nd} {w:World} (h:St b lb lo cap nv L m N w):∃ len c p,nv=.slice p len c/\len=N.length:=by
 rcases Go.Joins.ownsRow_forms h.row with ⟨rfl,h0⟩ | ⟨g1,c,rfl⟩
 . exact⟨_,_,_,rfl,h0.symm⟩
 . exact⟨_,_,_,rfl,rfl⟩
def qeD {w:World} {N d1 d2:Nat} {os1 os2:Array Obj} {cs:Array Value} {t:TypeId} (hN:N=w.heap.size+os1.size) :
  ∀ j u,cs.toList[j]?=some u->(more ((more w d1 os1).alloc (.cells cs t)) d2 os2).cell? ((⟨N,0,none⟩:Addr).add j)=some u:=by
 intro j u h;have hN':N=(more w d1 os1).heap.size:=by rw[more_size];exact hN
 subst hN';rw[Addr.add_lit,qcw _ _ _ _ _ zy];simp only[World.cell?,heap_alloc_new]
 simpa using h
def lay_any {b lb lo cap:Nat} {nv:Value} {L:Toks} {m:Nat} {N:List Nd} {w:World} (h:St b lb lo cap nv L m N w) (zk za zb zc zx zi:Int) (zs zt:ByteArray) (r:PR Int) (hr:layP L ⟨zk,za,zb,zc,zx,zi,zs,zt⟩ m N.length=r) :
  Calls prog 168 #[.pointer (some ⟨b,0,none⟩),.agg #[.int .i64 zk,.int .i64 za,.int .i64 zb,.int .i64 zc,.int .i64 zx,.int .i64 zi,.string zs,.string zt]] w (PPost intV b lb lo cap nv L m N w r):=by
 subst hr;refine yaf ?_;intro FL;obtain⟨len,c,p,rfl,hlen⟩:=nv_form h;have hcnt:=h.cnt;subst hlen;have H:=J h;obtain⟨c0,c1,c2,c3,f1,f2,f3,hb⟩:=h.facts;unfold layP;by_cases h5:N.length=512
 . rw[if_pos h5];have q5:((N.length:Int)==512)=true:=by rw[h5];rfl
   refine Calls.mono (R:=fun e w'=>e=noV 5 (tk L m).2/\Ext w w') ?_ fun e w' ⟨he,hx⟩=>PPost.err he ((Kp.refl b _ w).ext hx)
   clear h h5 c0 c1 c3 f1 f3;go_enter func168,ntmps168
   go_wp2_with (go_at_call 133;refine (FL.out _ _ zf).mono ?_;rintro e _ ⟨he,d3,os3,rfl⟩;unfold noV at he;subst he)
   exact⟨rfl,rfl,zf⟩
 . rw[if_neg h5];have q5:((N.length:Int)==512)=false:=zg;have h512:N.length<512:=Y;have H5:=J h512;have hmx:(N.length:Int)<=511:=Y;obtain⟨i0,hi,hz0,hz1,hz2⟩:=info_parts ndInfo;clear h h5 c0 c1 c3 f1 f3 h512 hcnt FL;go_enter func168,ntmps168;go_wp2_with fail;refine qaa 8 33 [true,false,false,false,false,false,false,false] zv zv rfl ?_;refine zh ?_;refine Lex.stepP rfl rfl ?_;intro K hK;go_simp;refine hK _ ?_;clear hK K
   iterate 6 (refine Lex.step rfl ?_;intro K hK;unfold StepG;go_simp;refine hK _ ?_;clear hK K)
   refine Lex.sliceLit 21 (.cells #[.int .i64 zk,.int .i64 za,.int .i64 zb,.int .i64 zc,.int .i64 zx,.int .i64 zi,.string zs,.string zt] 166) 1 1 rfl rfl (fun d os=>?_) ?_
   . unfold StepG;go_simp;exact⟨(Ext.refl _).alloc _,NewSl.of_alloc _ _ _ _ _ _ _ jf⟩
   refine Lex.nil fun WW hE=>?_
   intro u hu;obtain⟨d1,os1,d2,os2,rfl,rfl⟩:=hu.split hE;clear hu hE;go_simp;unfold FillH
   go_wp2_with (at_builtin;refine wpList_append_own_at _ rfl _ _ 130 rfl (b+1) 166 i0 (.agg #[.int .i64 0,.int .i64 0,.int .i64 0,.int .i64 0,.int .i64 0,.int .i64 0,.string ⟨#[]⟩,.string ⟨#[]⟩]) 8 80 underlying130 hi hz0 hz1 hz2 rfl zw (.slice p N.length c) N.length (qac N) rfl ?c0 ⟨_,0,none⟩ 1 1 [.int .i64 zk,.int .i64 za,.int .i64 zb,.int .i64 zc,.int .i64 zx,.int .i64 zi,.string zs,.string zt] rfl rfl ?c1 ?c2 ?c3 ?c4 ?c5 ?_)
   case c0=>repeat(first | (with_reducible exact H.out.row) | (with_reducible apply own_more) | (with_reducible refine World.ownsRow.alloc ?_ _))
   case c1=>exact qeD jf
   case c2=>intro u hu;simp at hu;rcases hu with rfl | rfl | rfl | rfl | rfl | rfl | rfl | rfl<;>rfl
   case c3=>unfold maxLen;omega
   case c4=>omega
   case c5=>simp[more_size];omega
   intro v' w1 hown' hgrow _ hblk;have HS:Hid (St b lb lo cap v' L m (N++[⟨zk,za,zb,zc,zx,zi,zs,zt⟩]) (w1.setCell ⟨b,2,none⟩ v')):=J (St.push (by repeat(first | (with_reducible exact H.out) | (with_reducible apply St.alloc) | (with_reducible apply St.more))) hown' hgrow H5.out);have HK:Hid (Kp b (.slice p N.length c) v' w (w1.setCell ⟨b,2,none⟩ v')):=J (Kp.push (by repeat(first | (with_reducible exact Kp.refl _ _ _) | (with_reducible apply Kp.alloc) | (with_reducible apply Kp.more))) hgrow (by simp only[more_size,World.size_alloc];exact hblk));obtain⟨hc2,hb1,hb2⟩:=St.grownFacts (by repeat(first | (with_reducible exact H.out) | (with_reducible apply St.alloc) | (with_reducible apply St.more))) hgrow;have hb3:∃ g cap1,v'=.slice (some ⟨g,0,none⟩) (N.length+1) cap1:=by obtain⟨g1,cap1,rfl,_,_⟩:=hown'.form Y;exact⟨_,_,rfl⟩
   obtain⟨g1,cap1,rfl⟩:=hb3;clear hown' hgrow hblk;go_wp2_with fail
   first | rw[ends_normal] | skip
   go_wp2_with fail;go_ret;exact PPost.res (by first | rfl | (show Ending.returned (.int .i64 _)=_;exact ret_int Y)) HS.out HK.out (Nat.le_refl _)
def qaG (k:Int) (w:World):Calls prog 165 #[.int .i64 k] w fun e w'=>e=.returned (.agg #[.int .i64 k,.int .i64 (-1),.int .i64 (-1),.int .i64 (-1),.int .i64 (-1),.int .i64 0,.string ⟨#[]⟩,.string ⟨#[]⟩])/\Ext w w':=by
 go_enter func165,ntmps165;go_wp2_with fail;exact bodyPost_ret (v:=.agg #[.int .i64 k,.int .i64 (-1),.int .i64 (-1),.int .i64 (-1),.int .i64 (-1),.int .i64 0,.string ⟨#[]⟩,.string ⟨#[]⟩]) (by simp[results,results165,go_sem]) rfl ⟨rfl,zf⟩
def qeU {L:Toks} {m:Nat} {s:ByteArray} (h:isP L s m=true):(tk L m).1.k≠0:=by
 unfold isP at h;intro e;rw[e] at h
 split at h<;>simp at h
def Loc.node {b:Nat} {nv:Value} {k:Nat} {w:World} {v0 v1 v2 v3 v4 v5 v6 v7:Value} (h:Loc b nv k (.cells #[v0,v1,v2,v3,v4,v5,v6,v7] 166 (0,0)) w) :
  w.cell? ⟨k,0,none⟩=some v0/\w.cell? ⟨k,1,none⟩=some v1/\w.cell? ⟨k,2,none⟩=some v2/\w.cell? ⟨k,3,none⟩=some v3/\w.cell? ⟨k,4,none⟩=some v4/\w.cell? ⟨k,5,none⟩=some v5/\w.cell? ⟨k,6,none⟩=some v6/\w.cell? ⟨k,7,none⟩=some v7 /\
  w.frozen? ⟨k,0,none⟩=false/\w.frozen? ⟨k,1,none⟩=false/\w.frozen? ⟨k,2,none⟩=false/\w.frozen? ⟨k,3,none⟩=false/\w.frozen? ⟨k,5,none⟩=false/\w.frozen? ⟨k,6,none⟩=false/\w.frozen? ⟨k,7,none⟩=false/\k<w.heap.size:=by
 have:=h.is;refine ⟨?_,?_,?_,?_,?_,?_,?_,?_,?_,?_,?_,?_,?_,?_,?_,h.lt⟩<;>simp[World.cell?,World.frozen?,this]
def takes_any {b lb lo cap:Nat} {nv:Value} {L:Toks} {m:Nat} {N:List Nd} {w:World} (h:St b lb lo cap nv L m N w) (s:ByteArray) (r:PR Bool) (hr:takesP L s m N.length=r) :
  Calls prog 194 #[.pointer (some ⟨b,0,none⟩),.string s] w (PPost (fun x=>.bool x) b lb lo cap nv L m N w r):=by
 subst hr;unfold takesP;by_cases hp:isP L s m=true
 . rw[if_pos hp];refine (qfw h s hp).mono fun e w' ⟨he,w1,hx,hw⟩=>?_
   subst hw;exact PPost.res he (by rw[List.append_nil];exact(h.ext hx).setAt (m+1) _ Y (h.next (qeU hp))) (((Kp.refl b nv w).ext hx).setB 1 _) (Nat.le_succ _)
 . rw[if_neg hp];refine (qdC h s (by simpa using hp)).mono fun e w' ⟨he,hx⟩=>?_
   exact PPost.res he (by rw[List.append_nil];exact h.ext hx) ((Kp.refl b nv w).ext hx) (Nat.le_refl _)
def qbp {L:Toks} {s:ByteArray} {r:List ByteArray} {m n:Nat} (h:isP L s m=true):mustP L (s::r) m n=mustP L r (m+1) n:=by
 rw[mustP,qai (v:=()) (m1:=m+1) (ns:=[]) (by unfold must1;rw[if_pos h]),qaF];rfl
def qdh {L:Toks} {s:ByteArray} {r:List ByteArray} {m n:Nat} (h:isP L s m=false):mustP L (s::r) m n=.error (3,(tk L m).2):=by
 rw[mustP];exact qap (by unfold must1;rw[h];rfl)
def qfk {α:Type} (ss:List α) (j:Nat) (d:α) (h:j<ss.length):ss.drop j=ss.getD j d::ss.drop (j+1):=by
 rw[List.drop_eq_getElem_cons h];simp[List.getD,List.getElem?_eq_getElem h]
def strs (ss:List ByteArray):Obj:=.cells (ss.map Value.string).toArray 9 (0,0)
def Loc.str {b:Nat} {nv:Value} {g:Nat} {ss:List ByteArray} {w:World} (h:Loc b nv g (strs ss) w) (j:Nat) (hj:j<ss.length):w.cell? ⟨g,j,none⟩=some (.string (ss.getD j ⟨#[]⟩)):=by
 have:=h.is;unfold strs at this;simp[World.cell?,this,List.getD,List.getElem?_eq_getElem hj]
def must_any {b lb lo cap:Nat} {nv:Value} {L:Toks} {m:Nat} {N:List Nd} {w:World} (h:St b lb lo cap nv L m N w) (ss:List ByteArray) (g c:Nat) (hg:Loc b nv g (strs ss) w) (hss:ss.length<=100) (r:PR Unit) (hr:mustP L ss m N.length=r) :
  Calls prog 195 #[.pointer (some ⟨b,0,none⟩),.slice (some ⟨g,0,none⟩) ss.length c] w (PPost unitV b lb lo cap nv L m N w r):=by
 have H:=J h;have G:=J hg;have R:=J hr;have hsz:(ss.length:Int)<=100:=Y;clear h hg hr;go_enter func195,ntmps195;go_wp2_with fail;go_loopw [8] (fun i wr=>∃ j:Nat,i=.int .i64 (j:Int)/\j<=ss.length/\St b lb lo cap nv L (m+j) N wr/\Kp b nv nv w wr/\mustP L (ss.drop j) (m+j) N.length=r) (fun i _=>ss.length-(intOf i).toNat)
 case atStart=>exact⟨0,rfl,Nat.zero_le _,H.out,Kp.refl _ _ _,R.out⟩
 case round =>
  obtain⟨j,rfl,hj,hst,hkp,hr⟩:=hrel;by_cases hlt:j<ss.length
  . have hlt2:(j:Int)<(ss.length:Int):=Y;have hj0:0<=(j:Int):=Y;have hcell:=((G.out.kp hkp).str j hlt)
    rw[qfk ss j ⟨#[]⟩ hlt] at hr;obtain⟨s,hs⟩:∃ s,ss.getD j ⟨#[]⟩=s:=⟨_,rfl⟩
    rw[hs] at hcell hr;have HS:=J hst;have HK:=J hkp;cases hp:isP L s (m+j)
    . rw[qdh hp] at hr;subst hr;have T:=J (qdC hst s hp);have FL:=fun c (w1:World) (hx:Ext wr w1)=>qcf (hst.ext hx) c
      have FL:=J FL;clear hst hkp hlt hs hp R
      go_wp2_with (first
       | (go_at_call 194;refine T.out.mono ?_;rintro e _ ⟨rfl,d,os,rfl⟩)
       | (go_at_call 133;refine (FL.out _ _ zf).mono ?_;rintro e _ ⟨he,d3,os3,rfl⟩;unfold noV at he;subst he))
      exact⟨rfl,PPost.err rfl (HK.out.ext zf)⟩
    . rw[qbp hp] at hr;have R:=J hr;have T:=J (qfw hst s hp);have NX:=J (hst.next (qeU hp));clear hst hkp hlt hs hp hr
      go_wp2_with (go_at_call 194;refine T.out.mono ?_;rintro e _ ⟨rfl,w1,hx,rfl⟩;have HX:=J hx;clear hx)
      go_roundw
      case rel=>exact⟨j+1,by go_num,Y,by rw[<-Nat.add_assoc];exact(HS.out.ext HX.out).setAt (m+j+1) _ Y NX.out,(HK.out.ext HX.out).setB 1 _,by rw[<-Nat.add_assoc];exact R.out⟩
      case measure=>simp[intOf];omega
  . have hge:(ss.length:Int)<=(j:Int):=Y;have e:ss.drop j=[]:=List.drop_eq_nil_of_le Y;rw[e,mustP] at hr;have R2:=J hr;have HS:=J hst;have HK:=J hkp;clear hr e hst hkp;go_wp2_with fail;go_end0;have:=R2.out;subst this;exact PPost.res rfl (by rw[List.append_nil];exact HS.out) HK.out (Nat.le_add_right _ _)
def optV:Option ByteArray->Value
 | none=>.tuple #[.string ⟨#[]⟩,.bool false]
 | some s=>.tuple #[.string s,.bool true]
def findP (L:Toks) (m:Nat) (ss:List ByteArray):PR (Option ByteArray):=match ss.find? (fun s=>isP L s m) with
 | none=>.ok (none,m,[])
 | some s=>.ok (some s,m+1,[])
def findP_yes {L:Toks} {s:ByteArray} {r:List ByteArray} {m:Nat} (h:isP L s m=true):findP L m (s::r)=.ok (some s,m+1,[]):=by
 unfold findP;rw[List.find?_cons];simp[h]
def findP_no {L:Toks} {s:ByteArray} {r:List ByteArray} {m:Nat} (h:isP L s m=false):findP L m (s::r)=findP L m r:=by
 unfold findP;rw[List.find?_cons];simp[h]
def qdd {b lb lo cap:Nat} {nv:Value} {L:Toks} {m:Nat} {N:List Nd} {w:World} (h:St b lb lo cap nv L m N w) (ss:List ByteArray) (g c:Nat) (hg:Loc b nv g (strs ss) w) (hss:ss.length<=100) (r:PR (Option ByteArray)) (hr:qaP L ss m N.length=r) :
  Calls prog 218 #[.pointer (some ⟨b,0,none⟩),.slice (some ⟨g,0,none⟩) ss.length c] w (PPost optV b lb lo cap nv L m N w r):=by
 have H:=J h;have G:=J hg;have hr2:findP L m ss=r:=hr;have R:=J hr2;have hsz:(ss.length:Int)<=100:=Y;clear h hg hr hr2;go_enter func218,ntmps218;go_wp2_with fail;go_loopw [10] (fun i wr=>∃ j:Nat,i=.int .i64 (j:Int)/\j<=ss.length/\St b lb lo cap nv L m N wr/\Kp b nv nv w wr/\findP L m (ss.drop j)=r) (fun i _=>ss.length-(intOf i).toNat)
 case atStart=>exact⟨0,rfl,Nat.zero_le _,H.out,Kp.refl _ _ _,R.out⟩
 case round =>
  obtain⟨j,rfl,hj,hst,hkp,hr⟩:=hrel;by_cases hlt:j<ss.length
  . have hlt2:(j:Int)<(ss.length:Int):=Y;have hj0:0<=(j:Int):=Y;have hcell:=((G.out.kp hkp).str j hlt)
    rw[qfk ss j ⟨#[]⟩ hlt] at hr;obtain⟨s,hs⟩:∃ s,ss.getD j ⟨#[]⟩=s:=⟨_,rfl⟩
    rw[hs] at hcell hr;have HS:=J hst;have HK:=J hkp;cases hp:isP L s m
    . rw[findP_no hp] at hr;have R2:=J hr;have T:=J (qdC hst s hp);clear hst hkp hlt hs hp R hr
      go_wp2_with (go_at_call 194;refine T.out.mono ?_;rintro e _ ⟨rfl,d,os,rfl⟩)
      go_roundw
      case rel=>exact⟨j+1,by go_num,Y,HS.out.more _ _,HK.out.more _ _,R2.out⟩
      case measure=>simp[intOf];omega
    . rw[findP_yes hp] at hr;have R2:=J hr;have T:=J (qfw hst s hp);have NX:=J (hst.next (qeU hp));clear hst hkp hlt hs hp hr R
      go_wp2_with (go_at_call 194;refine T.out.mono ?_;rintro e _ ⟨rfl,w1,hx,rfl⟩;have HX:=J hx;clear hx)
      go_ret2;have:=R2.out;subst this;exact PPost.res rfl (by rw[List.append_nil];exact(HS.out.ext HX.out).setAt (m+1) _ Y NX.out) ((HK.out.ext HX.out).setB 1 _) (Nat.le_succ _)
  . have hge:(ss.length:Int)<=(j:Int):=Y;have e:ss.drop j=[]:=List.drop_eq_nil_of_le Y;rw[e] at hr;have R2:=J hr;have HS:=J hst;have HK:=J hkp;clear hr e hst hkp;go_wp2_with fail;go_ret2;have:=R2.out;subst this;exact PPost.res rfl (by rw[List.append_nil];exact HS.out) HK.out (Nat.le_refl _)
def turns_any {b lb lo cap:Nat} {nv:Value} {L:Toks} {m:Nat} {N:List Nd} {w:World} (h:St b lb lo cap nv L m N w) (r:PR Int) (hr:qbo L m N.length=r) :
  Calls prog 166 #[.pointer (some ⟨b,0,none⟩)] w (PPost intV b lb lo cap nv L m N w r):=by
 refine yag ?_;intro TK;refine yaf ?_;intro FL;have OF:Hid (∀ w1,Ext w w1->Calls prog 112 #[.pointer (some ⟨b,0,none⟩),.int .i64 2] w1 (PPost (fun t=>tokV t (tk L m).2) b lb lo cap nv L m N w1 (ofP L 2 m N.length))):=J fun w1 hx=>of_any (h.ext hx) 2 zw _ rfl
 have H:=J h;obtain⟨⟨⟨k,ts,i⟩,a⟩,htt⟩:∃ tt,tk L m=tt:=⟨_,rfl⟩
 unfold qbo pbind at hr;unfold ofP at OF hr;rw[htt] at TK FL OF hr;unfold tokV at TK OF;dsimp only at TK FL hr OF;clear htt h;by_cases hk:k=2
 . subst hk;by_cases hi:64<i
   . rw[if_pos ⟨rfl,hi⟩] at hr;subst hr;go_enter func166,ntmps166
     go_wp2_with (first | (go_at_call 132;refine (TK.out _ zf).mono ?_;rintro e _ ⟨rfl,d2,os2,rfl⟩) | (go_at_call 133;refine (FL.out _ _ zf).mono ?_;rintro e _ ⟨he,d3,os3,rfl⟩;unfold noV at he;subst he))
     exact⟨rfl,PPost.err rfl ((Kp.refl b nv w).ext zf)⟩
   . rw[if_neg Y,if_pos rfl] at hr;rw[if_pos rfl] at OF;subst hr;have hi2:i<=64:=Y;clear hi;go_enter func166,ntmps166
     go_wp2_with (first | (go_at_call 132;refine (TK.out _ zf).mono ?_;rintro e _ ⟨rfl,d2,os2,rfl⟩) | (go_at_call 133;refine (FL.out _ _ zf).mono ?_;rintro e _ ⟨he,d3,os3,rfl⟩;unfold noV at he;subst he) | (go_at_call 112;refine (OF.out _ zf).mono ?_;rintro e w1 ⟨rfl,nv1,hs1,hk1,_⟩;have HS1:=J hs1;have HK1:=J hk1;clear hs1 hk1))
     go_ret;exact PPost.res rfl HS1.out (((Kp.refl b nv w).ext zf).trans HK1.out) (Nat.le_succ _)
 . rw[if_neg Y,if_neg hk] at hr;rw[if_neg hk] at OF;subst hr;have hk2:(k==2)=false:=by simpa using hk
   clear hk;go_enter func166,ntmps166
   go_wp2_with (first | (go_at_call 132;refine (TK.out _ zf).mono ?_;rintro e _ ⟨rfl,d2,os2,rfl⟩) | (go_at_call 133;refine (FL.out _ _ zf).mono ?_;rintro e _ ⟨he,d3,os3,rfl⟩;unfold noV at he;subst he) | (go_at_call 112;refine (OF.out _ zf).mono ?_;rintro e w1 ⟨he,nv1,hk1⟩;have HK1:=J hk1;clear hk1;unfold noV at he;subst he))
   exact⟨rfl,PPost.err rfl (((Kp.refl b nv w).ext zf).trans HK1.out)⟩
def twoL_none {L:Toks} {cl:PM Int} {ss:List ByteArray} {g:Nat} {a:Int} {m n:Nat} (h1:qaP L ss m n=.ok (none,m,[])):qaA L cl ss (g+1) a m n=.ok (a,m,[]):=by
 rw[qaA,qai h1,qaF];rfl
def twoL_err {L:Toks} {cl:PM Int} {ss:List ByteArray} {g:Nat} {a:Int} {m n:Nat} {s:ByteArray} {m1:Nat} {e:Int × Int} (h1:qaP L ss m n=.ok (some s,m1,[])) (h2:cl m1 n=.error e):qaA L cl ss (g+1) a m n=.error e:=by
 rw[qaA,qai h1,qaF];exact qap h2
def twoL_lay {L:Toks} {cl:PM Int} {ss:List ByteArray} {g:Nat} {a c:Int} {m n:Nat} {s:ByteArray} {m1 m2:Nat} {ns:List Nd} {e:Int × Int} (h1:qaP L ss m n=.ok (some s,m1,[])) (h2:cl m1 n=.ok (c,m2,ns)) (h3:layP L (twoNd a c s) m2 (n+ns.length)=.error e):qaA L cl ss (g+1) a m n=.error e:=by
 rw[qaA,qai h1,qaF];dsimp only[List.length_nil,Nat.add_zero];rw[qai h2,qap h3];rfl
def twoL_ok {L:Toks} {cl:PM Int} {ss:List ByteArray} {g:Nat} {a c a1:Int} {m n:Nat} {s:ByteArray} {m1 m2 m3:Nat} {ns ns2:List Nd} (h1:qaP L ss m n=.ok (some s,m1,[])) (h2:cl m1 n=.ok (c,m2,ns)) (h3:layP L (twoNd a c s) m2 (n+ns.length)=.ok (a1,m3,ns2)):qaA L cl ss (g+1) a m n=prep (ns++ns2) (qaA L cl ss g a1 m3 (n+(ns++ns2).length)):=by
 rw[qaA,qai h1,qaF];dsimp only[List.length_nil,Nat.add_zero];rw[qai h2,qai h3,qbT,List.length_append,Nat.add_assoc]
def thenR {α β:Type} (r:PR α) (f:α->Nat->List Nd->PR β):PR β:=match r with
 | .error e=>.error e
 | .ok (v,m,ns)=>f v m ns
def oneOf_cases (L:Toks) (ss:List ByteArray) (m n:Nat):qaP L ss m n=.ok (none,m,[])\/∃ s,qaP L ss m n=.ok (some s,m+1,[]):=by
 unfold qaP
 cases ss.find? fun s=>isP L s m with
 | none=>exact Or.inl rfl
 | some s=>exact Or.inr ⟨s,rfl⟩
def Clo (b lb lo cap:Nat) (L:Toks) (F:FuncId) (args:Array Value) (Env:Value->World->Prop) (cl:PM Int):Prop :=
 ∀ nv m N w,St b lb lo cap nv L m N w->Env nv w->Calls prog F args w (PPost intV b lb lo cap nv L m N w (cl m N.length))
def Stays (b:Nat) (Env:Value->World->Prop):Prop:=∀ nv nv' w w',Kp b nv nv' w w'->Env nv w->Env nv' w'
def St.cast {b lb lo cap:Nat} {nv:Value} {L:Toks} {m:Nat} {N N':List Nd} {w:World} (h:St b lb lo cap nv L m N w) (e:N=N'):St b lb lo cap nv L m N' w:=e ▸ h
def qeH {b lb lo cap:Nat} {nv:Value} {L:Toks} {m:Nat} {N:List Nd} {w:World} (h:St b lb lo cap nv L m N w) (d:Nat) (F:FuncId) (first cap2:Array Value) (Env:Value->World->Prop) (hE:Stays b Env) (cl:PM Int)
  (hcl:Clo b lb lo cap L F (first.push (.int .i64 (d:Int))++cap2) Env cl) (hF:∀ args w,(Sem.run prog (callFunc F args) w)=.ok (.enter F args) w) (he:Env nv w) (ss:List ByteArray) (gs c:Nat) (hg:Loc b nv gs (strs ss) w) (hss:ss.length<=100) (r:PR Int) (hr:twoP L cl ss m N.length=r) :
  Calls prog 213 #[.pointer (some ⟨b,0,none⟩),.int .i64 (d:Int),.func (.func F) first cap2,.slice (some ⟨gs,0,none⟩) ss.length c] w (PPost intV b lb lo cap nv L m N w r):=by
 have H:=J h;have G:=J hg;have CL:=J hcl;have EN:=J he;have HE:=J hE;have R:=J hr;clear h hg hcl he hE hr;obtain⟨r1,hr1⟩:∃ r1,cl m N.length=r1:=⟨_,rfl⟩
 have C1:=J (CL.out nv m N w H.out EN.out);rw[hr1] at C1;rcases r1 with ⟨e1,e2⟩ | ⟨a1,m1,ns1⟩
 . have R2:Hid (.error (e1,e2)=r):=J (by rw[<-R.out];unfold twoP;rw[qap hr1]);clear R hr1;go_enter func213,ntmps213
   go_wp2_with ((with_reducible refine C1.out.mono ?_);rintro e w1 ⟨he,nv1,hk1⟩;have HK1:=J hk1;clear hk1;unfold noV at he;subst he)
   have:=R2.out;subst this;exact⟨rfl,PPost.err rfl HK1.out⟩
 . have R2:Hid (prep ns1 (qaA L cl ss (L.length+1) a1 m1 (N.length+ns1.length))=r):=J (by rw[<-R.out];unfold twoP;rw[qai hr1]);clear R hr1;go_enter func213,ntmps213
   go_wp2_with ((with_reducible refine C1.out.mono ?_);rintro e w1 ⟨he,nv1,hs1,hk1,hm1⟩;have HK1:=J hk1;have HS1:=J hs1;have HM1:=J hm1;clear hk1 hs1 hm1;unfold intV at he;subst he)
   go_loopg [9] (L.length+1) (fun g a wr=>∃ (z:Int) (m2:Nat) (ns:List Nd) (nv2:Value),a=.int .i64 z/\m<=m2/\L.length+1<=m2+g/\St b lb lo cap nv2 L m2 (N++ns) wr/\Kp b nv nv2 w wr/\prep ns (qaA L cl ss g z m2 (N.length+ns.length))=r)
   case atStart=>exact⟨a1,m1,ns1,nv1,rfl,HM1.out,Y,HS1.out,HK1.out,R2.out⟩
   case round =>
    obtain⟨z,m2,ns,nv2,rfl,hm2,hg,hst,hkp,hres⟩:=hrel;obtain⟨g0,rfl⟩:∃ g0,gk=g0+1:=⟨gk-1,by have:=hst.pos;omega⟩
    have GS:=J (G.out.kp hkp);have HK:=J hkp;have HM:=J hm2;have HG:=J hg;rcases oneOf_cases L ss m2 (N++ns).length with h1 | ⟨s,h1⟩
    . rw[twoL_none (by rw[<-List.length_append];exact h1)] at hres;have RR:=J hres;have O:=J (qdd hst ss gs c GS.out hss _ h1);clear hres h1 hst hkp hm2 hg
      go_wp2_with (((with_reducible refine O.out.mono ?_);rintro e w2 ⟨he,nv3,hs3,hk3,_⟩;have HS3:=J hs3;have HK3:=J hk3;clear hs3 hk3;unfold optV at he;subst he))
      go_ret;have:=RR.out;subst this;exact PPost.res rfl (HS3.out.cast zy) (HK.out.trans HK3.out) HM.out
    . obtain⟨r3,hr3⟩:∃ r3,cl (m2+1) (N.length+ns.length)=r3:=⟨_,rfl⟩
      have O:=J (qdd hst ss gs c GS.out hss _ h1);rw[List.length_append] at h1;rcases r3 with ⟨e1,e2⟩ | ⟨z3,m3,ns3⟩
      . rw[twoL_err h1 hr3] at hres;have RR:=J hres
        have C3:Hid (∀ nv3 w3,St b lb lo cap nv3 L (m2+1) (N++ns++[]) w3->Env nv3 w3->Calls prog F (first.push (.int .i64 (d:Int))++cap2) w3 (PPost intV b lb lo cap nv3 L (m2+1) (N++ns++[]) w3 (.error (e1,e2)))) :=
         J fun nv3 w3 hs he=>by have:=CL.out nv3 (m2+1) _ w3 hs he;rw[List.append_nil,List.length_append,hr3] at this;rw[List.append_nil];exact this
        clear hres h1 hst hkp hm2 hg hr3
        go_wp2_with (first
         | (((with_reducible refine O.out.mono ?_);rintro e w2 ⟨he,nv3,hs3,hk3,_⟩;have HS3:=J hs3;have HK3:=J hk3;clear hs3 hk3;unfold optV at he;subst he))
         | (((with_reducible refine (qaG _ _).mono ?_);rintro e _ ⟨rfl,d3,os3,rfl⟩)))
        refine (C3.out nv3 _ ((HS3.out.more _ _).alloc _) (HE.out _ _ _ _ (((HK.out.trans HK3.out).more _ _).alloc _) EN.out)).mono ?_;rintro e w4 ⟨he,nv4,hk4⟩;unfold noV at he;subst he;have HK4:=J hk4;clear hk4;go_wp2_with fail;have:=RR.out;subst this;exact⟨rfl,PPost.err rfl ((((HK.out.trans HK3.out).more _ _).alloc _).trans HK4.out)⟩
      . obtain⟨r4,hr4⟩:∃ r4,layP L (twoNd z z3 s) m3 (N.length+ns.length+ns3.length)=r4:=⟨_,rfl⟩
        have C3:Hid (∀ nv3 w3,St b lb lo cap nv3 L (m2+1) (N++ns++[]) w3->Env nv3 w3->Calls prog F (first.push (.int .i64 (d:Int))++cap2) w3 (PPost intV b lb lo cap nv3 L (m2+1) (N++ns++[]) w3 (.ok (z3,m3,ns3)))) :=
         J fun nv3 w3 hs he=>by have:=CL.out nv3 (m2+1) _ w3 hs he;rw[List.append_nil,List.length_append,hr3] at this;rw[List.append_nil];exact this
        have LA:Hid (∀ nv4 w5,St b lb lo cap nv4 L m3 (N++ns++[]++ns3) w5->Calls prog 168 #[.pointer (some ⟨b,0,none⟩),.agg #[.int .i64 11,.int .i64 z,.int .i64 z3,.int .i64 (-1),.int .i64 (-1),.int .i64 0,.string s,.string ⟨#[]⟩]] w5 (PPost intV b lb lo cap nv4 L m3 (N++ns++[]++ns3) w5 r4)) :=
         J fun nv4 w5 hs=>lay_any hs _ _ _ _ _ _ _ _ r4 zcn
        have RR:Hid (prep ns (thenR r4 fun a1 m4 ns4=>prep (ns3++ns4) (qaA L cl ss g0 a1 m4 (N.length+ns.length+(ns3++ns4).length)))=r):=J (by
         rw[<-hres]
         congr 1
         rcases r4 with ⟨e1,e2⟩ | ⟨a1,m4,ns4⟩
         . rw[twoL_lay h1 hr3 hr4];rfl
         . rw[twoL_ok h1 hr3 hr4];rfl)
        clear hres h1 hst hkp hm2 hg hr3 hr4
        go_wp2_with (first
         | (((with_reducible refine O.out.mono ?_);rintro e w2 ⟨he,nv3,hs3,hk3,_⟩;have HS3:=J hs3;have HK3:=J hk3;clear hs3 hk3;unfold optV at he;subst he))
         | (((with_reducible refine (qaG _ _).mono ?_);rintro e _ ⟨rfl,d3,os3,rfl⟩)))
        have LC:=J ((HS3.out.more d3 os3).loc (.cells #[.int .i64 11,.int .i64 z,.int .i64 (-1),.int .i64 (-1),.int .i64 (-1),.int .i64 0,.string s,.string ⟨#[]⟩] 166 (0,0)));refine (C3.out nv3 _ ((HS3.out.more _ _).alloc _) (HE.out _ _ _ _ (((HK.out.trans HK3.out).more _ _).alloc _) EN.out)).mono ?_;rintro e w4 ⟨he,nv4,hs4,hk4,hm4⟩;unfold intV at he;subst he;have LC4:=J (LC.out.kp hk4);have HS4:=J hs4;have HK4:=J hk4;have HM4:=J hm4;clear hs4 hk4 hm4 LC;obtain⟨kn,hkn⟩:∃ kn,(more w2 d3 os3).heap.size=kn:=⟨_,rfl⟩
        rw[hkn] at LC4;rw[more_size] at hkn;have hkw:w.heap.size<=kn:=(by have:=(HK.out.trans HK3.out).size;omega)
        have hlk:lb≠kn:=(by have:=HS3.out.low;have:=HS3.out.lt;omega)
        rw[hkn];obtain⟨n0,n1,n2,n3,n4,n5,n6,n7,z0,z1,z2,z3',z5,z6,z7,hkl⟩:=LC4.out.node;have HKN:=J hkn;have HKW:=J hkw;have HLK:=J hlk;clear hkn hkw hlk;go_wp2_with fail;refine (LA.out nv4 _ (HS4.out.setLoc LC4.out HLK.out 2 _)).mono ?_;have KK:Hid (Kp b nv nv4 w (w4.setCell ⟨kn,2,none⟩ (.int .i64 z3))):=J (((((HK.out.trans HK3.out).more _ _).alloc _).trans HK4.out).setNew HKW.out 2 _);rcases r4 with ⟨e1,e2⟩ | ⟨a4,m4,ns4⟩
        . rintro e w5 ⟨he,nv5,hk5⟩;unfold noV at he;subst he;have HK5:=J hk5;clear hk5;go_wp2_with fail;have:=RR.out;subst this;exact⟨rfl,PPost.err rfl (KK.out.trans HK5.out)⟩
        . rintro e w5 ⟨he,nv5,hs5,hk5,hm5⟩;unfold intV at he;subst he;have HS5:=J hs5;have HK5:=J hk5;have HM5:=J hm5;clear hs5 hk5 hm5 n0 n1 n2 n3 n4 n5 n6 n7 z0 z1 z2 z3' z5 z6 z7;go_wp2_with fail
          go_roundg g0
          case measure=>omega
          case rel =>
           have q1:=HM5.out;have q2:=HM4.out;have q3:=HM.out;have q4:=HG.out;have q5:=RR.out;exact⟨a4,m4,ns++(ns3++ns4),nv5,rfl,Y,Y,HS5.out.cast zy,KK.out.trans HK5.out,by rw[<-q5];unfold thenR;dsimp only;rw[qbT,List.length_append,Nat.add_assoc]⟩
def Loc.one {b:Nat} {nv:Value} {k:Nat} {w:World} {v:Value} {t:TypeId} (h:Loc b nv k (.cells #[v] t (0,0)) w):w.cell? ⟨k,0,none⟩=some v/\k<w.heap.size:=by
 have:=h.is;exact⟨by simp[World.cell?,this],h.lt⟩
def Stays.loc (b k:Nat) (o:Obj):Stays b fun nv w=>Loc b nv k o w:=fun nv nv' w w' hk h=>h.kp hk
def Stays.and {b:Nat} {E F:Value->World->Prop} (h:Stays b E) (k:Stays b F):Stays b fun nv w=>E nv w/\F nv w:=fun nv nv' w w' hk ⟨h1,h2⟩=>⟨h nv nv' w w' hk h1,k nv nv' w w' hk h2⟩
def Stays.true (b:Nat):Stays b fun _ _=>True:=fun _ _ _ _ _ _=>trivial
theorem mk_func (fn:Fn) (first cap:Array Value) (w:World):(Instr.makeFunc fn first cap).run prog w=.ok (.func fn first cap) w:=rfl
attribute [go_sem] mk_func
def entersOne (args:Array Value) (w:World):(callFunc 214 args).run prog w=.ok (.enter 214 args) w:=by kernel_rfl
def enters1 (args:Array Value) (w:World):(callFunc 212 args).run prog w=.ok (.enter 212 args) w:=by kernel_rfl
def enters2 (args:Array Value) (w:World):(callFunc 215 args).run prog w=.ok (.enter 215 args) w:=by kernel_rfl
def enters4 (args:Array Value) (w:World):(callFunc 217 args).run prog w=.ok (.enter 217 args) w:=by kernel_rfl
def enters5 (args:Array Value) (w:World):(callFunc 219 args).run prog w=.ok (.enter 219 args) w:=by kernel_rfl
def times_clo {b lb lo cap:Nat} {L:Toks} (d:Nat) (o:PM Int) (k2:Nat) (Env:Value->World->Prop) (hE:Stays b Env)
  (hc:Clo b lb lo cap L 214 #[.pointer (some ⟨b,0,none⟩),.int .i64 (d:Int)] Env (o)) :
  Clo b lb lo cap L 212 #[.int .i64 (d:Int),.pointer (some ⟨k2,0,none⟩)] (fun nv w=>Env nv w/\Loc b nv k2 (.cells #[.pointer (some ⟨b,0,none⟩)] 191 (0,0)) w) (timesP L o):=by
 intro nv m N w h he;have H:=J h;have HC:=J hc;have HE:=J he;have HS:=J hE;obtain⟨c2,l2⟩:=he.2.one;clear h hc he hE;obtain⟨r,hr⟩:∃ r,timesP L o m N.length=r:=⟨_,rfl⟩
 have RR:=J hr;rw[hr];clear hr;go_enter func212,ntmps212;go_wp2_with fail
 go_at_call 213
 refine (qeH (H.out.alloc _) d 214 #[.pointer (some ⟨b,0,none⟩)] #[] Env HS.out _ HC.out entersOne (HS.out _ _ _ _ ((Kp.refl _ _ _).alloc _) HE.out.1) qcA _ _ (H.out.loc (strs qcA)) zw r RR.out).mono ?_;rcases r with ⟨e1,e2⟩ | ⟨a1,m1,ns1⟩
 . rintro e w1 ⟨he,nv1,hk1⟩;have HK1:=J hk1;clear hk1;unfold noV at he;subst he;go_wp2_with fail;exact ybd
 . rintro e w1 ⟨he,nv1,hs1,hk1,hm1⟩;have HK1:=J hk1;have HS1:=J hs1;have HM1:=J hm1;clear hk1 hs1 hm1;unfold intV at he;subst he;go_wp2_with fail;go_ret;exact ybc
def sum_clo {b lb lo cap:Nat} {L:Toks} (d:Nat) (o:PM Int) (k2 k5:Nat) (Env:Value->World->Prop) (hE:Stays b (fun nv w=>Env nv w/\Loc b nv k2 (.cells #[.pointer (some ⟨b,0,none⟩)] 191 (0,0)) w))
  (hc:Clo b lb lo cap L 212 #[.int .i64 (d:Int),.pointer (some ⟨k2,0,none⟩)] (fun nv w=>Env nv w/\Loc b nv k2 (.cells #[.pointer (some ⟨b,0,none⟩)] 191 (0,0)) w) (timesP L o)) :
  Clo b lb lo cap L 215 #[.int .i64 (d:Int),.pointer (some ⟨k2,0,none⟩),.pointer (some ⟨k5,0,none⟩)] (fun nv w=>(Env nv w/\Loc b nv k2 (.cells #[.pointer (some ⟨b,0,none⟩)] 191 (0,0)) w)/\Loc b nv k5 (.cells #[(.func (.func 212) #[] #[.pointer (some ⟨k2,0,none⟩)])] 194 (0,0)) w) (sumP L o):=by
 intro nv m N w h he;have H:=J h;have HC:=J hc;have HE:=J he;have HS:=J hE;obtain⟨c2,l2⟩:=he.1.2.one;obtain⟨c5,l5⟩:=he.2.one;clear h hc he hE;obtain⟨r,hr⟩:∃ r,sumP L o m N.length=r:=⟨_,rfl⟩
 have RR:=J hr;rw[hr];clear hr;go_enter func215,ntmps215;go_wp2_with fail
 go_at_call 213
 refine (qeH (H.out.alloc _) d 212 #[] #[.pointer (some ⟨k2,0,none⟩)] (fun nv w=>Env nv w/\Loc b nv k2 (.cells #[.pointer (some ⟨b,0,none⟩)] 191 (0,0)) w) HS.out _ HC.out enters1 (HS.out _ _ _ _ ((Kp.refl _ _ _).alloc _) HE.out.1) ssSum _ _ (H.out.loc (strs ssSum)) zw r RR.out).mono ?_;rcases r with ⟨e1,e2⟩ | ⟨a1,m1,ns1⟩
 . rintro e w1 ⟨he,nv1,hk1⟩;have HK1:=J hk1;clear hk1;unfold noV at he;subst he;go_wp2_with fail;exact ybd
 . rintro e w1 ⟨he,nv1,hs1,hk1,hm1⟩;have HK1:=J hk1;have HS1:=J hs1;have HM1:=J hm1;clear hk1 hs1 hm1;unfold intV at he;subst he;go_wp2_with fail;go_ret;exact ybc
def join_clo {b lb lo cap:Nat} {L:Toks} (d:Nat) (o:PM Int) (k2 k5 k6:Nat) (Env:Value->World->Prop) (hE:Stays b (fun nv w=>(Env nv w/\Loc b nv k2 (.cells #[.pointer (some ⟨b,0,none⟩)] 191 (0,0)) w)/\Loc b nv k5 (.cells #[(.func (.func 212) #[] #[.pointer (some ⟨k2,0,none⟩)])] 194 (0,0)) w))
  (hc:Clo b lb lo cap L 215 #[.int .i64 (d:Int),.pointer (some ⟨k2,0,none⟩),.pointer (some ⟨k5,0,none⟩)] (fun nv w=>(Env nv w/\Loc b nv k2 (.cells #[.pointer (some ⟨b,0,none⟩)] 191 (0,0)) w)/\Loc b nv k5 (.cells #[(.func (.func 212) #[] #[.pointer (some ⟨k2,0,none⟩)])] 194 (0,0)) w) (sumP L o)) :
  Clo b lb lo cap L 216 #[.int .i64 (d:Int),.pointer (some ⟨k2,0,none⟩),.pointer (some ⟨k6,0,none⟩)] (fun nv w=>((Env nv w/\Loc b nv k2 (.cells #[.pointer (some ⟨b,0,none⟩)] 191 (0,0)) w)/\Loc b nv k5 (.cells #[(.func (.func 212) #[] #[.pointer (some ⟨k2,0,none⟩)])] 194 (0,0)) w)/\Loc b nv k6 (.cells #[(.func (.func 215) #[] #[.pointer (some ⟨k2,0,none⟩),.pointer (some ⟨k5,0,none⟩)])] 194 (0,0)) w) (joinP L o):=by
 intro nv m N w h he;have H:=J h;have HC:=J hc;have HE:=J he;have HS:=J hE;obtain⟨c2,l2⟩:=he.1.1.2.one;obtain⟨c5,l5⟩:=he.2.one;clear h hc he hE;obtain⟨r,hr⟩:∃ r,joinP L o m N.length=r:=⟨_,rfl⟩
 have RR:=J hr;rw[hr];clear hr;go_enter func216,ntmps216;go_wp2_with fail
 go_at_call 213
 refine (qeH (H.out.alloc _) d 215 #[] #[.pointer (some ⟨k2,0,none⟩),.pointer (some ⟨k5,0,none⟩)] (fun nv w=>(Env nv w/\Loc b nv k2 (.cells #[.pointer (some ⟨b,0,none⟩)] 191 (0,0)) w)/\Loc b nv k5 (.cells #[(.func (.func 212) #[] #[.pointer (some ⟨k2,0,none⟩)])] 194 (0,0)) w) HS.out _ HC.out enters2 (HS.out _ _ _ _ ((Kp.refl _ _ _).alloc _) HE.out.1) qdZ _ _ (H.out.loc (strs qdZ)) zw r RR.out).mono ?_;rcases r with ⟨e1,e2⟩ | ⟨a1,m1,ns1⟩
 . rintro e w1 ⟨he,nv1,hk1⟩;have HK1:=J hk1;clear hk1;unfold noV at he;subst he;go_wp2_with fail;exact ybd
 . rintro e w1 ⟨he,nv1,hs1,hk1,hm1⟩;have HK1:=J hk1;have HS1:=J hs1;have HM1:=J hm1;clear hk1 hs1 hm1;unfold intV at he;subst he;go_wp2_with fail;go_ret;exact ybc
def and_clo {b lb lo cap:Nat} {L:Toks} (d:Nat) (o:PM Int) (k2 k5 k6 k7 k8:Nat) (Env:Value->World->Prop) (hE:Stays b (fun nv w=>(((Env nv w/\Loc b nv k2 (.cells #[.pointer (some ⟨b,0,none⟩)] 191 (0,0)) w)/\Loc b nv k5 (.cells #[(.func (.func 212) #[] #[.pointer (some ⟨k2,0,none⟩)])] 194 (0,0)) w)/\Loc b nv k6 (.cells #[(.func (.func 215) #[] #[.pointer (some ⟨k2,0,none⟩),.pointer (some ⟨k5,0,none⟩)])] 194 (0,0)) w)/\Loc b nv k7 (.cells #[(.func (.func 216) #[] #[.pointer (some ⟨k2,0,none⟩),.pointer (some ⟨k6,0,none⟩)])] 194 (0,0)) w))
  (hc:Clo b lb lo cap L 217 #[.int .i64 (d:Int),.pointer (some ⟨k7,0,none⟩),.pointer (some ⟨k2,0,none⟩)] (fun nv w=>(((Env nv w/\Loc b nv k2 (.cells #[.pointer (some ⟨b,0,none⟩)] 191 (0,0)) w)/\Loc b nv k5 (.cells #[(.func (.func 212) #[] #[.pointer (some ⟨k2,0,none⟩)])] 194 (0,0)) w)/\Loc b nv k6 (.cells #[(.func (.func 215) #[] #[.pointer (some ⟨k2,0,none⟩),.pointer (some ⟨k5,0,none⟩)])] 194 (0,0)) w)/\Loc b nv k7 (.cells #[(.func (.func 216) #[] #[.pointer (some ⟨k2,0,none⟩),.pointer (some ⟨k6,0,none⟩)])] 194 (0,0)) w) (compP L o)) :
  Clo b lb lo cap L 219 #[.int .i64 (d:Int),.pointer (some ⟨k2,0,none⟩),.pointer (some ⟨k8,0,none⟩)] (fun nv w=>((((Env nv w/\Loc b nv k2 (.cells #[.pointer (some ⟨b,0,none⟩)] 191 (0,0)) w)/\Loc b nv k5 (.cells #[(.func (.func 212) #[] #[.pointer (some ⟨k2,0,none⟩)])] 194 (0,0)) w)/\Loc b nv k6 (.cells #[(.func (.func 215) #[] #[.pointer (some ⟨k2,0,none⟩),.pointer (some ⟨k5,0,none⟩)])] 194 (0,0)) w)/\Loc b nv k7 (.cells #[(.func (.func 216) #[] #[.pointer (some ⟨k2,0,none⟩),.pointer (some ⟨k6,0,none⟩)])] 194 (0,0)) w)/\Loc b nv k8 (.cells #[(.func (.func 217) #[] #[.pointer (some ⟨k7,0,none⟩),.pointer (some ⟨k2,0,none⟩)])] 194 (0,0)) w) (andP L o):=by
 intro nv m N w h he;have H:=J h;have HC:=J hc;have HE:=J he;have HS:=J hE;obtain⟨c2,l2⟩:=he.1.1.1.1.2.one;obtain⟨c5,l5⟩:=he.2.one;clear h hc he hE;obtain⟨r,hr⟩:∃ r,andP L o m N.length=r:=⟨_,rfl⟩
 have RR:=J hr;rw[hr];clear hr;go_enter func219,ntmps219;go_wp2_with fail
 go_at_call 213
 refine (qeH (H.out.alloc _) d 217 #[] #[.pointer (some ⟨k7,0,none⟩),.pointer (some ⟨k2,0,none⟩)] (fun nv w=>(((Env nv w/\Loc b nv k2 (.cells #[.pointer (some ⟨b,0,none⟩)] 191 (0,0)) w)/\Loc b nv k5 (.cells #[(.func (.func 212) #[] #[.pointer (some ⟨k2,0,none⟩)])] 194 (0,0)) w)/\Loc b nv k6 (.cells #[(.func (.func 215) #[] #[.pointer (some ⟨k2,0,none⟩),.pointer (some ⟨k5,0,none⟩)])] 194 (0,0)) w)/\Loc b nv k7 (.cells #[(.func (.func 216) #[] #[.pointer (some ⟨k2,0,none⟩),.pointer (some ⟨k6,0,none⟩)])] 194 (0,0)) w) HS.out _ HC.out enters4 (HS.out _ _ _ _ ((Kp.refl _ _ _).alloc _) HE.out.1) ssAnd _ _ (H.out.loc (strs ssAnd)) zw r RR.out).mono ?_;rcases r with ⟨e1,e2⟩ | ⟨a1,m1,ns1⟩
 . rintro e w1 ⟨he,nv1,hk1⟩;have HK1:=J hk1;clear hk1;unfold noV at he;subst he;go_wp2_with fail;exact ybd
 . rintro e w1 ⟨he,nv1,hs1,hk1,hm1⟩;have HK1:=J hk1;have HS1:=J hs1;have HM1:=J hm1;clear hk1 hs1 hm1;unfold intV at he;subst he;go_wp2_with fail;go_ret;exact ybc
def comp_err1 {L:Toks} {o:PM Int} {m n:Nat} {e:Int × Int} (h1:joinP L o m n=.error e):compP L o m n=.error e:=qap h1
def comp_none {L:Toks} {o:PM Int} {m n:Nat} {a:Int} {m1:Nat} {ns:List Nd} (h1:joinP L o m n=.ok (a,m1,ns)) (h2:qaP L ssIs m1 (n+ns.length)=.ok (none,m1,[])):compP L o m n=.ok (a,m1,ns):=by
 unfold compP;rw[qai h1,qai h2,qaF];simp[pok,prep]
def comp_some {L:Toks} {o:PM Int} {m n:Nat} {a:Int} {m1 m2:Nat} {ns:List Nd} {s:ByteArray} (h1:joinP L o m n=.ok (a,m1,ns)) (h2:qaP L ssIs m1 (n+ns.length)=.ok (some s,m2,[])) :
  compP L o m n=prep ns (thenR (joinP L o m2 (n+ns.length)) fun c m3 ns3=>prep ns3 (layP L (twoNd a c s) m3 (n+ns.length+ns3.length))):=by
 unfold compP;rw[qai h1,qai h2,qaF];show prep ns (pbind (joinP L o) (fun b=>layP L (twoNd a b s)) m2 (n+ns.length))=_
 cases h3:joinP L o m2 (n+ns.length) with
 | error e=>rw[qap h3];rfl
 | ok v=>obtain⟨c,m3,ns3⟩:=v;rw[qai h3];rfl
def comp_clo {b lb lo cap:Nat} {L:Toks} (d:Nat) (o:PM Int) (k2 k5 k6 k7:Nat) (Env:Value->World->Prop) (hE:Stays b (fun nv w=>(((Env nv w/\Loc b nv k2 (.cells #[.pointer (some ⟨b,0,none⟩)] 191 (0,0)) w)/\Loc b nv k5 (.cells #[(.func (.func 212) #[] #[.pointer (some ⟨k2,0,none⟩)])] 194 (0,0)) w)/\Loc b nv k6 (.cells #[(.func (.func 215) #[] #[.pointer (some ⟨k2,0,none⟩),.pointer (some ⟨k5,0,none⟩)])] 194 (0,0)) w)/\Loc b nv k7 (.cells #[(.func (.func 216) #[] #[.pointer (some ⟨k2,0,none⟩),.pointer (some ⟨k6,0,none⟩)])] 194 (0,0)) w)) (hc:Clo b lb lo cap L 216 #[.int .i64 (d:Int),.pointer (some ⟨k2,0,none⟩),.pointer (some ⟨k6,0,none⟩)] (fun nv w=>((Env nv w/\Loc b nv k2 (.cells #[.pointer (some ⟨b,0,none⟩)] 191 (0,0)) w)/\Loc b nv k5 (.cells #[(.func (.func 212) #[] #[.pointer (some ⟨k2,0,none⟩)])] 194 (0,0)) w)/\Loc b nv k6 (.cells #[(.func (.func 215) #[] #[.pointer (some ⟨k2,0,none⟩),.pointer (some ⟨k5,0,none⟩)])] 194 (0,0)) w) (joinP L o)) :
  Clo b lb lo cap L 217 #[.int .i64 (d:Int),.pointer (some ⟨k7,0,none⟩),.pointer (some ⟨k2,0,none⟩)] (fun nv w=>(((Env nv w/\Loc b nv k2 (.cells #[.pointer (some ⟨b,0,none⟩)] 191 (0,0)) w)/\Loc b nv k5 (.cells #[(.func (.func 212) #[] #[.pointer (some ⟨k2,0,none⟩)])] 194 (0,0)) w)/\Loc b nv k6 (.cells #[(.func (.func 215) #[] #[.pointer (some ⟨k2,0,none⟩),.pointer (some ⟨k5,0,none⟩)])] 194 (0,0)) w)/\Loc b nv k7 (.cells #[(.func (.func 216) #[] #[.pointer (some ⟨k2,0,none⟩),.pointer (some ⟨k6,0,none⟩)])] 194 (0,0)) w) (compP L o):=by
 intro nv m N w h he;have H:=J h;have HC:=J hc;have HE:=J he;have HS:=J hE;obtain⟨c7,l7⟩:=he.2.one;obtain⟨c2,l2⟩:=he.1.1.1.2.one;clear h hc he hE;obtain⟨r,hr⟩:∃ r,compP L o m N.length=r:=⟨_,rfl⟩
 rw[hr];obtain⟨r1,hr1⟩:∃ r1,joinP L o m N.length=r1:=⟨_,rfl⟩
 have C1:=J (HC.out nv m N w H.out HE.out.1);rw[hr1] at C1;rcases r1 with ⟨e1,e2⟩ | ⟨a,m1,ns1⟩
 . rw[comp_err1 hr1] at hr;subst hr;clear hr1;go_enter func217,ntmps217
   go_wp2_with (((with_reducible refine C1.out.mono ?_);rintro e w1 ⟨he,nv_w1,hk⟩;have HK_w1:=J hk;clear hk;unfold noV at he;subst he))
   exact⟨rfl,PPost.err rfl HK_w1.out⟩
 rcases oneOf_cases L ssIs m1 (N++ns1).length with h2 | ⟨s,h2⟩
 . rw[comp_none hr1 (by rw[<-List.length_append];exact h2)] at hr;subst hr;have O:=J h2;clear hr1 h2;go_enter func217,ntmps217
   go_wp2_with (((with_reducible refine C1.out.mono ?_);rintro e w1 ⟨he,nv_w1,hs,hk,hm⟩;have HS_w1:=J hs;have HK_w1:=J hk;have HM_w1:=J hm;clear hs hk hm;unfold intV at he;subst he;have HE1:=J (HS.out _ _ _ _ HK_w1.out HE.out);obtain⟨c7a,l7a⟩:=HE1.out.2.one;obtain⟨c2a,l2a⟩:=HE1.out.1.1.1.2.one))
   go_at_call 218
   refine (qdd (HS_w1.out.alloc _) ssIs _ _ (HS_w1.out.loc (strs ssIs)) zw _ O.out).mono ?_;rintro e w2 ⟨he,nv_w2,hs,hk,hm⟩;have HS_w2:=J hs;have HK_w2:=J hk;have HM_w2:=J hm;clear hs hk hm;unfold optV at he;subst he;go_wp2_with fail;go_ret;exact PPost.res rfl (HS_w2.out.cast zy) ((HK_w1.out.alloc _).trans HK_w2.out) HM_w1.out
 . rw[comp_some hr1 (by rw[<-List.length_append];exact h2)] at hr;obtain⟨r3,hr3⟩:∃ r3,joinP L o (m1+1) (N.length+ns1.length)=r3:=⟨_,rfl⟩
   rw[hr3] at hr;have O:=J h2
   have C3:Hid (∀ nv3 w3,St b lb lo cap nv3 L (m1+1) (N++ns1++[]) w3->(fun nv w=>((Env nv w/\Loc b nv k2 (.cells #[.pointer (some ⟨b,0,none⟩)] 191 (0,0)) w)/\Loc b nv k5 (.cells #[(.func (.func 212) #[] #[.pointer (some ⟨k2,0,none⟩)])] 194 (0,0)) w)/\Loc b nv k6 (.cells #[(.func (.func 215) #[] #[.pointer (some ⟨k2,0,none⟩),.pointer (some ⟨k5,0,none⟩)])] 194 (0,0)) w) nv3 w3->Calls prog 216 #[.int .i64 (d:Int),.pointer (some ⟨k2,0,none⟩),.pointer (some ⟨k6,0,none⟩)] w3 (PPost intV b lb lo cap nv3 L (m1+1) (N++ns1++[]) w3 r3)) :=
    J fun nv3 w3 hs he=>by have:=HC.out nv3 (m1+1) _ w3 hs he;rw[List.append_nil,List.length_append,hr3] at this;rw[List.append_nil];exact this
   have R:=J hr;clear hr hr1 h2 hr3;go_enter func217,ntmps217
   go_wp2_with (((with_reducible refine C1.out.mono ?_);rintro e w1 ⟨he,nv_w1,hs,hk,hm⟩;have HS_w1:=J hs;have HK_w1:=J hk;have HM_w1:=J hm;clear hs hk hm;unfold intV at he;subst he;have HE1:=J (HS.out _ _ _ _ HK_w1.out HE.out);obtain⟨c7a,l7a⟩:=HE1.out.2.one;obtain⟨c2a,l2a⟩:=HE1.out.1.1.1.2.one))
   go_at_call 218
   refine (qdd (HS_w1.out.alloc _) ssIs _ _ (HS_w1.out.loc (strs ssIs)) zw _ O.out).mono ?_;rintro e w2 ⟨he,nv_w2,hs,hk,hm⟩;have HS_w2:=J hs;have HK_w2:=J hk;have HM_w2:=J hm;clear hs hk hm;unfold optV at he;subst he;have HE2:=J (HS.out _ _ _ _ (((Kp.refl _ _ _).alloc _).trans HK_w2.out) HE1.out);obtain⟨c7b,l7b⟩:=HE2.out.2.one;clear c7a l7a c2a l2a;have KK:=J ((HK_w1.out.alloc (strs ssIs)).trans HK_w2.out)
   go_wp2_with (((with_reducible refine (qaG _ _).mono ?_);rintro e _ ⟨rfl,d3,os3,rfl⟩))
   go_at_call 216
   have LC:=J ((HS_w2.out.more d3 os3).loc (.cells #[.int .i64 11,.int .i64 a,.int .i64 (-1),.int .i64 (-1),.int .i64 (-1),.int .i64 0,.string s,.string ⟨#[]⟩] 166 (0,0)));have HE3:=J (HS.out _ _ _ _ (((Kp.refl _ _ _).more d3 os3).alloc (.cells #[.int .i64 11,.int .i64 a,.int .i64 (-1),.int .i64 (-1),.int .i64 (-1),.int .i64 0,.string s,.string ⟨#[]⟩] 166 (0,0))) HE2.out);refine (C3.out nv_w2 _ ((HS_w2.out.more _ _).alloc _) HE3.out.1).mono ?_;rcases r3 with ⟨e1,e2⟩ | ⟨z3,m3,ns3⟩
   . rintro e w4 ⟨he,nv_w4,hk⟩;have HK_w4:=J hk;clear hk;unfold noV at he;subst he;go_wp2_with fail;have:=R.out;subst this;exact⟨rfl,PPost.err rfl (((KK.out.more _ _).alloc _).trans HK_w4.out)⟩
   . rintro e w4 ⟨he,nv_w4,hs,hk,hm⟩;have HS_w4:=J hs;have HK_w4:=J hk;have HM_w4:=J hm;clear hs hk hm;unfold intV at he;subst he;obtain⟨r4,hr4⟩:∃ r4,layP L (twoNd a z3 s) m3 (N.length+ns1.length+ns3.length)=r4:=⟨_,rfl⟩
     have LA:Hid (∀ nv4 w5,St b lb lo cap nv4 L m3 (N++ns1++[]++ns3) w5->Calls prog 168 #[.pointer (some ⟨b,0,none⟩),.agg #[.int .i64 11,.int .i64 a,.int .i64 z3,.int .i64 (-1),.int .i64 (-1),.int .i64 0,.string s,.string ⟨#[]⟩]] w5 (PPost intV b lb lo cap nv4 L m3 (N++ns1++[]++ns3) w5 r4)) :=
      J fun nv4 w5 hs=>lay_any hs _ _ _ _ _ _ _ _ r4 zcn
     have R4:Hid (prep ns1 (prep ns3 r4)=r):=J (by rw[<-R.out,<-hr4];rfl);have LC4:=J (LC.out.kp HK_w4.out);have HE4:=J (HS.out _ _ _ _ HK_w4.out HE3.out);obtain⟨c2b,l2b⟩:=HE4.out.1.1.1.2.one;clear LC hr4 R C3;obtain⟨kn,hkn⟩:∃ kn,(more w2 d3 os3).heap.size=kn:=⟨_,rfl⟩
     rw[hkn] at LC4;rw[more_size] at hkn;have hkw:w.heap.size<=kn:=(by have:=KK.out.size;omega)
     have hlk:lb≠kn:=(by have:=HS_w2.out.low;have:=HS_w2.out.lt;omega)
     have hk2:k2≠kn:=(by have:=HE2.out.1.1.1.2.lt;omega)
     rw[hkn];obtain⟨n0,n1,n2,n3,n4,n5,n6,n7,z0,z1,z2,z3',z5,z6,z7,hkl⟩:=LC4.out.node;have HKW:=J hkw;have HLK:=J hlk;clear hkn hkw hlk;go_wp2_with fail;refine (LA.out nv_w4 _ (HS_w4.out.setLoc LC4.out HLK.out 2 _)).mono ?_;have K4:Hid (Kp b nv nv_w4 w (w4.setCell ⟨kn,2,none⟩ (.int .i64 z3))):=J ((((KK.out.more _ _).alloc _).trans HK_w4.out).setNew HKW.out 2 _);rcases r4 with ⟨e1,e2⟩ | ⟨a4,m4,ns4⟩
     . rintro e w5 ⟨he,nv_w5,hk⟩;have HK_w5:=J hk;clear hk;unfold noV at he;subst he;go_wp2_with fail;have:=R4.out;subst this;exact⟨rfl,PPost.err rfl (K4.out.trans HK_w5.out)⟩
     . rintro e w5 ⟨he,nv_w5,hs,hk,hm⟩;have HS_w5:=J hs;have HK_w5:=J hk;have HM_w5:=J hm;clear hs hk hm;unfold intV at he;subst he
       go_wp2_with fail;go_ret
       have:=R4.out;subst this;have q1:=HM_w5.out;have q2:=HM_w4.out;have q3:=HM_w1.out;exact PPost.res rfl (HS_w5.out.cast zy) (K4.out.trans HK_w5.out) Y
def expr_any {b lb lo cap:Nat} {L:Toks} (d:Nat) (hd:d<=16) (o:PM Int) (hone:Clo b lb lo cap L 214 #[.pointer (some ⟨b,0,none⟩),.int .i64 (d:Int)] (fun _ _=>True) o) :
  Clo b lb lo cap L 196 #[.pointer (some ⟨b,0,none⟩),.int .i64 (d:Int)] (fun _ _=>True) (orP L o):=by
 intro nv m N w h he;have H:=J h;have HC:=J hone;clear h he hone;obtain⟨r,hr⟩:∃ r,orP L o m N.length=r:=⟨_,rfl⟩
 have RR:=J hr;rw[hr];clear hr
 have D:Hid (∀ nv1 w1,St b lb lo cap nv1 L m N w1->Calls prog 130 #[.pointer (some ⟨b,0,none⟩),.int .i64 (d:Int)] w1 (PPost unitV b lb lo cap nv1 L m N w1 (.ok ((),m,[])))) :=
  J fun nv1 w1 h1=>qdq h1 d Y _ (by unfold deepP;rw[if_neg Y])
 go_enter func196,ntmps196;go_wp2_with fail
 go_at_call 130
 have L2:=J (H.out.loc (.cells #[.pointer (some ⟨b,0,none⟩)] 191 (0,0)));refine (D.out nv _ (H.out.alloc _)).mono ?_;rintro e w1 ⟨he,nv_w1,hs,hk,hm⟩;have HS_w1:=J hs;have HK_w1:=J hk;have HM_w1:=J hm;clear hs hk hm;unfold unitV at he;subst he;have L2a:=J (L2.out.kp HK_w1.out);obtain⟨k2,hk2⟩:∃ k2,w.heap.size=k2:=⟨_,rfl⟩
 rw[hk2] at L2a;rw[hk2];obtain⟨c2,l2⟩:=L2a.out.one;have KK:=J (((Kp.refl b nv w).alloc (.cells #[.pointer (some ⟨b,0,none⟩)] 191 (0,0))).trans HK_w1.out);have S0:=J (HS_w1.out.cast (List.append_nil _));clear L2 hk2;go_wp2_with fail
 go_at_call 213
 have Q5:=S0.out.loc (.cells #[.func (.func 212) #[] #[.pointer (some ⟨k2,0,none⟩)]] 194 (0,0));have Q6:=(S0.out.alloc (.cells #[.func (.func 212) #[] #[.pointer (some ⟨k2,0,none⟩)]] 194 (0,0))).loc (.cells #[.func (.func 215) #[] #[.pointer (some ⟨k2,0,none⟩),.pointer (some ⟨w1.heap.size,0,none⟩)]] 194 (0,0));have Q7:=((S0.out.alloc (.cells #[.func (.func 212) #[] #[.pointer (some ⟨k2,0,none⟩)]] 194 (0,0))).alloc (.cells #[.func (.func 215) #[] #[.pointer (some ⟨k2,0,none⟩),.pointer (some ⟨w1.heap.size,0,none⟩)]] 194 (0,0))).loc (.cells #[.func (.func 216) #[] #[.pointer (some ⟨k2,0,none⟩),.pointer (some ⟨w1.heap.size+1,0,none⟩)]] 194 (0,0));have S8:=J (((S0.out.alloc (.cells #[.func (.func 212) #[] #[.pointer (some ⟨k2,0,none⟩)]] 194 (0,0))).alloc (.cells #[.func (.func 215) #[] #[.pointer (some ⟨k2,0,none⟩),.pointer (some ⟨w1.heap.size,0,none⟩)]] 194 (0,0))).alloc (.cells #[.func (.func 216) #[] #[.pointer (some ⟨k2,0,none⟩),.pointer (some ⟨w1.heap.size+1,0,none⟩)]] 194 (0,0)));have Q8:=S8.out.loc (.cells #[.func (.func 217) #[] #[.pointer (some ⟨w1.heap.size+1+1,0,none⟩),.pointer (some ⟨k2,0,none⟩)]] 194 (0,0))
 have Q9:=(S8.out.alloc (.cells #[.func (.func 217) #[] #[.pointer (some ⟨w1.heap.size+1+1,0,none⟩),.pointer (some ⟨k2,0,none⟩)]] 194 (0,0))).loc (strs ssOr);simp only[World.size_alloc] at Q6 Q7 Q8 Q9;have Y0:=Stays.true b;have Y1:=Y0.and (Stays.loc b k2 (.cells #[.pointer (some ⟨b,0,none⟩)] 191 (0,0)));have T1:=times_clo d o k2 _ Y0 HC.out;have Y2:=Y1.and (Stays.loc b w1.heap.size (.cells #[.func (.func 212) #[] #[.pointer (some ⟨k2,0,none⟩)]] 194 (0,0)));have T2:=sum_clo d o k2 w1.heap.size _ Y1 T1;have Y3:=Y2.and (Stays.loc b (w1.heap.size+1) (.cells #[.func (.func 215) #[] #[.pointer (some ⟨k2,0,none⟩),.pointer (some ⟨w1.heap.size,0,none⟩)]] 194 (0,0)));have T3:=join_clo d o k2 w1.heap.size (w1.heap.size+1) _ Y2 T2;have Y4:=Y3.and (Stays.loc b (w1.heap.size+1+1) (.cells #[.func (.func 216) #[] #[.pointer (some ⟨k2,0,none⟩),.pointer (some ⟨w1.heap.size+1,0,none⟩)]] 194 (0,0)));have T4:=comp_clo d o k2 w1.heap.size (w1.heap.size+1) (w1.heap.size+1+1) _ Y4 T3;have Y5:=Y4.and (Stays.loc b (w1.heap.size+1+1+1) (.cells #[.func (.func 217) #[] #[.pointer (some ⟨w1.heap.size+1+1,0,none⟩),.pointer (some ⟨k2,0,none⟩)]] 194 (0,0)));have T5:=and_clo d o k2 w1.heap.size (w1.heap.size+1) (w1.heap.size+1+1) (w1.heap.size+1+1+1) _ Y4 T4;refine (qeH ((S8.out.alloc (.cells #[.func (.func 217) #[] #[.pointer (some ⟨w1.heap.size+1+1,0,none⟩),.pointer (some ⟨k2,0,none⟩)]] 194 (0,0))).alloc (strs ssOr)) d 219 #[] #[.pointer (some ⟨k2,0,none⟩),.pointer (some ⟨w1.heap.size+1+1+1,0,none⟩)] _ Y5 _ T5 enters5 ?EN ssOr _ _ Q9 zw r RR.out).mono ?_
 case EN=>exact⟨⟨⟨⟨⟨trivial,((((L2a.out.alloc _).alloc _).alloc _).alloc _).alloc _⟩,(((Q5.alloc _).alloc _).alloc _).alloc _⟩,((Q6.alloc _).alloc _).alloc _⟩,(Q7.alloc _).alloc _⟩,Q8.alloc _⟩
 have KZ:=J (((((KK.out.alloc (.cells #[.func (.func 212) #[] #[.pointer (some ⟨k2,0,none⟩)]] 194 (0,0))).alloc (.cells #[.func (.func 215) #[] #[.pointer (some ⟨k2,0,none⟩),.pointer (some ⟨w1.heap.size,0,none⟩)]] 194 (0,0))).alloc (.cells #[.func (.func 216) #[] #[.pointer (some ⟨k2,0,none⟩),.pointer (some ⟨w1.heap.size+1,0,none⟩)]] 194 (0,0))).alloc (.cells #[.func (.func 217) #[] #[.pointer (some ⟨w1.heap.size+1+1,0,none⟩),.pointer (some ⟨k2,0,none⟩)]] 194 (0,0))).alloc (strs ssOr));clear Q5 Q6 Q7 Q8 Q9 Y0 Y1 Y2 Y3 Y4 Y5 T1 T2 T3 T4 T5;rcases r with ⟨e1,e2⟩ | ⟨a1,m1,ns1⟩
 . rintro e w2 ⟨he,nv_w2,hk⟩;have HK_w2:=J hk;clear hk;unfold noV at he;subst he;go_wp2_with fail;exact⟨rfl,PPost.err rfl (KZ.out.trans HK_w2.out)⟩
 . rintro e w2 ⟨he,nv_w2,hs,hk,hm⟩;have HS_w2:=J hs;have HK_w2:=J hk;have HM_w2:=J hm;clear hs hk hm;unfold intV at he;subst he
   go_wp2_with fail;go_ret;exact PPost.res rfl HS_w2.out (KZ.out.trans HK_w2.out) HM_w2.out
def start_hr {α:Type} {p:PM α} {m:Nat} {N:List Nd} {r:PR α} (hr:p m N.length=r):prep [] (p m (N.length+([]:List Nd).length))=r:=by rw[qaF];exact hr
def qgl {α β:Type} {NS:List Nd} {p:PM α} {f:α->PM β} {m n:Nat} {r:PR β} (hr:prep NS (pbind p f m n)=r):∃ r1,p m n=r1:=⟨_,rfl⟩
def qgC {α β:Type} {NS:List Nd} {p:PM α} {f:α->PM β} {m n:Nat} {r:PR β} {c a:Int} (hr:prep NS (pbind p f m n)=r) (h:p m n=.error (c,a)):.error (c,a)=r:=by
 rw[qap h] at hr;exact hr
def step_ok {α β:Type} {N NS ns:List Nd} {p:PM α} {f:α->PM β} {m m1:Nat} {v:α} {r:PR β} (hr:prep NS (pbind p f m (N.length+NS.length))=r) (h:p m (N.length+NS.length)=.ok (v,m1,ns)) :
  prep (NS++ns) (f v m1 (N.length+(NS++ns).length))=r:=by
 rw[qai h,qbT] at hr;rw[List.length_append,<-Nat.add_assoc];exact hr
def deep1_any {b lb lo cap:Nat} {nv:Value} {L:Toks} {m:Nat} {N:List Nd} {w:World} (h:St b lb lo cap nv L m N w) (d:Nat) (hd:d<=17) (z:Int) (hz:z=(d:Int)) (r:PR Unit) (hr:deepP L d m N.length=r) :
  Calls prog 130 #[.pointer (some ⟨b,0,none⟩),.int .i64 z] w (PPost unitV b lb lo cap nv L m N w r):=by subst hz;exact qdq h d hd r hr
def Dp (b lb lo cap:Nat) (L:Toks) (F:FuncId) (z:Int) (p:PM Int):Prop:=∀ nv m N w,St b lb lo cap nv L m N w->∀ r,p m N.length=r->Calls prog F #[.pointer (some ⟨b,0,none⟩),.int .i64 z] w (PPost intV b lb lo cap nv L m N w r)
def must1_yes {L:Toks} {s:ByteArray} {m n:Nat} (h:isP L s m=true):mustP L [s] m n=.ok ((),m+1,[]):=by rw[qbp h];rfl
def qdo {L:Toks} {s:ByteArray} {m:Nat} (hw:wordB s=true) (hk:(tk L m).1.k=5) (hs:(tk L m).1.s.toList=s.toList):isP L s m=true:=by
 unfold isP;rw[hw,hk,hs];simp
def call_any (s:ByteArray) (w:World):Calls prog 234 #[.string s] w fun e w'=>e=.returned (.int .i64 (callF s))/\Ext w w':=by
 unfold callF sIs;cases h1:(s.toList==[103,101,116])
 . cases h2:(s.toList==[104,97,115])
   . cases h3:(s.toList==[108,101,110])
     . cases h4:(s.toList==[115,104,111,119])
       all_goals
        go_enter func234,ntmps234;go_wp2_with fail;go_ret;exact⟨rfl,zf⟩
     ·
       go_enter func234,ntmps234;go_wp2_with fail;go_ret;exact⟨rfl,zf⟩
   ·
     go_enter func234,ntmps234;go_wp2_with fail;go_ret;exact⟨rfl,zf⟩
 ·
   go_enter func234,ntmps234;go_wp2_with fail;go_ret;exact⟨rfl,zf⟩
def takesP_yes {L:Toks} {s:ByteArray} {m n:Nat} (h:isP L s m=true):takesP L s m n=.ok (true,m+1,[]):=by unfold takesP;rw[if_pos h]
variable {L:Toks}
def rb {β:Type} (n0:Nat) (r:PR Unit) (K:PM β):PR β:=match r with | .error e=>.error e | .ok (_,m,ns)=>prep ns (K m (n0+ns.length))
def qdP {β:Type} (f:Unit->PM β) (m n:Nat):pbind skipP f m n=rb n (.ok ((),m+1,[])) (f ()):=rfl
def rb_begin {β:Type} {p:PM β} {m n:Nat} {r:PR β} (h:p m n=r):r=rb n (.ok ((),m,[])) p:=h.symm.trans (qaF _).symm
def qfC {α:Type} (p:PM α):pbind p pok=p:=by
 funext m n
 unfold pbind
 cases p m n with
 | error e=>rfl
 | ok q=>obtain⟨v,m',ns⟩:=q;simp[pok,prep]
def KB' (n0:Nat) {α:Type} (r:PR Unit) (p:PM α) (r':PR Unit) (v:α):Prop:=∀ (β:Type) (K:α->PM β),rb n0 r (pbind p K)=rb n0 r' (K v)
def KB'.go {n0:Nat} {α β:Type} {r r':PR Unit} {p:PM α} {v:α} {K:α->PM β} {res:PR β} (h:KB' n0 r p r' v) (ht:res=rb n0 r (pbind p K)):res=rb n0 r' (K v):=ht.trans (h β K)
def qel (L:Toks) (z:Nd):layP L z=pbind (layP L z) pok:=(qfC _).symm
def pno_bind {α β:Type} (c:Int) (K:α->PM β):(pno L c:PM β)=pbind (pno L c) K:=rfl
def deep_ok {β:Type} {d:Nat} (h:d<=16) (K:Unit->PM β):pbind (deepP L d) K=K ():=by
 funext m n
 simp only[pbind,deepP,if_neg (Nat.not_lt.2 h)]
 cases K () m n with
 | error e=>rfl
 | ok z=>obtain⟨v,m',ns⟩:=z;simp[prep]
def deep_no {β:Type} {d:Nat} (h:16<d) (K:Unit->PM β):pbind (deepP L d) K=pbind (pno L 14) K:=by
 funext m n
 simp only[pbind,deepP,if_pos h,pno]
def qeN {β:Type} {s:ByteArray} {m n:Nat} {f:Unit->PM β} {r:PR β} (hp:isP L s m=true) (h:pbind skipP f m n=r):r=rb n (.ok ((),m,[])) (pbind (mustP L [s]) f):=by
 refine rb_begin (h ▸ ?_);rw[qai (must1_yes hp),qai (show skipP m n=.ok ((),m+1,[]) from rfl)]
def qbx {β:Type} {s:ByteArray} {m n:Nat} (p q:PM β) (h:isP L s m=true):pbind (takesP L s) (fun x=>if x=true then p else q) m n=pbind skipP (fun _=>p) m n:=by simp only[pbind,takesP,h,if_pos,skipP]
def qbu {β:Type} {s:ByteArray} {m n:Nat} (p q:PM β) (h:isP L s m=false):pbind (takesP L s) (fun x=>if x=true then p else q) m n=q m n:=by
 simp only[pbind,takesP,h,Bool.false_eq_true,if_false]
 cases q m n with
 | error e=>rfl
 | ok z=>obtain⟨v,m',ns⟩:=z;simp[prep]
variable {b lb lo cap m0 m:Nat} {nv nv0 nv1:Value} {L:Toks} {N N0:List Nd} {w w' w0 w1:World} {F:List (Nat × Obj)} {r:PR Unit} {res:PR Int}
def PS (b lb lo cap:Nat) (L:Toks) (m0:Nat) (N0:List Nd) (nv0:Value) (w0:World) (F:List (Nat × Obj)) (r:PR Unit) (w:World):Prop :=
 match r with
 | .error _=>False
 | .ok (_,m,ns)=>m0<=m/\∃ nv,St b lb lo cap nv L m (N0++ns) w/\Kp b nv0 nv w0 w/\∀ q∈F,Loc b nv q.1 q.2 w/\lb≠q.1/\w0.heap.size<=q.1
def PS.ext (H:Hid (PS b lb lo cap L m0 N0 nv0 w0 F r w)) (hx:Ext w w'):Hid (PS b lb lo cap L m0 N0 nv0 w0 F r w'):=by
 have h:=H.out
 match r,h with
 | .ok (_,m,ns),⟨hm,nv,h1,h2,h3⟩=>exact J ⟨hm,nv,h1.ext hx,h2.ext hx,fun q hq=>⟨(h3 q hq).1.ext hx,(h3 q hq).2⟩⟩
def PS.tail {q:Nat × Obj} (H:Hid (PS b lb lo cap L m0 N0 nv0 w0 (q::F) r w)):Hid (PS b lb lo cap L m0 N0 nv0 w0 F r w):=by
 have h:=H.out
 match r,h with
 | .ok (_,m,ns),⟨hm,nv,h1,h2,h3⟩=>exact J ⟨hm,nv,h1,h2,fun q hq=>h3 q (List.mem_cons_of_mem _ hq)⟩
def PS.new (H:Hid (PS b lb lo cap L m0 N0 nv0 w0 F r w)) (o:Obj):Hid (PS b lb lo cap L m0 N0 nv0 w0 ((w.heap.size,o)::F) r (w.alloc o)):=by
 have h:=H.out
 match r,h with
 | .ok (_,m,ns),⟨hm,nv,h1,h2,h3⟩ =>
  refine J ⟨hm,nv,h1.alloc o,h2.alloc o,fun q hq=>?_⟩;rcases List.mem_cons.1 hq with rfl | hq
  . exact⟨h1.loc o,by have:=h1.low;have:=h1.lt;dsimp only;omega,h2.size⟩
  . exact⟨(h3 q hq).1.alloc o,(h3 q hq).2⟩
def PS.set {k:Nat} {cs:Array Value} {t:TypeId} (H:Hid (PS b lb lo cap L m0 N0 nv0 w0 [(k,.cells cs t (0,0))] r w)) (i:Nat) (v:Value):Hid (PS b lb lo cap L m0 N0 nv0 w0 [(k,.cells (cs.setIfInBounds i v) t (0,0))] r (w.setCell ⟨k,i,none⟩ v)):=by
 have h:=H.out
 match r,h with
 | .ok (_,m,ns),⟨hm,nv,h1,h2,h3⟩ =>
  obtain⟨q1,q2,q3⟩:=h3 _ List.mem_cons_self;refine J ⟨hm,nv,h1.setLoc q1 q2 i v,h2.setNew q3 i v,fun q hq=>?_⟩;obtain rfl:=List.mem_singleton.1 hq;exact⟨q1.set i v,q2,q3⟩
def PS.node {k:Nat} {v0 v1 v2 v3 v4 v5 v6 v7:Value} (H:Hid (PS b lb lo cap L m0 N0 nv0 w0 [(k,.cells #[v0,v1,v2,v3,v4,v5,v6,v7] 166 (0,0))] r w)):w.cell? ⟨k,0,none⟩=some v0/\w.cell? ⟨k,1,none⟩=some v1/\w.cell? ⟨k,2,none⟩=some v2/\w.cell? ⟨k,3,none⟩=some v3/\w.cell? ⟨k,4,none⟩=some v4/\w.cell? ⟨k,5,none⟩=some v5/\w.cell? ⟨k,6,none⟩=some v6/\w.cell? ⟨k,7,none⟩=some v7/\w.frozen? ⟨k,0,none⟩=false/\w.frozen? ⟨k,1,none⟩=false/\w.frozen? ⟨k,2,none⟩=false/\w.frozen? ⟨k,3,none⟩=false/\w.frozen? ⟨k,5,none⟩=false/\w.frozen? ⟨k,6,none⟩=false/\w.frozen? ⟨k,7,none⟩=false/\k<w.heap.size:=by
 have h:=H.out
 match r,h with
 | .ok (_,m,ns),⟨hm,nv,h1,h2,h3⟩=>exact(h3 _ List.mem_cons_self).1.node
def PS.begin (h:St b lb lo cap nv0 L m N w):Hid (PS b lb lo cap L m N nv0 w [] (.ok ((),m,[])) w) :=
 J ⟨Nat.le_refl m,nv0,h.cast (List.append_nil N).symm,Kp.refl b nv0 w,fun q hq=>by cases hq⟩
def PS.fin {v:Int} (H:Hid (PS b lb lo cap L m0 N0 nv0 w0 F r w)) (T:Hid (res=rb N0.length r (pok v))):PPost intV b lb lo cap nv0 L m0 N0 w0 res (.returned (.int .i64 v)) w:=by
 have h:=H.out;have hr:=T.out;subst hr
 match r,h with
 | .ok (_,m,ns),⟨hm,nv,h1,h2,h3⟩=>exact PPost.res rfl (h1.cast (by rw[List.append_nil])) h2 hm
def puni {α:Type} {V:Int->α->Value} {fn:FuncId} {args:Array Value} {p:PM α} {K:α->PM Int} (pl:Nat->Int) (H:Hid (PS b lb lo cap L m0 N0 nv0 w0 F r w)) (T:Hid (res=rb N0.length r (pbind p K)))
  (live:∀ nv m N,St b lb lo cap nv L m N w->(∀ q∈F,Loc b nv q.1 q.2 w)->∀ q,p m N.length=q->Calls prog fn args w (PPost (V (pl m)) b lb lo cap nv L m N w q)) :
  Calls prog fn args w fun e w'=>(∃ c a,e=.panicked [{ v:=.iface 190 (.agg #[.int .i64 c,.int .i64 a]),recovered:=false }]/\Hid (PPost intV b lb lo cap nv0 L m0 N0 w0 res (noV c a) w'))\/∃ (a:Int) (v:α) (r':PR Unit),e=.returned (V a v)/\Hid (res=rb N0.length r' (K v))/\Hid (PS b lb lo cap L m0 N0 nv0 w0 F r' w'):=by
 have h:=H.out;have hr:=T.out
 match r,h with
 | .ok (_,m,ns),⟨hm,nv,h1,h2,h3⟩ =>
  refine (live nv m (N0++ns) h1 (fun q hq=>(h3 q hq).1) _ rfl).mono fun e w' hp=>?_
  have hl:(N0++ns).length=N0.length+ns.length:=List.length_append;rw[hl] at hp
  cases hq:p m (N0.length+ns.length) with
  | error e1 =>
   obtain⟨c,a⟩:=e1;rw[hq] at hp;obtain⟨he,nv',hk'⟩:=hp;refine .inl ⟨c,a,he,J ?_⟩;rw[hr];simp only[rb,qap hq]
   exact⟨rfl,nv',h2.trans hk'⟩
  | ok q1 =>
   obtain⟨v,m',ns'⟩:=q1;rw[hq] at hp;obtain⟨he,nv',hR',hk',hm'⟩:=hp;refine .inr ⟨pl m,v,.ok ((),m',ns++ns'),he,J ?_,J ⟨Nat.le_trans hm hm',nv',hR'.cast (List.append_assoc _ _ _),h2.trans hk',fun q hq=>⟨(h3 q hq).1.kp hk',(h3 q hq).2⟩⟩⟩;rw[hr];simp only[rb,qai hq,qbT,List.length_append,Nat.add_assoc]
def pdp (H:Hid (PS b lb lo cap L m0 N0 nv0 w0 F r w)) {fn:FuncId} {d:Int} {p:PM Int} (he:Dp b lb lo cap L fn d p) {K:Int->PM Int} (T:Hid (res=rb N0.length r (pbind (p) K))):Calls prog fn #[.pointer (some ⟨b,0,none⟩),.int .i64 d] w fun e w'=>(∃ c a,e=.panicked [{ v:=.iface 190 (.agg #[.int .i64 c,.int .i64 a]),recovered:=false }]/\Hid (PPost intV b lb lo cap nv0 L m0 N0 w0 res (noV c a) w'))\/∃ (z:Int) (r':PR Unit),e=.returned (.int .i64 z)/\Hid (res=rb N0.length r' (K z))/\Hid (PS b lb lo cap L m0 N0 nv0 w0 F r' w') :=
 (puni (V:=fun _=>intV) (fun _=>0) H T fun nv m N hs _ q hq=>he nv m N w hs q hq).mono fun e w' h=>h.imp id fun ⟨_,v,r',q⟩=>⟨v,r',q⟩
def pof (H:Hid (PS b lb lo cap L m0 N0 nv0 w0 F r w)) (k:Int) (h0:k≠0) {K:Tok->PM Int} (T:Hid (res=rb N0.length r (pbind (ofP L k) K))):Calls prog 112 #[.pointer (some ⟨b,0,none⟩),.int .i64 k] w fun e w'=>(∃ c a,e=.panicked [{ v:=.iface 190 (.agg #[.int .i64 c,.int .i64 a]),recovered:=false }]/\Hid (PPost intV b lb lo cap nv0 L m0 N0 w0 res (noV c a) w'))\/∃ (a:Int) (k':Int) (s:ByteArray) (i:Int) (r':PR Unit),e=.returned (.agg #[.int .i64 k',.int .i64 a,.string s,.int .i64 i])/\Hid (res=rb N0.length r' (K ⟨k',s,i⟩))/\Hid (PS b lb lo cap L m0 N0 nv0 w0 F r' w') :=
 (puni (V:=fun a t=>tokV t a) (fun m=>(tk L m).2) H T fun nv m N hs _ q hq=>of_any hs k h0 q hq).mono fun e w' h=>h.imp id fun ⟨a,t,r',q⟩=>⟨a,t.k,t.s,t.i,r',q⟩
def qbb (H:Hid (PS b lb lo cap L m0 N0 nv0 w0 F r w)) (s:ByteArray) (z:Nat) (hz:z=w.heap.size) {K:Unit->PM Int} (T:Hid (res=rb N0.length r (pbind (mustP L [s]) K))):Calls prog 195 #[.pointer (some ⟨b,0,none⟩),.slice (some ⟨z,0,none⟩) 1 1] (w.alloc (.cells #[.string s] 9 (0,0))) fun e w'=>(∃ c a,e=.panicked [{ v:=.iface 190 (.agg #[.int .i64 c,.int .i64 a]),recovered:=false }]/\Hid (PPost intV b lb lo cap nv0 L m0 N0 w0 res (noV c a) w'))\/∃ (r':PR Unit),e=.returned (.tuple #[])/\Hid (res=rb N0.length r' (K ()))/\Hid (PS b lb lo cap L m0 N0 nv0 w0 F r' w') :=
 (puni (V:=fun _=>unitV) (fun _=>0) (PS.new H (strs [s])) T fun nv m N hs hl q hq=>hz ▸ must_any hs [s] w.heap.size 1 (hl _ List.mem_cons_self) zy q hq).mono fun e w' h=>h.imp id fun ⟨_,_,r',q1,q2,q3⟩=>⟨r',q1,q2,PS.tail q3⟩
def pmust3 (H:Hid (PS b lb lo cap L m0 N0 nv0 w0 F r w)) (s s2 s3:ByteArray) (z:Nat) (hz:z=w.heap.size) {K:Unit->PM Int} (T:Hid (res=rb N0.length r (pbind (mustP L [s,s2,s3]) K))):Calls prog 195 #[.pointer (some ⟨b,0,none⟩),.slice (some ⟨z,0,none⟩) 3 3] (w.alloc (.cells #[.string s,.string s2,.string s3] 9 (0,0))) fun e w'=>(∃ c a,e=.panicked [{ v:=.iface 190 (.agg #[.int .i64 c,.int .i64 a]),recovered:=false }]/\Hid (PPost intV b lb lo cap nv0 L m0 N0 w0 res (noV c a) w'))\/∃ (r':PR Unit),e=.returned (.tuple #[])/\Hid (res=rb N0.length r' (K ()))/\Hid (PS b lb lo cap L m0 N0 nv0 w0 F r' w') :=
 (puni (V:=fun _=>unitV) (fun _=>0) (PS.new H (strs [s,s2,s3])) T fun nv m N hs hl q hq=>hz ▸ must_any hs [s,s2,s3] w.heap.size 3 (hl _ List.mem_cons_self) zy q hq).mono fun e w' h=>h.imp id fun ⟨_,_,r',q1,q2,q3⟩=>⟨r',q1,q2,PS.tail q3⟩
def ptakes (H:Hid (PS b lb lo cap L m0 N0 nv0 w0 F r w)) (s:ByteArray) {K:Bool->PM Int} (T:Hid (res=rb N0.length r (pbind (takesP L s) K))):Calls prog 194 #[.pointer (some ⟨b,0,none⟩),.string s] w fun e w'=>(∃ c a,e=.panicked [{ v:=.iface 190 (.agg #[.int .i64 c,.int .i64 a]),recovered:=false }]/\Hid (PPost intV b lb lo cap nv0 L m0 N0 w0 res (noV c a) w'))\/∃ (x:Bool) (r':PR Unit),e=.returned (.bool x)/\Hid (res=rb N0.length r' (K x))/\Hid (PS b lb lo cap L m0 N0 nv0 w0 F r' w') :=
 (puni (V:=fun _ x=>.bool x) (fun _=>0) H T fun nv m N hs _ q hq=>takes_any hs s q hq).mono fun e w' h=>h.imp id fun ⟨_,v,r',q⟩=>⟨v,r',q⟩
def pturns (H:Hid (PS b lb lo cap L m0 N0 nv0 w0 F r w)) {K:Int->PM Int} (T:Hid (res=rb N0.length r (pbind (qbo L) K))):Calls prog 166 #[.pointer (some ⟨b,0,none⟩)] w fun e w'=>(∃ c a,e=.panicked [{ v:=.iface 190 (.agg #[.int .i64 c,.int .i64 a]),recovered:=false }]/\Hid (PPost intV b lb lo cap nv0 L m0 N0 w0 res (noV c a) w'))\/∃ (z:Int) (r':PR Unit),e=.returned (.int .i64 z)/\Hid (res=rb N0.length r' (K z))/\Hid (PS b lb lo cap L m0 N0 nv0 w0 F r' w') :=
 (puni (V:=fun _=>intV) (fun _=>0) H T fun nv m N hs _ q hq=>turns_any hs q hq).mono fun e w' h=>h.imp id fun ⟨_,v,r',q⟩=>⟨v,r',q⟩
def pdeep (H:Hid (PS b lb lo cap L m0 N0 nv0 w0 F r w)) (d:Nat) (hd:d<=17) (z:Int) (hz:z=(d:Int)) {K:Unit->PM Int} (T:Hid (res=rb N0.length r (pbind (deepP L d) K))):Calls prog 130 #[.pointer (some ⟨b,0,none⟩),.int .i64 z] w fun e w'=>(∃ c a,e=.panicked [{ v:=.iface 190 (.agg #[.int .i64 c,.int .i64 a]),recovered:=false }]/\Hid (PPost intV b lb lo cap nv0 L m0 N0 w0 res (noV c a) w'))\/(d<=16/\∃ (r':PR Unit),e=.returned (.tuple #[])/\Hid (res=rb N0.length r' (K ()))/\Hid (PS b lb lo cap L m0 N0 nv0 w0 F r' w')):=by
 by_cases h6:d<=16
 . exact(puni (V:=fun _=>unitV) (fun _=>0) H T fun nv m N hs _ q hq=>deep1_any hs d hd z hz q hq).mono fun e w' h=>h.imp id fun ⟨_,_,r',q⟩=>⟨h6,r',q⟩
 . have h:=H.out;have hr:=T.out
   match r,h with
   | .ok (_,m,ns),⟨hm,nv,h1,h2,h3⟩ =>
    refine (deep1_any h1 d hd z hz _ (if_pos (Nat.not_le.1 h6))).mono fun e w' ⟨he,nv',hk⟩=>.inl ⟨_,_,he,J ?_⟩
    rw[hr,deep_no (Nat.not_le.1 h6)];exact⟨rfl,nv',h2.trans hk⟩
def pend {fn:FuncId} {args:Array Value} {p:PM Int} (H:Hid (PS b lb lo cap L m0 N0 nv0 w0 F r w)) (live:∀ nv m N,St b lb lo cap nv L m N w->∀ q,p m N.length=q->Calls prog fn args w (PPost intV b lb lo cap nv L m N w q)) (T:Hid (res=rb N0.length r p)):Calls prog fn args w fun e w'=>(∃ c a,e=.panicked [{ v:=.iface 190 (.agg #[.int .i64 c,.int .i64 a]),recovered:=false }]/\Hid (PPost intV b lb lo cap nv0 L m0 N0 w0 res (noV c a) w'))\/∃ z:Int,e=.returned (.int .i64 z)/\Hid (PPost intV b lb lo cap nv0 L m0 N0 w0 res (.returned (.int .i64 z)) w') :=
 (puni (V:=fun _=>intV) (K:=pok) (fun _=>0) H (J (T.out.trans (congrArg _ (qfC _).symm))) fun nv m N hs _ q hq=>live nv m N hs q hq).mono fun e w' h=>h.imp id fun ⟨_,v,r',q1,q2,q3⟩=>⟨v,q1,J (PS.fin q3 q2)⟩
def pend1 {fn:FuncId} {args:Array Value} {p:PM Int} (H:Hid (PS b lb lo cap L m N nv0 w0 F (.ok ((),m,[])) w)) (live:∀ nv,St b lb lo cap nv L m N w->∀ q,p m N.length=q->Calls prog fn args w (PPost intV b lb lo cap nv L m N w q)) (T:Hid (res=rb N.length (.ok ((),m,[])) p)):Calls prog fn args w fun e w'=>(∃ c a,e=.panicked [{ v:=.iface 190 (.agg #[.int .i64 c,.int .i64 a]),recovered:=false }]/\Hid (PPost intV b lb lo cap nv0 L m N w0 res (noV c a) w'))\/∃ z:Int,e=.returned (.int .i64 z)/\Hid (PPost intV b lb lo cap nv0 L m N w0 res (.returned (.int .i64 z)) w'):=by
 obtain⟨hm,nv,h1,h2,h3⟩:=H.out;have e:res=p m N.length:=T.out.trans (qaF _);refine (live nv (h1.cast (List.append_nil N)) _ e.symm).mono fun e' w' hp=>?_
 match res,hp with
 | .error (c,a),⟨he,nv',hk⟩=>exact .inl ⟨c,a,he,J ⟨rfl,nv',h2.trans hk⟩⟩
 | .ok (v,m',ns),⟨he,nv',hs,hk,hm'⟩=>exact .inr ⟨v,he,J ⟨rfl,nv',hs,h2.trans hk,hm'⟩⟩
def play (H:Hid (PS b lb lo cap L m0 N0 nv0 w0 F r w)) (zk za zb zc zx zi:Int) (zs zt:ByteArray) (T:Hid (res=rb N0.length r (layP L ⟨zk,za,zb,zc,zx,zi,zs,zt⟩))):Calls prog 168 #[.pointer (some ⟨b,0,none⟩),.agg #[.int .i64 zk,.int .i64 za,.int .i64 zb,.int .i64 zc,.int .i64 zx,.int .i64 zi,.string zs,.string zt]] w fun e w'=>(∃ c a,e=.panicked [{ v:=.iface 190 (.agg #[.int .i64 c,.int .i64 a]),recovered:=false }]/\Hid (PPost intV b lb lo cap nv0 L m0 N0 w0 res (noV c a) w'))\/∃ z:Int,e=.returned (.int .i64 z)/\Hid (PPost intV b lb lo cap nv0 L m0 N0 w0 res (.returned (.int .i64 z)) w') :=
 pend H (fun nv m N hs q hq=>lay_any hs zk za zb zc zx zi zs zt q hq) T
def pfail (H:Hid (PS b lb lo cap L m0 N0 nv0 w0 F r w)) (z:Int) (T:Hid (res=rb N0.length r (pno L z))):Calls prog 133 #[.pointer (some ⟨b,0,none⟩),.int .i64 z] w fun e w'=>∃ c a,e=.panicked [{ v:=.iface 190 (.agg #[.int .i64 c,.int .i64 a]),recovered:=false }]/\Hid (PPost intV b lb lo cap nv0 L m0 N0 w0 res (noV c a) w'):=by
 have h:=H.out;have hr:=T.out
 match r,h with
 | .ok (_,m,ns),⟨hm,nv,h1,h2,h3⟩ =>
  refine (qcf h1 z).mono fun e w' ⟨he,hx⟩=>⟨_,_,he,J ?_⟩
  rw[hr];exact⟨rfl,nv,h2.ext hx⟩
end Go.Proofs.YtpnabjopfpdkhaaGreatDoor
