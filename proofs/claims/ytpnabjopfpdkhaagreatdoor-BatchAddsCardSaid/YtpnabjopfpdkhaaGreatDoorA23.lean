/- Lemmas. -/
import Derived.Test.YtpnabjopfpdkhaaGreatDoorA02
import Derived.Test.YtpnabjopfpdkhaaGreatDoorA03
import Derived.Test.YtpnabjopfpdkhaaGreatDoorA04
import Derived.LoopTactic
import Derived.Deep.LoopGhost
import Derived.Lib.SmallJoins
set_option linter.unusedSimpArgs false
set_option linter.unusedVariables false
set_option maxHeartbeats 2000000
set_option maxRecDepth 100000
namespace Go.Proofs.YtpnabjopfpdkhaaGreatDoor
open Go.RowKit
variable {b cap g lb lo m m1 n:Nat} {nv:Value} {L:Toks} {N ns:List Nd} {w:World} {a c:Int} {s:ByteArray} {r ss:List ByteArray} {cl:PM Int}
attribute [go_sem] more_more Array.size_append
theorem qbs (h:St b lb lo cap nv L m N w) :
  Calls Tryz.prog 132 #[.pointer (some ⟨b,0,none⟩)] w fun e w'=>e=.returned (tokV (tk L m).1 (tk L m).2)∧Ext w w':=by
 obtain⟨c0,c1,c2,c3,f1,f2,f3,hb⟩:=h.facts
 obtain⟨t0,t1,t2,t3,hlb⟩:=h.tokFacts
 have hp:(m:Int)<(L.length:Int):=by have:=h.pos;omega
 have hp0:0≤(m:Int):=by omega
 obtain⟨⟨⟨k,s,i⟩,a⟩,htt⟩:∃ tt,tk L m=tt:=⟨_,rfl⟩
 rw[htt] at t0 t1 t2 t3 ⊢;unfold tokV;clear htt h c2 c3 f1 f2 f3;go_enter Tryz.func132,Tryz.ntmps132;go_wp2_with fail;refine qaa 10 13 (List.replicate 10 false) zaf zaf rfl ?_;refine yac ?_
 repeat(refine Lex.step rfl ?_;intro K hK;unfold StepG;go_simp;(first
   | refine hK _ ?_);clear hK K)
 refine yaa ?_;intro dd oo;go_wp2_with fail;rw[ends_normal];go_wp2_with fail;exact bodyPost_ret (v:=.agg #[.int .i64 k,.int .i64 a,.string s,.int .i64 i]) (by simp[results,Tryz.results132,go_sem]) rfl ⟨rfl,zab⟩
theorem isP_eq {t:Tok} (ht:tk L m=(t,a)) (s:ByteArray) (b:Bool) (hw:wordB s=b):isP L s m=(t.k==(if b=true then 5 else 4)&&t.s.toList==s.toList):=by
 unfold isP;rw[ht,hw]
theorem is_any (h:St b lb lo cap nv L m N w) (s:ByteArray) :
  Calls Tryz.prog 211 #[.pointer (some ⟨b,0,none⟩),.string s] w fun e w'=>e=.returned (.bool (isP L s m))∧Ext w w':=by
 refine yah ?_;intro TK
 obtain⟨⟨⟨k,ts,i⟩,a⟩,htt⟩:∃ tt,tk L m=tt:=⟨_,rfl⟩
 have W:=Lib.hid (word_any s)
 cases hw:wordB s
 all_goals
  rw[hw] at W;rw[isP_eq htt s _ hw];rw[htt] at TK;unfold tokV at TK;clear htt hw h;dsimp only at TK ⊢
 · by_cases hk:(k==4)=true
   · rw[if_neg zaj,hk]
     go_enter Tryz.func211,Tryz.ntmps211
     go_wp2_with (first
      | (go_at_call 156;refine (W.out _).mono ?_;rintro e _ ⟨rfl,d,os,rfl⟩)
      | (go_at_call 132;refine (TK.out _ zab).mono ?_;rintro e _ ⟨rfl,d2,os2,rfl⟩))
     go_ret;refine ⟨ret_bool ?_,zab⟩
     simp
   · have hk2:(k==4)=false:=by simpa using hk
     clear hk;rw[if_neg zaj,hk2];go_enter Tryz.func211,Tryz.ntmps211
     go_wp2_with (first
      | (go_at_call 156;refine (W.out _).mono ?_;rintro e _ ⟨rfl,d,os,rfl⟩)
      | (go_at_call 132;refine (TK.out _ zab).mono ?_;rintro e _ ⟨rfl,d2,os2,rfl⟩))
     go_ret;refine ⟨ret_bool ?_,zab⟩
     simp
 · by_cases hk:(k==5)=true
   · rw[if_pos rfl,hk]
     go_enter Tryz.func211,Tryz.ntmps211
     go_wp2_with (first
      | (go_at_call 156;refine (W.out _).mono ?_;rintro e _ ⟨rfl,d,os,rfl⟩)
      | (go_at_call 132;refine (TK.out _ zab).mono ?_;rintro e _ ⟨rfl,d2,os2,rfl⟩))
     go_ret;refine ⟨ret_bool ?_,zab⟩
     simp
   · have hk2:(k==5)=false:=by simpa using hk
     clear hk;rw[if_pos rfl,hk2];go_enter Tryz.func211,Tryz.ntmps211
     go_wp2_with (first
      | (go_at_call 156;refine (W.out _).mono ?_;rintro e _ ⟨rfl,d,os,rfl⟩)
      | (go_at_call 132;refine (TK.out _ zab).mono ?_;rintro e _ ⟨rfl,d2,os2,rfl⟩))
     go_ret;refine ⟨ret_bool ?_,zab⟩
     simp
theorem qcX (h:St b lb lo cap nv L m N w) (s:ByteArray) (hn:isP L s m=false) :
  Calls Tryz.prog 194 #[.pointer (some ⟨b,0,none⟩),.string s] w fun e w'=>e=.returned (.bool false)∧Ext w w':=by
 have I:=Lib.hid (is_any h s);rw[hn] at I;clear hn h;go_enter Tryz.func194,Tryz.ntmps194
 go_wp2_with (go_at_call 211;refine I.out.mono ?_;rintro e _ ⟨rfl,d,os,rfl⟩)
 go_ret
 exact⟨rfl,zab⟩
theorem qer (h:St b lb lo cap nv L m N w) (s:ByteArray) (hn:isP L s m=true) :
  Calls Tryz.prog 194 #[.pointer (some ⟨b,0,none⟩),.string s] w fun e w'=>e=.returned (.bool true)∧∃ w1,Ext w w1∧w'=w1.setCell ⟨b,1,none⟩ (.int .i64 ((m:Int)+1)):=by
 have I:=Lib.hid (is_any h s);rw[hn] at I
 have hm:(m:Int)≤5000:=by have:=h.ends.few;have:=h.pos;omega
 have hm0:0≤(m:Int):=by omega
 obtain⟨c0,c1,c2,c3,f1,f2,f3,hb⟩:=h.facts
 clear hn h c0 c2 c3 f2 f3;go_enter Tryz.func194,Tryz.ntmps194
 go_wp2_with (go_at_call 211;refine I.out.mono ?_;rintro e _ ⟨rfl,d,os,rfl⟩)
 go_ret
 exact⟨rfl,more w d os,zab,by rw[more_setCell _ _ _ _ _ _ hb]⟩
theorem fld_at (k a:Int) (s:ByteArray) (i:Int) (w:World):(Instr.field 186 (.agg #[.int .i64 k,.int .i64 a,.string s,.int .i64 i]) 1).run Tryz.prog w=.ok (.int .i64 a) w:=by kernel_rfl
theorem fld_s (k a:Int) (s:ByteArray) (i:Int) (w:World):(Instr.field 186 (.agg #[.int .i64 k,.int .i64 a,.string s,.int .i64 i]) 2).run Tryz.prog w=.ok (.string s) w:=by kernel_rfl
theorem fld_i (k a:Int) (s:ByteArray) (i:Int) (w:World):(Instr.field 186 (.agg #[.int .i64 k,.int .i64 a,.string s,.int .i64 i]) 3).run Tryz.prog w=.ok (.int .i64 i) w:=by kernel_rfl
attribute [go_sem] fld_at fld_s fld_i
theorem qca (h:St b lb lo cap nv L m N w) (c:Int) :
  Calls Tryz.prog 133 #[.pointer (some ⟨b,0,none⟩),.int .i64 c] w fun e w'=>e=noV c (tk L m).2∧Ext w w':=by
 refine yah ?_;intro TK
 obtain⟨⟨⟨k,ts,i⟩,a⟩,htt⟩:∃ tt,tk L m=tt:=⟨_,rfl⟩
 rw[htt] at TK ⊢;unfold tokV at TK;dsimp only at TK ⊢;clear htt h;go_enter Tryz.func133,Tryz.ntmps133
 go_wp2_with (go_at_call 132;refine (TK.out _ zab).mono ?_;rintro e _ ⟨rfl,d2,os2,rfl⟩)
 exact⟨rfl,rfl,zab⟩
theorem PPost.err {α:Type} {V:α→Value} {nv':Value} {w':World} {e:Ending} (he:e=noV c a) (hk:Kp b nv nv' w w'):PPost V b lb lo cap nv L m N w (.error (c,a)) e w':=⟨he,nv',hk⟩
theorem PPost.res {α:Type} {V:α→Value} {nv':Value} {m':Nat} {w':World} {v:α} {e:Ending} (he:e=.returned (V v)) (hs:St b lb lo cap nv' L m' (N++ns) w') (hk:Kp b nv nv' w w') (hm:m≤m') :
  PPost V b lb lo cap nv L m N w (.ok (v,m',ns)) e w':=⟨he,nv',hs,hk,hm⟩
theorem qdg (h:St b lb lo cap nv L m N w) (d:Nat) (hd:d≤17) (r:PR Unit) (hr:deepP L d m N.length=r) :
  Calls Tryz.prog 130 #[.pointer (some ⟨b,0,none⟩),.int .i64 (d:Int)] w (PPost unitV b lb lo cap nv L m N w r):=by
 subst hr;refine yag ?_;intro FL
 by_cases h16:16<d
 · unfold deepP
   rw[if_pos h16]
   have h17:(16:Int)<(d:Int):=by omega
   refine Calls.mono (R:=fun e w'=>e=noV 14 (tk L m).2∧Ext w w') ?_ fun e w' ⟨he,hx⟩=>PPost.err he ((Kp.refl b nv w).ext hx)
   clear h h16;go_enter Tryz.func130,Tryz.ntmps130
   go_wp2_with (go_at_call 133;refine (FL.out _ _ zab).mono ?_;rintro e _ ⟨he,d3,os3,rfl⟩;unfold noV at he;subst he)
   exact⟨rfl,rfl,zab⟩
 · unfold deepP
   rw[if_neg h16]
   have h17:(d:Int)≤16:=by omega
   refine Calls.mono (R:=fun e w'=>e=.returned (.tuple #[])∧Ext w w') ?_ fun e w' ⟨he,hx⟩=>PPost.res he (by simpa using h.ext hx) ((Kp.refl b nv w).ext hx) (Nat.le_refl _)
   clear h h16;go_enter Tryz.func130,Tryz.ntmps130
   go_wp2_with (go_at_call 133;refine (FL.out _ _ zab).mono ?_;rintro e _ ⟨he,d3,os3,rfl⟩;unfold noV at he;subst he)
   go_end0
   exact⟨rfl,zab⟩
theorem of_any (h:St b lb lo cap nv L m N w) (k0:Int) (h0:k0≠0) (r:PR Tok) (hr:ofP L k0 m N.length=r) :
  Calls Tryz.prog 112 #[.pointer (some ⟨b,0,none⟩),.int .i64 k0] w (PPost (fun t=>tokV t (tk L m).2) b lb lo cap nv L m N w r):=by
 subst hr;refine yah ?_;intro TK;refine yag ?_;intro FL
 have hm:(m:Int)≤5000:=by have:=h.ends.few;have:=h.pos;omega
 have hm0:0≤(m:Int):=by omega
 have hnx:(tk L m).1.k=k0→m+1<L.length:=fun e=>h.next (by rw[e];exact h0)
 have H:=Lib.hid h
 obtain⟨c0,c1,c2,c3,f1,f2,f3,hb⟩:=h.facts
 clear h c0 c2 c3 f2 f3
 obtain⟨⟨⟨k,ts,i⟩,a⟩,htt⟩:∃ tt,tk L m=tt:=⟨_,rfl⟩
 unfold ofP;rw[htt] at TK FL hnx ⊢;unfold tokV at TK;unfold tokV;dsimp only at TK FL hnx ⊢;clear htt
 by_cases hk:k=k0
 · rw[if_pos hk]
   have hlt:=hnx hk;subst hk
   refine Calls.mono (R:=fun e w'=>e=.returned (.agg #[.int .i64 k,.int .i64 a,.string ts,.int .i64 i])∧∃ w1 w2,Ext w w1∧w2=w1.setCell ⟨b,1,none⟩ (.int .i64 ((m:Int)+1))∧Ext w2 w') ?_
    fun e w' ⟨he,w1,w2,hx,hw,hx2⟩=>PPost.res he (by rw[List.append_nil];exact(hw ▸ (H.out.ext hx).setAt (m+1) _ zac hlt).ext hx2) ((hw ▸ ((Kp.refl b nv w).ext hx).setB 1 _).ext hx2) (Nat.le_succ _)
   clear hnx;have hlt:=Lib.hid hlt
   have hkk:(k !=k)=false:=by simp
   go_enter Tryz.func112,Tryz.ntmps112
   go_wp2_with (first | (go_at_call 132;refine (TK.out _ zab).mono ?_;rintro e _ ⟨rfl,d2,os2,rfl⟩) | (go_at_call 133;refine (FL.out _ _ zab).mono ?_;rintro e _ ⟨he,d3,os3,rfl⟩;unfold noV at he;subst he))
   exact bodyPost_ret (v:=.agg #[.int .i64 k,.int .i64 a,.string ts,.int .i64 i]) (by simp[results,Tryz.results112,go_sem]) rfl ⟨rfl,_,_,Ext.refl _,rfl,zab⟩
 · rw[if_neg hk]
   have hkk:(k !=k0)=true:=by simpa using hk
   refine Calls.mono (R:=fun e w'=>e=noV 3 a∧Ext w w') ?_ fun e w' ⟨he,hx⟩=>PPost.err he ((Kp.refl b nv w).ext hx)
   clear hnx hk;go_enter Tryz.func112,Tryz.ntmps112
   go_wp2_with (first | (go_at_call 132;refine (TK.out _ zab).mono ?_;rintro e _ ⟨rfl,d2,os2,rfl⟩) | (go_at_call 133;refine (FL.out _ _ zab).mono ?_;rintro e _ ⟨he,d3,os3,rfl⟩;unfold noV at he;subst he))
   exact⟨rfl,rfl,zab⟩
theorem nv_form (h:St b lb lo cap nv L m N w):∃ len c p,nv=.slice p len c∧len=N.length:=by
 rcases Go.Joins.ownsRow_forms h.row with ⟨rfl,h0⟩ | ⟨g1,c,rfl⟩
 · exact⟨_,_,_,rfl,h0.symm⟩
 · exact⟨_,_,_,rfl,rfl⟩
theorem qeu {N d1 d2:Nat} {os1 os2:Array Obj} {cs:Array Value} {t:TypeId} (hN:N=w.heap.size+os1.size) :
  ∀ j u,cs.toList[j]?=some u→(more ((more w d1 os1).alloc (.cells cs t)) d2 os2).cell? ((⟨N,0,none⟩:Addr).add j)=some u:=by
 intro j u h
 have hN':N=(more w d1 os1).heap.size:=by rw[more_size];exact hN
 subst hN';rw[Addr.add_lit,qdh _ _ _ _ _ zaj];simp only[World.cell?,heap_alloc_new]
 simpa using h
theorem lay_any (h:St b lb lo cap nv L m N w) (zk za zb zc zx zi:Int) (zs zt:ByteArray) (r:PR Int) (hr:layP L ⟨zk,za,zb,zc,zx,zi,zs,zt⟩ m N.length=r) :
  Calls Tryz.prog 168 #[.pointer (some ⟨b,0,none⟩),.agg #[.int .i64 zk,.int .i64 za,.int .i64 zb,.int .i64 zc,.int .i64 zx,.int .i64 zi,.string zs,.string zt]] w (PPost intV b lb lo cap nv L m N w r):=by
 subst hr;refine yag ?_;intro FL
 obtain⟨len,c,p,rfl,hlen⟩:=nv_form h
 have hcnt:=h.cnt;subst hlen;have H:=Lib.hid h
 obtain⟨c0,c1,c2,c3,f1,f2,f3,hb⟩:=h.facts
 unfold layP
 by_cases h5:N.length=512
 · rw[if_pos h5]
   have q5:((N.length:Int)==512)=true:=by rw[h5];rfl
   refine Calls.mono (R:=fun e w'=>e=noV 5 (tk L m).2∧Ext w w') ?_ fun e w' ⟨he,hx⟩=>PPost.err he ((Kp.refl b _ w).ext hx)
   clear h h5 c0 c1 c3 f1 f3;go_enter Tryz.func168,Tryz.ntmps168
   go_wp2_with (go_at_call 133;refine (FL.out _ _ zab).mono ?_;rintro e _ ⟨he,d3,os3,rfl⟩;unfold noV at he;subst he)
   exact⟨rfl,rfl,zab⟩
 · rw[if_neg h5]
   have q5:((N.length:Int)==512)=false:=by simp;omega
   have h512:N.length<512:=by omega
   have H5:=Lib.hid h512
   have hmx:(N.length:Int)≤511:=by omega
   obtain⟨i0,hi,hz0,hz1,hz2⟩:=info_parts ndInfo
   clear h h5 c0 c1 c3 f1 f3 h512 hcnt FL;go_enter Tryz.func168,Tryz.ntmps168;go_wp2_with fail;refine qaa 8 33 [true,false,false,false,false,false,false,false] zaf zaf rfl ?_;refine yac ?_;refine Lex.stepP rfl rfl ?_;intro K hK;go_simp;refine hK _ ?_;clear hK K
   iterate 6 (refine Lex.step rfl ?_;intro K hK;unfold StepG;go_simp;refine hK _ ?_;clear hK K)
   refine Lex.sliceLit 21 (.cells #[.int .i64 zk,.int .i64 za,.int .i64 zb,.int .i64 zc,.int .i64 zx,.int .i64 zi,.string zs,.string zt] 166) 1 1 rfl rfl (fun d os=>?_) ?_
   · unfold StepG
     go_simp
     exact⟨(Ext.refl _).alloc _,NewSl.of_alloc _ _ _ _ _ _ _ zbf⟩
   refine Lex.nil fun WW hE=>?_
   intro u hu
   obtain⟨d1,os1,d2,os2,rfl,rfl⟩:=hu.split hE
   clear hu hE;go_simp;unfold FillH
   go_wp2_with (at_builtin;refine wpList_append_own_at _ rfl _ _ 130 rfl (b+1) 166 i0 (.agg #[.int .i64 0,.int .i64 0,.int .i64 0,.int .i64 0,.int .i64 0,.int .i64 0,.string ⟨#[]⟩,.string ⟨#[]⟩]) 8 80 Tryz.underlying130 hi hz0 hz1 hz2 rfl zak (.slice p N.length c) N.length (qac N) rfl ?c0 ⟨_,0,none⟩ 1 1 [.int .i64 zk,.int .i64 za,.int .i64 zb,.int .i64 zc,.int .i64 zx,.int .i64 zi,.string zs,.string zt] rfl rfl ?c1 ?c2 ?c3 ?c4 ?c5 ?_)
   case c0=>repeat(first | (with_reducible exact H.out.row) | (with_reducible apply own_more) | (with_reducible refine World.ownsRow.alloc ?_ _))
   case c1=>exact qeu zbf
   case c2=>intro u hu;simp at hu;rcases hu with rfl | rfl | rfl | rfl | rfl | rfl | rfl | rfl<;>rfl
   case c3=>unfold maxLen;omega
   case c4=>omega
   case c5=>simp[more_size];omega
   intro v' w1 hown' hgrow _ hblk
   have HS:RowKit.Hid (St b lb lo cap v' L m (N++[⟨zk,za,zb,zc,zx,zi,zs,zt⟩]) (w1.setCell ⟨b,2,none⟩ v')):=Lib.hid (St.push (by repeat(first | (with_reducible exact H.out) | (with_reducible apply St.alloc) | (with_reducible apply St.more))) hown' hgrow H5.out)
   have HK:RowKit.Hid (Kp b (.slice p N.length c) v' w (w1.setCell ⟨b,2,none⟩ v')):=Lib.hid (Kp.push (by repeat(first | (with_reducible exact Kp.refl _ _ _) | (with_reducible apply Kp.alloc) | (with_reducible apply Kp.more))) hgrow (by simp only[more_size,World.size_alloc];exact hblk))
   obtain⟨hc2,hb1,hb2⟩:=St.grownFacts (by repeat(first | (with_reducible exact H.out) | (with_reducible apply St.alloc) | (with_reducible apply St.more))) hgrow
   have hb3:∃ g cap1,v'=.slice (some ⟨g,0,none⟩) (N.length+1) cap1:=by obtain⟨g1,cap1,rfl,_,_⟩:=hown'.form zac;exact⟨_,_,rfl⟩
   obtain⟨g1,cap1,rfl⟩:=hb3
   clear hown' hgrow hblk;go_wp2_with fail
   first | rw[ends_normal] | skip
   go_wp2_with fail;go_ret;exact PPost.res (by first | rfl | (show Ending.returned (.int .i64 _)=_;exact ret_int zac)) HS.out HK.out (Nat.le_refl _)
theorem qaD (k:Int) (w:World):Calls Tryz.prog 165 #[.int .i64 k] w fun e w'=>e=.returned (.agg #[.int .i64 k,.int .i64 (-1),.int .i64 (-1),.int .i64 (-1),.int .i64 (-1),.int .i64 0,.string ⟨#[]⟩,.string ⟨#[]⟩])∧Ext w w':=by
 go_enter Tryz.func165,Tryz.ntmps165;go_wp2_with fail;exact bodyPost_ret (v:=.agg #[.int .i64 k,.int .i64 (-1),.int .i64 (-1),.int .i64 (-1),.int .i64 (-1),.int .i64 0,.string ⟨#[]⟩,.string ⟨#[]⟩]) (by simp[results,Tryz.results165,go_sem]) rfl ⟨rfl,zab⟩
theorem qek (h:isP L s m=true):(tk L m).1.k≠0:=by
 unfold isP at h;intro e;rw[e] at h
 split at h<;>simp at h
theorem Loc.node {k:Nat} {v0 v1 v2 v3 v4 v5 v6 v7:Value} (h:Loc b nv k (.cells #[v0,v1,v2,v3,v4,v5,v6,v7] 166 (0,0)) w) :
  w.cell? ⟨k,0,none⟩=some v0∧w.cell? ⟨k,1,none⟩=some v1∧w.cell? ⟨k,2,none⟩=some v2∧w.cell? ⟨k,3,none⟩=some v3∧w.cell? ⟨k,4,none⟩=some v4∧w.cell? ⟨k,5,none⟩=some v5∧w.cell? ⟨k,6,none⟩=some v6∧w.cell? ⟨k,7,none⟩=some v7 ∧
  w.frozen? ⟨k,0,none⟩=false∧w.frozen? ⟨k,1,none⟩=false∧w.frozen? ⟨k,2,none⟩=false∧w.frozen? ⟨k,3,none⟩=false∧w.frozen? ⟨k,5,none⟩=false∧w.frozen? ⟨k,6,none⟩=false∧w.frozen? ⟨k,7,none⟩=false∧k<w.heap.size:=by
 have:=h.is
 refine ⟨?_,?_,?_,?_,?_,?_,?_,?_,?_,?_,?_,?_,?_,?_,?_,h.lt⟩<;>simp[World.cell?,World.frozen?,this]
theorem takes_any (h:St b lb lo cap nv L m N w) (s:ByteArray) (r:PR Bool) (hr:takesP L s m N.length=r) :
  Calls Tryz.prog 194 #[.pointer (some ⟨b,0,none⟩),.string s] w (PPost (fun x=>.bool x) b lb lo cap nv L m N w r):=by
 subst hr;unfold takesP
 by_cases hp:isP L s m=true
 · rw[if_pos hp]
   refine (qer h s hp).mono fun e w' ⟨he,w1,hx,hw⟩=>?_
   subst hw;exact PPost.res he (by rw[List.append_nil];exact(h.ext hx).setAt (m+1) _ zac (h.next (qek hp))) (((Kp.refl b nv w).ext hx).setB 1 _) (Nat.le_succ _)
 · rw[if_neg hp]
   refine (qcX h s (by simpa using hp)).mono fun e w' ⟨he,hx⟩=>?_
   exact PPost.res he (by rw[List.append_nil];exact h.ext hx) ((Kp.refl b nv w).ext hx) (Nat.le_refl _)
theorem qbp (h:isP L s m=true):mustP L (s::r) m n=mustP L r (m+1) n:=by
 rw[mustP,qaj (v:=()) (m1:=m+1) (ns:=[]) (by unfold must1;rw[if_pos h]),qaC];rfl
theorem qdr (h:isP L s m=false):mustP L (s::r) m n=.error (3,(tk L m).2):=by
 rw[mustP];exact qan (by unfold must1;rw[h];rfl)
theorem qeS {α:Type} (ss:List α) (j:Nat) (d:α) (h:j<ss.length):ss.drop j=ss.getD j d::ss.drop (j+1):=by
 rw[List.drop_eq_getElem_cons h];simp[List.getD,List.getElem?_eq_getElem h]
def strs (ss:List ByteArray):Obj:=.cells (ss.map Value.string).toArray 9 (0,0)
theorem Loc.str (h:Loc b nv g (strs ss) w) (j:Nat) (hj:j<ss.length):w.cell? ⟨g,j,none⟩=some (.string (ss.getD j ⟨#[]⟩)):=by
 have:=h.is
 unfold strs at this
 simp[World.cell?,this,List.getD,List.getElem?_eq_getElem hj]
theorem must_any (h:St b lb lo cap nv L m N w) (ss:List ByteArray) (g c:Nat) (hg:Loc b nv g (strs ss) w) (hss:ss.length≤100) (r:PR Unit) (hr:mustP L ss m N.length=r) :
  Calls Tryz.prog 195 #[.pointer (some ⟨b,0,none⟩),.slice (some ⟨g,0,none⟩) ss.length c] w (PPost unitV b lb lo cap nv L m N w r):=by
 have H:=Lib.hid h;have G:=Lib.hid hg;have R:=Lib.hid hr
 have hsz:(ss.length:Int)≤100:=by omega
 clear h hg hr;go_enter Tryz.func195,Tryz.ntmps195;go_wp2_with fail;go_loopw [8] (fun i wr=>∃ j:Nat,i=.int .i64 (j:Int)∧j≤ss.length∧St b lb lo cap nv L (m+j) N wr∧Kp b nv nv w wr∧mustP L (ss.drop j) (m+j) N.length=r) (fun i _=>ss.length-(intOf i).toNat)
 case atStart=>exact⟨0,rfl,Nat.zero_le _,H.out,Kp.refl _ _ _,R.out⟩
 case round =>
  obtain⟨j,rfl,hj,hst,hkp,hr⟩:=hrel
  by_cases hlt:j<ss.length
  · have hlt2:(j:Int)<(ss.length:Int):=by omega
    have hj0:0≤(j:Int):=by omega
    have hcell:=((G.out.kp hkp).str j hlt)
    rw[qeS ss j ⟨#[]⟩ hlt] at hr
    obtain⟨s,hs⟩:∃ s,ss.getD j ⟨#[]⟩=s:=⟨_,rfl⟩
    rw[hs] at hcell hr;have HS:=Lib.hid hst;have HK:=Lib.hid hkp
    cases hp:isP L s (m+j)
    · rw[qdr hp] at hr
      subst hr;have T:=Lib.hid (qcX hst s hp)
      have FL:=fun c (w1:World) (hx:Ext wr w1)=>qca (hst.ext hx) c
      have FL:=Lib.hid FL;clear hst hkp hlt hs hp R
      go_wp2_with (first
       | (go_at_call 194;refine T.out.mono ?_;rintro e _ ⟨rfl,d,os,rfl⟩)
       | (go_at_call 133;refine (FL.out _ _ zab).mono ?_;rintro e _ ⟨he,d3,os3,rfl⟩;unfold noV at he;subst he))
      exact⟨rfl,PPost.err rfl (HK.out.ext zab)⟩
    · rw[qbp hp] at hr
      have R:=Lib.hid hr;have T:=Lib.hid (qer hst s hp);have NX:=Lib.hid (hst.next (qek hp));clear hst hkp hlt hs hp hr
      go_wp2_with (go_at_call 194;refine T.out.mono ?_;rintro e _ ⟨rfl,w1,hx,rfl⟩;have HX:=Lib.hid hx;clear hx)
      go_roundw
      case rel=>exact⟨j+1,by go_num,by omega,by rw[←Nat.add_assoc];exact(HS.out.ext HX.out).setAt (m+j+1) _ zac NX.out,(HK.out.ext HX.out).setB 1 _,by rw[←Nat.add_assoc];exact R.out⟩
      case measure=>simp[intOf];omega
  · have hge:(ss.length:Int)≤(j:Int):=by omega
    have e:ss.drop j=[]:=List.drop_eq_nil_of_le zac
    rw[e,mustP] at hr;have R2:=Lib.hid hr;have HS:=Lib.hid hst;have HK:=Lib.hid hkp;clear hr e hst hkp;go_wp2_with fail;go_end0
    have:=R2.out
    subst this;exact PPost.res rfl (by rw[List.append_nil];exact HS.out) HK.out (Nat.le_add_right _ _)
def optV:Option ByteArray→Value
 | none=>.tuple #[.string ⟨#[]⟩,.bool false]
 | some s=>.tuple #[.string s,.bool true]
def findP (L:Toks) (m:Nat) (ss:List ByteArray):PR (Option ByteArray):=match ss.find? (fun s=>isP L s m) with
 | none=>.ok (none,m,[])
 | some s=>.ok (some s,m+1,[])
theorem findP_yes (h:isP L s m=true):findP L m (s::r)=.ok (some s,m+1,[]):=by
 unfold findP;rw[List.find?_cons];simp[h]
theorem findP_no (h:isP L s m=false):findP L m (s::r)=findP L m r:=by
 unfold findP;rw[List.find?_cons];simp[h]
theorem qdp (h:St b lb lo cap nv L m N w) (ss:List ByteArray) (g c:Nat) (hg:Loc b nv g (strs ss) w) (hss:ss.length≤100) (r:PR (Option ByteArray)) (hr:qaL L ss m N.length=r) :
  Calls Tryz.prog 218 #[.pointer (some ⟨b,0,none⟩),.slice (some ⟨g,0,none⟩) ss.length c] w (PPost optV b lb lo cap nv L m N w r):=by
 have H:=Lib.hid h;have G:=Lib.hid hg
 have hr2:findP L m ss=r:=hr
 have R:=Lib.hid hr2
 have hsz:(ss.length:Int)≤100:=by omega
 clear h hg hr hr2;go_enter Tryz.func218,Tryz.ntmps218;go_wp2_with fail;go_loopw [10] (fun i wr=>∃ j:Nat,i=.int .i64 (j:Int)∧j≤ss.length∧St b lb lo cap nv L m N wr∧Kp b nv nv w wr∧findP L m (ss.drop j)=r) (fun i _=>ss.length-(intOf i).toNat)
 case atStart=>exact⟨0,rfl,Nat.zero_le _,H.out,Kp.refl _ _ _,R.out⟩
 case round =>
  obtain⟨j,rfl,hj,hst,hkp,hr⟩:=hrel
  by_cases hlt:j<ss.length
  · have hlt2:(j:Int)<(ss.length:Int):=by omega
    have hj0:0≤(j:Int):=by omega
    have hcell:=((G.out.kp hkp).str j hlt)
    rw[qeS ss j ⟨#[]⟩ hlt] at hr
    obtain⟨s,hs⟩:∃ s,ss.getD j ⟨#[]⟩=s:=⟨_,rfl⟩
    rw[hs] at hcell hr;have HS:=Lib.hid hst;have HK:=Lib.hid hkp
    cases hp:isP L s m
    · rw[findP_no hp] at hr
      have R2:=Lib.hid hr;have T:=Lib.hid (qcX hst s hp);clear hst hkp hlt hs hp R hr
      go_wp2_with (go_at_call 194;refine T.out.mono ?_;rintro e _ ⟨rfl,d,os,rfl⟩)
      go_roundw
      case rel=>exact⟨j+1,by go_num,by omega,HS.out.more _ _,HK.out.more _ _,R2.out⟩
      case measure=>simp[intOf];omega
    · rw[findP_yes hp] at hr
      have R2:=Lib.hid hr;have T:=Lib.hid (qer hst s hp);have NX:=Lib.hid (hst.next (qek hp));clear hst hkp hlt hs hp hr R
      go_wp2_with (go_at_call 194;refine T.out.mono ?_;rintro e _ ⟨rfl,w1,hx,rfl⟩;have HX:=Lib.hid hx;clear hx)
      go_ret2
      have:=R2.out
      subst this;exact PPost.res rfl (by rw[List.append_nil];exact(HS.out.ext HX.out).setAt (m+1) _ zac NX.out) ((HK.out.ext HX.out).setB 1 _) (Nat.le_succ _)
  · have hge:(ss.length:Int)≤(j:Int):=by omega
    have e:ss.drop j=[]:=List.drop_eq_nil_of_le zac
    rw[e] at hr;have R2:=Lib.hid hr;have HS:=Lib.hid hst;have HK:=Lib.hid hkp;clear hr e hst hkp;go_wp2_with fail;go_ret2
    have:=R2.out
    subst this;exact PPost.res rfl (by rw[List.append_nil];exact HS.out) HK.out (Nat.le_refl _)
theorem turns_any (h:St b lb lo cap nv L m N w) (r:PR Int) (hr:qbn L m N.length=r) :
  Calls Tryz.prog 166 #[.pointer (some ⟨b,0,none⟩)] w (PPost intV b lb lo cap nv L m N w r):=by
 refine yah ?_;intro TK;refine yag ?_;intro FL
 have OF:RowKit.Hid (∀ w1,Ext w w1→Calls Tryz.prog 112 #[.pointer (some ⟨b,0,none⟩),.int .i64 2] w1 (PPost (fun t=>tokV t (tk L m).2) b lb lo cap nv L m N w1 (ofP L 2 m N.length))):=Lib.hid fun w1 hx=>of_any (h.ext hx) 2 zak _ rfl
 have H:=Lib.hid h
 obtain⟨⟨⟨k,ts,i⟩,a⟩,htt⟩:∃ tt,tk L m=tt:=⟨_,rfl⟩
 unfold qbn pbind at hr;unfold ofP at OF hr;rw[htt] at TK FL OF hr;unfold tokV at TK OF;dsimp only at TK FL hr OF;clear htt h
 by_cases hk:k=2
 · subst hk
   by_cases hi:64<i
   · rw[if_pos ⟨rfl,hi⟩] at hr
     subst hr;go_enter Tryz.func166,Tryz.ntmps166
     go_wp2_with (first | (go_at_call 132;refine (TK.out _ zab).mono ?_;rintro e _ ⟨rfl,d2,os2,rfl⟩) | (go_at_call 133;refine (FL.out _ _ zab).mono ?_;rintro e _ ⟨he,d3,os3,rfl⟩;unfold noV at he;subst he))
     exact⟨rfl,PPost.err rfl ((Kp.refl b nv w).ext zab)⟩
   · rw[if_neg zac,if_pos rfl] at hr
     rw[if_pos rfl] at OF;subst hr
     have hi2:i≤64:=by omega
     clear hi;go_enter Tryz.func166,Tryz.ntmps166
     go_wp2_with (first | (go_at_call 132;refine (TK.out _ zab).mono ?_;rintro e _ ⟨rfl,d2,os2,rfl⟩) | (go_at_call 133;refine (FL.out _ _ zab).mono ?_;rintro e _ ⟨he,d3,os3,rfl⟩;unfold noV at he;subst he) | (go_at_call 112;refine (OF.out _ zab).mono ?_;rintro e w1 ⟨rfl,nv1,hs1,hk1,_⟩;have HS1:=Lib.hid hs1;have HK1:=Lib.hid hk1;clear hs1 hk1))
     go_ret;exact PPost.res rfl HS1.out (((Kp.refl b nv w).ext zab).trans HK1.out) (Nat.le_succ _)
 · rw[if_neg zac,if_neg hk] at hr
   rw[if_neg hk] at OF;subst hr
   have hk2:(k==2)=false:=by simpa using hk
   clear hk;go_enter Tryz.func166,Tryz.ntmps166
   go_wp2_with (first | (go_at_call 132;refine (TK.out _ zab).mono ?_;rintro e _ ⟨rfl,d2,os2,rfl⟩) | (go_at_call 133;refine (FL.out _ _ zab).mono ?_;rintro e _ ⟨he,d3,os3,rfl⟩;unfold noV at he;subst he) | (go_at_call 112;refine (OF.out _ zab).mono ?_;rintro e w1 ⟨he,nv1,hk1⟩;have HK1:=Lib.hid hk1;clear hk1;unfold noV at he;subst he))
   exact⟨rfl,PPost.err rfl (((Kp.refl b nv w).ext zab).trans HK1.out)⟩
theorem twoL_none (h1:qaL L ss m n=.ok (none,m,[])):qaw L cl ss (g+1) a m n=.ok (a,m,[]):=by
 rw[qaw,qaj h1,qaC];rfl
theorem twoL_err {e:Int × Int} (h1:qaL L ss m n=.ok (some s,m1,[])) (h2:cl m1 n=.error e):qaw L cl ss (g+1) a m n=.error e:=by
 rw[qaw,qaj h1,qaC];exact qan h2
theorem twoL_lay {m2:Nat} {e:Int × Int} (h1:qaL L ss m n=.ok (some s,m1,[])) (h2:cl m1 n=.ok (c,m2,ns)) (h3:layP L (twoNd a c s) m2 (n+ns.length)=.error e):qaw L cl ss (g+1) a m n=.error e:=by
 rw[qaw,qaj h1,qaC];dsimp only[List.length_nil,Nat.add_zero];rw[qaj h2,qan h3]
 rfl
theorem twoL_ok {a1:Int} {m2 m3:Nat} {ns2:List Nd} (h1:qaL L ss m n=.ok (some s,m1,[])) (h2:cl m1 n=.ok (c,m2,ns)) (h3:layP L (twoNd a c s) m2 (n+ns.length)=.ok (a1,m3,ns2)):qaw L cl ss (g+1) a m n=prep (ns++ns2) (qaw L cl ss g a1 m3 (n+(ns++ns2).length)):=by
 rw[qaw,qaj h1,qaC];dsimp only[List.length_nil,Nat.add_zero];rw[qaj h2,qaj h3,qbR,List.length_append,Nat.add_assoc]
def thenR {α β:Type} (r:PR α) (f:α→Nat→List Nd→PR β):PR β:=match r with
 | .error e=>.error e
 | .ok (v,m,ns)=>f v m ns
theorem oneOf_cases (L:Toks) (ss:List ByteArray) (m n:Nat):qaL L ss m n=.ok (none,m,[])∨∃ s,qaL L ss m n=.ok (some s,m+1,[]):=by
 unfold qaL
 cases ss.find? fun s=>isP L s m with
 | none=>exact Or.inl rfl
 | some s=>exact Or.inr ⟨s,rfl⟩
def Clo (b lb lo cap:Nat) (L:Toks) (F:FuncId) (args:Array Value) (Env:Value→World→Prop) (cl:PM Int):Prop :=
 ∀ nv m N w,St b lb lo cap nv L m N w→Env nv w→Calls Tryz.prog F args w (PPost intV b lb lo cap nv L m N w (cl m N.length))
def Stays (b:Nat) (Env:Value→World→Prop):Prop:=∀ nv nv' w w',Kp b nv nv' w w'→Env nv w→Env nv' w'
theorem St.cast {N':List Nd} (h:St b lb lo cap nv L m N w) (e:N=N'):St b lb lo cap nv L m N' w:=e ▸ h
theorem qeN (h:St b lb lo cap nv L m N w) (d:Nat) (F:FuncId) (first cap2:Array Value) (Env:Value→World→Prop) (hE:Stays b Env) (cl:PM Int)
  (hcl:Clo b lb lo cap L F (first.push (.int .i64 (d:Int))++cap2) Env cl) (hF:∀ args w,(Sem.run Tryz.prog (callFunc F args) w)=.ok (.enter F args) w) (he:Env nv w) (ss:List ByteArray) (gs c:Nat) (hg:Loc b nv gs (strs ss) w) (hss:ss.length≤100) (r:PR Int) (hr:twoP L cl ss m N.length=r) :
  Calls Tryz.prog 213 #[.pointer (some ⟨b,0,none⟩),.int .i64 (d:Int),.func (.func F) first cap2,.slice (some ⟨gs,0,none⟩) ss.length c] w (PPost intV b lb lo cap nv L m N w r):=by
 have H:=Lib.hid h;have G:=Lib.hid hg;have CL:=Lib.hid hcl;have EN:=Lib.hid he;have HE:=Lib.hid hE;have R:=Lib.hid hr;clear h hg hcl he hE hr
 obtain⟨r1,hr1⟩:∃ r1,cl m N.length=r1:=⟨_,rfl⟩
 have C1:=Lib.hid (CL.out nv m N w H.out EN.out);rw[hr1] at C1
 rcases r1 with ⟨e1,e2⟩ | ⟨a1,m1,ns1⟩
 · have R2:RowKit.Hid (.error (e1,e2)=r):=Lib.hid (by rw[←R.out];unfold twoP;rw[qan hr1])
   clear R hr1;go_enter Tryz.func213,Tryz.ntmps213
   go_wp2_with ((with_reducible refine C1.out.mono ?_);rintro e w1 ⟨he,nv1,hk1⟩;have HK1:=Lib.hid hk1;clear hk1;unfold noV at he;subst he)
   have:=R2.out
   subst this
   exact⟨rfl,PPost.err rfl HK1.out⟩
 · have R2:RowKit.Hid (prep ns1 (qaw L cl ss (L.length+1) a1 m1 (N.length+ns1.length))=r):=Lib.hid (by rw[←R.out];unfold twoP;rw[qaj hr1])
   clear R hr1;go_enter Tryz.func213,Tryz.ntmps213
   go_wp2_with ((with_reducible refine C1.out.mono ?_);rintro e w1 ⟨he,nv1,hs1,hk1,hm1⟩;have HK1:=Lib.hid hk1;have HS1:=Lib.hid hs1;have HM1:=Lib.hid hm1;clear hk1 hs1 hm1;unfold intV at he;subst he)
   go_loopg [9] (L.length+1) (fun g a wr=>∃ (z:Int) (m2:Nat) (ns:List Nd) (nv2:Value),a=.int .i64 z∧m≤m2∧L.length+1≤m2+g∧St b lb lo cap nv2 L m2 (N++ns) wr∧Kp b nv nv2 w wr∧prep ns (qaw L cl ss g z m2 (N.length+ns.length))=r)
   case atStart=>exact⟨a1,m1,ns1,nv1,rfl,HM1.out,by omega,HS1.out,HK1.out,R2.out⟩
   case round =>
    obtain⟨z,m2,ns,nv2,rfl,hm2,hg,hst,hkp,hres⟩:=hrel
    obtain⟨g0,rfl⟩:∃ g0,gk=g0+1:=⟨gk-1,by have:=hst.pos;omega⟩
    have GS:=Lib.hid (G.out.kp hkp);have HK:=Lib.hid hkp;have HM:=Lib.hid hm2;have HG:=Lib.hid hg
    rcases oneOf_cases L ss m2 (N++ns).length with h1 | ⟨s,h1⟩
    · rw[twoL_none (by rw[←List.length_append];exact h1)] at hres
      have RR:=Lib.hid hres;have O:=Lib.hid (qdp hst ss gs c GS.out hss _ h1);clear hres h1 hst hkp hm2 hg
      go_wp2_with (((with_reducible refine O.out.mono ?_);rintro e w2 ⟨he,nv3,hs3,hk3,_⟩;have HS3:=Lib.hid hs3;have HK3:=Lib.hid hk3;clear hs3 hk3;unfold optV at he;subst he))
      go_ret
      have:=RR.out
      subst this;exact PPost.res rfl (HS3.out.cast zaj) (HK.out.trans HK3.out) HM.out
    · obtain⟨r3,hr3⟩:∃ r3,cl (m2+1) (N.length+ns.length)=r3:=⟨_,rfl⟩
      have O:=Lib.hid (qdp hst ss gs c GS.out hss _ h1);rw[List.length_append] at h1
      rcases r3 with ⟨e1,e2⟩ | ⟨z3,m3,ns3⟩
      · rw[twoL_err h1 hr3] at hres
        have RR:=Lib.hid hres
        have C3:RowKit.Hid (∀ nv3 w3,St b lb lo cap nv3 L (m2+1) (N++ns++[]) w3→Env nv3 w3→Calls Tryz.prog F (first.push (.int .i64 (d:Int))++cap2) w3 (PPost intV b lb lo cap nv3 L (m2+1) (N++ns++[]) w3 (.error (e1,e2)))) :=
         Lib.hid fun nv3 w3 hs he=>by have:=CL.out nv3 (m2+1) _ w3 hs he;rw[List.append_nil,List.length_append,hr3] at this;rw[List.append_nil];exact this
        clear hres h1 hst hkp hm2 hg hr3
        go_wp2_with (first
         | (((with_reducible refine O.out.mono ?_);rintro e w2 ⟨he,nv3,hs3,hk3,_⟩;have HS3:=Lib.hid hs3;have HK3:=Lib.hid hk3;clear hs3 hk3;unfold optV at he;subst he))
         | (((with_reducible refine (qaD _ _).mono ?_);rintro e _ ⟨rfl,d3,os3,rfl⟩)))
        refine (C3.out nv3 _ ((HS3.out.more _ _).alloc _) (HE.out _ _ _ _ (((HK.out.trans HK3.out).more _ _).alloc _) EN.out)).mono ?_;rintro e w4 ⟨he,nv4,hk4⟩;unfold noV at he;subst he;have HK4:=Lib.hid hk4;clear hk4;go_wp2_with fail
        have:=RR.out
        subst this
        exact⟨rfl,PPost.err rfl ((((HK.out.trans HK3.out).more _ _).alloc _).trans HK4.out)⟩
      · obtain⟨r4,hr4⟩:∃ r4,layP L (twoNd z z3 s) m3 (N.length+ns.length+ns3.length)=r4:=⟨_,rfl⟩
        have C3:RowKit.Hid (∀ nv3 w3,St b lb lo cap nv3 L (m2+1) (N++ns++[]) w3→Env nv3 w3→Calls Tryz.prog F (first.push (.int .i64 (d:Int))++cap2) w3 (PPost intV b lb lo cap nv3 L (m2+1) (N++ns++[]) w3 (.ok (z3,m3,ns3)))) :=
         Lib.hid fun nv3 w3 hs he=>by have:=CL.out nv3 (m2+1) _ w3 hs he;rw[List.append_nil,List.length_append,hr3] at this;rw[List.append_nil];exact this
        have LA:RowKit.Hid (∀ nv4 w5,St b lb lo cap nv4 L m3 (N++ns++[]++ns3) w5→Calls Tryz.prog 168 #[.pointer (some ⟨b,0,none⟩),.agg #[.int .i64 11,.int .i64 z,.int .i64 z3,.int .i64 (-1),.int .i64 (-1),.int .i64 0,.string s,.string ⟨#[]⟩]] w5 (PPost intV b lb lo cap nv4 L m3 (N++ns++[]++ns3) w5 r4)) :=
         Lib.hid fun nv4 w5 hs=>lay_any hs _ _ _ _ _ _ _ _ r4 (by rw[←hr4];simp[twoNd,nd,Nat.add_assoc])
        have RR:RowKit.Hid (prep ns (thenR r4 fun a1 m4 ns4=>prep (ns3++ns4) (qaw L cl ss g0 a1 m4 (N.length+ns.length+(ns3++ns4).length)))=r):=Lib.hid (by
         rw[←hres]
         congr 1
         rcases r4 with ⟨e1,e2⟩ | ⟨a1,m4,ns4⟩
         · rw[twoL_lay h1 hr3 hr4];rfl
         · rw[twoL_ok h1 hr3 hr4];rfl)
        clear hres h1 hst hkp hm2 hg hr3 hr4
        go_wp2_with (first
         | (((with_reducible refine O.out.mono ?_);rintro e w2 ⟨he,nv3,hs3,hk3,_⟩;have HS3:=Lib.hid hs3;have HK3:=Lib.hid hk3;clear hs3 hk3;unfold optV at he;subst he))
         | (((with_reducible refine (qaD _ _).mono ?_);rintro e _ ⟨rfl,d3,os3,rfl⟩)))
        have LC:=Lib.hid ((HS3.out.more d3 os3).loc (.cells #[.int .i64 11,.int .i64 z,.int .i64 (-1),.int .i64 (-1),.int .i64 (-1),.int .i64 0,.string s,.string ⟨#[]⟩] 166 (0,0)));refine (C3.out nv3 _ ((HS3.out.more _ _).alloc _) (HE.out _ _ _ _ (((HK.out.trans HK3.out).more _ _).alloc _) EN.out)).mono ?_;rintro e w4 ⟨he,nv4,hs4,hk4,hm4⟩;unfold intV at he;subst he;have LC4:=Lib.hid (LC.out.kp hk4);have HS4:=Lib.hid hs4;have HK4:=Lib.hid hk4;have HM4:=Lib.hid hm4;clear hs4 hk4 hm4 LC
        obtain⟨kn,hkn⟩:∃ kn,(more w2 d3 os3).heap.size=kn:=⟨_,rfl⟩
        rw[hkn] at LC4;rw[more_size] at hkn
        have hkw:w.heap.size≤kn:=by have:=(HK.out.trans HK3.out).size;omega
        have hlk:lb≠kn:=by have:=HS3.out.low;have:=HS3.out.lt;omega
        rw[hkn]
        obtain⟨n0,n1,n2,n3,n4,n5,n6,n7,z0,z1,z2,z3',z5,z6,z7,hkl⟩:=LC4.out.node
        have HKN:=Lib.hid hkn;have HKW:=Lib.hid hkw;have HLK:=Lib.hid hlk;clear hkn hkw hlk;go_wp2_with fail;refine (LA.out nv4 _ (HS4.out.setLoc LC4.out HLK.out 2 _)).mono ?_
        have KK:RowKit.Hid (Kp b nv nv4 w (w4.setCell ⟨kn,2,none⟩ (.int .i64 z3))):=Lib.hid (((((HK.out.trans HK3.out).more _ _).alloc _).trans HK4.out).setNew HKW.out 2 _)
        rcases r4 with ⟨e1,e2⟩ | ⟨a4,m4,ns4⟩
        · rintro e w5 ⟨he,nv5,hk5⟩
          unfold noV at he;subst he;have HK5:=Lib.hid hk5;clear hk5;go_wp2_with fail
          have:=RR.out
          subst this
          exact⟨rfl,PPost.err rfl (KK.out.trans HK5.out)⟩
        · rintro e w5 ⟨he,nv5,hs5,hk5,hm5⟩
          unfold intV at he;subst he;have HS5:=Lib.hid hs5;have HK5:=Lib.hid hk5;have HM5:=Lib.hid hm5;clear hs5 hk5 hm5 n0 n1 n2 n3 n4 n5 n6 n7 z0 z1 z2 z3' z5 z6 z7;go_wp2_with fail
          go_roundg g0
          case measure=>omega
          case rel =>
           have q1:=HM5.out;have q2:=HM4.out;have q3:=HM.out;have q4:=HG.out;have q5:=RR.out
           exact⟨a4,m4,ns++(ns3++ns4),nv5,rfl,by omega,by omega,HS5.out.cast zaj,KK.out.trans HK5.out,by rw[←q5];unfold thenR;dsimp only;rw[qbR,List.length_append,Nat.add_assoc]⟩
end Go.Proofs.YtpnabjopfpdkhaaGreatDoor
