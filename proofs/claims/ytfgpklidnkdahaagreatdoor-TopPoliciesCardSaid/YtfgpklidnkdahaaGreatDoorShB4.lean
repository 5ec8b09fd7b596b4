/-
  The compiled code of functions of the program, fourth part. No conditions beyond those that stand in the theorems.
-/
import Derived.Test.YtfgpklidnkdahaaGreatDoorShB0
set_option linter.all false
set_option maxHeartbeats 20000000
set_option maxRecDepth 100000
namespace Go.Sh
section
noncomputable section
def anb:=az 287
def ane:=az 290
def IK:=az 301
def anf:=az 304
def anh:=az 307
def anj:=az 312
def ank:=az 313
def anl:=az 321
def P5:=az 325
def DP:=az 326
def anm:=az 327
def DQ:=az 328
def IL:=az 329
def P7:=az 330
def P8:=az 331
def P9:=az 332
def AU:=az 333
def Qd:=az 334
def Qe:=az 335
def Qf:=az 336
def Qg:=az 337
def DT:=az 338
def Qh:=az 339
def IM:=az 340
def DU:=az 343
def IP:=az 344
def DV:=az 345
def Qj:=az 346
def IQ:=az 347
def ann:=az 350
def ano:=az 352
def anp:=az 353
def anq:=az 354
def anr:=az 363
def ans:=az 364
def ant:=az 365
def anu:=az 367
def wc:=az 372
def IU:=az 373
def Qk:=az 374
def yC:=az 375
def Ql:=az 376
def Qm:=az 377
def Qn:=az 378
def anv:=az 383
def anw:=az 396
def anx:=az 397
def anz:=az 398
def Qp:=az 401
def DW:=az 402
def anA:=az 403
def anB:=az 404
def anC:=az 405
def anE:=az 407
def anF:=az 430
def anG:=az 431
def anH:=az 432
def anI:=az 435
def anK:=az 437
def anL:=az 462
def anM:=az 463
def anN:=az 465
def anO:=az 469
def anP:=az 603
attribute [go_sem] IK P5 DP DQ IL P7 P8 P9 AU Qd Qe Qf Qg DT Qh IM DU IP DV Qj IQ wc IU Qk yC Ql Qm Qn Qp DW
end
end
end Go.Sh
