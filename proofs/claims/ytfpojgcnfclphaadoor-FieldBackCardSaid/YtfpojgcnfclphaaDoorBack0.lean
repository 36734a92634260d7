/- What the law FieldBack stands on. -/
import Derived.Test.YtfpojgcnfclphaaDoorField12
import Derived.Test.YtfpojgcnfclphaaDoorFieldLaw7
